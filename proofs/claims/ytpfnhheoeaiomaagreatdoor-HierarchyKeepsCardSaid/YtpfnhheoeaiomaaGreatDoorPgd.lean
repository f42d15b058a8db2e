/- Merged out of 60 texts. -/
import Derived.Test.YtpfnhheoeaiomaaGreatDoorPgc
import Derived.Laws.IdiomStrings
import Derived.Shelf.SlSortCmp.NoneTotal
import Derived.Ground.SlsfProg
import Derived.Tactics
import Derived.ArgAppend
import Derived.Sort.Grow
import Derived.Deep.Draws
import Derived.Sort.Statements
import Derived.Shelf.Lay
import Derived.Tactics2
set_option maxHeartbeats 40000000
set_option maxRecDepth 100000
set_option linter.all false
open Go Go.Lg
open Go.Value renaming int->oB
open Go.IntKind renaming i64->oC
open _root_.List renaming mem_singleton->oF,replicate->oG,not_mem_nil->oH,range->oJ,mem_cons->oK,length_singleton->oL,length_append->oM,getD->oN,range'->oO,length_cons->oQ,map_cons->oS,flatMap_cons->oT,length->oV,cons_append->oZ,getElem?_append_left->Oa,append_assoc->Of,mem_range'_1->Oh,append_nil->Oi,mem_filter->Oj,mem_map->Om,nil_append->Oo,getElem_replicate->Oq,singleton_append->Ov,filter_cons->OA,map_nil->OC,flatMap_nil->OJ,map->OT
open _root_.Bool renaming and_eq_true->oI,false_eq_true->Ol,true_and->OK
open _root_.Array renaming replicate->oP
open _root_.Nat renaming zero_add->oX,add_zero->Ox,le_refl->OE,pow_succ->OH,lt_or_ge->OM,sub_zero->ON,mod_lt->OQ,mul_one->OR
open _root_.Int renaming toNat_natCast->Oy
open _root_.Option renaming map_some->OD
open Go renaming World->O2,Value->O3,Operand->O4,Program->O5
open Go.Proofs Go.Proofs.Tryz
open Go.Proofs.Tryz renaming prog->sV
variable {w w' W':O2}{L L' ds ns av:LN}{n i t sz base T j N E m g id B kt ty G et gp U bp off:Nat}{a A:Qz}{l o u ul un hi r est q rs out:LI}{cs us cap capt:LV}{α:Type}{y:O4}{va ve vm z vt vs vk vx v' vb vr vo vu:O3}{f:Fr}{aa:List Qz}{P:O5}{s:Int}{c:CL}{fn:Func}{lf:Lf}{es ed:List Ed}{K:xz}{d:xF}{pS:String}{af:xD}{gd:xt}{k':IntKind}{ks:List KV}
namespace Go.Lg
theorem At.from {H:xC}{a:Addr}(h:At L H a us)(j:Nat):At L H (a.add j) (us.drop j):=
 ⟨λu E=>by rw[YE];exact h.out u (MU E),λu E=>by rw[YE];exact h.lt u (MU E),λi v G=>by
  rw[Addr.add_add];exact h.cell (j+i) v (by rw[<-MN];exact G)⟩
theorem yT {v:O3}{l:List Ed}(h:Zu L ↑w v l.length 3 (l.flatMap Qp)):
  QU sV 238 [v] w λr w'=>sW w w'/\w'.ownsRow ↑w 179 3 r l.length (l.flatMap Qp):=
 yS ⟨_,O,func238⟩ h (QfY (c:=Qp) (λ_=>ox) l)
theorem QeS {v:O3}{l:List VE}(h:Zu L ↑w v l.length 5 (l.flatMap Zy)):
  QU sV 165 [v] w λr w'=>sW w w'/\w'.ownsRow ↑w 94 5 r l.length (l.flatMap Zy):=
 yS ⟨_,O,func165⟩ h (QfY (c:=Zy) (λ_=>⟨O,O,O,O,O,Z⟩) l)
structure Vm {α:Type}(g:α->LV)(sz T:Nat)(ps:α->List (O3×Nat×Nat×LV))(base:Nat)(w:O2)(v:O3)(l:List α):Prop where
 own:w.ownsRow base T sz v l.length (l.flatMap g)
 each:∀q∈l,∀t∈ps q,YH base (ob v) ↑w t.1 t.2.1 t.2.2.1 t.2.2.2
section
variable {g:α->LV}{ps:α->List (O3×Nat×Nat×LV)}{v:O3}{l:List α}
theorem Vm.nil:Vm g sz T ps base w (nS) []:=⟨QL _ _ _ _,λq E=>by cases E⟩
theorem Vm.I (h:Vm g sz T ps base w v l)(E:sW w w'):Vm g sz T ps base w' v l:=⟨Qm h.own E,λq G t ht=>(h.each q G t ht).I E⟩
theorem Vm.low {X:LN}(h:Vm g sz T ps base w v l)(E:O6 X w w')(hX:∀b∈X,b<base):Vm g sz T ps base w' v l :=
 ⟨Qg h.own E (λb hb G=>oq (Qi h.own b hb).1 (hX b G)),λq I t ht=>(h.each q I t ht).low E hX⟩
theorem Vm.app {E G:O2}{I:O3}{q:α}(h:Vm g sz T ps base w v l)(V:sW w E)
  (Y:∀t∈ps q,∃N e,E.ownsRow N e t.2.2.1 t.1 t.2.1 t.2.2.2/\t.2.1<=1099511627776/\↑w<=N) (hb:base<=↑w)
  (ho:G.ownsRow base T sz I (l.length+1) (l.flatMap g++g q)) (J:O6 (ob v) E G) (U:∀b∈ob I,b∈ob v\/↑E<=b):Vm g sz T ps base G I (l++[q]):=by
 refine⟨?_,λd hd t ht=>?_⟩
 ·rw[Lc,LF];simpa using ho
 rcases Le.1 hd with hd|hd
 ·exact((h.each d hd t ht).I V).app J U
 simp only[oF]at hd;subst hd;obtain⟨N,e,h1,h2,h3⟩:=Y t ht;exact(YH.of_own h1 h2 oa (λb hb=>oo ((QV h.own) b hb))).app J U
end
abbrev Qhs (q:IV):List (O3×Nat×Nat×LV):=[(q.p.va,q.p.a.al.length,1,q.p.a.al.map (.int .i64)),(q.p.vm,q.p.a.mr.length,1,q.p.a.mr.map (.int .i64)),(q.p.ve,q.p.a.ed.length,3,q.p.a.ed.flatMap Qp)]
abbrev IvP (base:Nat)(w:O2)(v:O3)(l:List IV):Prop:=Vm Zn 5 81 Qhs base w v l
theorem IvP.itms {v:O3}{l:List IV}(h:IvP base w v l)(I:l.length<=1099511627776)(J:∀q∈l,jp q.nm)(E:∀b∈L,b<base):Vo L ↑w v l :=
 ⟨QN h.own I (λb hb U=>oq (Qi h.own b hb).1 (E b U)),λq G=>⟨h.each q G (q.p.va,q.p.a.al.length,1,q.p.a.al.map (.int .i64)) od L (λb hb=>.inl (E b hb)),h.each q G (q.p.vm,q.p.a.mr.length,1,q.p.a.mr.map (.int .i64)) od L (λb hb=>.inl (E b hb)),h.each q G (q.p.ve,q.p.a.ed.length,3,q.p.a.ed.flatMap Qp) od L (λb hb=>.inl (E b hb))⟩,J⟩
instance:Bw sV 81 [.string .empty,nS,sS 0,nS,nS] [(0,1),(1,4)]:={}
theorem YH.of_lt {H:xC}{v:O3}(h:∀L:LN,(∀b∈L,b<N)->Zu L H v n sz cs)(hb:base<=N)(E:∀b∈av,b<N):YH base av H v n sz cs:=λL G =>
 h L (λb I=>(G b I).elim (λh=>oa) (E b))
theorem Qa8 (L:LN)(H:xC):Qu L H (nS) []:=Zu.nil L H 1
theorem QoV {e bys:Nat}[h:Sl P t e 1 bys z][he:Ik P e .u8][hd:St P E]{x:O4}{b cap:Nat}(G:QK ↑w b T [.int .u8 (n:Int)])(Y:n<256)(hx:ev f x=sL b 1 cap):
  (execOp (ev f) ⟨d,.convert t E x,ty,pS,af,gd⟩).run P w=.ok (.value (.string ⟨#[UInt8.ofNat n]⟩)) w:=by
 refine zx hx ?_;refine run_convert_bytes_back (P:=P) w t E e ⟨b,0,none⟩ cap [UInt8.ofNat n] h.u he.u hd.u (λj I=>?_);have J:j=0:=by simp at I;omega
 subst J;rw[Ju];have U:(⟨b,0,none⟩:Addr).add 0=⟨b,0,none⟩:=rfl;rw[U,G.cell];have V:(UInt8.ofNat n).toNat=n:=by simp[UInt8.toNat_ofNat'];omega
 simp[V]
theorem Qc6 (e:VE):∀u∈Zy e,u.oneCell'=true:=by
 intro y E;simp only[Zy,oK,oH,or_false]at E;rcases E with rfl|rfl|rfl|rfl|rfl <;> rfl
theorem Qbj {q:IV}(G:q.p.va.oneCell'=true)(I:q.p.vm.oneCell'=true)(J:q.p.ve.oneCell'=true):∀u∈Zn q,u.oneCell'=true:=by
 intro y E;simp only[Zn,oK,oH,or_false]at E;rcases E with rfl|rfl|rfl|rfl|rfl
 ·rfl
 ·exact G
 ·rfl
 ·exact I
 exact J
theorem yw {H:xC}{q:IV}(h:∀L:LN,(∀b∈L,b<N)->Zr L H q.p.va q.p.vm q.p.ve q.p.a)(hb:base<=N)(G:∀b∈av,b<N):∀t∈Qhs q,YH base av H t.1 t.2.1 t.2.2.1 t.2.2.2:=by
 intro t ht;simp only[oK,oH,or_false]at ht;rcases ht with rfl|rfl|rfl
 ·exact YH.of_lt (λL E=>(h L E).al) hb G
 ·exact YH.of_lt (λL E=>(h L E).mr) hb G
 exact YH.of_lt (λL E=>(h L E).ed) hb G
structure zm (base:Nat)(w:O2)(vc va:O3)(co:List IV)(al:LI):Prop where
 c:w.ownsRow base 81 5 vc co.length (co.flatMap Zn)
 a:Qh 3 base w va al
 dj:Dj vc va
 each:∀q∈co,∀t∈Qhs q,YH base (ob vc++ob va) ↑w t.1 t.2.1 t.2.2.1 t.2.2.2
section
variable {vc vc' va':O3}{co:List IV}{al:LI}
theorem zm.nil:zm base w (nS) (nS) [] []:=⟨QL _ _ _ _,QL _ _ _ _,Dj.nil _,λq E=>by cases E⟩
theorem zm.I (h:zm base w vc va co al)(E:sW w w'):zm base w' vc va co al:=⟨Qm h.c E,Qm h.a E,h.dj,λq G t ht=>(h.each q G t ht).I E⟩
theorem zm.low {X:LN}(h:zm base w vc va co al)(E:O6 X w w')(hX:∀b∈X,b<base):zm base w' vc va co al :=
 ⟨Qg h.c E (λb hb G=>oq (Qi h.c b hb).1 (hX b G)),Qg h.a E (λb hb G=>oq (Qi h.a b hb).1 (hX b G)),h.dj,λq I t ht=>(h.each q I t ht).low E hX⟩
theorem zm.avlt (h:zm base w vc va co al):∀b∈ob vc++ob va,b<w.heap.size:=λb hb=>(Le.1 hb).elim (QV h.c b) (QV h.a b)
theorem zm.setC {q:IV}(h:zm base w vc va co al)(V:∀t∈Qhs q,YH base (ob vc++ob va) ↑w t.1 t.2.1 t.2.2.1 t.2.2.2)(Y:w'.ownsRow base 81 5 vc' (co.length+1) (co.flatMap Zn++Zn q))
  (E:O6 (ob vc) w w') (G:∀b∈ob vc',b∈ob vc\/↑w<=b):zm base w' vc' va (co++[q]) al:=by
 have I:O6 (ob vc++ob va) w w':=E.S (λb hb=>Le.2 (.inl hb));have J:∀b∈ob vc'++ob va,b∈ob vc++ob va\/↑w<=b:=λb hb=>by
  rcases Le.1 hb with hb|hb
  ·exact(G b hb).imp (λh=>Le.2 (.inl h)) id
  exact .inl (Le.2 (.inr hb))
 refine⟨?_,Qg h.a E (λb hb ha=>h.dj b ha hb),λb hb T=>?_,λd hd t ht=>?_⟩
 ·rw[Lc,LF];simpa using Y
 ·rcases G b hb with U|U
  ·exact h.dj b U T
  have:=QV h.a b T;omega
 rcases Le.1 hd with hd|hd
 ·exact(h.each d hd t ht).app I J
 simp only[oF]at hd;subst hd;exact(V t ht).app I J
theorem zm.setA {G:LI}(h:zm base w vc va co al)(U:Qh 3 base w' va' G)(I:O6 (ob va) w w')(J:∀b∈ob va',b∈ob va\/↑w<=b):zm base w' vc va' co G:=by
 have V:O6 (ob vc++ob va) w w':=I.S (λb hb=>Le.2 (.inr hb));have Y:∀b∈ob vc++ob va',b∈ob vc++ob va\/↑w<=b:=λb hb=>by
  rcases Le.1 hb with hb|hb
  ·exact .inl (Le.2 (.inl hb))
  exact(J b hb).imp (λh=>Le.2 (.inr h)) id
 refine⟨Qg h.c I (λb hb E=>h.dj b hb E),U,λb hb E=>?_,λd hd t ht=>(h.each d hd t ht).app V Y⟩;rcases J b E with T|T
 ·exact h.dj b hb T
 have:=QV h.c b hb;omega
theorem zm.itms (h:zm base w vc va co al)(I:co.length<=1099511627776)(J:∀q∈co,jp q.nm)(E:∀b∈L,b<base):Vo L ↑w vc co :=
 ⟨QN h.c I (λb hb T=>oq (Qi h.c b hb).1 (E b T)),λq G=>⟨h.each q G (q.p.va,q.p.a.al.length,1,q.p.a.al.map (.int .i64)) od L (λb hb=>.inl (E b hb)),h.each q G (q.p.vm,q.p.a.mr.length,1,q.p.a.mr.map (.int .i64)) od L (λb hb=>.inl (E b hb)),h.each q G (q.p.ve,q.p.a.ed.length,3,q.p.a.ed.flatMap Qp) od L (λb hb=>.inl (E b hb))⟩,J⟩
end
theorem Xz (ns:LN):(bys ns).length=ns.length:=by rw[bys,Ln]
def grN (ns:LN)(o:Nat):LN:=(ns.drop o).take 27
theorem Qkc {o:Nat}(h:o+27<=ns.length):(grN ns o).length=27:=by unfold grN;simp;omega
theorem Qok {o:Nat}(h:∀n∈ns,n<256):∀n∈grN ns o,n<256:=QnM h o 27
theorem Qld (ns:LN)(n:Nat):(bys ns).set 0 (.int .u8 (n:Int))=bys (ns.set 0 n):=by
 unfold bys;rw[NC]
theorem Ql8 (h:∀m∈ns,m<256)(E:n<256):∀m∈ns.set 0 n,m<256:=λm G=>by
 rcases Ny G with I|rfl
 ·exact h m I
 exact E
theorem QiK (h:0<ns.length):(ns.set 0 n).getD 0 0=n:=by simp[oN,h]
structure GdA (a:Qz):Prop where
 ok:QS a
 p:0<a.st
 s:a.st<=3
 c:∃a0:Qz,QS a0/\0<a0.st/\a=Y9 a0
theorem Qdo (G:QS a)(h:0<a.st):0<(Y9 a).st:=by
 show 0<((xq a).length:Int);have E:(0:Int)∈xq a:=by
  have key:∀(f i:Nat) (out:LI),(0:Int)∈out->(0:Int)∈zI a f i out:=by
   intro f;induction f with
   | zero=>intro i out h;exact h
   | succ f ih =>
    intro i out h;rw[zI];split
    ·exact ih _ _ (Qbt _ _ _ h)
    exact h
  refine key _ _ _ ?_;unfold fd0;rw[OV h];simp
 have:=List.length_pos_of_mem E;omega
theorem GdA.of {E:Qz}(G:QS E)(I:0<E.st)(U:E.st<=((1+n % 5:Nat):Int))(T:a=Y9 E)(V:n<3):GdA a:=by
 have J:=QbI G;subst T;exact⟨J.1,Qdo G I,oo J.2.2,E,G,I,O⟩
def nmI (c k:Nat):ByteArray:=⟨#[UInt8.ofNat c]⟩++⟨#[UInt8.ofNat (48+k)]⟩
theorem qq (c k:Nat):jp (nmI c k):=by
 show(ByteArray.mk _++ByteArray.mk _).size<=_;rw[ByteArray.size_append];show 1+1<=_;omega
theorem QdV {a b:LI}(U:Qu [] ↑w va a)(hb:Qu [] ↑w vb b)(hl:a.length+b.length<=1000):
  QU sV 84 [va,vb] w λr w'=>sW w w'/\∃l,l.length<=a.length+b.length/\(∀x,x∈l↔x∈a\/x∈b)/\Qh 3 ↑w w' r l:=by
 refine Zm func84 ?_;refine Qc<|Qb<|Ql<|Qw<|(Z0 U).S ?_;rintro v1 w1 ⟨E,G⟩;have ho:=E.size;refine Qa<|Qo<|Qa5 G O (hb.I E) O (Uy b) oa oa λV I Y he hp=>Qb ?_;have J:Qh 3 ↑w I V (a++b):=by
  unfold Qh;rw[Lc,Ly];exact Y
 have hf:sW w I:=E.O he (λc hc=>.inr (Qi G c hc).1);have hq:(a++b).length=a.length+b.length:=Lc;refine Ql<|Qw<|(QiI J oa).S ?_;rintro r3 w3 ⟨hg,l3,hr,hh,T⟩;have hj:sW w w3:=hf.O hg (λc hc=>.inr (Qi J c hc).1);refine xe<|Ql<|Qw<|(QnH T oa).S ?_;rintro r4 w4 ⟨hk,l4,hs,hm,hn⟩;refine Qb<|Qj ⟨[_],La,hj.O hk (λc hc=>.inr (Qi T c hc).1),l4,oa,λx=>by rw[hm,hh,Le],hn⟩
theorem yC {v:O3}{al:LI}(h:Qu [] ↑w v al)(hb:∀e∈al,0<=e/\e<32)(hi:Ys al)(hn:ns.length=27)(T:∀n∈ns,n<256):
  QU sV 85 [v,sT (bys ns),sS 3] w λr w'=>sW w w'/\∃a:Qz,Xb ↑w ↑w' r a/\GdA a/\a.al=al:=by
 refine Zm func85 ?_;refine Qc<|Zf (bys ns) λb4 w1 hj hk E=>QT [nS,sS 0,nS,nS] λb6 w2 G hr U=>xe ?_;obtain⟨s0,hs0⟩:∃s0,ns.getD 0 0=s0:=⟨_,O⟩;have V:ns[0]?=some s0:=by
  rw[<-hs0,MA,LD oa];rfl
 have hs:s0<256:=T s0 (Mt V);have q0:(bys ns)[0]?=some (.int .u8 (s0:Int)):=by
  unfold bys;rw[My,V];rfl
 have hu:=E.lt;have hw:=U.lt;refine Qc<|Qs O (E.I G) O q0<|Qa<|x (Yc (k':=.u8) O ⟨oa,oa⟩)<|x (qO (a:=(s0:Int)) (b:=3) O O oa oa)<|Q9 O<|Qo<|Qv (u:=.int .u8 ((s0 % 3:Nat):Int)) (E.I G) O (OW (Value.int .u8) (by omega:(s0:Int) % 3=((s0 % 3:Nat):Int))) (by rw[Xz];omega) O λw3 I Y =>
  xe ?_
 have J:sW w w3:=(hj.D G).Q I hk;rw[Qld]at Y;have ha:(ns.set 0 (s0 % 3)).length=27:=by rw[M0];exact hn
 have he:(ns.set 0 (s0 % 3)).getD 0 0=s0 % 3:=QiK oa;refine Ql<|Q3 Y O (by rw[Xz];exact ha)<|Qw<|(Qhn (h.I J) hb hi ha (Ql8 T oa)).S ?_;rintro r4 w4 ⟨hf,a,hA,hok,_,hm,hc⟩;obtain⟨a0,k0,k1,k2,k3⟩:=hc (by rw[he];omega);rw[he]at k2;obtain⟨us,hv,hg,ho⟩:=XW hA;have hp:QK ↑w4 b6 53 [nS,sS 0,nS,nS]:=(U.J I ol).I hf;have hy:=I.size;refine Qo<|Zx (us:=us) hp O (show Go.Lg.ev _ _=_ from hv) hg O ho λw5 hh hq=>xe ?_;refine Qj ⟨[sT us],⟨⟨_,O,ZQ hg (hq.at (L:=[]) od).cells⟩,Z⟩,(J.D hf).Q hh oa,a,?_,GdA.of k0 k1 k2 k3 (OQ _ og),hm⟩;show Xb _ _ (sT us) _;rw[<-hv];exact(Xl hA oa hh).S J.size
open Go.Sort
theorem Qpe {b:Nat}{al:LI}(e:Int)(w:O2)(E:QK ↑w b T [va])(hA:Qu L ↑w va al):
  QU sV 86 ([sS e]++[sP b]) w λr w'=>r=.bool (decide (e∉al))/\w'=w:=by
 refine Zm func86 ?_;refine Qc<|Qb<|Qc<|ZD E O O<|Qa<|Qw<|(ZH hA e).S ?_;rintro G I ⟨rfl,rfl⟩;refine x (Zj O)<|Qb<|Qj ⟨[_],La,?_,O⟩;show Value.bool (!decide (e∈al))=_;rw[decide_not]
theorem j6 {b:Nat}{al:LI}(e:Int)(w:O2)(G:QK ↑w b T [va])(hA:Qu L ↑w va al):
  FnGives sV 86 #[sP b] #[iC e] (.bool (decide (e∉al))) w:=by
 have h:=Qpe e w G hA;unfold QU at h;unfold FnGives;refine Calls.mono h λe' w' E=>?_;cases e' with
 | returned v =>
  obtain⟨rfl,rfl⟩:=E;exact⟨O,0,O⟩
 | _=>exact E.elim
theorem Qi0 {os:xC}{d:Array Int}:O6 [g] w (grow (putRow iC (Sort.ahead w n) g 0 d) os):=by
 have E:(grow (putRow iC (Sort.ahead w n) g 0 d) os).heap=w.heap.modify g (onCells (putCells iC 0 d))++os:=rfl;refine⟨O,O,O,?_,λi hi G=>?_⟩
 ·rw[E,NA,MJ];omega
 rw[E,MG,MJ,OV hi,MZ,OU (λe=>G (by simp[e]))]
theorem Qnz {b:Nat}{v:O3}{al:LI}(h:Qh 3 base w v l)(hl:l.length<=1099511627776)(I:QK ↑w b T [va])(hb:b∉ob v)(hA:Qu (ob v) ↑w va al):
  QU sV 63 [v,.func (.func 86) #[] #[sP b]] w λr w'=>O6 (ob v) w w'/\Qh 3 base w' r (l.filter λx=>decide (x∈al)):=by
 have eg:∀args w,(callFunc 86 args).run sV w=.ok (.enter 86 args) w:=enters_of func86 oc O;rcases h.2 with⟨rfl,h0⟩|⟨g,cap,cur,rfl,ha,J,hh,hj,hm,hn⟩
 ·have ho:l=[]:=Ls h0;subst ho;refine Zm func63 ?_;refine Qc<|Qb<|Ql<|Qa<|Qw<|(Qes (cap:=[sP b]) (q:=λ_=>true) (Qu.fl (Qa8 [] ↑w)) (λe G=>by cases G)).S ?_;rintro r1 w1 ⟨rfl,U⟩;refine Qb<|Qd<|Ql<|x (Zc O O)<|xe<|Zg O (λ_=>?_) (λh8=>OX O h8);refine Ql<|Qb<|Qj ⟨[nS],La,U,Qm h U⟩
 unfold QU;have V:=λ(n:Nat) (os:xC) (d:Array Int)=>Qi0 (w:=w) (g:=g) (n:=n) (os:=os) (d:=d);have hp:b∉[g]:=hb;have hq:Qu [g] ↑w va al:=hA;have hc:=AnyE.slices_DeleteFunc Tryz.delI iC (λ_=>O) (λx=>decide (x∉al)) 86 #[sP b] eg 0 (λw=>oc) g 0 cap l.toArray w
  (λW x E=>by
   have Y:sW w W:=⟨E.os,E.tape,E.output,E.size,λk hk _=>E.block k hk⟩;exact j6 x W (I.I Y) (hA.I Y))
  (λn os dk x _=>j6 x _ (I.J (V n os dk) hp) (hq.st (V n os dk)))
  (Ki J hn) (by simp;omega) (ou hh)
 change Calls sV 63 _ _ _ at hc;rw[LY]at hc;refine Calls.mono hc λe w' G=>?_;obtain⟨rfl,q,rfl⟩:=G;have hf:(l.toArray.toList.filter λx=>!decide (x∉al))=l.filter λx=>decide (x∈al):=by
  refine NB λx _=>?_;by_cases hx:x∈al <;> simp[hx]
 rw[hf];have hr:=LK (λx=>decide (x∈al)) l;generalize (l.filter λx=>decide (x∈al))=u at *;have:=Uw (e:=3) (n:=q) (k:=u.length) (os:=#[]) (d:=(u++oG (l.length - u.length) 0).toArray) ha J (by simp;omega) hj hm od;rw[grow_empty]at this;refine⟨this.1,?_⟩;have h2:=this.2;have h3:(u++oG (l.length - u.length) 0).toArray.toList.take u.length=u:=od
 rw[h3]at h2;exact h2
theorem QcX {e:Int}{q:Bool}(h:QU sV gp ([sS e]++cap) w λr w'=>r=.bool q/\w'=w):FnGives sV gp cap.toArray #[iC e] (.bool q) w:=by
 unfold QU at h;unfold FnGives;have e0:#[iC e]++cap.toArray=([iC e]++cap).toArray:=od
 rw[e0];refine Calls.mono h λe' w' E=>?_;cases e' with
 | returned v =>
  obtain⟨rfl,rfl⟩:=E;exact⟨O,0,O⟩
 | _=>exact E.elim
theorem Qgu [Fu sV gp fn]{p:Int->Bool}{v:O3}(eg:∀args w,(callFunc gp args).run sV w=.ok (.enter gp args) w)(h:Qh 3 base w v l)(hl:l.length<=1099511627776)
  (G:∀(e:Int) (W:O2),O6 (ob v) w W->QU sV gp ([sS e]++cap) W λr w'=>r=.bool (p e)/\w'=W):
  QU sV 63 [v,.func (.func gp) #[] cap.toArray] w λr w'=>O6 (ob v) w w'/\Qh 3 base w' r (l.filter λx=>!p x):=by
 rcases h.2 with⟨rfl,Y⟩|⟨g,cp,cur,rfl,ha,J,hh,hj,hm,hn⟩
 ·have ho:l=[]:=Ls Y;subst ho;refine Zm func63 ?_;refine Qc<|Qb<|Ql<|Qa<|KX<|(Qes (cap:=cap) (q:=λ_=>true) (Qu.fl (Qa8 [] ↑w)) (λe I=>by cases I)).S ?_;rintro r1 w1 ⟨rfl,T⟩;refine Qb<|Qd<|Ql<|x (Zc O O)<|xe<|Zg O (λ_=>?_) (λh8=>OX O h8);refine Ql<|Qb<|Qj ⟨[nS],La,T,Qm h T⟩
 unfold QU;have hp:=λ(n:Nat) (os:xC) (d:Array Int)=>Qi0 (w:=w) (g:=g) (n:=n) (os:=os) (d:=d);have U:∀(e:Int) (W:O2),O6 [g] w W->QU sV gp ([sS e]++cap) W λr w'=>r=.bool (p e)/\w'=W:=G;have hc:=AnyE.slices_DeleteFunc Tryz.delI iC (λ_=>O) p gp cap.toArray eg 0 (λw=>oc) g 0 cp l.toArray w
  (λW x E=>QcX (U x W ⟨E.os,E.tape,E.output,E.size,λk G _=>E.block k G⟩))
  (λn os dk x _=>QcX (U x _ (hp n os dk)))
  (Ki J hn) (by simp;omega) (ou hh)
 change Calls sV 63 _ _ _ at hc;rw[LY]at hc;refine Calls.mono hc λe w' I=>?_;obtain⟨rfl,q,rfl⟩:=I;have hf:(l.toArray.toList.filter λx=>!p x)=l.filter λx=>!p x:=rfl;rw[hf];have hq:=LK (λx=>!p x) l;generalize (l.filter λx=>!p x)=u at *;have:=Uw (e:=3) (n:=q) (k:=u.length) (os:=#[]) (d:=(u++oG (l.length - u.length) 0).toArray) ha J (by simp;omega) hj hm od;rw[grow_empty]at this;refine⟨this.1,?_⟩;have V:=this.2;have h3:(u++oG (l.length - u.length) 0).toArray.toList.take u.length=u:=od
 rw[h3]at V;exact V
theorem jE {V:VwV}(h:VwA ↑w V):
  QU sV 60 [.pointer (some ⟨V.b,0,none⟩)] w λr w'=>sW w w'/\Qh 3 ↑w w' r (kpt V.a V.o):=by
 refine Zm func60 ?_;refine Qc<|Zf [.pointer (some ⟨V.b,0,none⟩)] λb1 w1 G he I=>Qb ?_;have E:=h.I G;refine Qc<|ZD I O O<|Z7 O<|Q9 O<|Qs O E.blk O O<|Qw<|(Z0 E.a.al).S ?_;rintro v2 w2 ⟨J,T⟩;have hge:=Qi T;refine x (Zl (l:=[]) (l':=[.tmp 1]))<|Qw<|(Qgu (gp:=138) (cap:=[sP b1]) (p:=λe=>!decide (e∈V.o)) (enters_of func138 oc O) T E.a.al.le
  (λe W hW=>have U:=J.O hW λb hb=>.inr (hge b hb).1;QdS (E.I U) (I.I U) e)).S ?_
 rintro v3 w3 ⟨ha,Y⟩;refine Qb ?_;have e:(V.a.al.filter λx=>!!decide (x∈V.o))=kpt V.a V.o:=by unfold kpt;simp
 rw[e]at Y;exact Qj ⟨[_],La,G.D (J.O ha λb hb=>.inr (hge b hb).1),Za Y G.size⟩
theorem Qic {b:Nat}{v:Int}(G:QK ↑w b 3 [sS v])(e:Ed):
  QU sV 210 [sT (Qp e),sP b] w λr w'=>r=.bool (decide (e.2.1=v))/\sW w w':=by
 refine Zm func210 ?_;refine Qc<|Zf (Qp e) λJ T E U I=>Qb<|Qc<|Qs O I O O<|ZD (G.I E) O O<|x (Zc O O)<|Qb<|Qj ⟨[_],La,O,E⟩
theorem Qp5 [Fu sV gp fn]{q:Ed->Bool}{v:O3}{l:List Ed}(h:U4 L ↑w v l)
  (G:∀(e:Ed) (E:O2),sW w E->QU sV gp ([sT (Qp e)]++cap) E λr w'=>r=.bool (q e)/\sW E w'):
  QU sV 209 [v,.func (.func gp) #[] cap.toArray] w λr w'=>r=.bool (l.any q)/\sW w w':=by
 refine Zm func209 ?_;refine Qc<|Qb<|Ql<|Qa<|KX<|(ixG (c:=Qp) ⟨_,O,func159⟩ (λ_=>O) (ldA λ_=>O) h λe _=>G e).S ?_;rintro J E ⟨rfl,I⟩;refine x (Yf O O)<|Qb<|Qj ⟨[_],La,OW Value.bool (UQ q l 0),I⟩
theorem Qid {V:VwV}{b c:Nat}{v:Int}(h:VwA ↑w V)(T:QK ↑w c 128 [.pointer (some ⟨V.b,0,none⟩)])(U:QK ↑w b 3 [sS v])(s:Int)(h0:0<=s)(h1:s<V.a.st):
  QU sV 208 [sS s,sP c,sP b] w λr w'=>r=.bool ((QM V.a.ed s).any λe=>decide (e.2.1=v))/\sW w w':=by
 obtain⟨rv,hA,hE⟩:=h.r;have G:s=(s.toNat:Int):=oa
 have E:s.toNat<(oJ V.a.st.toNat).length:=by rw[Mb];omega
 have I:=hE s.toNat (by rw[Mb]at E;exact E);rw[<-G]at I;refine Zm func208 ?_;refine Qc<|Qb<|Qc<|ZD T O O<|Z7 O<|Qs O h.blk O O<|Qa<|O9 (g:=λj:Nat=>[rv j]) (i:=s.toNat) (λ_=>O) hA O (show Go.Lg.ev _ _=_ from OW sS G) E λhe J=>?_;rw[Mw]at J;refine x (Qq J O)<|x (Zl (l:=[]) (l':=[.tmp 2]))<|Qw<|(Qp5 (q:=λe=>decide (e.2.1=v)) (cap:=[sP b]) I (λe w1 Y=>Qic (U.I Y) e)).S ?_;rintro r2 w2 ⟨rfl,ha⟩;refine Qb<|Qj ⟨[_],La,O,ha⟩
theorem QbW {V:VwV}{b c:Nat}{v:Int}{vl:O3}(h:VwA ↑w V)(I:QK ↑w c 128 [.pointer (some ⟨V.b,0,none⟩)])(J:QK ↑w b 3 [sS v])(hl:Qu [] ↑w vl l)(hb:∀s∈l,0<=s/\s<V.a.st):
  QU sV 207 [vl,sP c,sP b] w λr w'=>r=.bool (psb V.a v l)/\sW w w':=by
 refine Zm func207 ?_;refine Qc<|Qb<|Ql<|x (Zl (l:=[]) (l':=[.tmp 1,.tmp 2]))<|Qw<|(QeX (q:=λs=>(QM V.a.ed s).any λe=>decide (e.2.1=v)) (cap:=[sP c,sP b]) (Qu.fl hl) (λs G U E=>Qid (h.I E) (I.I E) (J.I E) s (hb s G).1 (hb s G).2)).S ?_;rintro r2 Y ⟨rfl,T⟩;refine Qb<|Qj ⟨[_],La,O,T⟩
theorem Qif {V:VwV}{c:Nat}{vy:O3}{X Y:LI}(h:VwA ↑w V)(I:QK ↑w c 128 [.pointer (some ⟨V.b,0,none⟩)])(hx:Qu [] ↑w vx X)(J:Qu [] ↑w vy Y):
  QU sV 205 [vx,vy,sP c] w λr w'=>r=.bool (Qco V.a X Y)/\sW w w':=by
 refine Zm func205 ?_;refine Qc<|Qb<|QW (α:=Unit) [(5,14)] (λ_=>[(5,.bool (Qco V.a X Y))]) (λ_ w'=>sW w w') oh ?_ ?_
 ·refine Qr<|ZD I O O<|Qa<|Qw<|(jD h hx).S ?_;rintro r1 w1 ⟨G,E⟩;unfold Qco;cases hb:mkd V.a X with
  | true =>
   rw[hb]at G;subst G;refine Qa<|ZD (I.I E) O O<|Qa<|Qw<|(jD (h.I E) (J.I E)).S ?_;rintro r2 w2 ⟨rfl,T⟩;refine x (Zj O)<|QC O<|Qb<|⟨(),La,E.D T⟩
  | false =>
   rw[hb]at G;subst G;refine Qa<|ZA<|Kd<|QC O<|Qb<|⟨(),La,E⟩
 rintro _ g w3 U;exact Qj ⟨[_],La,O,U⟩
instance:Bw sV 46 [nS,nS,nS,nS,nS] [(0,1),(1,1),(2,1),(3,1),(4,1)]:={}
end Go.Lg
namespace Go.Proofs
open Go.Proofs.Tryz
open Go.Shelf
def Tryz.sortRm_ren:Go.Shelf.Ren:=⟨λ|6=>224|15=>141|14=>265|28=>220|29=>221|20=>287|21=>288|22=>289|23=>290|24=>291|25=>292|26=>293|27=>294|46=>311|47=>258|48=>259|49=>312|50=>313|57=>322|n=>n,λ|22=>144|24=>323|25=>329|3=>3|39=>246|0=>0|53=>317|55=>319|4=>4|46=>311|45=>310|50=>205|5=>5|9=>9|66=>363|70=>367|76=>389|77=>379|n=>n,λ|n=>n⟩
theorem Tryz.sortRm:Go.Proofs.SlLaysF0.n6 sV Tryz.sortRm_ren:=lyS
end Go.Proofs
namespace Go.Lg
open Go.Lg Go.Sort
abbrev Rz:={ x:Int×Int×Int×Int // 0<=x.1/\x.1<4096 }
instance:Inhabited Rz:=⟨⟨(0,0,0,0),og⟩⟩
abbrev q7 (x:Rz):LV:=[sS x.1.1,sS x.1.2.1,sS x.1.2.2.1,sS x.1.2.2.2]
abbrev RzO (base:Nat)(w:O2)(v:O3)(l:List Rz):Prop:=w.ownsRow base 323 4 v l.length (l.flatMap q7)
theorem Qrz (x y:Rz)(W:O2):Calls sV 225 #[sT (q7 x),sT (q7 y)] W λe w'=>e=.returned (sS (x.1.1 - y.1.1))/\∃q os',w'=grow (W.drewN q) os':=by
 have E:IntKind.i64.wrap (x.1.1 - y.1.1)=x.1.1 - y.1.1:=XX ⟨oq x.2 y.2,oq x.2 y.2⟩
 go_enter func225,ntmps225
 go_wp2
 go_ret;exact⟨by rw[<-E];rfl,0,_,by rw[alloc_eq_grow,alloc_eq_grow,grow_grow];rfl⟩
theorem QaO (x:Rz):(q7 x).length=4:=rfl
theorem QaN:∀l:List Rz,(l.flatMap q7).length=l.length*4
 | []=>rfl
 | x::l=>by rw[LM,Lc,QaN l,QaO,LP];omega
theorem QfI {l:List Rz}(J:j<l.length*4):(l.flatMap q7)[j]?=some ((flatK q7 4 l.toArray)[j]!):=by
 have E:j / 4<l.length:=Nat.div_lt_of_lt_mul oa;have G:j % 4<4:=OQ _ og;rw[get_flatK _ _ _ _ (ou J)];have T:(l.flatMap q7)[j]?=(q7 (l[j / 4]'E))[j % 4]?:=by
  rw[<-(Jl q7 4 QaO l (j / 4) E),LZ,OV G,MN];congr 1;omega
 rw[T];have U:(l.toArray)[j / 4]! = l[j / 4]'E:=by simp[E]
 rw[U];have I:j % 4<(q7 (l[j / 4]'E)).length:=G;exact(LD I).D (OW some (getElem!_pos (q7 (l[j / 4]'E)) (j % 4) I).symm)
theorem QiL:SWO (ltOf λx y:Rz=>x.1.1 - y.1.1) where
 irrefl x:=by unfold ltOf;simp
 trans x y z h1 h2:=by unfold ltOf at *;simp at *;omega
 ntrans x y z h1 h2:=by unfold ltOf at *;simp at *;omega
def q6 (l:List Rz):List Rz:=(pdq (ltOf λx y:Rz=>x.1.1 - y.1.1) l.toArray 0 l.toArray.size (Go.Lib.bitLen l.toArray.size) true true).toList
theorem zX (l:List Rz):(q6 l).length=l.length:=by
 unfold q6;simpa using((pdq_sorts (ltOf λx y:Rz=>x.1.1 - y.1.1) QiL l.toArray 0 l.toArray.size (Go.Lib.bitLen l.toArray.size) true true (Lo _) (Lp _) (Or.inl rfl)).1.1)
theorem Qg0 {v:O3}{l:List Rz}(h:RzO base w v l)(hl:l.length<=1099511627776):
  QU sV 224 [v,.func (.func 225) #[] #[]] w λ_ w'=>O6 (ob v) w w'/\RzO base w' v (q6 l):=by
 unfold QU;rcases h.2 with⟨rfl,h0⟩|⟨g,cap,cur,rfl,hf,I,hh,hm,ho,hp⟩
 ·have hq:l=[]:=Ls h0;subst hq;have hc:=AnyF.slices_SortFunc_none Tryz.sortRm none 0 (.func (.func 225) #[] #[]) w;change Calls sV 224 _ _ _ at hc;refine Calls.mono hc λe w' J=>?_;obtain⟨rfl,rfl⟩:=J;rw[show q6 []=[] from Ls (zX [])];exact⟨O6.Y _ _,h⟩
 have Y:g<w.heap.size:=(LO.1 I).1;have hH:HoldsK q7 4 w g 0 l.toArray:=by
  intro j E;rw[size_flatK,LY]at E;have h1:=QfI E;rw[<-hp,LZ,OV E]at h1;constructor
  ·show(match w.heap[g]? with|some (.cells c _ _)=>if(none:Option _).isSome then none else c[0+j]?|_=>none)=_
   rw[I];simp only[oX,Option.isSome_none,Ol,if_false];rw[<-MR,h1];rfl
  show(match w.heap[g]? with|some (.cells _ _ (lo,hi))=>decide (lo<=0+j) && decide (0+j<hi)|_=>false)=false
  rw[I];simp
 have eg:∀args w,(callFunc 225 args).run sV w=.ok (.enter 225 args) w:=enters_of func225 oc O;have hc:=AnyQ.slices_SortFunc_eq Tryz.sortRm 4 isAgg323 sizeOf323 q7 QaO (λx v hv=>by simp at hv;rcases hv with rfl|rfl|rfl|rfl <;> rfl) (λx y=>x.1.1 - y.1.1) QiL 225 #[] g 0 cap l.toArray w eg (λm os dk _ x y=>Qrz x y _) hH Y (by simp;omega)
 change Calls sV 224 _ _ _ at hc;rw[LY]at hc;refine Calls.mono hc λe w' J=>?_;obtain⟨rfl,n,os,rfl⟩:=J;refine Zd (q6 l).toArray λG T=>?_;have U:G.size=l.length:=by rw[<-T];simpa using zX l
 have hr:q6 l=G.toList:=by rw[<-T]
 have ha:pdq (ltOf λx y:Rz=>x.1.1 - y.1.1) l.toArray 0 l.toArray.size (Go.Lib.bitLen l.toArray.size) true true=G:=by rw[<-T];unfold q6;simp
 rw[LY]at ha;rw[ha,hr];have V:(sortWorldK q7 4 w g 0 n G os).heap=w.heap.modify g (onCells (putCells id 0 (flatK q7 4 G)))++os:=rfl;refine⟨⟨rfl,O,O,?_,λk hk hn=>?_⟩,?_⟩
 ·rw[V,NA,MJ];omega
 ·rw[V,MG,MJ,OV hk,MZ,OU (λe=>hn (by simp[ob,e]))]
 refine⟨QaN _,.inr ⟨g,cap,putCells id 0 (flatK q7 4 G) cur,by simp[U],hf,?_,by simp[U];exact hh,hm,by simp[putCells,ho],?_⟩⟩
 ·rw[V,MG,MJ,OV Y,MZ,OV rfl,I];rfl
 apply Nr;intro j;rw[LZ];by_cases E:j<G.toList.length*4
 ·rw[OV E,QfI E,MR];have hs:j<cur.size:=by simp[U]at E;omega
  have hu:j<(flatK q7 4 G).size:=by simpa using E
  simp only[putCells,Array.getElem?_mapIdx,Array.getElem?_eq_getElem hs,OD,Nat.zero_le,oX,true_and,OV hu,ON,id]
 rw[OU E,Mv];rw[QaN];omega
theorem Qo7 (G:QS a)(T:a.st=(n:Int))(hl:lf.length=n):∀x∈nxs a ul lf,0<=x/\x<(n:Int):=λx hx=>by
 have E:=Qjy x hx;have U:x.toNat<n:=by
  refine Decidable.byContradiction λh=>?_;unfold lft at E;simp[oN,List.getElem?_eq_none (show lf.length<=x.toNat by omega)]at E
 unfold nxs at hx;split at hx
 ·obtain⟨p,I,rfl⟩:=Lx.1 hx;obtain⟨_,e,J,V,_⟩:=(Qbb a ul lf).1 p I;have:=G.ed e J;omega
 have:=((U0 lf (dsts a lf) 0).1 x hx).2;omega
abbrev Q4:=Int×Int×Int×Int
abbrev q4C (x:Q4):LV:=[sS x.1,sS x.2.1,sS x.2.2.1,sS x.2.2.2]
def QoH (x:Q4):Rz:=if h:0<=x.1/\x.1<4096 then⟨x,h⟩else default
theorem Qb1:∀l:List Rz,(l.map (·.1)).map QoH=l
 | []=>rfl
 | x::l=>by
  rw[LS,LS,Qb1 l];congr 1;unfold QoH;rw[dif_pos x.2]
theorem Qnk (l:List Rz):(l.map (·.1)).flatMap q4C=l.flatMap q7:=by rw[List.flatMap_map]
def rmR (rk:Int)(r:Int×xx):List Q4:=r.2.map λp=>(p.1,rk,r.1,p.2)
def rmL (a:Qz)(ul:LI):Nat->Int->Lf->List Q4
 | 0,_,_=>[]
 | f+1,rk,lf=>if(nxs a ul lf).length=0 then[]else rmR rk (nxR a ul lf)++rmL a ul f (rk+1) ((nxs a ul lf).foldl cut lf)
theorem QiQ {f:Nat}{rk:Int}(h:(nxs a ul lf).length=0):rmL a ul f rk lf=[]:=by
 cases f with
 | zero=>rfl
 | succ f=>rw[rmL,OV h]
theorem QiP {f:Nat}{rk:Int}(h:(nxs a ul lf).length≠0):rmL a ul (f+1) rk lf=rmR rk (nxR a ul lf)++rmL a ul f (rk+1) ((nxs a ul lf).foldl cut lf):=by rw[rmL,OU h]
def rmF (fb:LI):List Q4:=fb.map λy=>(y,1,1,-1)
def rmA (a:Qz)(fb ul:LI):List Q4:=rmF fb++rmL a ul (a.st.toNat+1) 2 (lf0 a.st.toNat fb)
def rmS (a:Qz)(fb ul:LI):List Q4:=(q6 ((rmA a fb ul).map QoH)).map (·.1)
def kpI (lf:Lf)(n:Nat):LN:=(oJ n).filter λi=>lf.getD i false
def kpK (lf:Lf)(n:Nat):LI:=(kpI lf n).map λi:Nat=>(i:Int)
def kpD (lf:Lf)(D:LI)(n:Nat):LI:=(kpI lf n).map λi=>O7 D i
theorem Qrg (h:lf.getD n false=true):kpI lf (n+1)=kpI lf n++[n]:=by
 unfold kpI;rw[Nh,LT,L4,OV h];rfl
theorem Qrh (h:lf.getD n false=false):kpI lf (n+1)=kpI lf n:=by
 unfold kpI;rw[Nh,LT,L4,OU (by rw[h];decide)];exact LH _
structure QbQ (L:LN)(H:xC)(c0 c1 c2:O3)(a:Qz)(fb ul:LI):Prop where
 k:Qu L H c0 (kpK (JM a fb ul) a.st.toNat)
 d:Qu L H c1 (kpD (JM a fb ul) (dsts a (JM a fb ul)) a.st.toNat)
 r:Zu L H c2 (rmS a fb ul).length 4 ((rmS a fb ul).flatMap q4C)
theorem QbQ.st {L:LN}{w w':O2}{c0 G I:O3}{a:Qz}{fb ul:LI}(h:QbQ L ↑w c0 G I a fb ul)(E:O6 L w w'):QbQ L ↑w' c0 G I a fb ul:=⟨h.k.st E,h.d.st E,h.r.st E⟩
theorem QbQ.up {L L':LN}{H:xC}{c0 G I:O3}{a:Qz}{fb ul:LI}(h:QbQ L H c0 G I a fb ul)(E:∀b∈L',b∈L\/H.size<=b):QbQ L' H c0 G I a fb ul:=⟨h.k.up E,h.d.up E,h.r.up E⟩
theorem Qn9 {rk rs:Int}:∀(l:xx),(∀x∈l.map (·.1),0<=x/\x<4096)->∃lz:List Rz,lz.flatMap q7=l.flatMap (rmC rk rs)/\lz.length=l.length/\lz.map (·.1)=rmR rk (rs,l)
 | [],_=>⟨[],O,O,O⟩
 | x::l,h=>by
  obtain⟨lz,E,G,I⟩:=Qn9 (rk:=rk) (rs:=rs) l (λy J=>h y (Lj _ J));exact⟨⟨(x.1,rk,rs,x.2),h x.1 Lh⟩::lz,by rw[LM,LM,E],by simp[G],by rw[LS,I];rfl⟩
theorem QfX:∀l:List Rz,∀u∈l.flatMap q7,u.oneCell'=true
 | [],u,h=>by cases h
 | x::l,u,h=>by
  rw[LM,Le]at h;rcases h with h|h
  ·simp only[q7,oK,oH,or_false]at h;rcases h with rfl|rfl|rfl|rfl <;> rfl
  exact QfX l u h
theorem RzO.snoc {v:O3}{l m:List Rz}(h:w.ownsRow base 323 4 v (l.length+m.length) (l.flatMap q7++m.flatMap q7)):RzO base w v (l++m):=by
 unfold RzO;rw[Lc,LF];exact h
abbrev KR (k d r:O3)(n:Int):LV:=[k,d,r,sS n,nS,sS 0,nS,nS,nS]
structure ReI (b10:Nat)(q:Pz)(wB:O2)(lf:Lf)(rn:Int)(vr:O3)(lz:List Rz)(w:O2):Prop where
 st:O6 [b10,q.bl] wB w
 B10:QK ↑w b10 148 (KR (nS) (nS) vr rn)
 R:RzO ↑wB w vr lz
 F:QK ↑w q.bl 4 (lf.map Value.bool)
 n:lf.length=q.n
section
variable {b10:Nat}{q:Pz}{wB w'':O2}{rn:Int}{lz:List Rz}
theorem ReI.I (h:ReI b10 q wB lf rn vr lz w)(E:sW w w'):ReI b10 q wB lf rn vr lz w':=⟨h.st.D E,h.B10.I E,Qm h.R E,h.F.I E,h.n⟩
theorem ReI.cut (h:ReI b10 q wB lf rn vr lz w)(l:q.bl<↑wB)(ne:b10≠q.bl)(E:O6 [q.bl] w w'){G:Lf}(I:QK ↑w' q.bl 4 (G.map Value.bool))(J:G.length=q.n):ReI b10 q wB G rn vr lz w' :=
 ⟨h.st.O E (λb hb=>.inl (by simp only[oF]at hb;simp[hb])),h.B10.J E (ou ne),Qg h.R E (λb hb=>by have:=(Qi h.R b hb).1;simp only[oF];omega),I,J⟩
theorem ReI.app (h:ReI b10 q wB lf rn vr lz w)(l:q.bl<↑wB)(V:b10<wB.heap.size)(ne:b10≠q.bl){E:O3}{I:List Rz}{J:Int}(T:O6 (ob vr) w w')(hR:RzO ↑wB w' E I)(G:O6 [b10] w' w'')
  (U:QK ↑w'' b10 148 (KR (nS) (nS) E J)):ReI b10 q wB lf J E I w'':=by
 have hge:=Qi h.R;exact⟨(h.st.O T (λb hb=>.inr (hge b hb).1)).O G (λb hb=>.inl (by simp only[oF]at hb;simp[hb])),U,Qg hR G (λb hb=>by have:=(Qi hR b hb).1;simp only[oF];omega),
  (h.F.J T (λhb=>oo (hge _ hb).1)).J G (ou ne.symm),h.n⟩
theorem ReI.rounds (h:ReI b10 q wB lf rn vr lz w)(J:b10<wB.heap.size)(ne:b10≠q.bl){G:Int}(E:O6 [b10] w w')(I:QK ↑w' b10 148 (KR (nS) (nS) vr G)):ReI b10 q wB lf G vr lz w' :=
 ⟨h.st.O E (λb hb=>.inl (by simp only[oF]at hb;simp[hb])),I,Qg h.R E (λb hb=>by have:=(Qi h.R b hb).1;simp only[oF];omega),h.F.J E (ou ne.symm),h.n⟩
end
theorem Qg5 {vf:O3}{forb unc:LI}(h:Zr [] ↑w va vm ve a)(hok:QS a)(hf:Qu [] ↑w vf forb)(kh:∀x∈forb,0<=x/\x<a.st)(hfl:forb.length<=4096)(hu:Qu [] ↑w vu unc):
  QU sV 143 [.agg #[va,sS a.st,vm,ve],vf,vu,.bool true] w λr w'=>sW w w'/\∃c0 c1 c2 c3 sa sm se o,r=.agg #[c0,c1,c2,c3,sa,sS (Uj a forb unc).st,sm,se,o] /\
   ZL [c0,c1,c2,c3,o]/\∀L:LN,(∀b∈L,b<↑w)->Zr L ↑w' sa sm se (Uj a forb unc)/\QbQ L ↑w' c0 c1 c2 a forb unc:=by
 have hst0:=hok.st0;have hst1:=hok.st1;obtain⟨n,hn⟩:∃n:Nat,a.st=n:=⟨a.st.toNat,oa⟩;have h8:a.st.toNat=n:=oa
 have hS:Uj a forb unc=QaI a (VU a unc (n+1) (lf0 n forb)):=by unfold Uj JM;rw[h8]
 have mz:rmA a forb unc=rmF forb++rmL a unc (n+1) 2 (lf0 n forb):=by unfold rmA;rw[h8]
 have gl:JM a forb unc=VU a unc (n+1) (lf0 n forb):=by unfold JM;rw[h8]
 refine Zd (Uj a forb unc) λSA m0=>?_;rw[m0]at hS ⊢;refine Zm func143 ?_;refine Qc<|Zf [va,sS a.st,vm,ve] λb4 w1 ki hb4 m1=>QT (KR (nS) (nS) (nS) 0) λb8 w2 kj hb8 kk=>xe ?_;have hT:=ki.D kj;have hl8:=kk.lt;have hz1:=ki.size;refine Qc<|Q3 (m1.I kj) O O<|Qa<|Qa<|Qw<|(QiD (h.I hT) hok hn (hf.I hT) kh (hu.I hT)).S ?_;rintro r3 w3 ⟨kn,bp,q,rfl,m2,m3,m4,hbl,hP,hF⟩;refine Qb ?_;subst m2 m3 m4;have hq:PzQ q:=⟨hok,hn⟩;have m5:=hT.D kn;have hlF:=hF.lt;refine Qc<|QT (KR (nS) (nS) (nS) 0) λb10 J h9 m6 ko=>xe ?_;have gm:=m5.D h9;have hz4:=h9.size;have hU:=ko.lt;have hv:b10≠q.bl:=oa
 have gn:q.bl<J.heap.size:=oa
 have m7:PzA [b10,q.bl] ↑J bp q:=(hP.up (λb hb=>by
  simp only[oK,oH,or_false]at hb;rcases hb with rfl|rfl
  ·exact .inr m6
  exact .inl od)).I h9
 have m8:=QmU q.n forb;have hA:∀{w'},O6 [b10,q.bl] J w'->PzA [] ↑w' bp q:=λhs=>(m7.st hs).up od;refine Qd<|Ql<|QG (hf.I gm) O<|Qa<|xe<|QX (α:=Nat×Int×O3×List Rz) [(12,12),(25,39)] (λz=>[(25,sS z.1)]) (λz w'=>z.1<=forb.length/\ReI b10 q J (lf0 q.n forb) z.2.1 z.2.2.1 z.2.2.2 w'/\z.2.2.2.length=z.1/\(z.2.1=0\/z.2.1=1)/\z.2.2.2.map (·.1)=rmF (forb.take z.1)) (λz=>forb.length - z.1) (0,0,nS,[]) La
  ⟨Lo _,⟨O6.Y _ _,ko,QL _ _ _ _,hF.I h9,m8⟩,O,.inl O,O⟩ ?_
 rintro⟨k,rn,vr,lz⟩ g w5 ⟨hk,hI,gq,hV,hW⟩;simp only[]at hk hI gq hV hW;have m9:Qu [] ↑w5 vf forb:=((hf.up (L':=[b10,q.bl]) (λb hb=>by
  simp only[oK,oH,or_false]at hb;exact .inr oa)).I gm |>.st hI.st).up od
 refine Zk rfl O (λgr=>?_) (λgr=>?_)
 ·refine Qt ?_;have hcl:=Qgz (lf0 q.n forb);have pc:forb.length<=k:=by have hX:¬(k:Int)<(forb.length:Int):=gr;omega
  rw[Lr pc]at hW;refine Qd<|Qc<|Qb<|QX (α:=Nat×Nat×Int×O3×List Rz×Lf) [(13,14),(16,16),(40,71)] (λz=>[(13,sS z.2.1)])
   (λz w'=>ReI b10 q J z.2.2.2.2.2 z.2.2.1 z.2.2.2.1 z.2.2.2.2.1 w'/\z.2.1+z.1=q.n+3/\z.2.2.2.2.1.length<=4096+z.2.1*1000000/\VU q.a q.unc z.1 z.2.2.2.2.2=VU q.a q.unc (q.n+1) (lf0 q.n forb)/\VH z.2.2.2.2.2+1<=z.1/\z.2.2.2.2.1.map (·.1)++rmL q.a q.unc z.1 (z.2.1:Int) z.2.2.2.2.2=rmA q.a forb q.unc) (λz=>z.1) (q.n+1,2,rn,vr,lz,lf0 q.n forb) La ⟨hI,oe,oe,O,oe,by rw[mz];simp only[hW];rfl⟩ ?_
  rintro⟨f,rank,rn,vr,lz,lf⟩ g w6 ⟨hI,pd,gq,hB,pf,hC⟩;simp only[]at hI pd gq hB pf hC;refine Qd<|Qn<|Ql<|Qa<|Qa<|Qw<|(Qjh (hA hI.st) hq hI.F hI.n rank).S ?_;rintro r7 w7 ⟨hY,hE,kq⟩;have hh:=QmE q.a q.unc lf;have kr:=λ(f:Nat) (h:(nxs q.a q.unc lf).length≠0)=>QiP (a:=q.a) (ul:=q.unc) (f:=f) (rk:=(rank:Int)) (lf:=lf) h;refine Zd (nxR q.a q.unc lf) λNR pg=>?_;rw[pg]at hE kq hh kr;obtain⟨rs,l⟩:=NR;simp only[]at hE kq hh;refine Qb ?_;have U:=hI.I hY;have kt:Zu [] ↑w7 r7 l.length 4 (l.flatMap (rmC rank rs)):=QN hE oa od;have gs:(nxs q.a q.unc lf).length=l.length:=by rw[<-hh,Ln]
  have gt:=Qo7 (ul:=q.unc) hok hn hI.n;rw[<-hh]at gt;refine Qd<|Ql<|QG kt O<|x (Zc O O)<|xe<|Zg O (λgu=>?_) (λgu=>?_)
  ·refine Qt ?_;have hG:l.length=0:=by have h49:(l.length:Int)=0:=gu;omega
   rw[Qg6 (by rw[gs];exact hG)]at hB;rw[QiQ (by rw[gs];exact hG),LH]at hC;rw[<-hB]at hS gl;refine Qc<|Q9 O<|Qs O U.B10 O O<|Qw<|(Qg0 U.R oa).S ?_;rintro r8 V ⟨he,gv⟩;have ph:rmS q.a forb q.unc=(q6 lz).map (·.1):=by unfold rmS;rw[<-hC,Qb1]
   refine xe ?_;have hge:=Qi U.R;have gx:O6 [b10,q.bl] J V:=U.st.O he (λb hb=>.inr (hge b hb).1);have gy:QK ↑V b10 148 (KR (nS) (nS) vr rn):=U.B10.J he (λhb=>oo (hge _ hb).1);have ku:QK ↑V q.bl 4 (lf.map Value.bool):=U.F.J he (λhb=>oo (hge _ hb).1);have kv:=QA gv;have hz8:=gx.size;refine Qd<|Ql<|Qw<|(UT (hA gx) hq ku U.n).S ?_;rintro r9 G ⟨Y,bD,rfl,hbD,kw,hZ⟩;refine Zd (dsts q.a lf) λD hD=>?_;rw[hD]at kw hZ;have kx:Qu [b10] ↑G (sL bD q.n q.n) D:=by
    have T:=kw.arr (L:=[b10]) ol (n:=q.n) (cap:=q.n) (sz:=1) (by simp[hZ]) oa (Lp _);unfold Qu;rw[hZ];exact T
   have pn:=gx.D Y;have hz9:=Y.size;have po:=ku.I Y;refine QG kx O<|Qa<|xe<|QX (α:=Nat×O3×O3×LI×LI) [(17,18),(79,107)] (λz=>[(79,sS z.1)])
    (λz w'=>z.1<=D.length/\O6 [b10] G w'/\QK ↑w' b10 148 (KR z.2.1 z.2.2.1 vr rn)/\Qh 3 ↑G w' z.2.1 z.2.2.2.1/\Qh 3 ↑G w' z.2.2.1 z.2.2.2.2/\Dj z.2.1 z.2.2.1/\z.2.2.2.1.length<=z.1/\z.2.2.2.2.length<=z.1/\z.2.2.2.1=kpK lf z.1/\z.2.2.2.2=kpD lf D z.1) (λz=>D.length - z.1) (0,nS,nS,[],[]) La
    ⟨Lo _,O6.Y _ _,gy.I Y,QL _ _ _ _,QL _ _ _ _,Dj.nil' _,Lp _,Lp _,O,O⟩ ?_
   rintro⟨i,vk,vd,lk,ld⟩ g hH ⟨hi,ha,hJ,hK,hp,ga,pp,hld,gb,gc⟩;simp only[]at hi hJ hK hp ga pp hld gb gc;have hz10:=ha.size;have ge:O6 [b10,q.bl] J hH:=pn.O ha (λb hb=>.inl (by simp only[oF]at hb;simp[hb]));have kz:QK ↑hH q.bl 4 (lf.map Value.bool):=po.J ha (ou hv.symm);refine Zk O O (λgz=>?_) (λgz=>?_)
   ·refine Qt<|Ql<|Qw<|(ye (hA ge) hq kz U.n).S ?_;rintro r11 pt ⟨hr,_,o,rfl,⟨sa,sm,se,rfl,g0⟩,g2⟩;rw[<-hS]at g0;have hw:=g0 [] od;refine Qa<|QO O O<|QO O O<|Q9 O<|Qo<|Kj (us:=[sa,sS SA.st,sm,se]) (hJ.I hr) O (by rw[<-hS];rfl) O od ⟨hw.al.one,rfl,hw.mr.one,hw.ed.one,Z⟩ rfl λw12 gg pu =>
     Q9 rfl<|Qo<|Qv (j:=8) (u:=o) pu O O od g2 λw13 gh pw=>xe ?_
    have pz:b8∉[b10,q.bl]:=by simp only[oK,oH,or_false];omega
    have k0:b8∉[b10]:=ol
    have p0:=(((((kk.I (kn.D h9)).J ge pz).I hr).J gg k0).J gh k0);refine Qc<|Q3 pw O O<|Q5 [vk,vd,vr,sS rn,sa,sS SA.st,sm,se,o] p0 ⟨QA hK,QA hp,kv,O,hw.al.one,O,hw.mr.one,hw.ed.one,g2,Z⟩ λp4 g3 p5=>xe ?_;have p6:∀b∈[b10,q.bl],↑w<=b:=λb hb=>by simp only[oK,oH,or_false]at hb;omega
    have p7:sW w p4:=((((gm.O ge (λb hb=>.inr (p6 b hb))).D hr).Q gg oa).Q gh oa).Q g3 oa;refine Qj ⟨[.agg #[vk,vd,vr,sS rn,sa,sS SA.st,sm,se,o]],⟨JN p5,Z⟩,p7,vk,vd,vr,sS rn,sa,sm,se,o,O,⟨QA hK,QA hp,kv,O,g2,Z⟩,λL hL=>?_⟩;have gi:∀N,↑J<=N->∀b∈b10::b8::L,b<N:=λN hN b hb=>by
     simp only[oK]at hb;rcases hb with rfl|rfl|hb
     ·omega
     ·omega
     have:=hL b hb;omega
    have T:=g0 (b10::b8::L) (gi _ oa);have h2:=((T.st (gg.S od)).st (gh.S od)).st (g3.S od);have p8:i=q.n:=by have p9:¬(i:Int)<(D.length:Int):=gz;omega
    subst p8;have hrl:(q6 lz).length=lz.length:=zX lz;have h3:QbQ (b10::b8::L) ↑hH vk vd vr q.a forb q.unc:=by
     refine⟨?_,?_,?_⟩
     ·rw[gl,h8,<-gb];exact Qh.ints hK oa (gi _ oa)
     ·rw[gl,h8,hD,<-gc];exact Qh.ints hp oa (gi _ oa)
     rw[ph,Ln,Qnk];have qf:=Qi gv;refine(((QN gv oa (λb hb qj=>oq (qf b hb).1 (gi _ (Lp _) b qj)):Zu (b10::b8::L) ↑V vr (q6 lz).length 4 ((q6 lz).flatMap q7)).I Y).st (ha.S od))
    have h4:=((((h3.st (hr.any)).st (gg.S od)).st (gh.S od)).st (g3.S od)).up (L':=L) (λb hb=>.inl (by simp[hb]));exact⟨h2.up (λb hb=>.inl (by simp[hb])),h4⟩
   refine Qf ?_;have hz:i<D.length:=by have p9:(i:Int)<(D.length:Int):=gz;omega
   have g4:i<lf.length:=by rw[U.n,<-hZ];exact hz
   have ql:lf[i]'g4=lf.getD i false:=by simp[oN,g4]
   refine Qd<|Qn<|Ql<|xii (i:=i) (kx.st ha) O O hz λa82 k4=>?_;refine Zd (D[i]'hz) λd hd=>?_;rw[hd]at k4;refine x (Qq k4 O)<|x Qe<|Qb<|Ql<|Z7 O<|Qs O (hA ge).B O O<|Qa<|x (QE (i:=i) O O oa)<|x (v:=.bool (lf.getD i false)) ((JW (i:=i) kz O g4).D (by rw[ql]))<|xe<|Q6 O (λg5=>?_) (λg5=>?_)
   ·have hM:∀{v:O3} {l:LI} {w':O2},Qh 3 ↑G w' v l->b10∉ob v:=λho E=>oo (Qi ho b10 E).1
    refine Qc<|Q9 O<|Qs O hJ O O<|Qa<|Qo<|Q8 [[sS i]] λb95 y1 h5 hb95 q4=>Qo<|Q2 (m:=1) (news:=[sS i]) (L:=[]) (Qm hK h5) O O O (q4.at od) om oa (oo h5.size) λhO y2 k5 gj q5 =>
     Q9 rfl<|Q9 O<|Qo<|Qv (j:=0) (u:=hO) ((hJ.I h5).J gj (hM hK)) O O od (QA k5) λy3 g6 k6=>xe ?_
    have j1:Qh 3 ↑G y2 hO (lk++[(i:Int)]):=Qh.snoc k5;have hzy1:=h5.size;have hzy2:=gj.size;have hzy3:=g6.size;have j2:Qh 3 ↑G y2 vd ld:=Qg (Qm hp h5) gj (λb hb E=>ga b E hb);have k9:Dj hO vd:=λb hb E=>by
     rcases q5 b hb with T|T
     ·exact ga b T E
     have:=QV hp b E;omega
    have ma:∀{v:O3} {l:LI},Qh 3 ↑G y2 v l->Qh 3 ↑G y3 v l:=λho=>Qg ho g6 (λb hb E=>by simp only[oF]at E;subst E;exact hM ho hb);have mc:=ma j1;have g7:=ma j2;have j3:O6 [b10] G y3:=(((ha.D h5).O gj (λb hb=>.inr (Qi hK b hb).1))).V g6;refine Qr<|Q9 O<|Qs O k6 O O<|Qa<|Qo<|Q8 [[sS d]] λb103 y4 h6 hb103 j4=>Qo<|Q2 (m:=1) (news:=[sS d]) (L:=[]) (Qm g7 h6) O O O (j4.at od) om oa (oo h6.size) λg8 y5 mf g9 za =>
     Q9 rfl<|Q9 O<|Qo<|Qv (j:=1) (u:=g8) ((k6.I h6).J g9 (hM g7)) O O od (QA mf) λy6 ka z0=>xe ?_
    have mg:Qh 3 ↑G y5 g8 (ld++[d]):=Qh.snoc mf;have mh:=Qrg (lf:=lf) (n:=i) g5;have z1:O7 D i=d:=by unfold O7;simp[oN,hz,hd]
    have mj:Qh 3 ↑G y5 hO (lk++[(i:Int)]):=Qg (Qm mc h6) g9 (λb hb E=>k9 b hb E);have hzy4:=h6.size;refine Qr<|QB O O<|Qa<|xe<|⟨(i+1,hO,g8,_,_),oe,La,hz,(((j3.D h6).O g9 (λb hb=>.inr (Qi g7 b hb).1))).V ka,z0,Qg mj ka (λb hb E=>by simp only[oF]at E;subst E;exact hM mj hb),Qg mg ka (λb hb E=>by simp only[oF]at E;subst E;exact hM mg hb),λb hb E=>?_,by simp only[oM,oL];omega,by simp only[oM,oL];omega,by simp only[];unfold kpK;rw[mh,Ly,gb];rfl,by simp only[];unfold kpD;rw[mh,Ly,gc,<-z1];rfl⟩;rcases za b E with T|T
    ·exact k9 b hb T
    have:=QV mc b hb;omega
   refine Qf<|Qr<|QB O O<|Qa<|xe ?_;have mo:=Qrh (lf:=lf) (n:=i) g5;exact⟨(i+1,vk,vd,lk,ld),oe,La,hz,ha,hJ,hK,hp,ga,oe,oe,by unfold kpK;rw[mo];exact gb,by unfold kpD;rw[mo];exact gc⟩
  refine Qf ?_;have hG:¬l.length=0:=λe=>gu (by show(l.length:Int)=0;omega);have kb:(nxs q.a q.unc lf).length≠0:=by rw[gs];exact hG
  have z2:=QcG kb;refine Exists.elim (Np (show f≠0 by omega)) λf' z3=>?_;subst z3;rw[jT kb,<-hh]at hB;rw[kr f' kb,<-hh]at hC;rw[<-hh]at z2;refine Exists.elim (Qn9 (rk:=(rank:Int)) (rs:=rs) l (λx hx=>oo (gt x hx))) λln h7=>?_;refine Qd<|Ql<|QG kt O<|Qa<|xe<|QX (α:=Nat) [(16,16),(51,62)] (λz=>[(51,sS z)]) (λz w'=>z<=l.length/\O6 [q.bl] w7 w'/\ReI b10 q J (((l.take z).map (·.1)).foldl cut lf) rn vr lz w') (λz=>l.length - z) 0 La ⟨Lo _,O6.Y _ _,U⟩ ?_;rintro j g V ⟨hj,he,I⟩;have hV:∀b∈ob r7,b≠q.bl:=λb hb e=>oq (Qi hE b hb).1 hI.st.size
  have z4:RmO ↑w6 V r7 rank rs l:=Qg hE he (λb hb E=>hV b hb (ou E));have mq:Zu [q.bl] ↑V r7 l.length 4 (l.flatMap (rmC rank rs)):=QN z4 oa (λb hb E=>hV b hb (ou E));refine Zk O O (λkc=>?_) (λkc=>?_)
  ·refine Qt ?_;have z5:l.length<=j:=by have gk:¬(j:Int)<(l.length:Int):=kc;omega
   rw[Lr z5]at I;obtain⟨ad,cap7,hr7,_,hAt7⟩:∃ad cap,r7=.slice (some ad) l.length cap/\l.length<=cap/\At [q.bl] ↑V ad (l.flatMap (rmC rank rs)):=by
    rcases mq.2.2 with⟨_,h0⟩|T
    ·exact OX h0 hG
    exact T
   refine Qc<|Q9 O<|Qs O I.B10 O O<|Qa<|Qo<|Q2 (m:=l.length) (news:=l.flatMap (rmC rank rs)) (L:=[q.bl]) I.R O hr7 (by rw[<-h7.1,QaN,h7.2.1]) hAt7 (by rw[<-h7.1];exact QfX ln) oa I.st.size λke w22 ms mt hn22 =>
    Q9 rfl<|Q9 O<|Qo<|Qv (j:=2) (u:=ke) (I.B10.J mt (λhb=>oo (Qi I.R _ hb).1)) O O od (QA ms) λw23 hs23 hB23=>xe ?_
   have hR22:RzO ↑J w22 ke (lz++ln):=RzO.snoc (by rw[h7.1,h7.2.1];exact ms);have mu:=I.app gn hU hv mt hR22 hs23 hB23;refine Qr<|Qa<|Q9 O<|Qo<|Qv (j:=3) (u:=sS rank) mu.B10 O O od rfl λw24 hs24 hB24=>xe ?_;have hI24:=mu.rounds hU hv hs24 hB24;have hra:(-9223372036854775808:Int)<=(rank:Int)+1:=oa
   have hrb:(rank:Int)+1<=9223372036854775807:=oa
   refine Qr<|Qa<|x (Xt O O ⟨hra,hrb⟩)<|Qb<|⟨(f',rank+1,(rank:Int),ke,lz++ln,(l.map (·.1)).foldl cut lf),oe,La,hI24,oe,by simp only[oM];omega,hB,oe,by simp only[List.map_append,h7.2.2];rw[LA];exact hC⟩
  refine Qf ?_;have hg:j<l.length:=by have gk:(j:Int)<(l.length:Int):=kc;omega
  have htk:l.take (j+1)=l.take j++[l[j]'hg]:=Ll hg;have mv:((l.take (j+1)).map (·.1)).foldl cut lf=cut (((l.take j).map (·.1)).foldl cut lf) (l[j]'hg).1:=by rw[htk,Ly,Mn];rfl
  have hxr:=gt (l[j]'hg).1 (LL (Lm hg));refine Zd (l[j]'hg) λy hy=>?_;rw[hy]at mv hxr;have hyn:y.1=(y.1.toNat:Int):=oa
  refine Qd<|Qn<|Qc<|O9 (g:=rmC rank rs) (i:=j) (QfJ rank rs) mq O O hg λa53 gk=>?_;rw[hy]at gk;refine x (QF gk O O)<|QT [sS 0,sS 0,sS 0,sS 0] λb16 G Y hb16 kf=>Q5 (rmC rank rs y) kf oy λhH ha kf=>xe ?_;have mw:sW V hH:=Y.Q ha hb16;have kg:=I.I mw;have hnn:=I.n;refine ZK [] (Xj 0 8 [7])<|p Qy<|p (YN O)<|p (QH O)<|pq (λ_ hc=>Qk ((hA kg.st).B.I hc) O O)<|p (QH O)<|pq (λ_ hc=>Qk (kf.I hc) O O) <|
   p (λ_=>QE (i:=y.1.toNat) O (OW sS hyn) oa)<|pkk<|yg (i:=y.1.toNat) (kg.F.I (O6.X _ _)) O O oa λpt hr hF11=>pe ?_
  refine Qr<|QB O O<|Qa<|xe<|⟨j+1,oa,La,hg,((he.D mw).D (O6.X _ _)).V hr,?_⟩;rw[mv];exact(kg.I (O6.X _ _)).cut gn hv hr hF11 (by rw[Qgw];exact hnn)
 refine Qf ?_;have hQ:k<forb.length:=by have hX:(k:Int)<(forb.length:Int):=gr;omega
 have hxk:=kh _ (Lm hQ);refine Zd (forb[k]'hQ) λy hy=>?_;rw[hy]at hxk;refine Qd<|Qn<|Qc<|xii (i:=k) m9 O O hQ λa27 hX=>?_;rw[hy]at hX;refine x (Qq hX O)<|Qb<|Qc<|Q9 O<|Qs O hI.B10 O O<|Qa<|x (QD ⟨O,O,O,O,Z⟩)<|Qo<|Q8 [[sS y,sS 1,sS 1,sS (-1)]] λb34 w6 hs6 hb34 hB34=>?_;have hR:=hI.I hs6;refine Qo<|Q2 (m:=1) (news:=[sS y,sS 1,sS 1,sS (-1)]) (L:=[]) hR.R O O O (hB34.at od) om oa hR.st.size λv7 w7 my hY hn7 =>
  Q9 rfl<|Q9 O<|Qo<|Qv (j:=2) (u:=v7) (hR.B10.J hY (λhb=>oo (Qi hR.R _ hb).1)) O O od (QA my) λV he gy=>xe ?_
 have hR7:RzO ↑J w7 v7 (lz++[⟨(y,1,1,-1),oe⟩]):=RzO.snoc my;have hfk:rmF (forb.take (k+1))=rmF (forb.take k)++[(y,1,1,-1)]:=by unfold rmF;rw[Ll hQ,Ly,hy];rfl
 have I:=hR.app gn hU hv hY hR7 he gy;refine Qr<|Q9 O<|Qo<|Qv (j:=3) (u:=sS 1) I.B10 O O od rfl λG Y hB9=>xe ?_;have hI9:=I.rounds hU hv Y hB9;refine Qr<|QB O O<|Qa<|xe ?_;exact⟨(k+1,1,v7,_),oe,La,hQ,hI9,by simp only[oM,oL];omega,.inr O,by simp only[List.map_append,hW,hfk];rfl⟩
instance:Bw sV 148 (KR (nS) (nS) (nS) 0) [(0,3),(3,1),(4,4),(8,1)]:={}
theorem QoM {c:ZS}{pl:Qz}{ps:List (LI)}{l:List (LI)}:∀r∈spF c pl ps l,0<=r.st/\r.st<(l.length:Int):=λr G=>by
 unfold spF at G;obtain⟨⟨t,i⟩,I,E⟩:=MF.1 G;have hi:=List.snd_lt_add_of_mem_zipIdx I;simp only[oX]at hi;have J:r.st=(i:Int):=by
  unfold rsn at E;split at E
  ·cases E;rfl
  split at E
  ·cases E;rfl
  cases E
 omega
theorem QiG {c:ZS}(h:YQ c=0):QS (spc c).a/\(∀x∈fbs (spc c),0<=x/\x<(spc c).a.st)/\(fbs (spc c)).length<=4096/\(spc c).fb.length<=4096/\XQ c.ev=0:=by
 unfold YQ at h;by_cases G:Z2 c≠0
 ·rw[OV G]at h;exact OX h G
 rw[OU G]at h;have hck:Z2 c=0:=Lt.1 G;have hok:=YT hck;by_cases I:KT (O8 c.co)≠0
 ·rw[OV I]at h;exact OX h I
 rw[OU I]at h;cases J:xp (O8 c.co) with
 | none=>rw[J]at h;cases h
 | some z =>
  rw[J]at h;by_cases T:KT (O8 c.co++O8 c.rq)≠0
  ·rw[OV T]at h;exact OX h T
  rw[OU T]at h;cases U:xp (O8 c.co++O8 c.rq) with
  | none=>rw[U]at h;cases h
  | some y =>
   have V:∀a∈O8 c.co++O8 c.rq,QS a:=λa E=>by
    rcases Le.1 E with E|E
    ·exact YX hok.co a E
    exact YX hok.rq a E
   have hsp:=(Yz V (A:=y.1) (Q:=y.2) U).1;have hl:=QfD c z.1 z.2 y.2;have he:=hsp.le;rw[(QaK (c:=c) (pl:=z.1) (ps:=z.2) (sa:=y.1) (ts:=y.2) J U)];unfold fbs;refine⟨hsp.okay V,λx hx=>?_,by rw[Ln];simp only[];omega,oe,hok.e0⟩;obtain⟨r,Y,rfl⟩:=Lx.1 hx;have:=QoM r Y;rw[hsp.st];exact this
theorem st4 (r:Rsn):(Z5 r).length=4:=rfl
theorem QdY (h0:Ya L ↑w c)(hR:Kb w 4096):
  QU sV 67 [c.val] w λr w'=>sW w w'/\∃us c0 J T c3 sa sm se o,r=.tuple #[sT us,.agg #[c0,J,T,c3,sa,sS (if YQ c.C=0 then(X2 c.C).st else 0),sm,se,o],sS (YQ c.C)]/\us.length=8/\ZL us/\ZL [c0,J,T,c3,sa,sm,se,o] /\
   (YQ c.C≠0->sa=nS/\sm=nS/\se=nS)/\(YQ c.C=0->∀L:LN,(∀b∈L,b<↑w)->Zr L ↑w' sa sm se (X2 c.C)/\QbQ L ↑w' c0 J T (spc c.C).a (fbs (spc c.C)) (unc c.C.ev)):=by
 have h:=h0.up (L':=[]) od;have ho:X2 c.C=Uj (spc c.C).a (fbs (spc c.C)) (unc c.C.ev):=rfl;have hev:c.C.ev=c.ev:=rfl;have hp:=QiG (c:=c.C);refine Zd (X2 c.C) λSA hT=>?_;rw[hT]at ho ⊢;refine Zd (YQ c.C) λE hE=>?_;rw[hE]at hp ⊢;refine Zd (spc c.C) λS hS=>?_;rw[hS]at hp ho ⊢;rw[hev]at hp ho ⊢;refine Zm func67 ?_;refine Qc<|Zf c.cells λb1 w1 hD gz hG=>QT [nS,sS 0,nS,nS,nS,nS,nS,nS] λb2 w2 h4 g0 hq=>QT (KR (nS) (nS) (nS) 0) λb3 w3 hs g2 hu=>Qb ?_;have h5:=(hD.D h4).D hs;have g3:=hD.size;have g4:=hq.lt;have g5:=hu.lt;have hsp:=Ua (h.I h5) (hR.I h5);rw[hE,hS]at hsp;refine Qc<|Q3 ((hG.I h4).I hs) O O<|Qw<|hsp.S ?_;rintro r4 w4 ⟨hg,v,rfl,⟨us,rfl,h6,h7⟩,hF⟩;have g6:=hg.size;refine Qa<|QO O O<|QO O O<|QT [nS,sS 0,nS,nS,nS,nS,nS,nS] λb5 w5 hV hW hh=>Qo<|Zx (us:=us) hh O O h6 O h7 λw6 hX hh=>Qb ?_;have Y:sW w4 w6:=hV.Q hX hW;have h8:=(h5.D hg).D Y;have hH:=(hq.I (hs.D hg)).I Y;have hI:=(hu.I hg).I Y;have g7:=hh.lt;refine Qd<|Ql<|ZN O O<|xe<|Zg rfl (λhv=>?_) (λhv=>?_)
 ·refine Qc<|x (ZB [] Z)<|x (ZB [] Z)<|Qa<|Q5 [nS,sS 0,nS,nS,nS,nS,nS,nS] hH ⟨O,O,O,O,O,O,O,O,Z⟩ λw7 G hY =>
   Q5 (KR (nS) (nS) (nS) 0) (hI.J G ol) ⟨O,O,O,O,O,O,O,O,O,Z⟩ λw8 hw hZ=>Qb<|Qj ⟨[.agg #[nS,sS 0,nS,nS,nS,nS,nS,nS],.agg (KR (nS) (nS) (nS) 0).toArray,sS E],⟨JN (hY.J hw ol),JN hZ,O,Z⟩,(h8.Q G oa).Q hw oa,[nS,sS 0,nS,nS,nS,nS,nS,nS],nS,nS,nS,sS 0,nS,nS,nS,nS,by rw[OU hv];rfl,O,⟨O,O,O,O,O,O,O,O,Z⟩,⟨O,O,O,O,O,O,O,O,Z⟩,λ_=>⟨O,O,O⟩,λe=>OX e hv⟩
 have hy:E=0:=Lt.1 hv;obtain⟨ga,gb,gc,g8,hJ⟩:=hp hy;obtain⟨va,vm,ve,v1,v2,v3,v4,cos,rqs,ge,_,_,gg⟩:=hF hy;have gh:us=[va,sS S.a.st,vm,ve,v1,v2,v3,v4]:=by
  have h1:=OW (λv=>match v with|Value.agg a=>a.toList|_=>[]) ge
  simpa using h1
 subst gh;have hK:=(gg [] od);have gi:=hK.1.I Y;have hM:=hK.2.2.2.2.I Y;refine Qf<|Qc<|Qb<|Qd<|Qc<|Qs O hh O O<|QG hM O<|Qa<|xe<|QX (α:=Nat×O3) [(7,7),(9,9),(24,33)] (λz=>[(7,z.2),(24,sS z.1)]) (λz w'=>z.1<=S.fb.length/\sW w6 w'/\Qh 3 ↑w6 w' z.2 ((S.fb.take z.1).map (·.st))) (λz=>S.fb.length - z.1) (0,nS) ov ⟨Lo _,O6.Y _ _,QL _ _ _ _⟩ ?_;rintro⟨k,vf⟩ g w7 ⟨hk,G,U⟩;simp only[]at hk U;refine Zk rfl O (λh9=>?_) (λh9=>?_)
 ·refine Qt ?_;have gj:S.fb.length<=k:=by have hz:¬(k:Int)<(S.fb.length:Int):=h9;omega
  rw[Lr gj]at U;have U:Qh 3 ↑w6 w7 vf (fbs S):=U;have gk:=h8.D G;have gl:=G.size;refine Qc<|Q9 O<|x (Qk ((hG.I (h4.D hs)).I ((hg.D Y).D G)) O O)<|Qw<|(Qaz (h.ev.I gk)).S ?_;rintro g9 V ⟨ha,vu,rfl,hU⟩;rw[OV hJ]at hU;refine Qa<|QO O O<|QO O O<|x Qe<|Qb<|Qd<|Ql<|ZN O O<|xe<|Zg O (λgm=>OX hJ gm) (λ_=>?_);refine Qf ?_;have h6:(unc c.ev).length<=1099511627776:=Lz (Qbh _ c.ev 0) h.ev.arr.le;have he:=G.D ha;have gn:=gi.I he;have h2:sW V { V with drawn:=V.drawn+1 }:=O6.X _ _
  have hN:=hh.I he;have hO:b5∉[b2]:=ol
  have ka:=he.size;refine Qd<|ZK [b2] (Xj 0 9 [5,6,7])<|pq (λ_ hc=>Zi (hN.J hc hO) O O)<|p (QH O)<|pq (λ_ hc=>ZR (us:=[va,sS S.a.st,vm,ve]) (hN.J hc hO) O O O) <|
   p Qy<|p Qy<|pk<|xg<|(Qg5 (gn.I h2) ga (((Qh.ints (L:=[]) U oa od).I ha).I h2) gb gc ((Qh.ints (L:=[]) hU h6 od).I h2)).S ?_
  rintro kb kc ⟨gq,c0,J,T,c3,sa,sm,se,o,rfl,I,hA⟩;have hj:=h2.D gq;refine⟨hj.any,?_⟩;have hP:Uj S.a (fbs S) (unc c.ev)=SA:=ho.symm;rw[hP]at hA;have hf:=(hA [] od).1;refine pk<|qo [va,sS S.a.st,vm,ve,v1,v2,v3,v4] ((hH.I he).I hj) h7 λke hm hq=>⟨hj.any.V hm,?_⟩;refine pkk<|Zx (us:=[c0,J,T,c3,sa,sS SA.st,sm,se,o]) (((hI.I he).I hj).J hm ol) O (by rw[<-hP];rfl) O O ⟨I.1,I.2.1,I.2.2.1,I.2.2.2.1,hf.al.one,O,hf.mr.one,hf.ed.one,I.2.2.2.2.1,Z⟩ λkf h3 hu=>p ZI<|pe ?_;have gr:b2∉[b3]:=ol
  refine Qj ⟨[.agg #[va,sS S.a.st,vm,ve,v1,v2,v3,v4],.agg #[c0,J,T,c3,sa,sS SA.st,sm,se,o],sS 0],⟨JN (hq.J h3 gr),JN hu,O,Z⟩,
   (((h8.D he).D hj).Q hm oa).Q h3 oa,_,c0,J,T,c3,sa,sm,se,o,by rw[hy,OV rfl];rfl,O,h7,⟨I.1,I.2.1,I.2.2.1,I.2.2.2.1,hf.al.one,hf.mr.one,hf.ed.one,I.2.2.2.2.1,Z⟩,λe=>OX hy e,λ_ L hL=>?_⟩
  have h1:=hA (b2::b3::L) (λb hb=>by
   have kg:({ V with drawn:=V.drawn+1 }:O2).heap.size=V.heap.size:=rfl
   simp only[oK]at hb;rcases hb with rfl|rfl|hb
   ·omega
   ·omega
   have:=hL b hb;omega)
  exact⟨((h1.1.st (hm.S od)).st (h3.S od)).up (λb hb=>.inl (by simp[hb])),((h1.2.st (hm.S od)).st (h3.S od)).up (λb hb=>.inl (by simp[hb]))⟩
 refine Qf ?_;have hn:k<S.fb.length:=by have hz:(k:Int)<(S.fb.length:Int):=h9;omega
 have hQ:S.fb.take (k+1)=S.fb.take k++[S.fb[k]'hn]:=Ll hn;have kh:((S.fb.take k).map (·.st)).length=k:=by rw[Ln,LC];omega
 refine Zd (S.fb[k]'hn) λr hr=>?_;rw[hr]at hQ;refine Qd<|Qn<|Qc<|O9 (g:=Z5) (i:=k) st4 (hM.I G) O O hn λki hz=>?_;rw[hr]at hz;refine x (QF hz O O)<|QT [sS 0,sS 0,sS 0,sS 0] λb9 w8 hw gs hB=>Q5 (Z5 r) hB oy λw9 gt hB=>xe ?_;have hC:sW w7 w9:=hw.Q gt gs;have kj:=hC.size;have gl:=G.size;refine Qr<|Qa<|Qs O hB O O<|Qo<|Q8 [[sS r.st]] λkk V ha kn gu =>
  Qo<|Q2 (m:=1) (news:=[sS r.st]) (L:=[]) (Qm U (hC.D ha)) O O O (gu.at od) om oa (oo ha.size) λgv ko gx gy kq=>Qb<|Qr<|QB O O<|Qa<|xe ?_
 refine⟨(k+1,gv),oe,ov,hn,((G.D hC).D ha).O gy (λb hb=>.inr (Qi U b hb).1),?_⟩;simp only[];rw[hQ,Ly];exact Qh.snoc gx
theorem VM (h0:Ya L ↑w c)(hg:Kb w 4096):
  QU sV 29 [c.val] w λr w'=>sW w w'/\∃sa sm se,r=.tuple #[.agg #[sa,sS (if YQ c.C=0 then(X2 c.C).st else 0),sm,se],sS (suE c.C)]/\ZL [sa,sm,se] /\
   (suE c.C≠0->sa=nS/\sm=nS/\se=nS)/\(suE c.C=0->∀L:LN,(∀b∈L,b<↑w)->Zr L ↑w' sa sm se (X2 c.C)):=by
 have hh:suE c.C=YQ c.C:=rfl;rw[hh];refine Zm func29 ?_;refine Qc<|Zf c.cells λb1 w1 U hu hj=>QT [nS,sS 0,nS,nS] λb2 w2 V hv G=>Qb ?_;have I:=U.D V;have hw:=U.size;have hy:=G.lt;refine Qc<|Q3 (hj.I V) O O<|Qw<|(QdY ((h0.up (L':=[]) od).I I) (hg.I I)).S ?_;rintro r3 w3 ⟨Y,us,c0,c1,c2,c3,sa,sm,se,o,rfl,hk,hm,E,hn,ho⟩;refine Zd (if YQ c.C=0 then(X2 c.C).st else 0) λN hN=>?_
 rw[hN];refine Qa<|QO O O<|QO O O<|QO O O<|QT [nS,sS 0,nS,nS,nS,nS,nS,nS] λb4 w4 hp hz J=>QT (KR (nS) (nS) (nS) 0) λb5 w5 ha h2 hq =>
  Qo<|Zx (us:=us) (J.I ha) O O hk O hm λw6 he h3=>Q5 [c0,c1,c2,c3,sa,sS N,sm,se,o] (hq.J he (by have:=J.lt;simp only[oF];omega)) ⟨E.1,E.2.1,E.2.2.1,E.2.2.2.1,E.2.2.2.2.1,O,E.2.2.2.2.2.1,E.2.2.2.2.2.2.1,E.2.2.2.2.2.2.2.1,Z⟩ λw7 hr hs=>Qb ?_
 have h4:=J.lt;have T:sW w3 w7:=((hp.D ha).Q he oa).Q hr oa;refine Qc<|Q9 O<|x (ZR (us:=[sa,sS N,sm,se]) hs O O O)<|Qa<|Q5 [sa,sS N,sm,se] ((G.I Y).I T) ⟨E.2.2.2.2.1,O,E.2.2.2.2.2.1,E.2.2.2.2.2.2.1,Z⟩ λw8 hf G=>Qb<|Qj ⟨[.agg #[sa,sS N,sm,se],sS (YQ c.C)],⟨JN G,O,Z⟩,((I.D Y).D T).Q hf oa,sa,sm,se,O,⟨E.2.2.2.2.1,E.2.2.2.2.2.1,E.2.2.2.2.2.2.1,Z⟩,hn,λe L hL=>?_⟩;have h1:=ho e (b2::L) (λb hb=>by
  simp only[oK]at hb;rcases hb with rfl|hb
  ·omega
  have:=hL b hb;omega)
 exact((h1.1.I T).st (hf.S od)).up (λb hb=>.inl (by simp[hb]))
section
variable {s:Qz}{l:List Uf}
end
section
variable {s:Qz}{l:List Uf}
end
section
variable {s:Qz}{l:List Uf}
end
section
variable {p s:Qz}{pairs:List (LI)}
end
section
variable {s:Qz}{l:List Uf}
end
section
variable {s:Qz}{l:List Uf}{nm:LI}
end
def cnF (ord:LI)(j:Nat)(e:Ed):Ed:=((j:Int),e.2.1,(ord.idxOf e.2.2:Int))
def cnR (a:Qz)(ord:LI)(j:Nat):List Ed:=(QM a.ed (ZZ ord j)).map (cnF ord j)
theorem QcY (h:j<l.length):ZZ (l++r) j=ZZ l j:=by unfold ZZ;rw[MK];exact y8 h
structure NuI (st:Int)(ord num:LI):Prop where
 nd:ord.Nodup
 bd:∀s∈ord,0<=s/\s<st
 nl:num.length=st.toNat
 nu:∀k,0<=k->k<st->ZZ num k=if k∈ord then(ord.idxOf k:Int) else -1
theorem Qd2 {st:Int}{c:Cs}(h:NuI st c.ord c.num){e:Ed}(U:0<=e.2.2)(V:e.2.2<st):NuI st (Zs i c e).ord (Zs i c e).num/\(∃r,(Zs i c e).ord=c.ord++r)/\(Zs i c e).mk'=c.mk'/\(Zs i c e).ed=c.ed++[cnF (Zs i c e).ord i e]/\e.2.2∈(Zs i c e).ord:=by
 have G:=h.nu e.2.2 U V;have ha:e.2.2.toNat<c.num.length:=by rw[h.nl];omega
 unfold Zs;by_cases I:e.2.2∈c.ord
 ·rw[OV I]at G;rw[OU (by rw[G];omega)];refine⟨h,⟨[],od⟩,rfl,?_,I⟩;simp only[cnF];rw[G]
 rw[OU I]at G;rw[OV (by rw[G];decide)];have Y:(c.ord++[e.2.2]).idxOf e.2.2=c.ord.length:=by rw[Ma,OU I];simp
 refine⟨⟨JF h.nd I,λs E=>?_,by simp[h.nl],λk k0 k1=>?_⟩,⟨[e.2.2],rfl⟩,rfl,?_,od⟩
 ·rcases Le.1 E with E|E
  ·exact h.bd s E
  simp only[oF]at E;subst E;exact⟨U,V⟩
 ·simp only[];by_cases ek:k=e.2.2
  ·subst ek;rw[OV od,Y];unfold ZZ;simp[oN,List.getElem?_set_self ha]
  have he:e.2.2.toNat≠k.toNat:=oa
  have e1:ZZ (c.num.set e.2.2.toNat c.ord.length) k=ZZ c.num k:=by unfold ZZ;simp[oN,List.getElem?_set_ne he]
  rw[e1,h.nu k k0 k1];by_cases J:k∈c.ord
  ·rw[OV J,OV (LG _ J),Ma,OV J]
  rw[OU J,OU (λhf=>by
   rcases Le.1 hf with T|T
   ·exact J T
   simp only[oF]at T;exact ek T)]
 simp only[cnF];rw[Y]
theorem zW {st:Int}{i:Nat}:∀(es:List Ed) (c:Cs),NuI st c.ord c.num->(∀e∈es,0<=e.2.2/\e.2.2<st)->NuI st (es.foldl (Zs i) c).ord (es.foldl (Zs i) c).num/\(∃r,(es.foldl (Zs i) c).ord=c.ord++r)/\(es.foldl (Zs i) c).mk'=c.mk' /\
  (es.foldl (Zs i) c).ed=c.ed++es.map (cnF (es.foldl (Zs i) c).ord i)/\∀e∈es,e.2.2∈(es.foldl (Zs i) c).ord
 | [],c,h,_=>⟨h,⟨[],od⟩,rfl,od,λe G=>by cases G⟩
 | e::es,c,h,hb=>by
  obtain⟨I,J⟩:=hb e Lh;obtain⟨T,⟨U,V⟩,Y,h4,E⟩:=Qd2 (i:=i) h I J;obtain⟨k1,⟨r2,k2⟩,k3,k4,k5⟩:=zW (i:=i) es (Zs i c e) T (λd hd=>hb d (Lj _ hd));rw[LQ];refine⟨k1,⟨U++r2,by rw[k2,V,LA]⟩,k3.D Y,?_,λd hd=>?_⟩
  ·rw[k4,h4,LA,LS];have:cnF (Zs i c e).ord i e=cnF (es.foldl (Zs i) (Zs i c e)).ord i e:=by
    unfold cnF;rw[k2,Ma,OV E]
   rw[this];rfl
  rcases Lk.1 hd with rfl|hd
  ·rw[k2];exact LG _ E
  exact k5 d hd
structure CnG (a:Qz)(i:Nat)(c:Cs):Prop where
 nu:NuI a.st c.ord c.num
 le:i<=c.ord.length
 hd:ZZ c.ord 0=0/\0<c.ord.length
 mk2:c.mk'=((oO 0 i).filter λj:Nat=>decide (ZZ c.ord j∈a.mr)).map λj:Nat=>(j:Int)
 ed:c.ed=(oO 0 i).flatMap (cnR a c.ord)
 cl:∀j,j<i->∀e∈QM a.ed (ZZ c.ord j),e.2.2∈c.ord
theorem QnC {ord:LI}(E:j<ord.length)(hc:∀e∈QM a.ed (ZZ ord j),e.2.2∈ord):cnR a (ord++r) j=cnR a ord j:=by
 unfold cnR;rw[QcY E];refine List.map_congr_left λe G=>?_;unfold cnF;rw[Ma,OV (hc e G)]
theorem CnG.next (V:QS a){c:Cs}(h:CnG a i c)(hi:i<c.ord.length):CnG a (i+1) (zb a i c):=by
 unfold zb;have J:(Ym a i c).ord=c.ord:=by unfold Ym;split <;> rfl
 have Y:(Ym a i c).num=c.num:=by unfold Ym;split <;> rfl
 have ha:(Ym a i c).ed=c.ed:=by unfold Ym;split <;> rfl
 obtain⟨k1,⟨r,k2⟩,k3,I,T⟩:=zW (st:=a.st) (i:=i) (QM a.ed (ZZ c.ord i)) (Ym a i c) (by rw[J,Y];exact h.nu) (λe he=>(V.ed e (Zt he).1).2.2.2);generalize (QM a.ed (ZZ c.ord i)).foldl (Zs i) (Ym a i c)=d at k1 k2 k3 I T;rw[J]at k2;rw[ha]at I;have pre:∀j:Nat,j<=i->ZZ d.ord j=ZZ c.ord j:=λj E=>by rw[k2];exact QcY oa
 refine⟨k1,by rw[k2];simp;omega,⟨by have:=pre 0 oa;rw[show((0:Nat):Int)=0 from rfl]at this;rw[this];exact h.hd.1,by rw[k2];simp;omega⟩,?_,?_,λj E=>?_⟩
 ·rw[k3,Mj,LT,Ly,LW];have e1:((oO 0 i).filter λj:Nat=>decide (ZZ d.ord j∈a.mr))=(oO 0 i).filter λj:Nat=>decide (ZZ c.ord j∈a.mr):=by
   refine NB λj E=>?_;rw[L8]at E;rw[pre j oa]
  rw[e1];unfold Ym;by_cases G:ZZ c.ord i∈a.mr
  ·rw[OV G];simp only[];rw[L4,OV (by rw[pre i (Lp _)];exact OY G),MP,h.mk2];rfl
  rw[OU G];rw[L4,OU (by rw[pre i (Lp _),O0 G];simp),MP,h.mk2];simp
 ·rw[I,Mj,LF,LW,h.ed];congr 1
  ·refine Y6 λj E=>?_;rw[L8]at E;rw[k2];exact(QnC oa (h.cl j oa)).symm
  simp only[oT,OJ,Oi];unfold cnR;rw[pre i (Lp _)]
 by_cases e:j=i
 ·subst e;rw[pre j (Lp _)];exact T
 intro d' U;rw[pre j oa]at U;rw[k2];exact LG _ (h.cl j oa d' U)
theorem qF {a:Qz}(G:QS a):∀(f i:Nat) (c:Cs),CnG a i c->∃E,CnG a E (Xg a f i c)/\((Xg a f i c).ord.length=E\/E=i+f)
 | 0,i,c,h=>⟨i,h,.inr O⟩
 | f+1,i,c,h=>by
  rw[Xg];split
  ·rename_i hi;obtain⟨E,I,J⟩:=qF G f (i+1) _ (h.next G hi);exact⟨E,I,oa⟩
  exact⟨i,h,.inl (oo h.le)⟩
structure CnP (a:Qz)(ord:LI):Prop where
 nd:ord.Nodup
 bd:∀s∈ord,0<=s/\s<a.st
 hd:ZZ ord 0=0/\0<ord.length
 al:(YG a).al=a.al
 st:(YG a).st=(ord.length:Int)
 mk2:(YG a).mr=((oO 0 ord.length).filter λj:Nat=>decide (ZZ ord j∈a.mr)).map λj:Nat=>(j:Int)
 ed:(YG a).ed=(oO 0 ord.length).flatMap (cnR a ord)
 cl:∀j,j<ord.length->∀e∈QM a.ed (ZZ ord j),e.2.2∈ord
theorem QhK (J:QS a)(h0:0<a.st):∃ord,CnP a ord:=by
 have T:0<a.st.toNat:=oa
 have hI:CnG a 0 (Z3 a):=by
  refine⟨⟨by simp[Z3],λs I=>by simp[Z3]at I;subst I;omega,by simp[Z3],λk k0 k1=>?_⟩,Lo _,⟨by simp[Z3,ZZ],by simp[Z3]⟩,by simp[Z3],by simp[Z3],λj hj=>oa⟩;by_cases ek:k=0
  ·subst ek;rw[OV (by simp[Z3])];unfold ZZ Z3;simp[oN,T]
  rw[OU (by simpa[Z3]using ek)];unfold Z3;have U:0≠k.toNat:=oa
  have V:k.toNat<a.st.toNat:=oa
  unfold ZZ;rw[MA,MW U];simp[V]
 obtain⟨Y,E,h2⟩:=qF J a.st.toNat 0 (Z3 a) hI;have ha:(Xg a a.st.toNat 0 (Z3 a)).ord.length<=a.st.toNat:=xI _ _ E.nu.nd (λx hx=>oo (E.nu.bd x hx));have hi':Y=(Xg a a.st.toNat 0 (Z3 a)).ord.length:=by have:=E.le;omega
 subst hi';have G:YG a=⟨a.al,((Xg a a.st.toNat 0 (Z3 a)).ord.length:Int),(Xg a a.st.toNat 0 (Z3 a)).mk',(Xg a a.st.toNat 0 (Z3 a)).ed⟩:=by unfold YG;rw[OU oa]
 refine⟨(Xg a a.st.toNat 0 (Z3 a)).ord,E.nu.nd,E.nu.bd,E.hd,by rw[G],by rw[G],?_,?_,E.cl⟩
 ·rw[G];exact E.mk2
 rw[G];exact E.ed
theorem QkC (es:List Ed)(s v:Int):xo es s v=xo (QM es s) s v:=by
 induction es with
 | nil=>rfl
 | cons e es ih =>
  unfold QM at *;rw[L4];by_cases h:e.1=s
  ·rw[OV (ou h),xo,xo,ih]
  rw[OU (ou h),xo,OU (λc=>h c.1),ih]
theorem QkD {ord:LI}(v:Int):xo (cnR a ord j) j v=(xo a.ed (ZZ ord j) v).map λu=>(ord.idxOf u:Int):=by
 rw[QkC a.ed];unfold cnR;have key:∀(l:List Ed),(∀e∈l,e.1=ZZ ord j)->xo (l.map (cnF ord j)) j v=(xo l (ZZ ord j) v).map λu=>(ord.idxOf u:Int):=by
  intro l;induction l with
  | nil=>intro _;rfl
  | cons e l ih =>
   intro hl;rw[LS,xo,xo];have G:=hl e Lh;by_cases E:e.2.1=v
   ·rw[OV ⟨rfl,E⟩,OV ⟨G,E⟩];rfl
   rw[OU (λc=>E c.2),OU (λc=>E c.2)];exact ih (λd hd=>hl d (Lj _ hd))
 exact key _ (λe G=>(Zt G).2)
theorem QeL {ord:LI}(h:j≠i)(v:Int):xo (cnR a ord j) i v=none:=by
 refine VB λe E G=>?_;unfold cnR at E;obtain⟨d,_,rfl⟩:=Lx.1 E;have:(j:Int)=i:=G.1;omega
theorem CnP.J {ord:LI}(h:CnP a ord)(G:j<ord.length)(v:Int):xo (YG a).ed j v=(xo a.ed (ZZ ord j) v).map λu=>(ord.idxOf u:Int):=by
 rw[h.ed];have key:∀n,j<n->xo ((oO 0 n).flatMap (cnR a ord)) j v=xo (cnR a ord j) j v:=by
  intro n;induction n with
  | zero=>intro h;omega
  | succ n ih =>
   intro T;rw[Mj,LF,LW,qR];simp only[oT,OJ,Oi];by_cases e:j=n
   ·subst e;have:xo ((oO 0 j).flatMap (cnR a ord)) j v=none:=VB λd hd I=>by
     obtain⟨k,J,E⟩:=Mc.1 hd;rw[L8]at J;unfold cnR at E;obtain⟨U,_,rfl⟩:=Lx.1 E;have:(k:Int)=j:=I.1;omega
    rw[this]
   rw[ih oa,QeL (Ne.symm e)];cases xo (cnR a ord j) j v <;> rfl
 rw[key _ G];exact QkD v
section
variable {p s:Qz}{pn xn v:Int}
end
section
variable {s:Qz}{l:List Uf}
end
theorem QhL (E:QS a):QS (YG a):=by
 have h0:=E.st0;have h1:=E.st1;by_cases Y:a.st=0
 ·unfold YG;rw[OV Y];exact⟨E.al,E.ali,od,od,od,od,od,od⟩
 obtain⟨ord,h⟩:=QhK E oa;have hl:ord.length<=a.st.toNat:=xI _ _ h.nd (λx hx=>oo (h.bd x hx));refine⟨by rw[h.al];exact E.al,by rw[h.al];exact E.ali,by rw[h.st];omega,by rw[h.st];omega,λs I=>?_,?_,λe T=>?_,?_⟩
 ·rw[h.mk2]at I;simp only[Om,Oj,Oh]at I;obtain⟨i,⟨hi,_⟩,rfl⟩:=I;rw[h.st];omega
 ·rw[h.mk2];unfold Ys;rw[L9];refine List.Pairwise.sublist MD ?_;exact(M8 (s:=0) (n:=ord.length)).imp (λh=>oa)
 ·rw[h.ed]at T;obtain⟨j,J,hd⟩:=Mc.1 T;rw[L8]at J;unfold cnR at hd;obtain⟨d,U,rfl⟩:=Lx.1 hd;have:=L7 (h.cl j oa d U);rw[h.st,h.al];unfold cnF;exact⟨oe,oe,((E.ed d (Zt U).1).2.2.1),oe,oe⟩
 rw[h.ed];have key:∀n,((oO 0 n).flatMap (cnR a ord)).Pairwise λx y:Ed=>x.1<y.1\/(x.1=y.1/\x.2.1<y.2.1):=by
  intro n;induction n with
  | zero=>simp
  | succ n ih =>
   rw[Mj,LF,LW,Mk];refine⟨ih,?_,λx hx y G=>?_⟩
   ·simp only[oT,OJ,Oi];unfold cnR;rw[L9];have h2:(QM a.ed (ZZ ord n)).Pairwise λx y:Ed=>x.1<y.1\/(x.1=y.1/\x.2.1<y.2.1):=List.Pairwise.sublist MD E.edi;refine List.Pairwise.imp_of_mem (λ{x y} hx G ha=>?_) h2;have e1:=(Zt hx).2;have e2:=(Zt G).2;right;exact⟨O,by show x.2.1<y.2.1;omega⟩
   obtain⟨j,J,V⟩:=Mc.1 hx;rw[L8]at J;simp only[oT,OJ,Oi]at G;unfold cnR at V G;obtain⟨d,_,rfl⟩:=Lx.1 V;obtain⟨d',_,rfl⟩:=Lx.1 G;left;show(j:Int)<(n:Int);omega
 exact key _
theorem Qhk (E:QS a):QS ⟨a.al,0,[],[]⟩:=
 ⟨E.al,E.ali,MC _,(by decide:(0:Int)<=4096),(λs G=>by cases G),List.Pairwise.nil,(λe I=>by cases I),List.Pairwise.nil⟩
theorem jK (E:QS a)(lf:Lf):QS (QaI a lf):=by
 unfold QaI;split
 ·exact Qhk E
 exact QhL (Kg E lf)
theorem K3 {c:ZS}(h:suE c=0):QS (X2 c):=jK (QiG h).1 _
theorem Ql1 {l:List Qz}(h:KC l=0):xp l=some (J7 l,syQ l)/\KT l=0:=by
 unfold KC at h;by_cases E:KT l≠0
 ·rw[OV E]at h;exact OX h E
 rw[OU E]at h;refine⟨?_,Lt.1 E⟩;unfold J7 syQ;cases G:xp l with
 | none=>rw[G]at h;cases h
 | some z=>rfl
theorem Qcf {κ:Type}[DecidableEq κ]{l:List κ}{s:κ}(h:s∉l):xj (l.map λs=>(s,Value.bool true)) s (.bool true)=(l++[s]).map λs=>(s,Value.bool true):=by
 induction l with
 | nil=>rfl
 | cons a l ih =>
  have E:a≠s:=λe=>h (by subst e;exact Lh);show(if a=s then(a,Value.bool true)::(l.map λs=>(s,Value.bool true)) else(a,Value.bool true)::xj (l.map λs=>(s,Value.bool true)) s (.bool true))=_
  rw[OU E,ih (λG=>h (Lj _ G))];rfl
theorem QiJ {κ:Type}[DecidableEq κ](l:List κ)(s:κ):xh (l.map λs=>(s,Value.bool true)) s=if s∈l then some (.bool true) else none:=by
 induction l with
 | nil=>rfl
 | cons a l ih =>
  show(if a=s then some (Value.bool true) else xh (l.map λs=>(s,Value.bool true)) s)=_
  rw[ih];by_cases h:a=s
  ·subst h;simp
  rw[OU h];have E:¬s=a:=λe=>h e.symm;simp[E]
section
variable {κ:Type}[DecidableEq κ]
theorem qh [hm:Mp P t kt et (.bool false)]{enc:κ->O3}[hk:Key P kt enc]{x:O4}{b:Nat}{l:List κ}{s:κ}(h:ZU enc ↑w b (l.map λs=>(s,Value.bool true)))(hx:ev f x=.map (some b))(E:ev f y=enc s):
  (execOp (ev f) ⟨d,.lookup t x y false,ty,pS,af,gd⟩).run P w=.ok (.value (.bool (decide (s∈l)))) w:=by
 rw[Jr h hx E,QiJ];by_cases G:s∈l <;> simp[G]
end
section
variable {κ:Type}{enc:κ->O3}
abbrev setM (K:List κ):List (κ×O3):=K.map λs=>(s,Value.bool true)
def XR (enc:κ->O3)(H:xC)(b:Nat)(l:List κ):Prop:=∃K:List κ,ZU enc H b (setM K)/\∀x,x∈K↔x∈l
theorem XR.lt {H:xC}{b:Nat}{l:List κ}(h:XR enc H b l):b<H.size:=let⟨_,E,_⟩:=h;E.lt
theorem XR.J {X:LN}{w w':O2}{b:Nat}{l:List κ}(h:XR enc ↑w b l)(E:O6 X w w')(hb:b∉X):XR enc ↑w' b l:=let⟨K,G,I⟩:=h;⟨K,G.J E hb,I⟩
theorem XR.I {b:Nat}{l:List κ}(h:XR enc ↑w b l)(E:sW w w'):XR enc ↑w' b l:=h.J E od
theorem XR.zero {H:xC}{b:Nat}(h:ZU enc H b []):XR enc H b []:=⟨[],h,λ_=>Iff.rfl⟩
theorem Qcg [DecidableEq κ]{k:κ}:∀{K:List κ},k∈K->xj (setM K) k (.bool true)=setM K
 | [],h=>by cases h
 | a::K,h=>by
  show(if a=k then(a,Value.bool true)::setM K else(a,Value.bool true)::xj (setM K) k (.bool true))=_
  by_cases e:a=k
  ·rw[OV e];rfl
  rw[OU e,Qcg ((Lk.1 h).resolve_left (λh=>e h.symm))];rfl
theorem XR.put [DecidableEq κ]{H:xC}{b:Nat}{l K:List κ}{k:κ}(h:ZU enc H b (xj (setM K) k (.bool true)))(G:∀x,x∈K↔x∈l):XR enc H b (l++[k]):=by
 by_cases E:k∈K
 ·rw[Qcg E]at h;refine⟨K,h,λx=>?_⟩;rw[Le,Lb,<-G x];exact⟨.inl,λhx=>hx.elim id λe=>e ▸ E⟩
 refine⟨K++[k],?_,λx=>by rw[Le,Le,G x]⟩;rw[Qcf E]at h;exact h
end
section
variable {κ:Type}[DecidableEq κ]{enc:κ->O3}{x:O4}{b:Nat}{l:List κ}{k:κ}
theorem QaR [hm:Mp P t kt et (.bool false)][hk:Key P kt enc](h:XR enc ↑w b l)(hx:ev f x=.map (some b))(E:ev f y=enc k):(execOp (ev f) ⟨d,.lookup t x y false,ty,pS,af,gd⟩).run P w=.ok (.value (.bool (decide (k∈l)))) w:=by
 obtain⟨K,G,I⟩:=h;rw[qh G hx E,bD (I k)]
theorem yi [hm:Mp P t kt et (.bool false)][hk:Key P kt enc]{v:O4}(h:XR enc ↑w b l)(hx:ev f x=.map (some b))(G:ev f y=enc k)(I:ev f v=.bool true)
  (hK:∀w',O6 [b] w w'->XR enc ↑w' b (l++[k])->K (QP f d undef) w'):XO P ⟨d,.mapUpdate t x y v,ty,pS,af,gd⟩ f w K:=by
 obtain⟨K,J,T⟩:=h;exact YR J hx G λw' U E=>hK w' U (XR.put (by rw[I]at E;exact E) T)
theorem Qa4 [hm:Mp P t kt et (.bool false)][hk:Key P kt enc]{v:O4}(h:XR enc ↑w b l)(hx:ev f x=.map (some b))(G:ev f y=enc k)(I:ev f v=.bool true)
  (hK:∀w',O6 [b] w w'->XR enc ↑w' b (l++[k])->K (QP f d undef) w'):XO P ⟨d,.insert t x y v,ty,pS,af,gd⟩ f w K:=by
 obtain⟨K,J,T⟩:=h;exact Yu J hx G λw' U E=>hK w' U (XR.put (by rw[I]at E;exact E) T)
end
instance ayYv1:Ay sV 156 2 3 1:=⟨oc,oc⟩
def qE:List Qz->Int
 | []=>0
 | a::l=>if Jc a≠0 then Jc a else qE l
def Qk3 (kd:Int)(l:List Qz):Int:=if qE l≠0 then qE l else if kd≠1/\kd≠2 then 11 else 0
theorem QrE (a b:Qz)(kd:Int):Qk3 kd [a,b]=lgE a b kd:=by
 unfold Qk3 lgE qE;by_cases E:Jc a≠0
 ·simp only[OV E]
 rw[OU E,OU E];unfold qE;by_cases G:Jc b≠0
 ·simp only[OV G]
 rw[OU G,OU G];unfold qE;simp
theorem Qeo {v:O3}{ps:List AV}(h0:X7 L ↑w v ps)(kd:Int):
  QU sV 68 [sS kd,v] w λr w'=>r=sS (Qk3 kd (ps.map (·.a)))/\sW w w':=by
 have h:=h0.up (L':=[]) od;have h2:=h.arr.le;have G:Qk3 kd (ps.map (·.a))=if qE (ps.map (·.a))≠0 then qE (ps.map (·.a)) else if kd≠1/\kd≠2 then 11 else 0:=rfl
 refine Zd (Qk3 kd (ps.map (·.a))) λE hE=>?_;rw[hE]at G ⊢;refine Zm func68 ?_;refine Qc<|Qb<|Qd<|Ql<|QG h.arr O<|Qa<|xe<|QX (α:=Nat) [(4,4),(6,7),(10,19)] (λz=>[(10,sS z)]) (λz w'=>z<=ps.length/\sW w w'/\qE ((ps.drop z).map (·.a))=qE (ps.map (·.a))) (λz=>ps.length - z) 0 La ⟨Lo _,O6.Y _ _,O⟩ ?_;rintro k g w1 ⟨hk,I,hk1⟩;refine Zk rfl O (λV=>?_) (λV=>?_)
 ·refine Qt ?_;have hn:ps.length<=k:=by have ho:¬(k:Int)<(ps.length:Int):=V;omega
  rw[Lu hn]at hk1;have hz:qE (ps.map (·.a))=0:=hk1.symm;rw[OU (ou hz)]at G;refine Qd<|QW (α:=Bool) [(20,25)] (λz=>[(25,.bool z)]) (λz w'=>w'=w1/\z=decide (kd≠1/\kd≠2)) oh ?_ ?_
  ·refine Qr<|Qa<|xb (Jd O O) (λY=>?_) (λY=>?_)
   ·refine Qa<|Qa<|ZN O O<|QC O<|xe ?_;have ha:¬kd=1:=Y;exact⟨decide (¬kd=2),La,O,by simp[ha]⟩
   refine Qa<|YP<|QC O<|xe ?_;have ha:kd=1:=Lt.1 Y;exact⟨false,La,O,by simp[ha]⟩
  rintro z g w2 ⟨rfl,hf⟩;refine Q6 O (λhe=>?_) (λhe=>?_)
  ·rw[OV (OZ (hf.symm.D he))]at G;subst G;refine Qc<|Qb<|Qj ⟨[_],La,O,I⟩
  rw[OU (O1 (hf.symm.D he))]at G;subst G;refine Qf<|Qc<|Qb<|Qj ⟨[_],La,O,I⟩
 have J:k<ps.length:=by have ho:(k:Int)<(ps.length:Int):=V;omega
 have hg:=Lm J;rw[Me J,LS,qE]at hk1;refine Qf<|Qd<|Qn<|Qc<|O9 (g:=ZJ) (i:=k) V6 (h.I I).arr O O J λh3 hh=>?_;refine Zd (ps[k]'J) λq hq=>?_;rw[hq]at hh hg hk1;have T:=(h.I I).each q hg;refine x (QF hh O O)<|QT [nS,sS 0,nS,nS] λb6 w3 hp hs hu=>Q5 (ZJ q) hu ⟨T.al.one,O,T.mr.one,T.ed.one,Z⟩ λw4 hv hw =>
  xe ?_
 have hj:sW w1 w4:=hp.Q hv hs;refine Qc<|Q3 hw O O<|Qw<|(Y8 (T.I hj)).S ?_;rintro r5 w5 ⟨rfl,hy⟩;refine Qb ?_;have hm:=(I.D hj).D hy;refine Ql<|ZN O O<|xe<|Zg rfl (λU=>?_) (λU=>?_)
 ·rw[OV U]at hk1;have h1:qE (ps.map (·.a))≠0:=by rw[<-hk1];exact U
  rw[OV h1,<-hk1]at G;subst G;refine Ql<|Qb<|Qj ⟨[_],La,O,hm⟩
 rw[OU U]at hk1;refine Qf<|Qr<|QB O O<|Qa<|xe ?_;exact⟨k+1,oa,La,J,hm,hk1⟩
abbrev stI (l:LI):List (Int×O3):=l.map λs=>(s,Value.bool true)
structure Mch (H:xC)(b m1 m2:Nat)(a:Qz):Prop where
 B:QK H b 251 [.map (some m1),.map (some m2),sS (fst a)]
 e:ZU Yp H m1 (KS [] a.ed)
 m:ZU XJ H m2 (stI a.mr)
theorem Mch.J {X:LN}{w w':O2}{b E G:Nat}{a:Qz}(h:Mch ↑w b E G a)(I:O6 X w w')(J:b∉X)(T:E∉X)(U:G∉X):Mch ↑w' b E G a:=⟨h.B.J I J,h.e.J I T,h.m.J I U⟩
theorem Mch.I {b:Nat}(h:Mch ↑w b E G a)(I:sW w w'):Mch ↑w' b E G a:=h.J I od od od
theorem j9 {b I J:Nat}(h:Mch ↑w b I J a)(T:QS a)(s v:Int):
  QU sV 145 [sP b,sS s,sS v] w λr w'=>r=sS (nxt a.ed s v)/\sW w w':=by
 have E:nxt a.ed s v=(if(xo a.ed s v).isSome=true then(xo a.ed s v).getD 0 else -1):=by rw[K8];cases xo a.ed s v <;> rfl
 refine Zm func145 ?_;refine Qc<|Qb<|Qd<|Ql<|Z7 O<|Qs O h.B O O<|Qa<|Qa<|x (QD ⟨O,O,Z⟩)<|x (Qmf (s:=a) (q:=s) (v:=v) h.e T.edi O O) <|
  Qa<|QO rfl O<|QO O O<|x Qe<|Qb<|Ql<|xe ?_
 refine Zg rfl (λG=>?_) (λG=>?_)
 ·rw[OV G]at E;refine Ql<|Qb<|Qj ⟨[_],La,by rw[E];rfl,O6.Y _ _⟩
 rw[OU G]at E;refine Qf<|Qc<|Qb<|Qj ⟨[_],La,by rw[E];rfl,O6.Y _ _⟩
theorem Qga {b:Nat}(h:Mch ↑w b T U a)(s kd:Int):
  QU sV 73 [sP b,sS s,sS kd] w λr w'=>r=.bool (yn a kd s)/\sW w w':=by
 refine Zm func73 ?_;refine Qc<|Qb<|QW (α:=Bool) [(6,20)] (λz=>[(6,.bool z)]) (λz w'=>w'=w/\z=yn a kd s) oh ?_ ?_
 ·refine Qr<|Qa<|xb (Yf O O) (λE=>?_) (λE=>?_)
  ·have G:0<=s:=E;refine Qa<|Qa<|xb (Zc O O) (λI=>?_) (λI=>?_)
   ·refine Qa<|ZA<|ZA<|QC O<|QC O<|Qb ?_;have J:kd=1:=I;exact⟨true,La,O,by simp[yn,G,J]⟩
   have J:¬kd=1:=I;refine Qa<|Qa<|Z7 O<|Qs O h.B O O<|Qa<|x (qh (s:=s) h.m O O)<|QC O<|x (VV O) <|
    Qb<|⟨decide (s∈a.mr),La,O,by simp[yn,G,J]⟩
  have G:¬0<=s:=E;refine Qa<|ZA<|ZA<|ZA<|Kd<|QC O<|x Qe <|
   xe ?_
  exact⟨false,La,O,by simp[yn];omega⟩
 rintro z g V ⟨rfl,rfl⟩;exact Qj ⟨[_],La,O,O6.Y _ _⟩
theorem QjN {b10 J b11 hf hg hh hj:Nat}{b:Qz}{kd:Int}(hk:QK ↑w b10 152 [sP T])(hm:QK ↑w b11 152 [sP U])
  (V:QK ↑w J 3 [sS kd]) (ha:Mch ↑w T hf hg a) (hb:Mch ↑w U hh hj b) (s t:Int):
  QU sV 72 [.agg #[sS s,sS t],sP b10,sP J,sP b11] w λr w'=>r=.bool (!(yn a kd s == yn b kd t))/\sW w w':=by
 refine Zm func72 ?_;refine Qc<|Zf [sS s,sS t] λb4 I E hn Y=>Qb ?_;have hd:sW I { I with drawn:=I.drawn+1 }:=O6.X _ _
 refine Qd<|ZK [] [oz 0,oz 1,oz 2,oz 3,oz 5,oz 6,oz 7,oz 8,oA 4,oA 9,oz 10,oz 11]<|pq (λ_ hc=>Qk ((hk.I E).I hc) O O)<|p (λ_=>ZV (i:=0) O O og)<|pq (λ_ hc=>Qk (Y.I hc) O O)<|pq (λ_ hc=>Qk ((V.I E).I hc) O O)<|pq (λ_ hc=>Qk ((hm.I E).I hc) O O) <|
  p (λ_=>ZV (i:=1) O O og)<|pq (λ_ hc=>Qk (Y.I hc) O O)<|pq (λ_ hc=>Qk ((V.I E).I hc) O O)<|pk<|xg<|(Qga ((ha.I E).I hd) s kd).S ?_
 rintro r2 w2 ⟨rfl,G⟩;refine⟨hd.D G,?_⟩;refine pk<|xg<|(Qga (((hb.I E).I hd).I G) t kd).S ?_;rintro r3 w3 ⟨rfl,he⟩;refine⟨(hd.D G).D he,?_⟩;refine p (λ_=>Qd7 O O)<|p ZI<|pe ?_;exact Qj ⟨[_],La,O,((E.D hd).D G).D he⟩
theorem Qaa (h:Zr [] ↑w va vm ve a)(ho:QS a):
  QU sV 69 [.agg #[va,sS a.st,vm,ve]] w λr w'=>sW w w'/\∃b E G,r=sP b/\↑w<=b/\↑w<=E/\↑w<=G/\Mch ↑w' b E G a:=by
 have gr:=h.ed.le;have gs:=h.mr.le;refine Zm func69 ?_;refine Qc<|Zf [va,sS a.st,vm,ve] λb1 w1 h3 gt h4=>Qb<|Qc<|Qo<|Z1 Yp λE w2 hN gu h5=>Qo<|Z1 XJ λG w3 h9 gv hB=>x (QD ⟨O,O,O,Z⟩)<|Zf [.map (some E),.map (some G),sS 0] λb11 J ha gx hC =>
  Qb ?_
 have gy:=h5.lt;have gz:=hB.lt;have hg:=(hN.D h9).D ha;have hh:=h4.I hg;have g0:=h4.lt;have hO:ZU Yp ↑J E []:=((h5.J h9 od).J ha od);have hP:ZU XJ ↑J G []:=hB.J ha od;have hn:∀{b:Nat},b∈[b11,E,G]->↑w1<=b:=λhb=>by simp only[oK,oH,or_false]at hb;omega
 have hD:b1∉[b11,E,G]:=λhb=>oo (hn hb)
 have hQ:∀b∈[b11,E,G],↑w<=b:=λb hb=>oo (hn hb)
 have hA:∀{w':O2},O6 [b11,E,G] J w'->Zr [] ↑w' va vm ve a:=λhs =>
  ((((h.I h3).up (L':=[b11,E,G]) (λb hb=>.inr (hn hb))).I hg).st hs).up od
 have hR:∀b∈[b11],b∈[b11,E,G]:=λb hb=>by simp only[oF]at hb;simp[hb]
 have k1:∀b∈[E],b∈[b11,E,G]:=λb hb=>by simp only[oF]at hb;simp[hb]
 have k2:∀b∈[G],b∈[b11,E,G]:=λb hb=>by simp only[oF]at hb;simp[hb]
 refine QW (α:=Unit) [(12,17)] (λz=>[]) (λz w'=>O6 [b11] J w'/\QK ↑w' b11 251 [.map (some E),.map (some G),sS (fst a)]) oh ?_ ?_
 ·refine Qc<|Qs O hh O O<|x (Zc O O)<|xe<|Zg O (λhp=>?_) (λhp=>?_)
  ·have hf:fst a=-1:=by unfold fst;rw[OV hp]
   refine Qr<|Qa<|Z7 O<|Q9 O<|Qo<|Qv (j:=2) (u:=sS (-1)) hC O O od rfl λw5 hS hT=>xe ?_;exact⟨(),Z,hS,by rw[hf];exact hT⟩
  have hf:fst a=0:=by unfold fst;rw[OU hp]
  refine Qf ?_;exact⟨(),Z,O6.Y _ _,by rw[hf];exact hC⟩
 rintro z g w6 ⟨hq,hU⟩;have hr:=hq.S hR;have hV:ZU Yp ↑w6 E []:=hO.J hq ol;have hW:ZU XJ ↑w6 G []:=hP.J hq ol;have hX:=hh.J hr hD;have h6:=hA hr;refine Qd<|Qc<|Qs O hX O O<|QG h6.ed O<|Qa<|xe<|QX (α:=Nat) [(5,5),(21,36)] (λz=>[(21,sS z)]) (λz w'=>z<=a.ed.length/\O6 [E] w6 w'/\ZU Yp ↑w' E (KS [] (a.ed.take z))) (λz=>a.ed.length - z) 0 La
  ⟨Lo _,O6.Y _ _,hV⟩ ?_
 rintro k g w7 ⟨hk,T,hu⟩;have hv:O6 [b11,E,G] J w7:=hr.V (T.S k1);have h7:=hA hv;have hE:=hU.J T ol;have hY:=hW.J T ol;have hZ:=hh.J hv hD;refine Zk rfl O (λhw=>?_) (λhw=>?_)
 ·refine Qt ?_;have ga:a.ed.length<=k:=by have hy:¬(k:Int)<(a.ed.length:Int):=hw;omega
  rw[Lr ga]at hu;refine Qd<|Qc<|Qs O hZ O O<|QG h7.mr O<|Qa<|xe<|QX (α:=Nat) [(7,7),(40,49)] (λz=>[(40,sS z)]) (λz w'=>z<=a.mr.length/\O6 [G] w7 w'/\ZU XJ ↑w' G (stI (a.mr.take z))) (λz=>a.mr.length - z) 0 La
   ⟨Lo _,O6.Y _ _,hY⟩ ?_
  rintro j g w8 ⟨hj,U,hz⟩;have hF:O6 [b11,E,G] J w8:=hv.V (U.S k2);have h8:=hA hF;have hG:=hE.J U ol;have gb:=hu.J U ol;refine Zk O O (λh0=>?_) (λh0=>?_)
  ·refine Qt ?_;have gc:a.mr.length<=j:=by have hy:¬(j:Int)<(a.mr.length:Int):=h0;omega
   rw[Lr gc]at hz;refine Ql<|Qb<|Qj ⟨[sP b11],La,(h3.D hg).O hF (λb hb=>.inr (hQ b hb)),b11,E,G,O,oa,oa,oa,hG,gb,hz⟩
  have I:j<a.mr.length:=by have hy:(j:Int)<(a.mr.length:Int):=h0;omega
  have hH:a.mr.take (j+1)=a.mr.take j++[a.mr[j]'I]:=Ll I;have hI:(a.mr[j]'I)∉a.mr.take j:=by
   intro hm;obtain⟨i,hi,e⟩:=LR hm;rw[M9]at e;have hi':i<j:=by rw[LC]at hi;omega
   have:=Ys.get ho.mri I hi';omega
  refine Qf<|Qd<|Qn<|Qc<|xii (i:=j) h8.mr O O I λg2 hJ=>?_;refine Zd (a.mr[j]'I) λs hs=>?_;rw[hs]at hJ hH hI;refine x (Qq hJ O)<|Qb<|Qr<|Qa<|Z7 O<|Qs O hG O O<|Qa<|Qo<|YR (k:=s) hz O O λw9 ge gg=>xe ?_;refine Qr<|QB O O<|Qa<|xe<|⟨j+1,oa,La,I,U.V ge,?_⟩;rw[hH];have hK:ZU XJ ↑w9 G (xj ((a.mr.take j).map λs=>(s,Value.bool true)) s (.bool true)):=gg;rw[Qcf hI]at hK;exact hK
 have V:k<a.ed.length:=by have hy:(k:Int)<(a.ed.length:Int):=hw;omega
 have hL:=yP (m:=[]) V;refine Qf<|Qd<|Qn<|Qc<|xie (i:=k) h7.ed O O V λg3 hM=>?_;refine Zd (a.ed[k]'V) λe he=>?_;rw[he]at hM hL;refine x (QF hM O O)<|QT [sS 0,sS 0,sS 0] λb5 g4 gh gi gj=>Q5 (Qp e) gj ox λY gk h1 =>
  xe ?_
 have h2:sW w7 Y:=gh.Q gk gi;have gl:=hE.I h2;have gm:ZU Yp ↑Y E (KS [] (a.ed.take k)):=hu.J h2 od;refine ZK [] (Xj 0 12 [11])<|p Qy<|p (YN O)<|p (QH O)<|pq (λ_ hc=>Qk (gl.I hc) O O) <|
  p (QH rfl)<|pq (λ_ hc=>Qk (h1.I hc) O O)<|p (QH O)<|pq (λ_ hc=>Qk (h1.I hc) O O) <|
  p (λ_=>QD ⟨O,O,Z⟩)<|p (QH O)<|pq (λ_ hc=>Qk (h1.I hc) O O)<|pkk<|YR (k:=(e.1,e.2.1)) (gm.J (O6.X [] Y) od) rfl rfl λg5 gn gq =>
  pe ?_
 refine Qr<|QB O O<|Qa<|xe<|⟨k+1,oa,La,V,((T.D h2).D (O6.X [] Y)).V gn,?_⟩;rw[hL];exact gq
section
variable {all:xE}
def QqT (all:xE)(pre:xu)(k:Nat)(t:Pt):Bool :=
 Region.noSelect all.toArray && (pre.length+(t.len+1) == all.length) && Jh all.toArray pre (oP all.length false) && (Region.ready .any all.toArray (ZT pre (oP all.length false)) == [k]) && Qi1 all.toArray t ((ZT pre (oP all.length false)).setIfInBounds k true)
theorem QnY {Q:Exit->Fr->O2->Prop}(C:xA)(pre:xu)(k:Nat)(t:Pt)(Y:P.follows .mixedOrders=true)(hn:Xx n all=true)(T:QqT all pre k t=true)
  (hC:C { w with drawn:=w.drawn+1 }) (h:XP P all C (λf1 E=>Z9 all f1 (QR all k)=true/\XO P (QR all k) f1 E λG w'=>C w'/\XT P all C (λf w=>Q .normal f w) t G w') pre f { w with drawn:=w.drawn+1 }):W P n (.region id all.toArray true) Q f w:=by
 simp only[QqT,oI,beq_iff_eq]at T;obtain⟨⟨⟨⟨U,hl⟩,hq⟩,I⟩,ht⟩:=T;refine JJ C Y hn ?_;have V:=YI (K:=λf w=>Q .normal f w) (m:=t.len+1) U pre (oP all.length false) f _ hC hq
  (B:=λf1 E=>Z9 all f1 (QR all k)=true/\XO P (QR all k) f1 E λG w'=>C w'/\XT P all C (λf w=>Q .normal f w) t G w')
  (λf1 J=>by
   refine J2 (λh0=>(by rw[h0]at I;cases I)) ?_;rw[I];intro j hj o ho;have ha:j=k:=by simpa using hj
   subst ha;rw[ZG ho]at J;rw[J.1,cond_true];exact J.2.S λv w' hx=>⟨.inr (.inr hx.1),V7 U t _ _ _ (by simp[YM]) hx.1 ht hx.2⟩) h
 rw[hl]at V;exact V
end
theorem At.sub {H:xC}{a:Addr}(h:At L H a us)(n:Nat):At L H a (us.take n):=
 ⟨λu E=>h.out u (L2 E),λu E=>h.lt u (L2 E),λj u E=>by
  rw[LZ]at E;split at E
  ·exact h.cell j u E
  cases E⟩
abbrev YJ (p:Vs):LV:=[sS p.x,sS p.y,sS p.b,sS p.v]
theorem zQ (p:Vs):(YJ p).length=4:=rfl
theorem Qjx:∀(es:List Ed) (s v:Int),(∀e∈es,0<=e.2.2)->-1<=nxt es s v
 | [],_,_,_=>MC _
 | e::es,s,v,h=>by
  rw[nxt];split
  ·have:=h e Lh;omega
  exact Qjx es s v (λx hx=>h x (Lj _ hx))
theorem Qjt (E:QS a)(s v:Int):-1<=nxt a.ed s v/\(nxt a.ed s v<a.st\/nxt a.ed s v=-1):=by
 have G:=Qjx a.ed s v (λe I=>(E.ed e I).2.2.2.1);refine⟨G,?_⟩;by_cases h:nxt a.ed s v<0
 ·right;omega
 left;exact Qjv E h
structure VsI (a b:Qz)(V:List Vs):Prop where
 nd:(V.map Vs.ky).Nodup
 rg:∀p∈V,-1<=p.x/\(p.x<a.st\/p.x=-1)/\-1<=p.y/\(p.y<b.st\/p.y=-1)
 bk:∀(k:Nat) (h:k<V.length),V[k].b<(k:Int)
def cdV (m:Nat)(p:Int×Int):Int:=(p.1+1)*(m+1)+(p.2+1)
theorem Qp7 {x y:Int}(hx:-1<=x/\(x<n\/x=-1))(J:-1<=y/\(y<m\/y=-1)):0<=cdV m (x,y)/\cdV m (x,y)<(((n+1)*(m+1):Nat):Int):=by
 unfold cdV;obtain⟨u,E⟩:∃u:Nat,x+1=u:=⟨(x+1).toNat,oa⟩;obtain⟨v,G⟩:∃v:Nat,y+1=v:=⟨(y+1).toNat,oa⟩;have I:u<=n:=oa
 have T:v<=m:=oa
 show 0<=(x+1)*((m:Int)+1)+(y+1)/\(x+1)*((m:Int)+1)+(y+1)<_;rw[E,G];have U:u*(m+1)+v<(n+1)*(m+1):=by
  have V:u*(m+1)<=n*(m+1):=MT _ I;have Y:(n+1)*(m+1)=n*(m+1)+(m+1):=by rw[ME,NM]
  omega
 have e:((u:Int)*((m:Int)+1)+(v:Int))=((u*(m+1)+v:Nat):Int):=by push_cast;rfl
 rw[e];constructor <;> omega
theorem QnJ {x y G E:Int}(hx:-1<=x)(hf:-1<=G)(hy:-1<=y/\(y<m\/y=-1))(hg:-1<=E/\(E<m\/E=-1))(h:cdV m (x,y)=cdV m (G,E)):(x,y)=(G,E):=by
 unfold cdV at h;have J:(x+1)*((m:Int)+1)+(y+1)=(G+1)*((m:Int)+1)+(E+1):=h;obtain⟨u,T⟩:∃u:Nat,x+1=u:=⟨(x+1).toNat,oa⟩;obtain⟨I,U⟩:∃I:Nat,G+1=I:=⟨(G+1).toNat,oa⟩;obtain⟨v,V⟩:∃v:Nat,y+1=v:=⟨(y+1).toNat,oa⟩;obtain⟨v',Y⟩:∃v':Nat,E+1=v':=⟨(E+1).toNat,oa⟩;rw[T,U,V,Y]at J;have h1:u*(m+1)+v=I*(m+1)+v':=by exact_mod_cast J
 have ha:v<m+1:=oa
 have he:v'<m+1:=oa
 have e1:u=I:=by
  have a1:(u*(m+1)+v) / (m+1)=u:=by rw[Nat.mul_comm,Nat.mul_add_div oa,Nat.div_eq_of_lt ha,M1]
  have a2:(I*(m+1)+v') / (m+1)=I:=by rw[Nat.mul_comm,Nat.mul_add_div oa,Nat.div_eq_of_lt he,M1]
  rw[<-a1,<-a2,h1]
 subst e1;have:x=G/\y=E:=⟨oa,oa⟩;rw[this.1,this.2]
theorem VsI.len {b:Qz}(I:QS a)(hb:QS b){V:List Vs}(h:VsI a b V):V.length<=(a.st.toNat+1)*(b.st.toNat+1):=by
 have hg:=I.st0;have hh:=hb.st0;have J:=xI ((a.st.toNat+1)*(b.st.toNat+1)) ((V.map Vs.ky).map (cdV b.st.toNat)) (by
  unfold List.Nodup;rw[L9];refine(List.Pairwise.imp_of_mem ?_ h.nd);intro p q G T U e;obtain⟨Y,he,rfl⟩:=Lx.1 G;obtain⟨q',hf,rfl⟩:=Lx.1 T;have E:=h.rg Y he;have r2:=h.rg q' hf;exact U (QnJ E.1 r2.1 ⟨E.2.2.1,oa⟩ ⟨r2.2.2.1,oa⟩ e)) (λx hx=>by
  obtain⟨k,hk,rfl⟩:=Lx.1 hx;obtain⟨p,G,rfl⟩:=Lx.1 hk;have E:=h.rg p G;exact Qp7 ⟨E.1,oa⟩ ⟨E.2.2.1,oa⟩)
 simpa using J
theorem QpG {V W:List Vs}(h:i<V.length):gV (V++W) i=gV V i:=by unfold gV;simp[oN,Oa h]
theorem QeB {V:List Vs}(h:i<V.length):gV V i=V[i]'h:=by unfold gV;simp[oN,h]
theorem Qkg (E:QS a):-1<=fst a/\(fst a<a.st\/fst a=-1):=by
 have:=E.st0;unfold fst;split
 ·exact⟨oa,.inr O⟩
 exact⟨oa,.inl oa⟩
theorem VsI.one {b:Qz}(J:QS a)(hb:QS b):VsI a b [⟨fst a,fst b,-1,0⟩]:=by
 have E:=Qkg J;have G:=Qkg hb;refine⟨od,λp I=>?_,λk h=>?_⟩
 ·simp only[oF]at I;subst I;exact⟨E.1,E.2,G.1,G.2⟩
 have T:k=0:=by simpa using h
 subst T;exact(by decide:(-1:Int)<0)
theorem VsI.add {b:Qz}(J:QS a)(hb:QS b){V:List Vs}(h:VsI a b V)(hi:i<V.length){p:Vs}{v:Int}(T:(lgN a b i p v).ky∉V.map Vs.ky):VsI a b (V++[lgN a b i p v]):=by
 refine⟨?_,λq E=>?_,λk Y=>?_⟩
 ·rw[Ly,Mf];refine⟨h.nd,od,λx hx y G e=>?_⟩;simp only[oS,OC,oF]at G;subst G;subst e;exact T hx
 ·rcases Le.1 E with E|E
  ·exact h.rg q E
  simp only[oF]at E;subst E;have I:=Qjt J p.x v;have r2:=Qjt hb p.y v;exact⟨I.1,I.2,r2.1,r2.2⟩
 rw[List.getElem_append];split
 ·rename_i U;exact h.bk k U
 have:V.length<=k:=oa
 simp only[List.getElem_singleton,lgN];omega
theorem QjM (V:List Vs)(f k:Nat):lgW V (f+1) k=if 0<=(gV V k).b then(gV V k).v::lgW V f (gV V k).b.toNat else[]:=rfl
instance:Bw sV 253 [sS 0,sS 0,sS 0,sS 0] [(0,2),(2,1),(3,1)]:={}
abbrev VsO (base:Nat)(w:O2)(v:O3)(l:List Vs):Prop:=w.ownsRow base 253 4 v l.length (l.flatMap YJ)
theorem VsO.snoc {v:O3}{l:List Vs}{p:Vs}(h:w.ownsRow base 253 4 v (l.length+1) (l.flatMap YJ++YJ p)):VsO base w v (l++[p]):=by
 unfold VsO;rw[Lc,LF];simpa using h
theorem Vu {p:Prop}{i:Decidable p}(h:(!@decide p i)=true):¬p:=by
 cases i with
 | isTrue E=>cases h
 | isFalse E=>exact E
theorem Km {p:Prop}{i:Decidable p}(h:(!@decide p i)=false):p:=by
 cases i with
 | isTrue E=>exact E
 | isFalse E=>cases h
structure QaA (H:xC)(m:Nat)(V:List Vs):Prop where
 h:∃K:xx,ZU Yp H m (setM K)/\∀k,k∈K↔k=(-1,-1)\/k∈V.map Vs.ky
theorem K4 {H:xC}{K:xx}{k:Int×Int}(h:ZU Yp H m (xj (setM K) k (.bool true))):∃K',ZU Yp H m (setM K')/\∀x,x∈K'↔x=k\/x∈K :=
 let⟨K',a,b⟩:=XR.put h (λ_=>Iff.rfl)
 ⟨K',a,λx=>(b x).D (by rw[Le,Lb];exact Or.comm)⟩
theorem QaA.I {V:List Vs}(h:QaA ↑w m V)(E:sW w w'):QaA ↑w' m V:=let⟨K,G,I⟩:=h.h;⟨K,G.J E od,I⟩
theorem Qac (a b:Qz)(i:Nat)(p:Vs)(V:List Vs)(v:Int):((lgN a b i p v).ky≠(-1,-1)/\(lgN a b i p v).ky∉V.map Vs.ky/\lgA a b i p V v=V++[lgN a b i p v])\/(((lgN a b i p v).ky=(-1,-1)\/(lgN a b i p v).ky∈V.map Vs.ky)/\lgA a b i p V v=V):=by
 unfold lgA;by_cases h:(lgN a b i p v).ky≠(-1,-1)/\(lgN a b i p v).ky∉V.map Vs.ky
 ·exact .inl ⟨h.1,h.2,OV h⟩
 refine .inr ⟨?_,OU h⟩;by_cases E:(lgN a b i p v).ky=(-1,-1)
 ·exact .inl E
 exact .inr (Lt.1 λG=>h ⟨E,G⟩)
theorem Qg2 {vl:O3}{al:LI}{ke mt mu kf mv mw:Nat}{b:Qz}{kd:Int}[Fu sV g fn](hU:Qu [] ↑w vl al)(kg:Mch ↑w ke mt mu a)(kh:Mch ↑w kf mv mw b)(hp:QS a)(hq:QS b)
  (hk:∀(s t:Int) (w1:O2),sW w w1->QU sV g ([.agg #[sS s,sS t]]++cap) w1 λr w'=>r=.bool (!(yn a kd s == yn b kd t))/\sW w1 w'):
  QU sV 70 [vl,sP ke,sP kf,.func (.func g) #[] cap.toArray] w λr w'=>sW w w' /\
   match lgL a b kd al ((a.st.toNat+1)*(b.st.toNat+1)+1) 0 [⟨fst a,fst b,-1,0⟩]with|none=>r=.tuple #[Zq,.bool false]|some u=>∃v,r=.tuple #[v,.bool true]/\Qh 3 ↑w w' v u:=by
 have hall:=hU.le;have ha1:=hp.st1;have hb1:=hq.st1;have my:(a.st.toNat+1)*(b.st.toNat+1)<=4097*4097:=Nc oa oa;refine Zd ((a.st.toNat+1)*(b.st.toNat+1)) λN hN=>?_;rw[hN]at my ⊢;refine Zd (lgL a b kd al (N+1) 0 [⟨fst a,fst b,-1,0⟩]) λR hR=>?_;rw[hR];refine Zm func70 ?_;refine Qc<|x Qe<|Qb<|Qd<|ZK [] (Xj 0 11 [9,10])<|p Qy<|p (YN O)<|p (QH O)<|pq (λ_ hc=>Qk (kg.B.I hc) O O)<|p Qy<|p (YN O) <|
  p (QH rfl)<|pq (λ_ hc=>Qk (kh.B.I hc) O O)<|p (λ_=>QD ⟨O,O,Z⟩)<|pk<|YW (us:=[sS 0,sS 0]) O λb10 w1 ki mz m0=>⟨(O6.X [] w).D ki,?_⟩
 refine pkk<|qo [sS (fst a),sS (fst b)] m0 ov λw2 m1 hV=>pe ?_;have m2:↑w<=b10:=mz;have m3:sW w w2:=((O6.X [] w).D ki).Q m1 m2;have hl10:=hV.lt;refine Qc<|Q3 hV O O<|x (ZB [(0,[sS (fst a),sS (fst b)]),(1,[sS (-1)]),(2,[sS 0])] ⟨O,O,O,O,O,O,Z⟩)<|Qo<|Q8 [YJ ⟨fst a,fst b,-1,0⟩] λhD J kj hb29 kk =>
  Qb ?_
 have m4:=m3.D kj;have hl29:=kk.lt;have m5:=hV.I kj;have m6:VsO ↑w J (sL hD 1 1) [⟨fst a,fst b,-1,0⟩]:=kk.own (n:=1) (sz:=4) O oa oa;refine QW (α:=Nat) [(30,33),(12,12)] (λz=>[(12,.map (some z))]) (λz w'=>sW J w'/\↑J<=z/\QaA ↑w' z [⟨fst a,fst b,-1,0⟩]) oh ?_ ?_
 ·have hW:sW J { J with drawn:=J.drawn+1 }:=O6.X _ _
  have kn:∀(k:Int×Int),k∈[⟨fst a,fst b,-1,0⟩].map Vs.ky↔k=(fst a,fst b):=λk=>by simp[Vs.ky]
  refine QnY (sW J) [oz 1,oz 3] 0 (.fk [] 2 4 (.pl [oA 4,oz 5,oz 6]) (.pl [oA 2,oz 5,oz 6])) mixed oh oc (O6.X _ _) ?_;refine pq (λ_ hc=>Zi (m5.I hc) O O)<|p (λ_=>QD ⟨O,O,Z⟩)<|pe ⟨O,Z1 Yp λm w4 hr hm hM=>⟨hW.D hr,tf<|pe ⟨⟨O,?_⟩,O,?_⟩⟩⟩
  ·have T:↑J<=m:=hm;refine Yu (k:=(fst a,fst b)) hM O O λw5 he hX=>?_;have hg:=(hW.D hr).Q he T;obtain⟨K1,hY,hZ⟩:=K4 (K:=[]) hX;refine⟨hg,?_⟩;refine tp<|pk<|Yu (k:=(-1,-1)) hY O O λw6 G ga=>⟨hg.Q G T,?_⟩;refine p Qy<|p ZI<|pe ?_;obtain⟨K2,gb,gc⟩:=K4 ga;exact⟨m,La,hg.Q G T,T,⟨K2,gb,λk=>by rw[gc,hZ,kn];simp⟩⟩
  have T:↑J<=m:=hm;refine Yu (k:=(-1,-1)) hM O O λw5 he hX=>?_;have hg:=(hW.D hr).Q he T;obtain⟨K1,hY,hZ⟩:=K4 (K:=[]) hX;refine⟨hg,?_⟩;refine tp<|pk<|Yu (k:=(fst a,fst b)) hY O O λw6 G ga=>⟨hg.Q G T,?_⟩;refine p Qy<|p ZI<|pe ?_;obtain⟨K2,gb,gc⟩:=K4 ga;exact⟨m,La,hg.Q G T,T,⟨K2,gb,λk=>by rw[gc,hZ,kn];simp[or_comm]⟩⟩
 rintro m g0 w4 ⟨hr,hm4,m7⟩;have m8:=m4.D hr;have m9:↑w<=m:=oa
 have pc:m∉ob (sL hD 1 1):=by
  intro h;have h':m∈[hD]:=h;simp only[oF]at h';omega
 refine Qd<|Qc<|Qb<|QX (α:=Nat×O3×List Vs×Nat) [(8,9),(11,11),(13,14),(16,17),(34,108)] (λz=>[(8,Zq),(11,z.2.1),(13,sS z.1)]) (λz w'=>z.1<=z.2.2.1.length/\sW w w'/\VsO ↑w w' z.2.1 z.2.2.1/\QaA ↑w' m z.2.2.1/\m∉ob z.2.1/\VsI a b z.2.2.1/\z.2.2.2+z.1=N+1/\lgL a b kd al z.2.2.2 z.1 z.2.2.1=R) (λz=>z.2.2.2) (0,sL hD 1 1,[⟨fst a,fst b,-1,0⟩],N+1) ox
  ⟨Lo _,m8,Qm m6 hr,m7,pc,VsI.one hp hq,O,hR⟩ ?_
 rintro⟨i,vV,V,f⟩ g1 w5 ⟨hi,he,ge,ko,kq,hE,hf,I⟩;simp only[]at hi ge ko kq hE hf I;have hVlen:V.length<=N:=by rw[<-hN];exact VsI.len hp hq hE
 have gg:Zu [] ↑w5 vV V.length 4 (V.flatMap YJ):=QN ge oa od;refine Qd<|Ql<|Qa<|QG gg O<|ZW O O<|xe<|Zp rfl (λgh=>?_) (λgh=>?_)
 ·refine Qt ?_;have pd:¬i<V.length:=by have gi:¬(i:Int)<(V.length:Int):=gh;omega
  have pf:R=none:=by
   rw[<-I];cases f with
   | zero=>rfl
   | succ f=>rw[lgL,OU pd]
  rw[pf];refine Qc<|x Qe<|Qb<|Qj ⟨[Zq,.bool false],ov,he,O⟩
 have h5:i<V.length:=by have gi:(i:Int)<(V.length:Int):=gh;omega
 refine Exists.elim (show ∃f',f=f'+1 from⟨f - 1,oa⟩) λf' pg=>?_;rw[pg]at I;rw[lgL,OV h5]at I;have ph:=QeB h5;refine Qf<|Qd<|Qn<|Qd<|Ql<|Qa<|Qa<|O9 (g:=YJ) (i:=i) zQ gg O O h5 λa43 gj=>?_;rw[<-ph]at gj;refine Zd (gV V i) λpi kr=>?_;rw[kr]at gj I;refine x (ZF O)<|x (QF (us:=[sS pi.x,sS pi.y]) (At.sub (gj.from 0) 2) O O) <|
  Qo<|xc (first:=[]) (capt:=cap) O<|(hk pi.x pi.y w5 he).S ?_
 rintro r6 w6 ⟨rfl,G⟩;refine xe ?_;have hF:=he.D G;have pn:=Qm ge G;have kt:=gg.I G;refine Q6 rfl (λgk=>?_) (λgk=>?_)
 ·have hc:lgC a b kd pi=true:=gk;rw[OV hc]at I;rw[<-I];refine Qd<|Ql<|Qb<|QX (α:=Nat×Nat×O3×LI) [(8,8),(14,14),(48,66)] (λz=>[(8,z.2.2.1),(14,sS z.2.1)]) (λz w'=>z.2.1<V.length/\sW w6 w'/\Qh 3 ↑w6 w' z.2.2.1 z.2.2.2/\z.2.2.2++lgW V z.1 z.2.1=lgW V (i+1) i/\z.2.1+1<=z.1/\z.2.2.2.length+z.1=i+1) (λz=>z.1) (i+1,i,Zq,[]) ov
   ⟨h5,O6.Y _ _,QL _ _ _ _,O,Lp _,od⟩ ?_
  rintro⟨fu,k,vo,wd⟩ g2 w7 ⟨hw,hG,hH,Y,po,pp⟩;simp only[]at hw hH Y po pp;have ku:=kt.I hG;have gl:=QeB hw;have kv:=hE.bk k hw;have kw:=Qi hH;have hz7:=hG.size;refine Exists.elim (show ∃gm,fu=gm+1 from⟨fu - 1,oa⟩) λgm pt=>?_;rw[pt]at Y;rw[QjM]at Y;refine Qd<|Ql<|Qa<|O9 (g:=YJ) (i:=k) zQ ku O O hw λa50 gn=>?_;rw[<-gl]at gn kv;refine Zd (gV V k) λE gq=>?_;rw[gq]at gn kv Y;refine x (ZF O)<|x (Qq (gn.fld 2 (sS E.b) O) O)<|x (Yf O O)<|xe<|Zp O (λgr=>?_) (λgr=>?_)
  ·refine Qt ?_;have gs:¬0<=E.b:=gr;rw[OU gs,LH]at Y;refine Ql<|KX<|(jh hH oa).S ?_;rintro r8 w8 ⟨kx,gt⟩;refine xe<|Ql<|x Qe<|Qb ?_;rw[Y]at kx;have pu:=hF.size;exact Qj ⟨[vo,.bool true],ov,(hF.D hG).O gt (λb hb=>.inr (oo (kw b hb).1)),vo,O,Za kx pu⟩
  have gs:0<=E.b:=gr;rw[OV gs]at Y;have pw:E.b=(E.b.toNat:Int):=oa
  refine Qf<|Qd<|Qn<|Qr<|Qa<|Qa<|Qa<|O9 (g:=YJ) (i:=k) zQ ku O O hw λa62 kz=>?_;rw[<-gl,gq]at kz;refine x (ZF O)<|x (Qq (kz.fld 3 (sS E.v) O) O) <|
   Qo<|Q8 [[sS E.v]] λb65 w9 gu hb65 pz=>?_
  have hz9:=gu.size;refine Qo<|Q2 (news:=[sS E.v]) (L:=[]) (Qm hH gu) O O O (pz.at od) om oa oa λp0 p4 p5 p6 hn10 =>
   Qb ?_
  have k0:sW w6 p4:=(hG.D gu).O p6 (λb hb=>.inr (kw b hb).1);have p7:=kt.I k0;refine Qr<|Qa<|Qa<|O9 (g:=YJ) (i:=k) zQ p7 O O hw λa56 k4=>?_;rw[<-gl,gq]at k4;refine x (ZF O)<|x (Qq (k4.fld 2 (sS E.b) O) O)<|x Qe <|
   xe ?_
  refine⟨(gm,E.b.toNat,p0,wd++[E.v]),oe,⟨O,OW sS pw,Z⟩,oe,k0,Qh.snoc p5,?_,oe,by simp only[oM,oL];omega⟩;simp only[];rw[LA];exact Y
 have hc:¬lgC a b kd pi=true:=by
  intro h;have p8:lgC a b kd pi=false:=gk;rw[p8]at h;cases h
 rw[OU hc]at I;refine Qf<|Ql<|QG (hU.I hF) O<|Qa<|xe<|QX (α:=Nat×O3×List Vs) [(11,11),(16,17),(72,108)] (λz=>[(11,z.2.1),(72,sS z.1)]) (λz w'=>z.1<=al.length/\sW w w'/\VsO ↑w w' z.2.1 z.2.2/\QaA ↑w' m z.2.2/\m∉ob z.2.1/\VsI a b z.2.2/\z.2.2=(al.take z.1).foldl (lgA a b i pi) V/\∃W,z.2.2=V++W) (λz=>al.length - z.1) (0,vV,V) ov
  ⟨Lo _,hF,pn,ko.I G,kq,hE,O,[],od⟩ ?_
 rintro⟨j,vU,U⟩ g3 ha ⟨hj,hy,hh,h6,hI,h7,hJ,⟨W,h8⟩⟩;simp only[]at hj hh h6 hI h7 hJ h8;have hUlen:U.length<=N:=by rw[<-hN];exact VsI.len hp hq h7
 have hUl:V.length<=U.length:=by rw[h8,Lc];omega
 have ho:i<U.length:=oa
 have k5:=Qi hh;refine Zk rfl O (λgv=>?_) (λgv=>?_)
 ·refine Qt ?_;have p9:al.length<=j:=by have gi:¬(j:Int)<(al.length:Int):=gv;omega
  rw[Lr p9]at hJ;rw[<-hJ]at I;refine Qr<|Qa<|QB O O<|Qb<|⟨(i+1,vU,U,f'),oe,ox,ho,hy,hh,h6,hI,h7,oe,I⟩
 have hz:j<al.length:=by have gi:(j:Int)<(al.length:Int):=gv;omega
 have k6:al.take (j+1)=al.take j++[al[j]'hz]:=Ll hz;have qf:gV U i=pi:=by rw[h8,QpG h5];exact kr
 refine Qf<|Qd<|Qn<|Qc<|xii (i:=j) (hU.I hy) O O hz λa74 k9=>?_;refine Zd (al[j]'hz) λv hv=>?_;rw[hv]at k9 k6;have hO:(al.take (j+1)).foldl (lgA a b i pi) V=lgA a b i pi U v:=by rw[k6,Mn,<-hJ];rfl
 refine x (Qq k9 O)<|Qb<|Exists.elim (qn hh oa) λg9 qj=>Exists.elim qj λcap9 gx=>?_;have ql:Zu [] ↑ha vU U.length 4 (U.flatMap YJ):=QN hh oa od;have ma:At [] ↑ha ⟨g9,0+i*4,none⟩ (YJ pi):=by
  obtain⟨a9,c9,e1,e2⟩:=Zu.at ql ho;rw[Jl YJ 4 zQ U i ho,<-QeB ho,qf]at e2;rw[gx]at e1;have e3:(⟨g9,0,none⟩:Addr)=a9:=by
   have:=Value.slice.inj e1;exact Option.some.inj this.1
  rw[<-e3,X5]at e2;exact e2
 have q4:At [] ↑ha ⟨g9,0+i*4+0+0*1,none⟩ [sS pi.x]:=by
  have:=ma.fld 0 (sS pi.x) O;rw[X5]at this;exact this
 have q5:At [] ↑ha ⟨g9,0+i*4+0+1*1,none⟩ [sS pi.y]:=by
  have:=ma.fld 1 (sS pi.y) O;rw[X5]at this;exact this
 have j1:=kg.I hy;have j2:=kh.I hy;refine QW (α:=Nat) [(76,94),(17,17)] (λz=>[(17,sP z)]) (λz w'=>sW ha w'/\↑ha<=z/\QK ↑w' z 156 [sS (nxt a.ed pi.x v),sS (nxt b.ed pi.y v)]) oh ?_ ?_
 ·refine QhS (α:=Unit) (sW ha) [oz 0,oz 1,oz 2,oz 3,oz 4,oz 5,oz 6,oz 7,oz 9,oz 10,oz 11,oz 12,oz 13,oz 14,oz 15,oz 16] [oA 8,oA 17,oz 18] 19 17 [oA 20] []
   [(76,94)] [(84,84),(93,94)] (λ_=>[(94,.agg #[sS (nxt a.ed pi.x v),sS (nxt b.ed pi.y v)])]) (λ_ _ _=>True)
   (λv w'=>∃b,v=sP b/\↑ha<=b/\QK ↑w' b 156 [sS 0,sS 0]) mixed oh oc oh O (O6.X _ _) od ?_ ?_ ?_ ?_
  ·rintro v own wa wb ⟨b,rfl,hb,hB⟩ hs hn;exact⟨b,O,hb,hB.J hs (hn b (by simp[ow]))⟩
  ·intro z own wa wb h hs;trivial
  ·rintro z g5 own wz v5 _ j3 ⟨hP,rfl,gy,hA⟩ _;refine pkk<|qo [sS (nxt a.ed pi.x v),sS (nxt b.ed pi.y v)] hA ov λw8 gt j4=>pe ?_;exact⟨hP,La,j3.Q gt gy,gy,j4⟩
  refine p Qy<|p Qy<|p Qy<|p (λ_=>QE (show ev _ _=_ from gx) O ho)<|p (QH O) <|
   p (λ_=>ZV (i:=0) O O og)<|pq (λ_ hc=>Qq (q4.st hc) O)<|p Qy<|p Qy<|p Qy<|p Qy <|
   p (λ_=>QE (show ev _ _=_ from gx) O ho)<|p (QH O)<|p (λ_=>ZV (i:=1) O O og)<|pq (λ_ hc=>Qq (q5.st hc) O) <|
   p Qy<|pe ⟨λg6 wf za=>flA [sS 0,sS 0] za,?_⟩
  refine f2k λx1 p1 c1=>xf<|(j9 (j1.I c1) hp pi.x v).S ?_;rintro r84 y1 ⟨rfl,mc⟩;refine⟨c1.D mc,[],mc,(λb hb=>by cases hb),?_⟩;refine f2k λx2 p2 c2=>xf<|(j9 (j2.I c2) hq pi.y v).S ?_;rintro r93 y2 ⟨rfl,mf⟩;refine⟨c2.D mf,[],mf,(λb hb=>by cases hb),?_⟩;refine f3p (λ_=>QD ⟨O,O,Z⟩)<|f2e ?_;exact⟨(),La,Z⟩
 rintro hP g7 hQ ⟨hC,gy,hA⟩;have z0:=hy.D hC;refine Exists.elim (h6.I hC).h λK z1=>And.elim (λgz g4=>?_) z1;have hS:(lgN a b i pi v).ky=(nxt a.ed pi.x v,nxt b.ed pi.y v):=rfl;refine Ql<|Q3 hA O O<|x (qh (s:=(nxt a.ed pi.x v,nxt b.ed pi.y v)) gz O O)<|x (Zj O)<|xe<|Q6 rfl (λg8=>?_) (λg8=>?_)
 ·have z2:(nxt a.ed pi.x v,nxt b.ed pi.y v)∉K:=Vu g8;have h0:=λh=>z2 ((g4 _).2 h);rw[<-hS]at h0;have ka:lgA a b i pi U v=U++[lgN a b i pi v]:=by
   rcases Qac a b i pi U v with⟨_,_,h⟩|⟨h,_⟩
   ·exact h
   exact OX h h0
  rw[ka]at hO;have mg:m∉ob vU:=hI;have mh:hP∉m::ob vU:=λhb=>by
   rcases Lk.1 hb with rfl|hb
   ·obtain⟨K0,z3,_⟩:=h6.h;have:=z3.lt;omega
   have:=(k5 hP hb).2;omega
  have z4:m<hQ.heap.size:=gz.lt;have h3:sW hQ { hQ with drawn:=hQ.drawn+1 }:=O6.X _ _
  refine ZK (m::ob vU) (Xj 0 11 [7,8,9])<|p Qy<|pq (λ_ hc=>Zi (hA.J hc mh) O O)<|p Qy<|pq (λ_ hc=>Zi (hA.J hc mh) O O) <|
   p Qy<|p Qy<|p (λ_=>ZB [(0,[sS (nxt a.ed pi.x v),sS (nxt b.ed pi.y v)]),(1,[sS i]),(2,[sS v])] ⟨O,O,O,O,O,O,Z⟩)<|pk<|Q8 [YJ (lgN a b i pi v)] λb106 w13 h4 hb106 z5=>⟨(h3.D h4).any,?_⟩
  have kb:=hC.D (h3.D h4);have hz13:=(h3.D h4).size;refine pk<|Q2 (news:=YJ (lgN a b i pi v)) (L:=[]) (Qm hh kb) O O O (z5.at od) (λu hu=>by
   simp only[oK,oH,or_false]at hu;rcases hu with rfl|rfl|rfl|rfl <;> rfl) oa (oo kb.size) λmj mo ho14 hT hn14=>⟨(h3.D h4).any.V (hT.S (λb hb=>Lj _ hb)),?_⟩
  have hM14:ZU Yp ↑mo m (setM K):=(gz.J (h3.D h4) od).J hT mg;refine pk<|YR (k:=(nxt a.ed pi.x v,nxt b.ed pi.y v)) hM14 O O λw15 kc hM15=>⟨((h3.D h4).any.V (hT.S (λb hb=>Lj _ hb))).V (kc.S od),?_⟩;refine p ZI<|pe ?_;refine Exists.elim (K4 hM15) λK' hKKK'=>And.elim (λhM15' hKK'=>?_) hKKK';have mq:m∉ob mj:=λhb=>by
   rcases hn14 m hb with h9|h9
   ·exact mg h9
   have:=z4;omega
  refine Qr<|QB O O<|Qa<|xe ?_;have hs014:sW w mo:=(hy.D kb).O hT (λb hb=>.inr (k5 b hb).1);refine⟨(j+1,mj,U++[lgN a b i pi v]),oe,ov,hz,hs014.Q kc m9,Qg (VsO.snoc ho14) kc (λb hb ms=>by simp only[oF]at ms;subst ms;exact mq hb),⟨K',hM15',λk=>?_⟩,mq,VsI.add hp hq h7 ho (λh=>h0 (.inr h)),hO.symm,W++[lgN a b i pi v],by rw[h8,LA]⟩;rw[hKK',g4,Ly,Le];constructor
  ·rintro(h|h|h)
   ·exact .inr (.inr (by rw[h];simp[hS]))
   ·exact .inl h
   exact .inr (.inl h)
  rintro(h|h|h)
  ·exact .inr (.inl h)
  ·exact .inr (.inr h)
  exact .inl (by simpa[hS]using h)
 have hK:(nxt a.ed pi.x v,nxt b.ed pi.y v)∈K:=Km g8;have h0:=(g4 _).1 hK;rw[<-hS]at h0;have ka:lgA a b i pi U v=U:=by
  rcases Qac a b i pi U v with⟨h1,h2,_⟩|⟨_,h⟩
  ·exact OX h0 (λh=>h.elim h1 h2)
  exact h
 rw[ka]at hO;refine Qf<|Qr<|QB O O<|Qa<|xe ?_;exact⟨(j+1,vU,U),oe,ov,hz,z0,Qm hh hC,h6.I hC,hI,h7,hO.symm,W,h8⟩
theorem Qo3 {only:Bool}{e:Ed}(h:(!decide (e.2.1∈o))=false):zd o un only e=false:=by unfold zd;rw[h];rfl
theorem Qo2 {only:Bool}{e:Ed}(h:(!decide (e.2.1∈o))=true)(E:(!only)=true):zd o un only e=true:=by unfold zd;rw[h,E];rfl
theorem Qjl {only:Bool}{e:Ed}(h:(!decide (e.2.1∈o))=true)(E:(!only)=false):zd o un only e=decide (e.2.1∈un):=by unfold zd;rw[h,E];rfl
structure VcI (bm:Nat)(w0:O2)(vl:O3)(l:LI)(w:O2):Prop where
 st:sW w0 w
 m:XR XJ ↑w bm l
 o:Qh 3 ↑w0 w vl l
 nm:bm∉ob vl
theorem VcI.I {bm:Nat}{G w w':O2}{vl:O3}{l:LI}(h:VcI bm G vl l w)(E:sW w w'):VcI bm G vl l w':=⟨h.st.D E,h.m.I E,Qm h.o E,h.nm⟩
theorem KZ {V:VwV}{vl:O3}{only:Bool}(h:VwA ↑w V)(hl:Qu [] ↑w vl l)(hb:∀x∈l,0<=x/\x<V.a.st)(kk:l.length<=1000000):
  QU sV 132 [.pointer (some ⟨V.b,0,none⟩),vl,.bool only] w λr w'=>sW w w'/\Qh 3 ↑w w' r (vcl V.a V.o V.un l only):=by
 have hok:=h.ok;have kn:=hok.st0;have ko:=hok.st1;obtain⟨n,hn⟩:∃n:Nat,V.a.st.toNat=n:=⟨_,O⟩;have gi:V.a.st=(n:Int):=oa
 have kq:=hok.ed_le;obtain⟨rv,hH,hI⟩:=h.r;rw[hn]at hH hI;have gj:vcl V.a V.o V.un l only=srt n (bfs (zd V.o V.un only) V.a.ed (l.length+n) 0 l):=by unfold vcl cls;rw[hn]
 rw[gj];have gk:=hok.ed;rw[gi]at hb;refine Zd (bfs (zd V.o V.un only) V.a.ed (l.length+n) 0 l) λR hR=>?_;rw[hR];refine Zm func132 ?_;refine Qc<|Qb<|Ql<|Qw<|(Z0 hl).S ?_;rintro v1 w1 ⟨hJ,h2⟩;refine Qb<|Qc<|Qo<|Z1 XJ λbm w2 h3 kr gl=>Qb ?_;have gm:=hJ.D h3;have kt:=hJ.size;have hK:bm∉ob v1:=λG=>oo (QV h2 _ G)
 have gn:Qu [] ↑w2 v1 l:=Qh.ints (Qm h2 h3) oa od;refine Qd<|Ql<|QG gn O<|Qa<|xe<|QX (α:=Nat) [(10,10),(19,25)] (λz=>[(19,sS z)]) (λz w'=>z<=l.length/\O6 [bm] w2 w'/\XR XJ ↑w' bm (l.take z)) (λz=>l.length - z) 0 La ⟨Lo _,O6.Y _ _,.zero gl⟩ ?_;rintro k g w3 ⟨hk,h4,h5⟩;have gq:sW w w3:=gm.Q h4 oa;have hL:=Qg (Qm h2 h3) h4 λb hb G=>hK (Lb.1 G ▸ hb);have gr:Qu [] ↑w3 v1 l:=Qh.ints hL oa od;refine Zk rfl O (λh6=>?_) (λh6=>?_)
 ·refine Qt ?_;have gs:l.length<=k:=by have hg:¬(k:Int)<(l.length:Int):=h6;omega
  rw[Lr gs]at h5;refine Qd<|Qc<|Qb<|QX (α:=Nat×O3×LI) [(7,7),(11,11),(13,13),(26,80)] (λz=>[(7,z.2.1),(11,sS z.1)]) (λz w'=>z.1<=z.2.2.length/\VcI bm w z.2.1 z.2.2 w'/\Ug n l z.2.2/\bfs (zd V.o V.un only) V.a.ed (l.length+n - z.1) z.1 z.2.2=R) (λz=>l.length+n+1 - z.1) (0,v1,l) ov ⟨Lo _,⟨gq,h5,hL,hK⟩,Ug.zero _ _,hR⟩ ?_;rintro⟨i,vi,m⟩ g w4 ⟨hi,T,hr,ha⟩;simp only[]at hi T hr ha;have ku:=hr.len;have hM:=hr.all hb;have hN:Qu [] ↑w4 vi m:=Qh.ints T.o oa od;refine Qd<|Ql<|Qa<|QG hN O<|ZW O O<|xe<|Zp O (λh8=>?_) (λh8=>?_)
  ·refine Qt ?_;have gt:¬i<m.length:=by have hg:¬(i:Int)<(m.length:Int):=h8;omega
   rw[Qdu gt]at ha;have hv:=Qi T.o;refine Ql<|Qw<|(Kf T.o oa).S ?_;rintro _ w5 ⟨gu,gv⟩;refine xe<|Ql<|Qw<|(QnG gv (by rw[List.length_mergeSort];omega) (QcL m)).S ?_;rintro v6 w6 ⟨h9,l',gx,gy,gz⟩;refine Qb<|Qj ⟨[v6],La,(T.st.O gu λb hb=>.inr (hv b hb).1).O h9 λb hb=>.inr (hv b hb).1,?_⟩;rw[<-ha,<-QiF gx (λx=>(gy x).D (Nf m _).mem_iff) hM];exact gz
  have E:i<m.length:=by have hg:(i:Int)<(m.length:Int):=h8;omega
  have hw:=hM _ (Xy E);have g0:l.length+n - i=(l.length+n - (i+1))+1:=oa
  rw[g0,bfs,OV E]at ha;have hO:=Zo E;refine Zd (O7 m i) λs hs=>?_;rw[hs]at hw ha hO;have hP:s=(s.toNat:Int):=oa
  have hQ:s.toNat<n:=oa
  have hE:=hI s.toNat hQ;have kv:=Yg V.a.ed s;have g2:QM V.a.ed (s.toNat:Nat)=QM V.a.ed s:=by rw[<-hP]
  rw[g2]at hE;have g3:s.toNat<(oJ n).length:=by rw[Mb];exact hQ
  refine Qf<|Qd<|Qn<|Qd<|ZK [] (Xj 0 12 [])<|p Qy<|p (YN O)<|p (QH O)<|pq (λ_ hc=>Qk ((h.blk.I T.st).I hc) O O)<|p Qy<|p Qy<|Lg.pii (i:=i) O hN O O E λkw hS=>?_;rw[hO]at hS;refine pq (λ_ hc=>Qq (hS.I hc) O)<|Lg.pig (g:=λj:Nat=>[rv j]) (i:=s.toNat) O (λ_=>O) (hH.I T.st) O (show Go.Lg.ev _ _=_ from OW sS hP) g3 λkx hT=>?_;rw[Mw]at hT;refine pq (λ_ hc=>Qq (u:=rv s.toNat) (hT.I hc) O)<|p (λ_=>Y1 hE O)<|p Qy<|pe ?_;have g4:sW w4 { w4 with drawn:=w4.drawn+1 }:=O6.X _ _
  refine QX (α:=Nat×O3×LI) [(7,7),(13,13),(43,80)] (λz=>[(7,z.2.1),(43,sS z.1)]) (λz w'=>z.1<=(QM V.a.ed s).length/\VcI bm w z.2.1 z.2.2 w'/\Ug n l z.2.2/\m.length<=z.2.2.length/\((QM V.a.ed s).drop z.1).foldl (jb (zd V.o V.un only)) z.2.2=(QM V.a.ed s).foldl (jb (zd V.o V.un only)) m) (λz=>(QM V.a.ed s).length - z.1) (0,vi,m) ov ⟨Lo _,T.I g4,hr,Lp _,O⟩ ?_;rintro⟨j,vj,lj⟩ g w5 ⟨hj,hh,ho,hA,I⟩;simp only[]at hj hh ho hA I;have kz:=ho.len;refine Zk O O (λhB=>?_) (λhB=>?_)
  ·refine Qt ?_;have g5:(QM V.a.ed s).length<=j:=by have hg:¬(j:Int)<((QM V.a.ed s).length:Int):=hB;omega
   rw[Lu g5]at I;have g6:lj=(QM V.a.ed s).foldl (jb (zd V.o V.un only)) m:=I;rw[<-g6]at ha;refine Qr<|Qa<|QB O O<|Qb<|⟨(i+1,vj,lj),by show l.length+n+1 - (i+1)<l.length+n+1 - i;omega,ov,by show i+1<=lj.length;omega,hh,ho,ha⟩
  have hf:j<(QM V.a.ed s).length:=by have hg:(j:Int)<((QM V.a.ed s).length:Int):=hB;omega
  have g7:=Zt (Lm hf);have hU:=gk _ g7.1;rw[QY hf,LQ]at I;refine Zd ((QM V.a.ed s)[j]'hf) λe he=>?_;rw[he]at hU I;refine Qf<|Qd<|Qn<|Qc<|xie (hE.I hh.st) O O hf λk0 hV=>?_;rw[he]at hV;refine x (QF hV O O)<|QT [sS 0,sS 0,sS 0] λg8 w6 h9 hW g9=>Q5 (Qp e) g9 ox λJ ka hy=>xe ?_;have kb:sW w5 J:=h9.Q ka hW;have hC:=hh.I kb;have h7:=h.I hC.st;refine QW (α:=Unit) [(47,71)] (λ_=>[(71,.bool (decide (zd V.o V.un only e=true/\e.2.2∉lj)))]) (λ_ w'=>sW J w') oh ?_ ?_
  ·refine ZK [] (Xj 0 25 [3,22]) ?_;have U:sW J { J with drawn:=J.drawn+1 }:=O6.X _ _
   refine p Qy<|p (QH O)<|pq (λ_ hc=>Qk (hy.I hc) O O)<|pk<|xg<|(zF (w:={ J with drawn:=J.drawn+1 }) (h7.I U) e.2.1).S ?_
   rintro _ w8 ⟨rfl,rfl⟩;refine⟨U,?_⟩;refine pB (λ_=>Zj O) (λhp=>?_) (λhp=>?_)
   ·refine p Qy<|p Qy<|p (QH O)<|pq (λ_ hc=>Qk (hy.I hc) O O)<|pq (λ_ hc=>QaR (hC.m.I hc) O O)<|pB (λ_=>Zj O) (λhD=>?_) (λhD=>?_)
    ·have hX:=Vu hD;refine p (YU O)<|p Qy<|p Qy<|pB (λ_=>Zj O) (λhz=>?_) (λhz=>?_)
     ·refine p Qy<|ps<|ps<|ps<|ps<|ps<|ps<|ps<|p (YU O)<|p (YU O)<|pe ?_;exact⟨(),⟨OW Value.bool (bT ⟨Qo2 hp hz,hX⟩),Z⟩,U⟩
     refine p Qy<|p Qy<|p (YN O)<|p (QH O)<|pq (λ_ hc=>Qk (h7.blk.I hc) O O)<|p (QH O) <|
      pq (λ_ hc=>Qk (hy.I hc) O O)<|pk<|xg<|(ZH (w:={ J with drawn:=J.drawn+1 }) (h7.u.I U) e.2.1).S ?_
     rintro _ w9 ⟨rfl,rfl⟩;refine⟨U,?_⟩;refine p (YU O)<|p (YU O)<|pe ?_;exact⟨(),⟨OW Value.bool (bD ⟨λhu=>⟨(Qjl hp hz).D (OY hu),hX⟩,λhu=>OZ ((Qjl hp hz).symm.D hu.1)⟩),Z⟩,U⟩
    refine p (YU O)<|p Qy<|ps<|ps<|ps<|ps<|ps<|ps<|ps<|ps<|ps<|ps<|ps<|p (YU O)<|pe ?_;exact⟨(),⟨OW Value.bool (bF λhu=>hu.2 (Km hD)),Z⟩,U⟩
   refine p Qy<|ps<|ps<|ps<|ps<|ps<|p (YU O)<|p Qy<|ps<|ps<|ps<|ps<|ps<|ps<|ps<|ps<|ps<|ps<|ps<|p (YU O)<|pe ?_;exact⟨(),⟨OW Value.bool (bF λhu=>MV ((Qo3 hp).symm.D hu.1)),Z⟩,U⟩
  rintro _ g w8 hY;have Y:=hC.I hY;have hZ:=ho.edge (zd V.o V.un only) (e:=e) ⟨hU.2.2.2.1,oa⟩;have ga:lj.length<=(jb (zd V.o V.un only) lj e).length:=by unfold jb;split <;> simp
  have h0:jb (zd V.o V.un only) lj e=if zd V.o V.un only e=true/\e.2.2∉lj then lj++[e.2.2]else lj:=rfl
  refine Zp O (λhF=>?_) (λhF=>?_)
  ·rw[OU hF]at h0;rw[h0]at I;refine Qf<|Qr<|QB O O<|Qa<|xe ?_;exact⟨(j+1,vj,lj),by show(QM V.a.ed s).length - (j+1)<(QM V.a.ed s).length - j;omega,ov,hf,Y,ho,hA,I⟩
  rw[OV hF]at h0;rw[h0]at I hZ ga;have gb:=hy.I hY;have hv:=Qi Y.o;refine Ql<|Qs O gb O O<|Qo<|yi (k:=e.2.2) Y.m O O O λw9 hG gc=>xe ?_;have kc:g8∉[bm]:=λG=>by
   have:=hh.m.lt;rw[Lb.1 G]at hW;omega
  have ke:=Qg Y.o hG λb hb G=>Y.nm (Lb.1 G ▸ hb);have ge:sW w w9:=Y.st.Q hG oa;refine Qr<|Qa<|Qs O (gb.J hG kc) O O<|Qo<|Q8 [[sS e.2.2]] λk4 wa hq k5 kf =>
   Qo<|Q2 (m:=1) (news:=[sS e.2.2]) (L:=[]) (Qm ke hq) O O O (kf.at od) om oa (oq hq.size ge.size) λvb wb kg hw kh=>Qb ?_
  have k6:=hq.size;have k9:=gc.lt;refine Qr<|QB O O<|Qa<|xe<|⟨(j+1,vb,lj++[e.2.2]),by show(QM V.a.ed s).length - (j+1)<(QM V.a.ed s).length - j;omega,ov,hf,⟨(ge.D hq).O hw λb hb=>.inr (hv b hb).1,(gc.I hq).J hw Y.nm,Qh.snoc kg,λG=>?_⟩,hZ,Lz hA ga,I⟩;rcases kh _ G with h1|h1
  ·exact Y.nm h1
  omega
 have E:k<l.length:=by have hg:(k:Int)<(l.length:Int):=h6;omega
 have gg:l.take (k+1)=l.take k++[l[k]'E]:=Ll E;refine Qf<|Qd<|Qn<|Qc<|xii (i:=k) gr O O E λma gh=>?_;refine Zd (l[k]'E) λs hs=>?_;rw[hs]at gh gg;refine x (Qq gh O)<|Qb<|Qr<|Qa<|Qa<|Qo<|yi (k:=s) h5 O O O λw4 ki kj=>xe ?_;refine Qr<|QB O O<|Qa<|xe ?_;exact⟨k+1,by show l.length - (k+1)<l.length - k;omega,La,E,h4.V ki,by rw[gg];exact kj⟩
theorem U7 {V:VwV}(h:VwA ↑w V)(hE:Qu [] ↑w ve est)(h4:∀x∈est,0<=x/\x<V.a.st)(hO:est.length<=9)(h5:V.a.ed.length<=1000)(v:Int):
  QU sV 136 [.pointer (some ⟨V.b,0,none⟩),ve,sS v] w λr w'=>sW w w'/\Qh 3 ↑w w' r (vnx V.a V.o V.un est v):=by
 have hok:=h.ok;have hP:=hok.st0;obtain⟨n,hn⟩:∃n:Nat,V.a.st.toNat=n:=⟨_,O⟩;have hQ:V.a.st=(n:Int):=oa
 obtain⟨rv,hq,hr⟩:=h.r;rw[hn]at hq hr;have h6:∀k,k<=est.length->(hop V.a.ed (est.take k) v).length<=9000:=λk hk=>by
  have h1:=Qbn V.a.ed v (est.take k);have h2:(est.take k).length<=9:=by rw[LC];omega
  have h3:(est.take k).length*V.a.ed.length<=9*1000:=Nc h2 h5;omega
 refine Zm func136 ?_;refine Qc<|Qb<|Qc<|Qb<|Qd<|Ql<|QG hE O<|Qa<|xe<|QX (α:=Nat×O3) [(7,7),(9,9),(11,11),(14,40)] (λz=>[(7,z.2),(14,sS z.1)]) (λz w'=>z.1<=est.length/\sW w w'/\Qh 3 ↑w w' z.2 (hop V.a.ed (est.take z.1) v)) (λz=>est.length - z.1) (0,ZX) ov ⟨Lo _,O6.Y _ _,QL _ _ _ _⟩ ?_;rintro⟨k,vl⟩ g w2 ⟨hk,E,ha⟩;simp only[]at hk ha;have h7:=h6 k hk;refine Zk rfl O (λhf=>?_) (λhf=>?_)
 ·refine Qt ?_;have h8:est.length<=k:=by have hg:¬(k:Int)<(est.length:Int):=hf;omega
  rw[Lr h8]at ha h7;have hL:=Qh.ints (L:=[]) ha oa od;refine Ql<|Qa<|Qw<|(KZ (only:=false) (h.I E) hL (Qkb hok est v) oa).S ?_;rintro r3 w3 ⟨h9,hA⟩;refine Qb<|Qj ⟨[_],La,E.D h9,Za hA E.size⟩
 have I:k<est.length:=by have hg:(k:Int)<(est.length:Int):=hf;omega
 have hu:=QcU (ed:=V.a.ed) v I;have hB:=h4 _ (Lm I);refine Qf<|Qd<|Qn<|Qc<|xii (i:=k) (hE.I E) O O I λhR hv=>?_;refine Zd (est[k]'I) λs hs=>?_;rw[hs]at hv hu hB;have hC:s=(s.toNat:Int):=oa
 have hw:s.toNat<n:=oa
 have hh:=hr s.toNat hw;rw[show((s.toNat:Nat):Int)=s by omega]at hh;have hD:s.toNat<(oJ n).length:=by rw[Mb];exact hw
 have hS:=Yg V.a.ed s;refine x (Qq hv O)<|Qb<|Ql<|Z7 O<|Qs O (h.blk.I E) O O<|Qa<|O9 (g:=λj:Nat=>[rv j]) (i:=s.toNat) (λ_=>O) (hq.I E) O (OW sS hC) hD λhT hy=>?_;rw[Mw]at hy;refine x (Qq (u:=rv s.toNat) hy O)<|QG hh O<|Qa<|xe<|QX (α:=Nat×O3) [(7,7),(11,11),(26,39)] (λz=>[(7,z.2),(26,sS z.1)]) (λz w'=>z.1<=(QM V.a.ed s).length/\sW w w'/\Qh 3 ↑w w' z.2 (hop V.a.ed (est.take k) v++(((QM V.a.ed s).take z.1).filter λe=>decide (e.2.1=v)).map (·.2.2))) (λz=>(QM V.a.ed s).length - z.1) (0,vl) ov ⟨Lo _,E,by simp only[List.take_zero,List.filter_nil,OC,Oi];exact ha⟩ ?_;rintro⟨j,vj⟩ g w4 ⟨hj,J,G⟩;simp only[]at hj G;refine Zk rfl O (λhm=>?_) (λhm=>?_)
 ·refine Qt ?_;have hF:(QM V.a.ed s).length<=j:=by have hg:¬(j:Int)<((QM V.a.ed s).length:Int):=hm;omega
  rw[Lr hF,<-hu]at G;refine Qr<|QB O O<|Qa<|xe ?_;exact⟨(k+1,vj),by show est.length - (k+1)<est.length - k;omega,ov,I,J,G⟩
 have T:j<(QM V.a.ed s).length:=by have hg:(j:Int)<((QM V.a.ed s).length:Int):=hm;omega
 have U:=Qag v T;have hU:(hop V.a.ed (est.take k) v++(((QM V.a.ed s).take j).filter λe=>decide (e.2.1=v)).map (·.2.2)).length<=10000:=by
  rw[Lc,Ln];have h1:=LK (λe:Ed=>decide (e.2.1=v)) ((QM V.a.ed s).take j);rw[LC]at h1;omega
 refine Zd ((QM V.a.ed s)[j]'T) λe he=>?_;rw[he]at U;refine Qf<|Qd<|Qn<|Qc<|xie (hh.I J) O O T λhV hz=>?_;rw[he]at hz;refine x (QF hz O O)<|QT [sS 0,sS 0,sS 0] λb11 w5 hG hH hI=>Q5 (Qp e) hI ox λw6 hJ h0=>xe ?_;have Y:sW w4 w6:=hG.Q hJ hH;have hW:=J.size;have hX:=Y.size;refine Qc<|Qs O h0 O O<|Qa<|x (Zc O O)<|xe<|Zp rfl (λho=>?_) (λho=>?_)
 ·rw[OU ho,LH]at U;refine Qf<|Qr<|QB O O<|Qa<|xe ?_;exact⟨(j+1,vj),by show(QM V.a.ed s).length - (j+1)<(QM V.a.ed s).length - j;omega,ov,T,J.D Y,by simp only[];rw[U];exact Qm G Y⟩
 rw[OV ho]at U;refine Qr<|Qa<|Qs O h0 O O<|Qo<|Q8 [[sS e.2.2]] λhY w7 hp hZ hK =>
  Qo<|Q2 (m:=1) (news:=[sS e.2.2]) (L:=[]) (Qm G (Y.D hp)) O O O (hK.at od) om oa (oo hp.size) λv8 w8 hM hN ga=>Qb<|Qr<|QB O O<|Qa<|xe ?_
 refine⟨(j+1,v8),by show(QM V.a.ed s).length - (j+1)<(QM V.a.ed s).length - j;omega,ov,T,((J.D Y).D hp).O hN λb hb=>.inr (Qi G b hb).1,?_⟩;simp only[];rw[U,<-LA];exact Qh.snoc hM
def QjS (x y:LI):List UInt8:=(YV x++[59])++(YV y++[59])
abbrev koA (x y:LI):ByteArray:=⟨(QjS x y).toArray⟩
theorem QkL (u:Nat):(59:UInt8)∉Lib.decDigits u:=by
 induction u using Nat.strongRecOn with
 | _ u ih =>
  unfold Lib.decDigits;split
  ·intro h;simp only[oF]at h;have:=OW UInt8.toNat h;rw[Xw oa]at this;have E:(59:UInt8).toNat=59:=rfl;omega
  intro h;rcases Le.1 h with h|h
  ·exact ih _ oa h
  simp only[oF]at h;have:=OW UInt8.toNat h;rw[Xw oa]at this;have E:(59:UInt8).toNat=59:=rfl;omega
theorem Vv (l:LI):(59:UInt8)∉YV l:=by
 intro h;obtain⟨n,_,h⟩:=Mc.1 h;rcases Le.1 h with h|h
 ·exact QkL _ h
 exact OX (Lb.1 h) og
theorem QaJ:∀{a b r r':List UInt8},(59:UInt8)∉a->(59:UInt8)∉b->a++59::r=b++59::r'->a=b/\r=r'
 | [],[],_,_,_,_,h=>ou h
 | [],y::b,_,_,_,hb,h=>by simp at h;exact OX h.1 (by intro e;exact hb (by simp[e]))
 | x::a,[],_,_,E,_,h=>by simp at h;exact OX h.1 (by intro e;exact E (by simp[e]))
 | x::a,y::b,_,_,E,hb,h=>by
  simp only[oZ,List.cons.injEq]at h;have:=QaJ (λe=>E (Lj _ e)) (λe=>hb (Lj _ e)) h.2;exact⟨by rw[h.1,this.1],this.2⟩
theorem QmZ {x y E G:LI}(I:∀n∈x,0<=n)(J:∀n∈y,0<=n)(T:∀n∈E,0<=n)(U:∀n∈G,0<=n)(h:koA x y=koA E G):x=E/\y=G:=by
 have e:QjS x y=QjS E G:=by
  have:=OW (λb:ByteArray=>b.data.toList) h;simpa using this
 unfold QjS at e;rw[LA,LA]at e;obtain⟨e1,e2⟩:=QaJ (Vv x) (Vv E) (ou e);obtain⟨V,_⟩:=QaJ (r:=[]) (r':=[]) (Vv y) (Vv G) e2;exact⟨UE I T e1,UE J U V⟩
def kO (lf:Nat->LI)(n:Nat):List UInt8:=(oJ n).flatMap λi=>YV (lf i)++[59]
theorem Qbf (lf:Nat->LI)(n:Nat):kO lf (n+1)=kO lf n++(YV (lf n)++[59]):=by
 unfold kO;rw[Nh,LF,Na]
theorem QjT {m:Int}(G:m<=1000000)(hb:∀n∈l,0<=n/\n<m):(YV l).length<=8*l.length:=by
 induction l with
 | nil=>simp[YV]
 | cons x l ih =>
  have I:=ih λn E=>hb n (Lj _ E);have J:=hb x Lh;have T:=Kr 7 x.toNat oa;unfold YV at *;rw[LM,Lc,Lc];simp only[oQ,List.length_nil];omega
theorem Qhr {k:Nat}(h:k<l.length):YV (l.take (k+1))=YV (l.take k)++Lib.decDigits (l[k]'h).toNat++[32]:=by
 rw[Ll h];unfold YV;rw[LF,Na,LA]
theorem Qjr {v:O3}{rv:Nat->O3}{lf:Nat->LI}{m:Int}(hA:Zu [] ↑w v (oJ n).length 1 ((oJ n).flatMap λi=>[rv i]))(hE:∀i,Qu [] ↑w (rv i) (lf i))(hr:Kb w m)(hb:∀i,∀x∈lf i,0<=x/\x<m)(hl:∀i,(lf i).length<=1000)(hn:n<=1000):
  QU sV 133 [v] w λr w'=>r=.string ⟨(kO lf n).toArray⟩/\sW w w':=by
 have hm:=hr.le;refine Zm func133 ?_;refine Qc<|Qb<|Qc<|QT [.pointer none,nS] λE w1 hy J hz=>xe ?_;refine Qd<|Ql<|QG hA O<|Qa<|xe<|QX (α:=Nat×O3) [(5,5),(7,7),(10,26)] (λz=>[(10,sS z.1)]) (λz w'=>z.1<=n/\sW w w'/\(z.2=.pointer none\/z.2=me E)/\Bl z.2 E (kO lf z.1) w'/\(kO lf z.1).length<=8001*z.1) (λz=>n - z.1) (0,.pointer none) La
  ⟨Lo _,hy,.inl O,⟨_,hz,QL _ _ _ _⟩,Lp _⟩ ?_
 rintro⟨k,p⟩ g w2 ⟨hk,Y,hp,T,h0⟩;simp only[]at hk hp T h0;refine Zk rfl O (λha=>?_) (λha=>?_)
 ·refine Qt<|Qc ?_;have h1:k=n:=by have G:¬(k:Int)<((oJ n).length:Int):=ha;rw[Mb]at G;omega
  rw[h1]at T;refine Qw<|(Vp Y J hp T).S ?_;rintro r3 w3 ⟨rfl,h2⟩;refine Qb<|Qj ⟨[_],La,O,h2⟩
 have he:k<(oJ n).length:=by have G:(k:Int)<((oJ n).length:Int):=ha;omega
 have h3:k<n:=by rw[Mb]at he;exact he
 have hf:=Qbf lf k;have h4:=QjT hm (hb k);have h5:=hl k;have hg:=hE k;have hu:=hb k;refine Zd (lf k) λl h6=>?_;rw[h6]at hf h4 h5 hg hu;refine Qf<|Qd<|Qn<|Qc<|O9 (g:=λj:Nat=>[rv j]) (i:=k) (λ_=>O) (hA.I Y) O O he λhK hv=>?_;rw[Mw]at hv;refine x (Qq (u:=rv k) hv O)<|Qb<|Qd<|Ql<|QG hg O<|Qa<|xe<|QX (α:=Nat×O3) [(7,7),(16,24)] (λz=>[(16,sS z.1)]) (λz w'=>z.1<=l.length/\sW w w'/\(z.2=.pointer none\/z.2=me E)/\Bl z.2 E (kO lf k++YV (l.take z.1)) w'/\(YV (l.take z.1)).length<=8*z.1) (λz=>l.length - z.1) (0,p) La
  ⟨Lo _,Y,hp,by show Bl p E (kO lf k++YV []) w2;rw[show YV []=[] from rfl,LH];exact T,Lp _⟩ ?_
 rintro⟨j,q⟩ g w4 ⟨hj,U,hq,V,h7⟩;simp only[]at hj hq V h7;refine Zk rfl O (λhh=>?_) (λhh=>?_)
 ·refine Qt ?_;have h8:l.length<=j:=by have G:¬(j:Int)<(l.length:Int):=hh;omega
  rw[Lr h8]at V;refine Qr<|Qw<|(KA U J hq V 59 (by rw[Lc];omega)).S ?_;rintro r5 w5 ⟨h9,hB⟩;refine xe<|Qr<|QB O O<|Qa<|xe<|⟨(k+1,me E),by show n - (k+1)<n - k;omega,La,h3,h9,.inr O,?_,?_⟩
  ·simp only[];rw[hf,<-LA];exact hB
  simp only[];rw[hf,Lc,Lc,Lv];omega
 have I:j<l.length:=by have G:(j:Int)<(l.length:Int):=hh;omega
 have hC:=hu _ (Lm I);have ho:=Qhr I;refine Qf<|Qd<|Qn<|Qc<|xii (i:=j) (hg.I U) O O I λhL G=>?_;refine Zd (l[j]'I) λs hs=>?_;rw[hs]at G ho hC;have hD:s=(s.toNat:Int):=oa
 have hM:=Kr 7 s.toNat oa;refine x (Qq G O)<|Qb<|Qc ?_;have hI:=Qbk s.toNat oa w4 (hr.I U);rw[<-hD]at hI;refine Qa<|Qw<|hI.S ?_;rintro r6 w6 ⟨rfl,hw⟩;refine Qw<|(Jy (U.D hw) J hq (V.I hw) (⟨(Lib.decDigits s.toNat).toArray⟩:ByteArray) (by show _+(Lib.decDigits s.toNat).toArray.size<=_;rw[Lc,LY];omega)).S ?_;rintro r7 w7 ⟨hF,hG⟩;refine xe<|Qr<|Qw<|(KA hF J (.inr O) hG 32 (by rw[Lc,Lc];show _+_+(Lib.decDigits s.toNat).length+1<=_;omega)).S ?_;rintro r8 w8 ⟨hH,hJ⟩;refine xe<|Qr<|QB O O<|Qa<|xe<|⟨(j+1,me E),by show l.length - (j+1)<l.length - j;omega,La,I,hH,.inr O,?_,?_⟩
 ·simp only[];rw[ho,<-LA,<-LA];exact hJ
 simp only[];rw[ho,Lc,Lc,Lv];omega
theorem kO2 (x y:LI):kO (λi=>if i=0 then x else y) 2=QjS x y:=by
 rw[Qbf,Qbf];rfl
theorem Uz {v vy:O3}{x y:LI}{m:Int}(hA:Zu [] ↑w v 2 1 [vx,vy])(hx:Qu [] ↑w vx x)(G:Qu [] ↑w vy y)(E:Kb w m)(I:∀n∈x,0<=n/\n<m)(J:∀n∈y,0<=n/\n<m)(T:x.length<=1000)(U:y.length<=1000):
  QU sV 133 [v] w λr w'=>r=.string (koA x y)/\sW w w':=by
 have:=Qjr (n:=2) (rv:=λi=>if i=0 then vx else vy) (lf:=λi=>if i=0 then x else y) (w:=w) (v:=v) hA (λi=>by by_cases e:i=0 <;> simp only[e,if_true,if_false] <;> assumption) E (λi=>by by_cases e:i=0 <;> simp only[e,if_true,if_false] <;> assumption) (λi=>by by_cases e:i=0 <;> simp only[e,if_true,if_false] <;> assumption) oa
 rw[kO2]at this;exact this
theorem yf {v:O3}{b:Nat}(h:b∈ob v):b∈ow v:=by
 cases v with
 | slice a _ _=>cases a <;> exact h
 | _=>cases h
theorem Qeh {e:Nat}{v:O3}(h:w.ownsRow base e sz v n cs){b:Nat}(hb:b∈ow v):b∈ob v:=by
 rcases h.2 with⟨rfl,_⟩|⟨g,cp,cur,rfl,_⟩
 ·cases hb
 exact hb
theorem Ja {e:Nat}{v:O3}(h:w.ownsRow base e sz v n cs)(b:Nat)(hb:b∈ow v):base<=b/\b<w.heap.size:=Qi h b (Qeh h hb)
theorem VZ {e b:Nat}{v:O3}(h:w.ownsRow base e sz v n cs)(E:QK ↑w b T us)(hT:T≠e):b∉ob v:=by
 intro G;rcases h.2 with⟨rfl,_⟩|⟨g,cap,cur,rfl,_,I,_⟩
 ·cases G
 have e1:b=g:=Lb.1 G;subst e1;unfold QK at E;rw[E]at I;injection I with h1
 injection h1 with h2 h3
 exact hT h3
def Pts (L:LN)(H:xC):List (O3×LI)->Prop
 | []=>True
 | r::l=>Qu L H r.1 r.2/\Pts L H l
theorem Pts.I {L:LN}{w w':O2}(E:sW w w'):∀{l:List (O3×LI)},Pts L ↑w l->Pts L ↑w' l
 | [],_=>trivial
 | _::_,h=>⟨h.1.I E,Pts.I E h.2⟩
theorem Pts.J {L X:LN}{w w':O2}(E:O6 X w w')(hX:∀b∈X,b∈L):∀{l:List (O3×LI)},Pts L ↑w l->Pts L ↑w' l
 | [],_=>trivial
 | _::_,h=>⟨Zu.J h.1 E hX,Pts.J E hX h.2⟩
theorem Pts.grow {X X' Y:LN}{w w':O2}(E:O6 Y w w')(G:∀b∈Y,b∈X)(hX:∀b∈X',b∈X\/↑w<=b):∀{l:List (O3×LI)},Pts X ↑w l->Pts X' ↑w' l
 | [],_=>trivial
 | _::_,h=>⟨Zu.grow h.1 E G hX,Pts.grow E G hX h.2⟩
abbrev Yr (N:Nat)(H:xC)(v:O3)(l:LI):Prop:=∀L:LN,(∀b∈L,b<N)->Qu L H v l
theorem Yr.nil (N:Nat)(H:xC):Yr N H (nS) []:=λ_ _=>Zu.nil _ _ _
theorem Yr.S {M:Nat}{H:xC}{v:O3}(h:Yr N H v l)(E:M<=N):Yr M H v l:=λL G=>h L λb hb=>LU (G b hb) E
theorem Yr.ints {H:xC}{v:O3}(h:Yr N H v l):Qu [] H v l:=h [] λ_ hb=>by cases hb
structure QI {α κ:Type}(T sz:Nat)(cel:α->LV)(enc:κ->O3)(key:α->κ)(pts ptn:α->List (O3×LI))(bm:Nat)(w0:O2)(vl:O3)(q:List α)(w:O2):Prop where
 st:sW w0 w
 o:w.ownsRow ↑w0 T sz vl q.length (q.flatMap cel)
 e:∀p∈q,Pts (bm::ob vl) ↑w (pts p)/\∀L:LN,(∀b∈L,b<↑w0)->Pts (L++bm::ob vl) ↑w (ptn p)
 m:XR enc ↑w bm (q.map key)
 nm:bm∉ob vl
 hb:↑w0<=bm
section
variable {κ:Type}{cel:α->LV}{enc:κ->O3}{key:α->κ}{pts ptn:α->List (O3×LI)}{bm:Nat}{w0 w1 w2 w3:O2}{vl vl':O3}{q:List α}{p:α}
theorem QI.I (h:QI T sz cel enc key pts ptn bm w0 vl q w)(E:sW w w'):QI T sz cel enc key pts ptn bm w0 vl q w' :=
 ⟨h.st.D E,Qm h.o E,λp G=>⟨(h.e p G).1.I E,λL I=>((h.e p G).2 L I).I E⟩,h.m.I E,h.nm,h.hb⟩
theorem QI.lt (h:QI T sz cel enc key pts ptn bm w0 vl q w):∀b∈bm::ob vl,b<w.heap.size:=λb hb=>by
 rcases Lk.1 hb with rfl|hb
 ·exact h.m.lt
 exact QV h.o b hb
theorem QaV {vl vl':O3}(E:∀b∈ob vl',b∈ob vl\/N<=b):∀b∈bm::ob vl',b∈bm::ob vl\/N<=b:=λb hb=>by
 rcases Lk.1 hb with rfl|hb
 ·exact .inl Lh
 exact(E b hb).imp (Lj _) id
theorem QaU (L:LN){vl vl':O3}(E:∀b∈ob vl',b∈ob vl\/N<=b):∀b∈L++bm::ob vl',b∈L++bm::ob vl\/N<=b:=λb hb=>by
 rcases Le.1 hb with hb|hb
 ·exact .inl (Le.2 (.inl hb))
 exact(QaV E b hb).imp (λh=>Le.2 (.inr h)) id
theorem QI.add (h:QI T sz cel enc key pts ptn bm w0 vl q w)(I:O6 [bm] w w1)(hm:XR enc ↑w1 bm (q.map key++[key p]))(G:sW w1 w2)(J:O6 (ob vl) w2 w3)(ho:w3.ownsRow ↑w0 T sz vl' (q.length+1) (q.flatMap cel++cel p))
  (V:∀b∈ob vl',b∈ob vl\/↑w2<=b) (Y:Pts (bm::ob vl) ↑w (pts p)/\∀L:LN,(∀b∈L,b<↑w0)->Pts (L++bm::ob vl) ↑w (ptn p)):QI T sz cel enc key pts ptn bm w0 vl' (q++[p]) w3:=by
 have he:=I.size;have hf:=G.size;have hg:=h.m.lt;have k:∀(L:LN) {l:List (O3×LI)},Pts (L++bm::ob vl) ↑w l->Pts (L++bm::ob vl') ↑w3 l:=λL {l} hv =>
  ((hv.J I λb hb=>Le.2 (.inr (Lk.2 (.inl (Lb.1 hb))))).I G).grow J (λb hb=>Le.2 (.inr (Lj _ hb))) (QaU L V)
 refine⟨((h.st.O I λb hb=>.inr (by rw[Lb.1 hb];exact h.hb)).D G).O J λb hb=>.inr (Qi h.o b hb).1,?_,λp' E=>?_,?_,λha=>?_,h.hb⟩
 ·rw[LF,Na,Lc,Lv];exact ho
 ·rcases Le.1 E with E|E
  ·exact⟨k [] (h.e p' E).1,λL U=>k L ((h.e p' E).2 L U)⟩
  rw[Lb.1 E];exact⟨k [] Y.1,λL U=>k L (Y.2 L U)⟩
 ·rw[Ly];exact(hm.I G).J J h.nm
 rcases V _ ha with h1|h1
 ·exact h.nm h1
 omega
end
theorem Qjf (L:List (LI×LI))(hd:L.Nodup)(h:∀p∈L,Ss n p.1/\Ss n p.2):L.length<=2 ^ (n+n):=by
 have fil:∀r∈L,∀x,x∈r.1↔x∈(r.1++r.2.map (·+(n:Int)))/\x<(n:Int):=λr G x=>by
  constructor
  ·intro hx;exact⟨Le.2 (.inl hx),((h r G).1.2 x hx).2⟩
  rintro⟨hx,hg⟩;rcases Le.1 hx with hx|hx
  ·exact hx
  obtain⟨y,I,rfl⟩:=Lx.1 hx;have:=(h r G).2.2 y I;omega
 have fir:∀r∈L,∀x,x∈r.2↔0<=x/\x+(n:Int)∈(r.1++r.2.map (·+(n:Int))):=λr G x=>by
  constructor
  ·intro hx;exact⟨((h r G).2.2 x hx).1,Le.2 (.inr (Lx.2 ⟨x,hx,O⟩))⟩
  rintro⟨h0,hx⟩;rcases Le.1 hx with hx|hx
  ·have:=(h r G).1.2 _ hx;omega
  obtain⟨y,I,e⟩:=Lx.1 hx;have:y=x:=oa
  exact this ▸ I
 have he:∀p∈L,∀q∈L,p.1++p.2.map (·+(n:Int))=q.1++q.2.map (·+(n:Int))->p=q:=λp E q J e=>by
  have e1:p.1=q.1:=UH (h p E).1.1 (h q J).1.1 λx=>by rw[fil p E,fil q J,e]
  have e2:p.2=q.2:=UH (h p E).2.1 (h q J).2.1 λx=>by rw[fir p E,fir q J,e]
  exact Prod.ext e1 e2
 have:=zt (n+n) (L.map λp=>p.1++p.2.map (·+(n:Int))) (by
  unfold List.Nodup;rw[L9];exact hd.imp_of_mem λ{a b} ha hb hf e=>hf (he a ha b hb e)) λl hl=>by
  obtain⟨p,E,rfl⟩:=Lx.1 hl;obtain⟨⟨h1,V⟩,h3,Y⟩:=h p E;refine⟨?_,λx hx=>?_⟩
  ·unfold Ys at *;rw[Mk];refine⟨h1,?_,λx hx y I=>?_⟩
   ·rw[L9];exact h3.imp λh=>oa
   obtain⟨z,U,rfl⟩:=Lx.1 I;have:=V x hx;have:=Y z U;omega
  rcases Le.1 hx with hx|hx
  ·have:=V x hx;omega
  obtain⟨z,U,rfl⟩:=Lx.1 hx;have:=Y z U;omega
 rwa [Ln]at this
theorem yE:∀n:Nat,4 ^ n=2 ^ (n+n)
 | 0=>rfl
 | n+1=>by rw[OH,yE n,show n+1+(n+1)=n+n+1+1 by omega,OH,OH];omega
theorem Qoc (h:n<=9):2 ^ (n+n)<=262144:=Lz (Nn og (show n+n<=18 by omega)) og
theorem Ss.len (h:Ss n l):l.length<=n:=xI n l (h.1.imp λE e=>oa) h.2
structure DqP (n:Nat)(l:List Dq):Prop where
 s:∀d∈l,Ss n d.1/\Ss n d.2.1
 w:∀d∈l,d.2.2.length<=l.length
 d:(l.map λd=>(d.1,d.2.1)).Nodup
theorem DqP.le {l:List Dq}(h:DqP n l):l.length<=2 ^ (n+n):=by
 have:=Qjf _ h.d λp E=>by
  obtain⟨d,hd,rfl⟩:=Lx.1 E;exact h.s d hd
 rwa [Ln]at this
theorem jS {l:List Dq}{x y:LI}:KQ l x y=true↔(x,y)∈l.map λd=>(d.1,d.2.1):=by
 unfold KQ;rw[Nk,Lx];exact⟨λ⟨d,E,G⟩=>⟨d,E,by have:=OZ G;rw[this.1,this.2]⟩,λ⟨d,E,G⟩=>⟨d,E,OY (by cases G;exact⟨O,O⟩)⟩⟩
theorem DqP.add {l:List Dq}(h:DqP n l){x y w:LI}(hx:Ss n x)(E:Ss n y)(G:w.length<=l.length+1)(I:KQ l x y=false):DqP n (l++[(x,y,w)]):=by
 refine⟨λd hd=>?_,λd hd=>?_,?_⟩
 ·rcases Le.1 hd with hd|hd
  ·exact h.s d hd
  rw[Lb.1 hd];exact⟨hx,E⟩
 ·rw[Lc,Lv];rcases Le.1 hd with hd|hd
  ·have:=h.w d hd;omega
  rw[Lb.1 hd];exact G
 rw[Ly,Mf];refine⟨h.d,od,λa J b hb e=>?_⟩;rw[Nw,Lb]at hb;have:=jS.2 (hb ▸ e ▸ J);rw[I]at this;cases this
theorem DqP.one {x y:LI}(hx:Ss n x)(E:Ss n y):DqP n [(x,y,[])]:=
 ⟨λd hd=>by rw[Lb.1 hd];exact⟨hx,E⟩,λd hd=>by rw[Lb.1 hd];exact Lo _,od⟩
theorem QdT (a:Qz)(o un l:LI)(v:Int):Ss a.st.toNat (vnx a o un l v):=qa _ _
theorem QkK {bad:LI->LI->Bool}{f:Nat}{l:List Dq}(h:l.length<=i):dfL a o un bad f i l=none:=by
 cases f with
 | zero=>rfl
 | succ f=>rw[dfL,Mv h]
theorem QpT {bad:LI->LI->Bool}{f:Nat}{l:List Dq}{x:Dq}(h:l[i]?=some x):dfL a o un bad (f+1) i l=if bad x.1 x.2.1=true then some x.2.2 else dfL a o un bad f (i+1) ((kpt a o).foldl (dfE a o un x) l):=by
 rw[dfL,h]
abbrev DqV:=Dq×O3×O3×O3
abbrev dqC (q:DqV):LV:=[q.2.1,q.2.2.1,q.2.2.2]
abbrev dqL (q:List DqV):List Dq:=q.map (·.1)
theorem QfG {f:α->Dq}{q:List α}(h:DqP n (q.map f)){x y:LI}(hx:Ss n x)(J:Ss n y){i:Decidable (koA x y∈q.map λp=>koA (f p).1 (f p).2.1)}:(!@decide _ i)=!KQ (q.map f) x y:=by
 congr 1;have hi:(koA x y∈q.map λp=>koA (f p).1 (f p).2.1)↔KQ (q.map f) x y=true:=by
  rw[jS,MB,Lx,Lx];constructor
  ·rintro⟨p,G,e⟩;have I:=h.s (f p) (LL G);obtain⟨e1,e2⟩:=QmZ (λz E=>(I.1.2 z E).1) (λz E=>(I.2.2 z E).1) (λz E=>(hx.2 z E).1) (λz E=>(J.2 z E).1) e;exact⟨p,G,by show((f p).1,(f p).2.1)=_;rw[e1,e2]⟩
  rintro⟨p,G,e⟩;have e':((f p).1,(f p).2.1)=(x,y):=e;injection e' with e1 e2
  exact⟨p,G,by rw[e1,e2]⟩
 cases hb:KQ (q.map f) x y with
 | true=>exact OY (hi.2 hb)
 | false=>exact O0 λU=>by rw[hi.1 U]at hb;cases hb
abbrev dqP (p:DqV):List (O3×LI):=[(p.2.1,p.1.1),(p.2.2.1,p.1.2.1)]
abbrev dqN (p:DqV):List (O3×LI):=[(p.2.2.2,p.1.2.2)]
abbrev DqI:=QI 361 3 dqC XB (λp:DqV=>koA p.1.1 p.1.2.1) dqP dqN
abbrev Qf3:LV:=[nS,nS,nS]
def dfP (N:Nat)(A B W:LI)(e:Int)(i:Nat)(v:O3)(w:O2):Prop :=
 if i=4 then Qh 3 N w v A else
 if i=9 then Qh 3 N w v B else
 if i=12 then Qh 3 N w v W else
 if i=14 then ∃b,v=sL b 1 1/\N<=b/\QK ↑w b 3 [sS e]else
 if i=15 then Qh 3 N w v (W++[e]) else
 if i=16 then ∃va vb vw,v=.agg #[va,vb,vw]/\Qh 3 N w va A/\Qh 3 N w vb B/\Qh 3 N w vw (W++[e]) else
 ∃b,v=sP b/\N<=b/\QK ↑w b 361 Qf3
theorem QkJ {A B W:LI}{e:Int}(i:Nat)(v:O3)(own:LN)(w w':O2)(h:dfP N A B W e i v w)(E:O6 own w w')(hb:∀b∈ow v,b∉own)(J:i∈[16]->own=[]):dfP N A B W e i v w':=by
 have k:∀{l:LI},Qh 3 N w v l->Qh 3 N w' v l:=λU=>Qg U E λb V=>hb b (yf V);unfold dfP at *;by_cases e4:i=4
 ·rw[OV e4]at *;exact k h
 rw[OU e4]at *;by_cases e9:i=9
 ·rw[OV e9]at *;exact k h
 rw[OU e9]at *;by_cases e12:i=12
 ·rw[OV e12]at *;exact k h
 rw[OU e12]at *;by_cases e14:i=14
 ·rw[OV e14]at *;obtain⟨b,rfl,G,I⟩:=h;exact⟨b,rfl,G,I.J E (hb b Lh)⟩
 rw[OU e14]at *;by_cases e15:i=15
 ·rw[OV e15]at *;exact k h
 rw[OU e15]at *;by_cases e16:i=16
 ·rw[OV e16]at *;obtain⟨va,vb,vw,rfl,G,I,Y⟩:=h;have:=J (by rw[e16];exact Lh);subst this;exact⟨va,vb,vw,O,Qm G E,Qm I E,Qm Y E⟩
 rw[OU e16]at *;obtain⟨b,rfl,G,I⟩:=h;exact⟨b,O,G,I.J E (hb b Lh)⟩
theorem QhD [Fu sV gp fn]{bad:LI->LI->Bool}{V:VwV}{A B:LI}(h:VwA ↑w V)(hA:Qu [] ↑w va A)(U:Qu [] ↑w vb B)(hV:Ss V.a.st.toNat A)(hX:Ss V.a.st.toNat B)(h9:V.a.st<=9)(ka:V.a.ed.length<=1000)
  (hk:∀(X Y:LI) (vx vy:O3) (W:O2),sW w W->Qu [] ↑W vx X->Qu [] ↑W vy Y->QU sV gp ([vx,vy]++cap) W λr w'=>r=.bool (bad X Y)/\sW W w'):
  QU sV 204 [.pointer (some ⟨V.b,0,none⟩),va,vb,.func (.func gp) #[] cap.toArray] w λr w'=>sW w w'/\∃vw,r=.tuple #[vw,.bool (dff V.a V.o V.un A B bad).isSome]/\Yr ↑w ↑w' vw ((dff V.a V.o V.un A B bad).getD []):=by
 have hok:=h.ok;have hst0:=hok.st0;obtain⟨n,hn⟩:∃n:Nat,V.a.st.toNat=n:=⟨_,O⟩;have mj:n<=9:=oa
 have hna:V.a.st=(n:Int):=oa
 rw[hn]at hV hX;have hp18:=Qoc mj;have mo:dff V.a V.o V.un A B bad=dfL V.a V.o V.un bad (2 ^ (n+n)+1) 0 [(A,B,[])]:=by unfold dff;rw[hn,yE]
 rw[mo];refine Zd (dfL V.a V.o V.un bad (2 ^ (n+n)+1) 0 [(A,B,[])]) λR hR=>?_;rw[hR];have hAl:=hV.len;have hBl:=hX.len;refine Zm func204 ?_;refine Qc<|x Qe<|Qb<|Ql<|Qa<|x (QD ⟨hA.cells,U.cells,Z⟩)<|Qo<|Q8 [[va,vb,ZX]] λhY w1 mq ms kb=>Qb<|Qc<|Qo<|Z1 XB λbm w2 mt hbm kc=>Qa<|Qa<|Qo<|Yo (us:=[[va],[vb]]) O O og od ⟨hA.cells,rfl,U.cells,rfl,Z⟩ λb24 w3 ke hb24 mu=>?_;have h6:=mt.D ke;have gm:=mq.D h6;have hl20:=kb.lt;have hlm:=kc.lt;refine KX<|(Uz (m:=100) (mu.arr od (n:=2) (cap:=2) (sz:=1) rfl og (Lp _)) (hA.I gm) (U.I gm) (.inl (MC _)) (λz hz=>oo (hV.2 z hz)) (λz hz=>oo (hX.2 z hz)) oa oa).S ?_;rintro _ w4 ⟨rfl,gn⟩;refine Qo<|Qa4 (k:=koA A B) (XR.zero ((kc.I ke).I gn)) O O O λw5 kf mv=>Qa<|Qb ?_;have mw:=gm.D gn;have kg:sW w w5:=mw.Q kf oa;have kh:∀{L:LN} {v:O3} {l:LI},(∀b∈L,↑w<=b)->Qu [] ↑w v l->Qu L ↑w5 v l:=λhL hv=>(hv.up λb hb=>.inr (hL b hb)).I kg;have my:DqI bm w (sL hY 1 1) [((A,B,[]),va,vb,ZX)] w5:=by
  have hL:∀b∈bm::ob (sL hY 1 1),↑w<=b:=λb hb=>by
   rcases Lk.1 hb with rfl|hb
   ·omega
   rw[Lb.1 hb];exact ms
  have ki:hY≠bm:=oa
  refine⟨kg,(((kb.I h6).I gn).J kf (by simp only[oF];exact ki)).own (n:=1) (sz:=3) O oa oa,λp hp=>?_,mv,λG=>ki (Lb.1 G).symm,oa⟩;rw[Lb.1 hp];exact⟨⟨kh hL hA,kh hL U,Z⟩,λ_ _=>⟨Zu.nil _ _ _,Z⟩⟩
 refine Qd<|Qc<|Qb<|QX (α:=Nat×O3×List DqV) [(8,10),(12,13),(15,16),(27,99)] (λz=>[(10,z.2.1),(12,sS z.1)]) (λz w'=>z.1<=z.2.2.length/\DqI bm w z.2.1 z.2.2 w'/\DqP n (dqL z.2.2)/\dfL V.a V.o V.un bad (2 ^ (n+n)+1 - z.1) z.1 (dqL z.2.2)=R) (λz=>2 ^ (n+n)+1 - z.1) (0,sL hY 1 1,[((A,B,[]),va,vb,ZX)]) ov ⟨Lo _,my,DqP.one hV hX,hR⟩ ?_;rintro⟨i,vl,q⟩ g w6 ⟨hi,h7,hK,ha⟩;simp only[]at hi h7 hK ha;have hql:q.length<=2 ^ (n+n):=by have:=hK.le;rwa [Ln]at this
 have kj:Zu [] ↑w6 vl q.length 3 (q.flatMap dqC):=QN h7.o oa od;refine Qd<|Ql<|Qa<|QG kj O<|ZW O O<|xe<|Zp rfl (λgq=>?_) (λgq=>?_)
 ·refine Qt ?_;have mz:q.length<=i:=by have hM:¬(i:Int)<(q.length:Int):=gq;omega
  rw[QkK (by rw[Ln];exact mz)]at ha;refine Qc<|x Qe<|Qb<|Qj ⟨[ZX,.bool false],ov,h7.st,ZX,?_,?_⟩
  ·rw[<-ha];rfl
  rw[<-ha];exact Yr.nil _ _
 have hN:i<q.length:=by have hM:(i:Int)<(q.length:Int):=gq;omega
 have m0:2 ^ (n+n)+1 - i=(2 ^ (n+n)+1 - (i+1))+1:=oa
 have hO:=Lm hN;have kk:(dqL q)[i]?=some (q[i]'hN).1:=by rw[My,LD hN];rfl
 refine Zd (q[i]'hN) λd hp=>?_;rw[hp]at hO kk;rw[m0,QpT kk]at ha;obtain⟨⟨kn,ko,_⟩,kq⟩:=h7.e d hO;have m1:=(kq [] (λ_ hb=>by cases hb)).1;have hZ:=hK.s d.1 (LL hO);have m2:=hK.w d.1 (LL hO);rw[Ln]at m2;have hl1:=hZ.1.len;have hl2:=hZ.2.len;have hr:∀{v:O3} {l:LI} {L:LN} {H:xC},Qu L H v l->Qu [] H v l:=λhv=>hv.up λb hb=>by cases hb
 refine Qf<|Qd<|Qn<|Ql<|Qa<|O9 (g:=dqC) (i:=i) (λ_=>O) kj O O hN λa35 kr=>?_;rw[hp]at kr;refine x (QF (us:=dqC d) kr O O)<|QT Qf3 λga w7 m3 m4 m5=>Q5 (dqC d) m5 ⟨kn.one,ko.one,m1.one,Z⟩ λw8 m6 gr=>xe ?_;have gb:sW w6 w8:=m3.Q m6 m4;have kt:=h7.I gb;refine Qd<|Ql<|Qs O gr O O<|Qs O gr O O<|Qo<|xc (first:=[]) (capt:=cap) O<|(hk d.1.1 d.1.2.1 _ _ w8 kt.st (hr (kn.I gb)) (hr (ko.I gb))).S ?_;rintro _ w9 ⟨rfl,gs⟩;refine xe ?_;have gc:=kt.I gs;have ku:=gr.I gs;have m7:=gb.D gs;refine Q6 rfl (λgt=>?_) (λgt=>?_)
 ·rw[OV gt]at ha;refine Qc<|Qs O ku O O<|x Qe<|Qb<|Qj ⟨[d.2.2.2,.bool true],ov,gc.st,d.2.2.2,?_,?_⟩
  ·rw[<-ha];rfl
  rw[<-ha];exact λL hL=>((kq L hL).1.I m7).up λb hb=>.inl (Le.2 (.inl hb))
 rw[OU (λh:bad d.1.1 d.1.2.1=true=>MV (gt.symm.D h))]at ha;refine Qf<|Ql<|KX<|(jE (h.I gc.st)).S ?_;rintro kv m8 ⟨kw,m9⟩;have hal:=hok.al_le;have pc:(kpt V.a V.o).length<=V.a.al.length:=LK _ _;have pd:=gc.lt;have gu:Qu (bm::ob vl) ↑m8 kv (kpt V.a V.o):=Qh.ints m9 oa pd;refine Zd (kpt V.a V.o) λks pf=>?_;rw[pf]at ha gu pc;refine QG gu O<|Qa<|xe ?_;have pg:=h7.lt;have ph:ga∉bm::ob vl:=λG=>oo (pg _ G)
 refine QX (α:=Nat×O3×List DqV) [(10,10),(15,16),(48,99)] (λz=>[(10,z.2.1),(48,sS z.1)]) (λz w'=>z.1<=ks.length/\DqI bm w z.2.1 z.2.2 w'/\DqP n (dqL z.2.2)/\d∈z.2.2/\q.length<=z.2.2.length/\QK ↑w' ga 361 (dqC d)/\ga∉bm::ob z.2.1/\Qu (bm::ob z.2.1) ↑w' kv ks/\(ks.drop z.1).foldl (dfE V.a V.o V.un d.1) (dqL z.2.2)=ks.foldl (dfE V.a V.o V.un d.1) (dqL q)) (λz=>ks.length - z.1) (0,vl,q) ov
  ⟨Lo _,gc.I kw,hK,hO,Lp _,ku.I kw,ph,gu,O⟩ ?_
 rintro⟨j,vj,qj⟩ g I ⟨hj,hw,h8,ge,kx,hC,hD,gg,hg⟩;simp only[]at hj hw h8 ge kx hD gg hg;have hqjl:qj.length<=2 ^ (n+n):=by have:=h8.le;rwa [Ln]at this
 refine Zk rfl O (λgv=>?_) (λgv=>?_)
 ·refine Qt ?_;have pn:ks.length<=j:=by have hM:¬(j:Int)<(ks.length:Int):=gv;omega
  rw[Lu pn]at hg;have po:dqL qj=ks.foldl (dfE V.a V.o V.un d.1) (dqL q):=hg;rw[<-po]at ha;refine Qr<|Qa<|QB O O<|Qb<|⟨(i+1,vj,qj),by show 2 ^ (n+n)+1 - (i+1)<2 ^ (n+n)+1 - i;omega,ov,by show i+1<=qj.length;omega,hw,h8,ha⟩
 have hP:j<ks.length:=by have hM:(j:Int)<(ks.length:Int):=gv;omega
 rw[QY hP,LQ]at hg;refine Qf<|Qd<|Qn<|Qc<|xii (i:=j) gg O O hP λa50 kz=>?_;refine Zd (ks[j]'hP) λv hv=>?_;rw[hv]at kz hg;refine x (Qq kz O)<|Qb ?_;obtain⟨⟨pp,pt,_⟩,pu⟩:=hw.e d ge;have pw:=(pu [] (λ_ hb=>by cases hb)).1;have k0:∀l:LI,Ss n (vnx V.a V.o V.un l v):=λl=>by rw[<-hn];exact QdT _ _ _ _ _
 have hE:=k0 d.1.1;have hF:=k0 d.1.2.1;have k4:dfE V.a V.o V.un d.1 (dqL qj) v=if(vnx V.a V.o V.un d.1.1 v).length+(vnx V.a V.o V.un d.1.2.1 v).length > 0/\KQ (dqL qj) (vnx V.a V.o V.un d.1.1 v) (vnx V.a V.o V.un d.1.2.1 v)=false then dqL qj++[(vnx V.a V.o V.un d.1.1 v,vnx V.a V.o V.un d.1.2.1 v,d.1.2.2++[v])]else dqL qj:=rfl
 have pz:∀z∈d.1.1,0<=z/\z<V.a.st:=λz hz=>oo (hZ.1.2 z hz)
 have p0:∀z∈d.1.2.1,0<=z/\z<V.a.st:=λz hz=>oo (hZ.2.2 z hz)
 have k5:∀W:O2,sW I W->QU sV 136 [.pointer (some ⟨V.b,0,none⟩),d.2.1,sS v] W λr w'=>sW W w'/\Qh 3 ↑W w' r (vnx V.a V.o V.un d.1.1 v):=λW hW=>U7 (est:=d.1.1) (h.I (hw.st.D hW)) (hr (pp.I hW)) pz oa ka v;have k6:∀W:O2,sW I W->QU sV 136 [.pointer (some ⟨V.b,0,none⟩),d.2.2.1,sS v] W λr w'=>sW W w'/\Qh 3 ↑W w' r (vnx V.a V.o V.un d.1.2.1 v):=λW hW=>U7 (est:=d.1.2.1) (h.I (hw.st.D hW)) (hr (pt.I hW)) p0 oa ka v;refine Zd (vnx V.a V.o V.un d.1.1 v) λA' gx=>?_;refine Zd (vnx V.a V.o V.un d.1.2.1 v) λB' gy=>?_;rw[gx,gy]at k4;rw[gx]at hE;rw[gy]at hF;simp only[gx]at k5;simp only[gy]at k6;rw[k4]at hg;have hAl':=hE.len;have hBl':=hF.len;have p4:=hw.st.size;refine Qd<|je (α:=O3×O3×O3×Nat) (sW I) (sW I) ↑I [oz 0,oz 1,oz 2,oz 3,oz 5,oz 6,oz 7,oz 8,oz 10,oz 11,oz 13] (λi=>if i=9 then[4]else if i=12 then[9]else if i=15 then[12,14]else if i=16 then[4,9,15]else[]) (λi=>if i=15 then[12]else[]) [4,9,12,14,15,16,17] [16,17] [16] [oA 18] [(56,56),(61,61),(64,64),(66,68),(16,16)] (dfP ↑I A' B' d.1.2.2 v)
  (λz=>[(68,.agg #[z.1,z.2.1,z.2.2.1]),(16,.pointer (some ⟨z.2.2.2,0,none⟩))]) (λz w'=>Qh 3 ↑I w' z.1 A'/\Qh 3 ↑I w' z.2.1 B'/\Qh 3 ↑I w' z.2.2.1 (d.1.2.2++[v])/\↑I<=z.2.2.2/\QK ↑w' z.2.2.2 361 Qf3)
  mixed oh oc (O6.X _ _) (λ_ h=>h) (λ_ _ _ _ _ hc J hb _=>hc.O J λb p5=>.inr (hb b p5)) (λ_ hc=>hc.size) (λi _=>QkJ i) ?_ ?_
 ·rintro g w' ⟨⟨he,hf,hh,p6,h1,h2,h3⟩,⟨b,p7,hb,U⟩,_⟩ _ _;exact⟨(he,hf,hh,b),⟨p6,p7,Z⟩,h1,h2,h3,hb,U⟩
 refine p Qy<|p (QH O)<|pq (λ_ hc=>Qk (hC.I hc) O O)<|p Qy<|p Qy<|p (QH O)<|pq (λ_ hc=>Qk (hC.I hc) O O)<|p Qy <|
  p (QH rfl)<|pq (λ_ hc=>Qk (hC.I hc) O O)<|p Qy<|pe ⟨⟨?_,?_,?_,?_,?_,?_,?_,Z⟩,?_⟩
 ·rintro g w' hc _ _;exact xf<|(k5 w' hc).S λr hQ ⟨J,E⟩=>⟨J,Za E hc.size,λb hb=>⟨.inl (Ja E b hb).1,(Ja E b hb).2⟩⟩
 ·rintro g w' hc _ _;exact xf<|(k6 w' hc).S λr hQ ⟨J,E⟩=>⟨J,Za E hc.size,λb hb=>⟨.inl (Ja E b hb).1,(Ja E b hb).2⟩⟩
 ·rintro g w' hc _ _;exact xf<|(Z0 (pw.I hc)).S λr hQ ⟨J,E⟩=>⟨J,Za E hc.size,λb hb=>⟨.inl (Ja E b hb).1,(Ja E b hb).2⟩⟩
 ·rintro g w' hc _ _;exact Q8 [[sS v]] λb hQ J hb U=>⟨J,⟨b,O,Lz hc.size hb,U⟩,λc hS=>by rw[Lb.1 (show c∈[b] from hS)];exact⟨.inl hb,U.lt⟩⟩
 ·rintro g w' hc ⟨p8,⟨b,p9,hb14,qf⟩,_⟩ _;refine Q2 (m:=1) (news:=[sS v]) (L:=[]) (show Qh _ _ _ _ _ from p8) O p9 O (qf.at od) om oa hc.size λr hQ E J hn=>⟨J.S λb hb=>Mc.2 ⟨12,Lh,yf hb⟩,Qh.snoc E,λb hb=>⟨?_,(Ja E b hb).2⟩⟩;exact(hn b (Qeh E hb)).symm.imp id λh=>Mc.2 ⟨12,Lh,yf h⟩
 ·rintro g w' hc ⟨h4,h9,k9,_⟩ _;refine xv (QD ⟨xN (show Qh _ _ _ _ _ from h4),xN (show Qh _ _ _ _ _ from h9),xN (show Qh _ _ _ _ _ from k9),Z⟩) ?_;exact⟨O6.Y _ _,⟨_,_,_,O,h4,h9,k9⟩,λc hS=>by cases hS⟩
 ·rintro g w' hc _ _;exact YW (us:=Qf3) O λb hQ J hb U=>⟨J,⟨b,O,Lz hc.size hb,U⟩,λc hS=>by rw[Lb.1 (show c∈[b] from hS)];exact⟨.inl hb,U.lt⟩⟩
 rintro⟨he,hf,hh,b16⟩ g ql ma ⟨gz,g0,g2,gh,g3⟩;simp only[]at gz g0 g2 gh g3;refine pk<|qo [he,hf,hh] g3 ⟨QA gz,QA g0,QA g2,Z⟩ λhG h6 hH=>⟨ma.Q h6 gh,pe ?_⟩;have hT:sW I hG:=ma.Q h6 gh;have g4:∀{u:O3} {l:LI},Qh 3 ↑I ql u l->Qh 3 ↑I hG u l:=λE=>Qg E h6 λb hb G=>VZ E g3 og (Lb.1 G ▸ hb);have q4:=g4 gz;have q5:=g4 g0;have mc:=g4 g2;have j1:(d.1.2.2++[v]).length<=qj.length+1:=by rw[Lc,Lv];omega
 have g5:=hw.I hT;have hU:=hw.lt;have h0:Qu (bm::ob vj) ↑hG he A':=Qh.ints q4 oa hU;have h5:Qu (bm::ob vj) ↑hG hf B':=Qh.ints q5 oa hU;have j2:Qu (bm::ob vj) ↑hG hh (d.1.2.2++[v]):=Qh.ints mc oa hU;have gi:∀{l:LI},Ss n l->∀z∈l,0<=z/\z<(100:Int):=λhl z hz=>oo (hl.2 z hz)
 refine QW (α:=Unit) [(69,87)] (λ_=>[(87,.bool (decide (A'.length+B'.length > 0/\KQ (dqL qj) A' B'=false)))]) (λ_ w'=>sW hG w') oh ?_ ?_
 ·refine Qr<|Qs O hH O O<|QG h0 O<|Qs O hH O O<|QG h5 O<|QB O O<|xb (Z8 O O) (λg6=>?_) (λg6=>?_)
  ·refine Qa<|Qa<|Qs O hH O O<|Qs O hH O O<|Qo<|Yo (us:=[[he],[hf]]) O O og od ⟨h0.cells,rfl,h5.cells,rfl,Z⟩ λb83 j3 hq hb83 j4=>?_;refine KX<|(Uz (m:=100) (j4.arr od (n:=2) (cap:=2) (sz:=1) rfl og (Lp _)) (hr (h0.I hq)) (hr (h5.I hq)) (.inl (MC _)) (gi hE) (gi hF) oa oa).S ?_;rintro _ za ⟨rfl,gj⟩;refine x (QaR (k:=koA A' B') ((g5.m.I hq).I gj) O O)<|x (Zj O)<|QC O<|xe<|⟨(),⟨OW Value.bool ?_,Z⟩,hq.D gj⟩;refine(QfG (f:=Prod.fst) h8 hE hF).D ?_;have z0:A'.length+B'.length > 0:=by have hM:(A'.length:Int)+(B'.length:Int) > 0:=g6;omega
   cases hse:KQ (dqL qj) A' B' with
   | true=>exact bF λh=>by cases h.2
   | false=>exact bT ⟨z0,O⟩
  refine Qa<|ZA<|ZA<|ZA<|QC O<|xe ?_;exact⟨(),⟨OW Value.bool (bF λh=>by have hM:¬(A'.length:Int)+(B'.length:Int) > 0:=g6;have:=h.1;omega),Z⟩,O6.Y _ _⟩
 rintro _ g j3 hq;have mf:=hT.D hq;have z1:=g5.I hq;refine Zp rfl (λgk=>?_) (λgk=>?_)
 ·rw[OU gk]at hg;refine Qf<|Qr<|QB O O<|Qa<|xe ?_;exact⟨(j+1,vj,qj),by show ks.length - (j+1)<ks.length - j;omega,ov,hP,z1,h8,ge,kx,hC.I mf,hD,gg.I mf,hg⟩
 rw[OV gk]at hg;have mg:=hH.I hq;refine Ql<|Qs O mg O O<|Qs O mg O O<|Qo<|Yo (us:=[[he],[hf]]) O O og od ⟨h0.cells,rfl,h5.cells,rfl,Z⟩ λb93 za gj hb93 z2=>?_;have g7:=hq.D gj;refine KX<|(Uz (m:=100) (z2.arr od (n:=2) (cap:=2) (sz:=1) rfl og (Lp _)) (hr (h0.I g7)) (hr (h5.I g7)) (.inl (MC _)) (gi hE) (gi hF) oa oa).S ?_;rintro _ w16 ⟨rfl,z3⟩;have hy:=g7.D z3;have gl:=g5.I hy;refine Qo<|yi (k:=koA A' B') gl.m O O O λw17 hI z4=>xe ?_;have z5:b16∉[bm]:=λG=>by have:=hU bm Lh;rw[Lb.1 G]at gh;omega
 have hB1617:=(hH.I hy).J hI z5;have hz13:=hT.size;have hz16:=hy.size;have hz17:=hI.size;refine Qr<|Qa<|Q3 hB1617 O O<|Qo<|Q8 [[he,hf,hh]] λb97 w18 hJ hb97 hB97 =>
  Qo<|Q2 (m:=1) (news:=[he,hf,hh]) (L:=[]) (Qm (Qg gl.o hI λb hb G=>gl.nm (Lb.1 G ▸ hb)) hJ) O O O (hB97.at od) (λu hu=>ZL.all (us:=[he,hf,hh]) ⟨h0.one,h5.one,j2.one,Z⟩ u hu) oa (oo hJ.size) λvr w19 ho19 g8 g9=>Qb<|Qr<|QB O O<|Qa<|xe ?_
 have hz18:=hJ.size;have hnew:=gl.add (p:=((A',B',d.1.2.2++[v]),he,hf,hh)) hI z4 hJ g8 ho19 g9 ⟨⟨h0.I hy,h5.I hy,Z⟩,λL hL=>⟨(Qh.ints mc oa λb hb=>(Le.1 hb).elim (λh=>LU (hL b h) p4) (hU b)).I hy,Z⟩⟩;have h13w:ga<I.heap.size:=hC.lt;have mh:∀b∈[bm],b∈bm::ob vj:=λb hb=>by rw[Lb.1 hb];exact Lh
 refine⟨(j+1,vr,qj++[((A',B',d.1.2.2++[v]),he,hf,hh)]),by show ks.length - (j+1)<ks.length - j;omega,ov,hP,hnew,?_,Le.2 (.inl ge),by rw[Lc];omega,?_,λG=>?_,?_,?_⟩
 ·show DqP n (OT _ (qj++[_]));rw[Ly];exact h8.add hE hF (by rw[Ln];exact j1) gk.2
 ·exact((((hC.I hT).I hy).J hI λG=>hD (mh _ G)).I hJ).J g8 λG=>hD (Lj _ G)
 ·rcases Lk.1 G with e|G
  ·exact hD (e ▸ Lh)
  rcases g9 _ G with h1|h1
  ·exact hD (Lj _ h1)
  omega
 ·exact Zu.grow ((((gg.I hT).I hy).J hI mh).I hJ) g8 (λb hb=>Lj _ hb) (QaV g9)
 show(ks.drop (j+1)).foldl (dfE V.a V.o V.un d.1) (OT _ (qj++[_]))=_;rw[Ly];exact hg
theorem Qq9 {b:Bool}(h:(!b)=true):b=false:=by cases b <;> first|rfl|cases h
theorem Qra {b:Bool}(h:(!b)=false):b=true:=by cases b <;> first|rfl|cases h
theorem zR (a:Qz)(o un l:LI)(b:Bool):Ss a.st.toNat (vcl a o un l b):=qa _ _
theorem Qib {V:VwV}(h:VwA ↑w V)(hE:Qu [] ↑w ve est)(hs:Ss V.a.st.toNat est)(h0:0<=s)(h1:s<V.a.st)(h9:V.a.st<=9)(hf:V.a.ed.length<=1000):
  QU sV 134 [.pointer (some ⟨V.b,0,none⟩),ve,sS s] w λr w'=>sW w w'/\∃vw,r=.tuple #[vw,.bool (rft V.a V.o V.un est s).isSome]/\Yr ↑w ↑w' vw ((rft V.a V.o V.un est s).getD []):=by
 have hm:=h.ok.st0;have J:=zR V.a V.o V.un [s] false;have hn:=J.len;refine Zm func134 ?_;refine Qc<|Zf [.pointer (some ⟨V.b,0,none⟩)] λb3 w1 T ho I=>x Qe<|Qb<|Qd<|ZK [] [oz 0,oz 1,oz 2,oz 3,oz 6,oA 4,oA 5,oA 7,oz 8,oz 9,oz 10,oz 11]<|pq (λ_ hc=>Qk (I.I hc) O O)<|p Qy<|pq (λ_ hc=>Qk (I.I hc) O O)<|p Qy <|
  p (λ_=>Zl (l:=[]) (l':=[.tmp 3]))<|pk<|Q8 [[sS s]] λhp w2 U hq hg=>⟨(O6.X _ _).D U,?_⟩
 have ha:sW w1 w2:=(O6.X _ _).D U;have hh:=T.D ha;refine pk<|xg<|(KZ (only:=false) (l:=[s]) (h.I hh) (hg.arr od (n:=1) (cap:=1) (sz:=1) rfl og (OE _)) (λz hz=>by rw[List.mem_singleton.1 hz];exact⟨h0,h1⟩) od).S ?_;rintro v3 w3 ⟨hj,hk⟩;have G:=ha.D hj;have E:=T.D G;refine⟨G,?_⟩;refine pk<|xg<|(QhD (cap:=[sP b3]) (bad:=Qco V.a) (h.I E) (hE.I E) (Qh.ints hk oa od) hs J h9 hf
  (λX Y vx vy W hW hx hy=>Qif (h.I (E.D hW)) ((I.I G).I hW) hx hy)).S ?_
 rintro r4 w4 ⟨he,vw,rfl,hw⟩;refine⟨G.D he,?_⟩;refine p (λ_=>Q0 O O)<|p (λ_=>Q0 O O)<|p ZI<|p ZI<|pe ?_;exact Qj ⟨[vw,_],ov,E.D he,vw,O,hw.S E.size⟩
theorem Qie {V:VwV}{v:Int}(h:VwA ↑w V)(h0:0<=s)(h1:s<V.a.st)(h9:V.a.st<=9):
  QU sV 137 [.pointer (some ⟨V.b,0,none⟩),sS s,sS v] w λr w'=>r=.bool (ctd V.a V.o V.un s v)/\sW w w':=by
 have hC:=h.ok.st0;have ho:=zR V.a V.o V.un [s] false;have hp:=zR V.a V.o V.un [s] true;have hD:=ho.len;have hE:=hp.len;have hq:∀z∈[s],0<=z/\z<V.a.st:=λz I=>by rw[Lb.1 I];exact⟨h0,h1⟩
 refine Zm func137 ?_;refine Qc<|Zf [.pointer (some ⟨V.b,0,none⟩)] λb3 w1 hw hF hy=>Zf [sS v] λb5 E hr hG hh=>Qb ?_;have T:=hw.D hr;have J:=hy.I hr;have G:sW E { E with drawn:=E.drawn+1 }:=O6.X _ _
 refine Qd<|QW (α:=Unit) [(8,20)] (λ_=>[(20,.bool (!(decide (v∈V.o) && decide (v∈V.un))))]) (λ_ w'=>sW E w') oh ?_ ?_
 ·refine ZK [] (Xj 0 13 [2,10])<|pq (λ_ hc=>Qk (J.I hc) O O)<|pq (λ_ hc=>Qk (hh.I hc) O O)<|pk<|xg<|(zF (w:={ E with drawn:=E.drawn+1 }) ((h.I T).I G) v).S ?_
  rintro _ w3 ⟨rfl,rfl⟩;refine⟨G,?_⟩;refine pB (λ_=>Zj O) (λhj=>?_) (λhj=>?_)
  ·refine p Qy<|ps<|ps<|ps<|ps<|ps<|ps<|ps<|p (YU O)<|pe ?_;exact⟨(),⟨OW Value.bool (by rw[O0 (Vu hj)];rfl),Z⟩,G⟩
  refine p Qy<|pq (λ_ hc=>Qk (J.I hc) O O)<|p (YN O)<|p (QH O)<|pq (λ_ hc=>Qk ((h.blk.I T).I hc) O O) <|
   pq (λ_ hc=>Qk (hh.I hc) O O)<|pk<|xg<|(ZH (w:={ E with drawn:=E.drawn+1 }) ((h.u.I T).I G) v).S ?_
  rintro _ w4 ⟨rfl,rfl⟩;refine⟨G,?_⟩;refine p (λ_=>Zj O)<|p (YU O)<|pe ?_;exact⟨(),⟨OW Value.bool (by rw[OY (Km hj),OK]),Z⟩,G⟩
 rintro _ g w3 hk;have U:=T.D hk;have hct:ctd V.a V.o V.un s v=((decide (v∈V.o) && decide (v∈V.un)) && (psb V.a v (vcl V.a V.o V.un [s] false) && !psb V.a v (vcl V.a V.o V.un [s] true))):=(Bool.and_assoc _ _ _).symm;refine Q6 rfl (λhm=>?_) (λhm=>?_)
 ·refine Qc<|Qb<|Qj ⟨[.bool false],La,OW Value.bool ?_,U⟩;rw[hct,Qq9 hm];rfl
 rw[Qra hm,OK]at hct;rw[hct];refine Qf<|Qc<|x (Zl (l:=[]) (l':=[.tmp 3,.tmp 5]))<|Qb ?_;have Y:=J.I hk;have hs:=hh.I hk;have h3:=h.I U;refine QW (α:=Unit) [(6,6),(22,36)] (λ_=>[(6,.bool (psb V.a v (vcl V.a V.o V.un [s] false) && !psb V.a v (vcl V.a V.o V.un [s] true)))]) (λ_ w'=>sW w w') oh ?_ ?_
 ·refine Qr<|Qa<|ZD Y O O<|Qa<|Qo<|Q8 [[sS s]] λhH w6 hu hI h2 =>
   Qw<|(KZ (only:=false) (l:=[s]) (h3.I hu) (h2.arr od (n:=1) (cap:=1) (sz:=1) rfl og (Lp _)) hq od).S ?_
  rintro v7 w7 ⟨h4,h5⟩;have ha:=hu.D h4;refine Qo<|xc (first:=[]) (capt:=[sP b3,sP b5]) O<|(QbW (h3.I ha) (Y.I ha) (hs.I ha) (Qh.ints h5 oa od) (λz I=>oo (ho.2 z I))).S ?_;rintro r8 w8 ⟨he,h6⟩;have hf:=ha.D h6;refine QeI (psb V.a v (vcl V.a V.o V.un [s] false)) (λhn=>?_) (λhn=>?_)
  ·rw[hn]at he ⊢;subst he;refine Qa<|Qa<|ZD (Y.I hf) O O<|Qa<|Qo<|Q8 [[sS s]] λhJ w9 hv hK J =>
    Qw<|(KZ (only:=true) (l:=[s]) ((h3.I hf).I hv) (J.arr od (n:=1) (cap:=1) (sz:=1) rfl og (Lp _)) hq od).S ?_
   rintro hL hM ⟨h7,h8⟩;have hg:=(hf.D hv).D h7;refine Qo<|xc (first:=[]) (capt:=[sP b3,sP b5]) O<|(QbW (h3.I hg) (Y.I hg) (hs.I hg) (Qh.ints h8 oa od) (λz I=>oo (hp.2 z I))).S ?_;rintro _ hN ⟨rfl,hA⟩;refine x (Zj O)<|QC O<|Qb<|⟨(),La,U.D (hg.D hA)⟩
  rw[hn]at he ⊢;subst he;refine Qa<|ZA<|ZA<|Kd<|QC O<|Qb<|⟨(),La,U.D hf⟩
 rintro _ g hO hB;exact Qj ⟨[_],La,O,hB⟩
abbrev Qfb:=Plc×O3×O3
abbrev pcC (q:Qfb):LV:=[sS q.1.1,q.2.1,q.2.2]
abbrev pcD (z:Plc):Dq:=([z.1],z.2.1,z.2.2)
abbrev pcF (p:Qfb):Dq:=pcD p.1
abbrev pcK (p:Qfb):ByteArray:=koA [p.1.1] p.1.2.1
abbrev pcP (p:Qfb):List (O3×LI):=[(p.2.1,p.1.2.1)]
abbrev pcN (p:Qfb):List (O3×LI):=[(p.2.2,p.1.2.2)]
abbrev PcI:=QI 239 3 pcC XB pcK pcP pcN
theorem QfH (l:List Plc)(s:Int)(t:LI):Qck l s t=KQ (l.map pcD) [s] t:=by
 unfold Qck KQ;rw[List.any_map];congr 1;funext z;exact decide_eq_decide.2 ⟨λh=>⟨by show[z.1]=_;rw[h.1],h.2⟩,λh=>⟨(List.cons.inj h.1).1,h.2⟩⟩
theorem Ss.one (E:0<=s)(G:s<(n:Int)):Ss n [s]:=⟨M7 _ _,λx hx=>by rw[Lb.1 hx];exact⟨E,G⟩⟩
theorem Qjn {f:Nat}{l:List Plc}(h:l.length<=i):obL a o un f i l=none:=by
 cases f with
 | zero=>rfl
 | succ f=>rw[obL,Mv h]
theorem Qjm {f:Nat}{l:List Plc}{z:Plc}{t:LI}(h:l[i]?=some z)(ht:rft a o un z.2.1 z.1=some t):obL a o un (f+1) i l=some (z.2.2,t):=by
 rw[obL,h];simp only[ht]
theorem Qjo {f:Nat}{l:List Plc}{z:Plc}(h:l[i]?=some z)(ht:rft a o un z.2.1 z.1=none):obL a o un (f+1) i l=obL a o un f (i+1) ((QM a.ed z.1).foldl (obE a o un z) l):=by
 rw[obL,h];simp only[ht]
def QmB (N:Nat)(W:LI)(e s:Int)(ve:O3)(i:Nat)(v:O3)(w:O2):Prop :=
 if i=6 then Qh 3 N w v W else
 if i=9 then ∃b,v=sL b 1 1/\N<=b/\QK ↑w b 3 [sS e]else
 if i=10 then Qh 3 N w v (W++[e]) else
 if i=11 then ∃vw,v=.agg #[sS s,ve,vw]/\Qh 3 N w vw (W++[e]) else
 ∃b,v=sP b/\N<=b/\QK ↑w b 239 [sS 0,ZX,ZX]
theorem Qhg {W:LI}{e:Int}(i:Nat)(v:O3)(own:LN)(w w':O2)(h:QmB N W e s ve i v w)(G:O6 own w w')(hb:∀b∈ow v,b∉own)(J:i∈[11]->own=[]):QmB N W e s ve i v w':=by
 have k:∀{l:LI},Qh 3 N w v l->Qh 3 N w' v l:=λT=>Qg T G λb U=>hb b (yf U);unfold QmB at *;by_cases e6:i=6
 ·rw[OV e6]at *;exact k h
 rw[OU e6]at *;by_cases e9:i=9
 ·rw[OV e9]at *;obtain⟨b,rfl,E,I⟩:=h;exact⟨b,rfl,E,I.J G (hb b Lh)⟩
 rw[OU e9]at *;by_cases e10:i=10
 ·rw[OV e10]at *;exact k h
 rw[OU e10]at *;by_cases e11:i=11
 ·rw[OV e11]at *;obtain⟨vw,rfl,E⟩:=h;have:=J (by rw[e11];exact Lh);subst this;exact⟨vw,O,Qm E G⟩
 rw[OU e11]at *;obtain⟨b,rfl,E,I⟩:=h;exact⟨b,O,E,I.J G (hb b Lh)⟩
theorem Qjk {o:Option α}(h:¬o.isSome=true):o=none:=by cases o with|none=>rfl|some x=>exact OX rfl h
theorem Qjj {o:Option α}(h:o.isSome=true):∃x,o=some x:=by cases o with|none=>cases h|some x=>exact⟨x,rfl⟩
theorem QbX {V:VwV}(h:VwA ↑w V)(h9:V.a.st<=9)(kb:V.a.ed.length<=1000):
  QU sV 57 [.pointer (some ⟨V.b,0,none⟩)] w λr w'=>sW w w'/\∃vw vo,r=.tuple #[vw,vo,.bool (obs V.a V.o V.un).isNone]/\Yr ↑w ↑w' vw ((obs V.a V.o V.un).elim [] (·.1))/\Yr ↑w ↑w' vo ((obs V.a V.o V.un).elim [] (·.2)):=by
 have hok:=h.ok;have hst0:=hok.st0;obtain⟨n,hn⟩:∃n:Nat,V.a.st.toNat=n:=⟨_,O⟩;have pc:n<=9:=oa
 have hna:V.a.st=(n:Int):=oa
 have hp18:=Qoc pc;have pd:=hok.ed;obtain⟨rv,kc,ke⟩:=h.r;rw[hn]at kc ke;have hg:obs V.a V.o V.un=if V.a.st=0 then none else obL V.a V.o V.un (2 ^ (n+n)+1) 0 [(0,vcl V.a V.o V.un [0] false,[])]:=by unfold obs;rw[hn,yE]
 refine Zd (obs V.a V.o V.un) λR hR=>?_;rw[hR]at hg ⊢;refine Zm func57 ?_;refine Qc<|x Qe<|x Qe<|Qb<|Qd<|Ql<|Z7 O<|Q9 O<|Qs O h.blk O O<|x (Zc O O)<|xe<|Zg rfl (λga=>?_) (λga=>?_)
 ·have gb:V.a.st=0:=ga;rw[OV gb]at hg;rw[hg];refine Qc<|x Qe<|x Qe<|Qb<|Qj ⟨[ZX,ZX,.bool true],ox,O6.Y _ _,ZX,ZX,O,Yr.nil _ _,Yr.nil _ _⟩
 have gb:¬V.a.st=0:=ga;rw[OU gb]at hg;have hn0:0<n:=oa
 refine Qf<|Qc ?_;have hy:=zR V.a V.o V.un [0] false;rw[hn]at hy;have pf:=hy.len;refine Qa<|Qo<|Q8 [[sS 0]] λb22 w1 kf hb22 pg=>Qw<|(KZ (only:=false) (l:=[0]) (h.I kf) (pg.arr od (n:=1) (cap:=1) (sz:=1) rfl og (OE _)) (λz hz=>by rw[List.mem_singleton.1 hz];omega) od).S ?_;rintro Y w2 ⟨ph,kg⟩;refine Zd (vcl V.a V.o V.un [0] false) λe0 pn=>?_;rw[pn]at kg hy pf hg;have gc:Qu [] ↑w2 Y e0:=Qh.ints kg oa od;refine x (QD ⟨gc.cells,Z⟩)<|Qo<|Q8 [[sS 0,Y,ZX]] λhK w3 hM po ge=>Qb ?_;have kh:=kf.D ph;have pp:=kh.D hM;refine Qc<|Qo<|Z1 XB λbm w4 ki kj kk=>Qo<|Q8 [[sS 0]] λpt w5 kn hb27 pu=>?_;have ko:=ki.D kn;have pw:Zu [] ↑w5 (sL hK 1 1) 1 3 [sS 0,Y,ZX]:=(ge.I ko).arr od (n:=1) (cap:=1) (sz:=3) rfl og (Lp _);have kq:=(gc.I hM).I ko;refine Qa<|O9 (g:=λ_:Nat=>[sS 0,Y,ZX]) (es:=[0]) (i:=0) (λ_=>O) pw O O og λa29 pz=>x (ZF O)<|x (Qq (u:=Y) (pz.fld 1 _ O) O)<|Qo<|Yo (us:=[[sL pt 1 1],[Y]]) O O og od ⟨rfl,rfl,kq.cells,rfl,Z⟩ λb32 w6 gg hb32 p0=>?_;have hN:∀{l:LI},Ss n l->∀z∈l,0<=z/\z<(100:Int):=λhl z hz=>oo (hl.2 z hz)
 have kr:Ss n [(0:Int)]:=Ss.one (MC _) oa;refine Qw<|(Uz (m:=100) (p0.arr od (n:=2) (cap:=2) (sz:=1) rfl og (OE _)) (show Qu [] ↑w6 _ [0] from(pu.I gg).arr od (n:=1) (cap:=1) (sz:=1) rfl og (Lp _)) (kq.I gg) (.inl (MC _)) (hN kr) (hN hy) od oa).S ?_;rintro _ w7 ⟨rfl,p4⟩;have kt:=(kn.D gg).D p4;refine Qo<|Qa4 (k:=koA [0] e0) (XR.zero (kk.I kt)) O O O λw8 ku p5=>Qa<|Qb ?_;have hz02:=kh.size;have hlm:=kk.lt;have hl25:=ge.lt;have kv:=ki.D kt;have kw:sW w3 w8:=kv.Q ku kj;have p6:PcI bm w (sL hK 1 1) [((0,e0,[]),Y,ZX)] w8:=by
  have kx:hK≠bm:=oa
  refine⟨pp.D kw,((ge.I kv).J ku (by simp only[oF];exact kx)).own (n:=1) (sz:=3) O oa oa,λp hp=>?_,p5,λE=>kx (Lb.1 E).symm,oa⟩;rw[Lb.1 hp];refine⟨⟨(gc.up λb hb=>.inr ?_).I (hM.D kw),Z⟩,λ_ _=>⟨Zu.nil _ _ _,Z⟩⟩;rcases Lk.1 hb with rfl|hb
  ·exact Lz hM.size kj
  rw[Lb.1 hb];exact po
 refine Qd<|Qc<|Qb<|QX (α:=Nat×O3×List Qfb) [(2,5),(7,10),(12,14),(35,111)] (λz=>[(5,z.2.1),(7,sS z.1)]) (λz w'=>z.1<=z.2.2.length/\PcI bm w z.2.1 z.2.2 w'/\DqP n (z.2.2.map pcF)/\R=obL V.a V.o V.un (2 ^ (n+n)+1 - z.1) z.1 (z.2.2.map Prod.fst)) (λz=>2 ^ (n+n)+1 - z.1) (0,sL hK 1 1,[((0,e0,[]),Y,ZX)]) ov ⟨Lo _,p6,DqP.one kr hy,hg⟩ ?_;rintro⟨i,vl,q⟩ g w9 ⟨hi,hh,h0,J⟩;simp only[]at hi hh h0 J;have hql:q.length<=2 ^ (n+n):=by have:=h0.le;rwa [Ln]at this
 have kz:Zu [] ↑w9 vl q.length 3 (q.flatMap pcC):=QN hh.o oa od;refine Qd<|Ql<|Qa<|QG kz O<|ZW O O<|xe<|Zp rfl (λgh=>?_) (λgh=>?_)
 ·refine Qt ?_;have p7:q.length<=i:=by have gi:¬(i:Int)<(q.length:Int):=gh;omega
  rw[Qjn (by rw[Ln];exact p7)]at J;rw[J];refine Qc<|x Qe<|x Qe<|Qb<|Qj ⟨[ZX,ZX,.bool true],ox,hh.st,ZX,ZX,O,Yr.nil _ _,Yr.nil _ _⟩
 have h2:i<q.length:=by have gi:(i:Int)<(q.length:Int):=gh;omega
 have p8:2 ^ (n+n)+1 - i=(2 ^ (n+n)+1 - (i+1))+1:=oa
 have h3:=Lm h2;have gj:(q.map Prod.fst)[i]?=some (q[i]'h2).1:=by rw[My,LD h2];rfl
 refine Zd (q[i]'h2) λd hp=>?_;rw[hp]at h3 gj;rw[p8]at J;obtain⟨⟨k0,_⟩,k4⟩:=hh.e d h3;have p9:=(k4 [] (λ_ hb=>by cases hb)).1;have k5:=h0.s (pcF d) (LL h3);have k6:=h0.w (pcF d) (LL h3);rw[Ln]at k6;have k9:=k5.1.2 d.1.1 Lh;have hO:Ss n d.1.2.1:=k5.2;have hl2:=hO.len;have hP:∀{v:O3} {l:LI} {L:LN} {H:xC},Qu L H v l->Qu [] H v l:=λhv=>hv.up λb hb=>by cases hb
 refine Qf<|Qd<|Qn<|Ql<|Qa<|O9 (g:=pcC) (i:=i) (λ_=>O) kz O O h2 λa43 ma=>?_;rw[hp]at ma;refine x (QF (us:=pcC d) ma O O)<|QT [sS 0,ZX,ZX] λb8 w10 qf ql q4=>Q5 (pcC d) q4 ⟨O,k0.one,p9.one,Z⟩ λq5 j1 gk=>xe ?_;have gl:sW w9 q5:=qf.Q j1 ql;have gm:=hh.I gl;refine Qd<|Ql<|Qs O gk O O<|Qs O gk O O<|Qw<|(Qib (est:=d.1.2.1) (h.I gm.st) (hP (k0.I gl)) (by rw[hn];exact hO) k9.1 oa h9 kb).S ?_;rintro _ gn ⟨gq,vt,rfl,mc⟩;refine Qa<|QO O O<|QO O O<|x Qe<|Qb ?_;have h4:=gm.I gq;have gr:=gk.I gq;have j2:=gl.D gq;refine Ql<|xe<|Q6 rfl (λgs=>?_) (λgs=>?_)
 ·refine Exists.elim (Qjj gs) λt ht=>?_;rw[Qjm gj ht]at J;rw[ht]at mc;rw[J];refine Qc<|Qs O gr O O<|Qa<|x Qe<|x Qe<|Qb<|Qj ⟨[d.2.2,vt,.bool false],ox,h4.st,d.2.2,vt,O,λL hL=>((k4 L hL).1.I j2).up λb hb=>.inl (Le.2 (.inl hb)),mc.S gm.st.size⟩
 rw[Qjo gj (Qjk λh=>MV (gs.symm.D h))]at J;refine Qf ?_;have gt:=h.I h4.st;obtain⟨s,I⟩:∃s,d.1.1=s:=⟨_,O⟩;rw[I]at k9 J;have mf:s=(s.toNat:Int):=oa
 have mg:s.toNat<n:=oa
 have hE:=ke s.toNat mg;rw[<-mf]at hE;have hol:=Yg V.a.ed s;have j3:s.toNat<(oJ n).length:=by rw[Mb];exact mg
 have j4:(sS d.1.1)=sS (s.toNat:Int):=by rw[I];exact OW _ mf
 refine Qd<|ZK [] (Xj 0 10 [])<|p Qy<|p (YN O)<|p (QH O)<|pq (λ_ hc=>Qk (gt.blk.I hc) O O)<|p (QH O)<|pq (λ_ hc=>Qk (gr.I hc) O O) <|
  Lg.pig (g:=λj:Nat=>[rv j]) (i:=s.toNat) O (λ_=>O) (kc.I h4.st) O (show Go.Lg.ev _ _=_ from j4) j3 λa64 mh=>?_
 rw[Mw]at mh;refine pq (λ_ hc=>Qq (u:=rv s.toNat) (mh.I hc) O)<|p (λ_=>Y1 (hE.I h4.st) O)<|p Qy<|pe ?_;have mj:sW gn { gn with drawn:=gn.drawn+1 }:=O6.X _ _
 have za:b8∉bm::ob vl:=λE=>oo (hh.lt _ E)
 refine QX (α:=Nat×O3×List Qfb) [(5,5),(12,14),(67,111)] (λz=>[(5,z.2.1),(67,sS z.1)]) (λz w'=>z.1<=(QM V.a.ed s).length/\PcI bm w z.2.1 z.2.2 w'/\DqP n (z.2.2.map pcF)/\d∈z.2.2/\q.length<=z.2.2.length/\QK ↑w' b8 239 (pcC d)/\b8∉bm::ob z.2.1/\((QM V.a.ed s).drop z.1).foldl (obE V.a V.o V.un d.1) (z.2.2.map Prod.fst)=(QM V.a.ed s).foldl (obE V.a V.o V.un d.1) (q.map Prod.fst)) (λz=>(QM V.a.ed s).length - z.1) (0,vl,q) ov
  ⟨Lo _,h4.I mj,h0,h3,Lp _,gr.I mj,za,O⟩ ?_
 rintro⟨j,vj,qj⟩ g z0 ⟨hj,hQ,hk,hS,mo,hT,h5,T⟩;simp only[]at hj hQ hk hS mo h5 T;have hqjl:qj.length<=2 ^ (n+n):=by have:=hk.le;rwa [Ln]at this
 refine Zk rfl O (λgu=>?_) (λgu=>?_)
 ·refine Qt ?_;have z1:(QM V.a.ed s).length<=j:=by have gi:¬(j:Int)<((QM V.a.ed s).length:Int):=gu;omega
  rw[Lu z1]at T;have z2:qj.map Prod.fst=(QM V.a.ed s).foldl (obE V.a V.o V.un d.1) (q.map Prod.fst):=T;rw[<-z2]at J;refine Qr<|Qa<|QB O O<|Qb<|⟨(i+1,vj,qj),by show 2 ^ (n+n)+1 - (i+1)<2 ^ (n+n)+1 - i;omega,ov,by show i+1<=qj.length;omega,hQ,hk,J⟩
 have hq:j<(QM V.a.ed s).length:=by have gi:(j:Int)<((QM V.a.ed s).length:Int):=gu;omega
 have z3:=Zt (Lm hq);have mq:=pd _ z3.1;rw[QY hq,LQ]at T;refine Zd ((QM V.a.ed s)[j]'hq) λe he=>?_;rw[he]at mq T;refine Qf<|Qd<|Qn<|Qc<|xie (hE.I hQ.st) O O hq λa69 ms=>?_;rw[he]at ms;refine x (QF ms O O)<|QT [sS 0,sS 0,sS 0] λb12 w14 z4 z5 hB12=>Q5 (Qp e) hB12 ox λU hs15 gv=>xe ?_;have gx:sW z0 U:=z4.Q hs15 z5;have ha:=hQ.I gx;have gy:=hT.I gx;obtain⟨⟨gz,_⟩,he15N⟩:=ha.e d hS;have he15W:=(he15N [] (λ_ hb=>by cases hb)).1;have mt:(d.1.2.2++[e.2.1]).length<=qj.length+1:=by rw[Lc,Lv];have:d.1.2.2.length<=q.length:=k6;omega
 refine Qd<|je (α:=O3×Nat) (sW U) (sW U) ↑U [oz 0,oz 1,oz 2,oz 3,oz 4,oz 5,oz 7,oz 8] (λi=>if i=10 then[6,9]else if i=11 then[10]else[]) (λi=>if i=10 then[6]else[]) [6,9,10,11,12] [11,12] [11] [oA 13] [(77,77),(80,82),(13,13)] (QmB ↑U d.1.2.2 e.2.1 e.2.2 d.2.1)
  (λz=>[(82,.agg #[sS e.2.2,d.2.1,z.1]),(13,.pointer (some ⟨z.2,0,none⟩))]) (λz w'=>Qh 3 ↑U w' z.1 (d.1.2.2++[e.2.1])/\↑U<=z.2/\QK ↑w' z.2 239 [sS 0,ZX,ZX])
  mixed oh oc (O6.X _ _) (λ_ h=>h) (λ_ _ _ _ _ hc I hb _=>hc.O I λb hb'=>.inr (hb b hb')) (λ_ hc=>hc.size) (λi _=>Qhg i) ?_ ?_
 ·rintro g w' ⟨⟨G,e16,h1⟩,⟨b,e17,hb,hB⟩,_⟩ _ _;exact⟨(G,b),⟨e16,e17,Z⟩,h1,hb,hB⟩
 refine p (QH O)<|pq (λ_ hc=>Qk (gv.I hc) O O)<|p (QH O)<|pq (λ_ hc=>Qk (gy.I hc) O O)<|p (QH O)<|pq (λ_ hc=>Qk (gy.I hc) O O) <|
  p (QH rfl)<|pq (λ_ hc=>Qk (gv.I hc) O O)<|pe ⟨⟨?_,?_,?_,?_,?_,Z⟩,?_⟩
 ·rintro g w' hc _ _;exact xg<|(Z0 ((hP he15W).I hc)).S λr g0 ⟨I,ho⟩=>⟨I,Za ho hc.size,λb hb=>⟨.inl (Ja ho b hb).1,(Ja ho b hb).2⟩⟩
 ·rintro g w' hc _ _;exact Q8 [[sS e.2.1]] λb g0 I hb hB=>⟨I,⟨b,O,Lz hc.size hb,hB⟩,λc h6=>by rw[Lb.1 (show c∈[b] from h6)];exact⟨.inl hb,hB.lt⟩⟩
 ·rintro g w' hc ⟨gt,⟨b,e14,hb14,hB14⟩,_⟩ _;rw[Lc,Lv]at mt;refine Q2 (m:=1) (news:=[sS e.2.1]) (L:=[]) (show Qh _ _ _ _ _ from gt) O e14 O (hB14.at od) om oa hc.size λr g0 ho I hn=>⟨I.S λb hb=>Mc.2 ⟨6,Lh,yf hb⟩,Qh.snoc ho,λb hb=>⟨?_,(Ja ho b hb).2⟩⟩;exact(hn b (Qeh ho hb)).symm.imp id λh=>Mc.2 ⟨6,Lh,yf h⟩
 ·rintro g w' hc ⟨mu,_⟩ _;refine xv (QD ⟨O,gz.cells,xN (show Qh _ _ _ _ _ from mu),Z⟩) ?_;exact⟨O6.Y _ _,⟨_,O,mu⟩,λc h6=>by cases h6⟩
 ·rintro g w' hc _ _;exact YW (us:=[sS 0,ZX,ZX]) O λb g0 I hb hB=>⟨I,⟨b,O,Lz hc.size hb,hB⟩,λc h6=>by rw[Lb.1 (show c∈[b] from h6)];exact⟨.inl hb,hB.lt⟩⟩
 rintro⟨G,hU⟩ g w16 mv ⟨h7,hV,hW⟩;simp only[]at h7 hV hW;refine pk<|qo [sS e.2.2,d.2.1,G] hW ⟨O,gz.one,QA h7,Z⟩ λh8 g2 g3=>⟨mv.Q g2 hV,pe ?_⟩;have hA:sW U h8:=mv.Q g2 hV;have mw:Qh 3 ↑U h8 G (d.1.2.2++[e.2.1]):=Qg h7 g2 λb hb E=>VZ h7 hW og (Lb.1 E ▸ hb);have hC:=ha.I hA;have hW7:Qu (bm::ob vj) ↑h8 G (d.1.2.2++[e.2.1]):=Qh.ints mw oa ha.lt;have my:Qu (bm::ob vj) ↑h8 d.2.1 d.1.2.1:=gz.I hA;have hB817:=gy.I hA;have mz:=gv.I hA;have h13b:∀b∈bm::ob vj,b≠hU:=λb hb=>oo (ha.lt b hb)
 have h13w:hU∉ob G:=VZ h7 hW og;have hr:(obN V.a V.o V.un d.1 e).2.1=if e.2.1∈V.o then vnx V.a V.o V.un d.1.2.1 e.2.1 else d.1.2.1:=rfl
 have hD:Ss n (obN V.a V.o V.un d.1 e).2.1:=by
  rw[hr];split
  ·rw[<-hn];exact QdT _ _ _ _ _
  exact hO
 have m0:obE V.a V.o V.un d.1 (qj.map Prod.fst) e=if Qck (qj.map Prod.fst) e.2.2 (obN V.a V.o V.un d.1 e).2.1=true then qj.map Prod.fst else qj.map Prod.fst++[(e.2.2,(obN V.a V.o V.un d.1 e).2.1,d.1.2.2++[e.2.1])]:=rfl
 refine Zd (obN V.a V.o V.un d.1 e).2.1 λest hest=>?_;rw[hest]at hr hD m0;rw[m0]at T;have hesl:=hD.len;have hz17:=hC.st.size;refine QW (α:=O3) [(83,93)] (λ_=>[]) (λz w'=>O6 [hU] h8 w'/\QK ↑w' hU 239 [sS e.2.2,z,G]/\Qu (bm::ob vj) ↑w' z est) oh ?_ ?_
 ·refine Ql<|Qs O mz O O<|Qw<|(zF (h.I hC.st) e.2.1).S ?_;rintro _ hX ⟨rfl,rfl⟩;refine xe<|Zp O (λg4=>?_) (λg4=>?_)
  ·rw[OU g4]at hr;refine Qf ?_;exact⟨d.2.1,Z,O6.Y _ _,g3,by rw[hr];exact my⟩
  rw[OV g4]at hr;refine Qr<|Qa<|Qs O hB817 O O<|Qs O mz O O<|Qw<|(U7 (est:=d.1.2.1) (h.I hC.st) (hP my) (λz hz=>oo (hO.2 z hz)) oa kb e.2.1).S ?_;rintro g5 w19 ⟨g6,hY⟩;rw[<-hr]at hY;have hA19:Qu (bm::ob vj) ↑w19 g5 est:=Qh.ints hY oa hC.lt;refine Q9 O<|Qo<|Qv (u:=g5) (g3.I g6) O O (L6 O) hA19.one λw20 hF hB1320=>xe ?_;exact⟨g5,Z,(g6.S λb hb=>by cases hb).V hF,hB1320,Qh.ints (Qg hY hF λb hb E=>VZ hY (g3.I g6) og (Lb.1 E ▸ hb)) oa hC.lt⟩
 rintro hw g hX ⟨m1,g7,hZ⟩;have m2:sW U hX:=hA.Q m1 hV;have hI18:PcI bm w vj qj hX:=ha.I m2;have m3:=Qg mw m1 λb hb E=>h13w (Lb.1 E ▸ hb);have hW18:Qu (bm::ob vj) ↑hX G (d.1.2.2++[e.2.1]):=Qh.ints m3 oa ha.lt;have g8:Ss n [e.2.2]:=Ss.one mq.2.2.2.1 oa;refine Qc<|Qs O g7 O O<|Qo<|Q8 [[sS e.2.2]] λb96 w20 hF hb96 hB96 =>
  Qs rfl (g7.I hF) O O<|Qo<|Yo (us:=[[sL b96 1 1],[hw]]) O O og od ⟨rfl,rfl,hZ.cells,rfl,Z⟩ λb99 w21 m4 hb99 hB99=>?_
 have m5:=hF.D m4;refine Qw<|(Uz (m:=100) (hB99.arr od (n:=2) (cap:=2) (sz:=1) rfl og (OE _)) (show Qu [] ↑w21 _ [e.2.2] from(hB96.I m4).arr od (n:=1) (cap:=1) (sz:=1) rfl og (Lp _)) (hP (hZ.I m5)) (.inl (MC _)) (hN g8) (hN hD) od oa).S ?_;rintro _ w22 ⟨rfl,hs22⟩;refine Qb ?_;have hG:=m5.D hs22;have hf:=hI18.I hG;have g9:=(gx.D m2).D hG;refine Ql<|Qa<|x (QaR (k:=koA [e.2.2] est) hf.m O O)<|x (Zj O)<|xe ?_;have m6:∀{i:Decidable (koA [e.2.2] est∈qj.map pcK)},(!@decide _ i)=!Qck (qj.map Prod.fst) e.2.2 est:=by
  intro i;rw[QfH,MB];exact QfG (f:=pcF) hk g8 hD
 refine Q6 rfl (λka=>?_) (λka=>?_)
 ·have hH:=Qq9 (m6.symm.D ka);rw[OU (by rw[hH];exact MV)]at T;refine Ql<|Qa<|Qo<|yi (k:=koA [e.2.2] est) hf.m O O O λw23 hI hM23=>xe ?_;have m7:∀b∈[bm],b∈bm::ob vj:=λb hb=>by rw[Lb.1 hb];exact Lh
  have hB1323:=(g7.I hG).J hI λE=>h13b _ (m7 _ E) O;have hz23:=hI.size;have hz22:=hf.st.size;refine Qr<|Qa<|Q3 hB1323 O O<|Qo<|Q8 [[sS e.2.2,hw,G]] λb109 w24 hJ hb109 hB109 =>
   Qo<|Q2 (m:=1) (news:=[sS e.2.2,hw,G]) (L:=[]) (Qm (Qg hf.o hI λb hb E=>hf.nm (Lb.1 E ▸ hb)) hJ) O O O (hB109.at od) (λu hu=>ZL.all (us:=[sS e.2.2,hw,G]) ⟨rfl,hZ.one,hW18.one,Z⟩ u hu) oa (oo hJ.size) λvr w25 ho25 m8 m9=>Qb<|Qr<|QB O O<|Qa<|xe ?_
  have hz24:=hJ.size;have hz13:=g9.size;have h8w:=hT.lt;have hnew:=hf.add (p:=((e.2.2,est,d.1.2.2++[e.2.1]),hw,G)) hI hM23 hJ m8 ho25 m9 ⟨⟨hZ.I hG,Z⟩,λL hL=>⟨(Qh.ints m3 oa λb hb=>(Le.1 hb).elim (λh=>LU (hL b h) ha.st.size) (ha.lt b)).I hG,Z⟩⟩;refine⟨(j+1,vr,qj++[((e.2.2,est,d.1.2.2++[e.2.1]),hw,G)]),by show(QM V.a.ed s).length - (j+1)<(QM V.a.ed s).length - j;omega,ov,hq,hnew,?_,Le.2 (.inl hS),by rw[Lc];omega,?_,λE=>?_,?_⟩
  ·show DqP n (OT _ (qj++[_]));rw[Ly];refine hk.add g8 hD (by rw[Ln];exact mt) ?_;rw[QfH,MB]at hH;exact hH
  ·exact(((hT.I g9).J hI λE=>h5 (m7 _ E)).I hJ).J m8 λE=>h5 (Lj _ E)
  ·rcases QaV m9 _ E with h1|h1
   ·exact h5 h1
   omega
  show((QM V.a.ed s).drop (j+1)).foldl (obE V.a V.o V.un d.1) (OT _ (qj++[_]))=_;rw[Ly];exact T
 have hH:=Qra (m6.symm.D ka);rw[OV hH]at T;refine Qf<|Qr<|QB O O<|Qa<|xe ?_;exact⟨(j+1,vj,qj),by show(QM V.a.ed s).length - (j+1)<(QM V.a.ed s).length - j;omega,ov,hq,hf,hk,hS,mo,hT.I g9,h5,T⟩
abbrev CqV:=Cq×O3
abbrev cqC (q:CqV):LV:=[sS q.1.1,ZX,q.2]
abbrev cqK (p:CqV):Int:=p.1.1
abbrev cqN (p:CqV):List (O3×LI):=[(p.2,p.1.2)]
abbrev CqI:=QI 239 3 cqC XJ cqK (λ_=>[]) cqN
structure CqO (n:Nat)(l:List Cq):Prop where
 s:∀d∈l,0<=d.1/\d.1<(n:Int)
 w:∀d∈l,d.2.length<=l.length
 d:(l.map (·.1)).Nodup
theorem CqO.le {l:List Cq}(h:CqO n l):l.length<=n:=by
 have:=xI n _ h.d λx hx=>by
  obtain⟨d,hd,rfl⟩:=Lx.1 hx;exact h.s d hd
 rwa [Ln]at this
theorem CqO.add {l:List Cq}(h:CqO n l){w:LI}(E:0<=s)(G:s<(n:Int))(I:w.length<=l.length+1)(J:s∉l.map (·.1)):CqO n (l++[(s,w)]):=by
 refine⟨λd hd=>?_,λd hd=>?_,?_⟩
 ·rcases Le.1 hd with hd|hd
  ·exact h.s d hd
  rw[Lb.1 hd];exact⟨E,G⟩
 ·rw[Lc,Lv];rcases Le.1 hd with hd|hd
  ·have:=h.w d hd;omega
  rw[Lb.1 hd];exact I
 rw[Ly,Mf];exact⟨h.d,od,λa T b hb e=>J ((show b=s by simpa using hb) ▸ e ▸ T)⟩
theorem QkN {f:Nat}{l:List Cq}(h:l.length<=i):csL a o un f i l=none:=by
 cases f with
 | zero=>rfl
 | succ f=>rw[csL,Mv h]
theorem QkM {f:Nat}{l:List Cq}{z:Cq}{v:Int}(h:l[i]?=some z)(ht:a.al.find? (ctd a o un z.1)=some v):csL a o un (f+1) i l=some (z.2,v):=by
 rw[csL,h];simp only[ht]
theorem QkO {f:Nat}{l:List Cq}{z:Cq}(h:l[i]?=some z)(ht:a.al.find? (ctd a o un z.1)=none):csL a o un (f+1) i l=csL a o un f (i+1) ((QM a.ed z.1).foldl (csE z) l):=by
 rw[csL,h];simp only[ht]
theorem Qnn {p:Int->Bool}{k:Nat}(h:k<l.length):(l.drop k).find? p=if p (l[k]'h)=true then some (l[k]'h) else(l.drop (k+1)).find? p:=by
 rw[QY h,List.find?_cons];cases E:p (l[k]'h) with
 | true=>rw[OV rfl]
 | false=>rw[OU MV]
def cnP (N:Nat)(W:LI)(e:Int)(i:Nat)(v:O3)(w:O2):Prop :=
 if i=5 then Qh 3 N w v W else
 ∃b,v=sL b 1 1/\N<=b/\QK ↑w b 3 [sS e]
theorem QkW {W:LI}{e:Int}(i:Nat)(v:O3)(w w':O2)(h:cnP N W e i v w)(E:sW w w'):cnP N W e i v w':=by
 unfold cnP at *;by_cases e5:i=5
 ·rw[OV e5]at *;exact Qm h E
 rw[OU e5]at *;obtain⟨b,G,I,J⟩:=h;exact⟨b,G,I,J.I E⟩
theorem QbY {V:VwV}(h:VwA ↑w V)(h9:V.a.st<=9)(pg:V.a.ed.length<=1000):
  QU sV 58 [.pointer (some ⟨V.b,0,none⟩)] w λr w'=>sW w w'/\∃vw,r=.tuple #[vw,sS ((cns V.a V.o V.un).elim (-1) (·.2)),.bool (cns V.a V.o V.un).isNone]/\Yr ↑w ↑w' vw ((cns V.a V.o V.un).elim [] (·.1)):=by
 have hok:=h.ok;have ph:=hok.st0;have pn:=hok.al_le;obtain⟨n,hn⟩:∃n:Nat,V.a.st.toNat=n:=⟨_,O⟩;have po:n<=9:=oa
 have pp:V.a.st=(n:Int):=oa
 have kk:=hok.ed;obtain⟨rv,ge,gg⟩:=h.r;rw[hn]at ge gg;have h2:cns V.a V.o V.un=if V.a.st=0 then none else csL V.a V.o V.un (n+1) 0 [(0,[])]:=by unfold cns;rw[hn]
 refine Zd (cns V.a V.o V.un) λR hR=>?_;rw[hR]at h2 ⊢;refine Zm func58 ?_;refine Qc<|x Qe<|x Qe<|Qb<|Qd<|Ql<|Z7 O<|Q9 O<|Qs O h.blk O O<|x (Zc O O)<|xe<|Zg rfl (λT=>?_) (λT=>?_)
 ·have hJ:V.a.st=0:=T;rw[OV hJ]at h2;rw[h2];refine Qc<|x Qe<|x Qe<|Qb<|Qj ⟨[ZX,sS (-1),.bool true],ox,O6.Y _ _,ZX,O,Yr.nil _ _⟩
 have hJ:¬V.a.st=0:=T;rw[OU hJ]at h2;have pt:0<n:=oa
 refine Qf<|Qc<|x (QD Z)<|Qo<|Q8 [[sS 0,ZX,ZX]] λhK w1 gh pu gi=>Qb<|Qc<|Qo<|Z1 XJ λbm w2 gj pw kn=>Qo<|Qa4 (k:=(0:Int)) (XR.zero kn) O O O λw3 gk ko=>Qa<|Qb ?_;have pz:=gh.size;have kq:sW w w3:=(gh.D gj).Q gk oa;have kr:CqI bm w (sL hK 1 1) [((0,[]),ZX)] w3:=by
  have p0:=gi.lt;have gl:hK≠bm:=oa
  refine⟨kq,((gi.I gj).J gk (by simp only[oF];exact gl)).own (n:=1) (sz:=3) O oa oa,λp hp=>?_,ko,λE=>gl (Lb.1 E).symm,oa⟩;rw[Lb.1 hp];exact⟨Z,λ_ _=>⟨Zu.nil _ _ _,Z⟩⟩
 have kt:CqO n [((0:Int),([]:LI))]:=⟨λd hd=>by rw[Lb.1 hd];exact⟨MC _,by show(0:Int)<n;omega⟩,λd hd=>by rw[Lb.1 hd];exact Lo _,od⟩;refine Qd<|Qc<|Qb<|QX (α:=Nat×O3×List CqV) [(2,5),(7,8),(10,10),(12,12),(23,86)] (λz=>[(5,z.2.1),(7,sS z.1)]) (λz w'=>z.1<=z.2.2.length/\CqI bm w z.2.1 z.2.2 w'/\CqO n (z.2.2.map Prod.fst)/\R=csL V.a V.o V.un (n+1 - z.1) z.1 (z.2.2.map Prod.fst)) (λz=>n+1 - z.1) (0,sL hK 1 1,[((0,[]),ZX)]) ov ⟨Lo _,kr,kt,h2⟩ ?_;rintro⟨i,vl,q⟩ g w4 ⟨hi,hr,h3,U⟩;simp only[]at hi hr h3 U;have p4:q.length<=n:=by have:=h3.le;rwa [Ln]at this
 have gm:Zu [] ↑w4 vl q.length 3 (q.flatMap cqC):=QN hr.o oa od;refine Qd<|Ql<|Qa<|QG gm O<|ZW O O<|xe<|Zp rfl (λhM=>?_) (λhM=>?_)
 ·refine Qt ?_;have ku:q.length<=i:=by have T:¬(i:Int)<(q.length:Int):=hM;omega
  rw[QkN (by rw[Ln];exact ku)]at U;rw[U];refine Qc<|x Qe<|x Qe<|Qb<|Qj ⟨[ZX,sS (-1),.bool true],ox,hr.st,ZX,O,Yr.nil _ _⟩
 have h4:i<q.length:=by have T:(i:Int)<(q.length:Int):=hM;omega
 have kv:n+1 - i=(n+1 - (i+1))+1:=oa
 have h6:=Lm h4;have hN:(q.map Prod.fst)[i]?=some (q[i]'h4).1:=by rw[My,LD h4];rfl
 refine Zd (q[i]'h4) λd hp=>?_;rw[hp]at h6 hN;rw[kv]at U;have gn:=(hr.e d h6).2;have kw:=(gn [] (λ_ hb=>by cases hb)).1;have gq:=h3.s d.1 (LL h6);have hO:=h3.w d.1 (LL h6);rw[Ln]at hO;have kx:∀{v:O3} {l:LI} {L:LN} {H:xC},Qu L H v l->Qu [] H v l:=λhv=>hv.up λb hb=>by cases hb
 refine Qf<|Qd<|Qn<|Ql<|Qa<|O9 (g:=cqC) (i:=i) (λ_=>O) gm O O h4 λp5 gr=>?_;rw[hp]at gr;refine x (QF (us:=cqC d) gr O O)<|QT [sS 0,ZX,ZX] λb8 w5 kz k0 k4=>Q5 (cqC d) k4 ⟨O,O,kw.one,Z⟩ λw6 k5 k6=>xe ?_;have gs:sW w4 w6:=kz.Q k5 k0;have hP:=hr.I gs;have gt:=(h.I hP.st).a.al;refine Qd<|Ql<|Z7 O<|Q9 O<|Qs O (h.blk.I hP.st) O O<|QG gt O<|Qa<|xe ?_;obtain⟨s,G⟩:∃s,d.1.1=s:=⟨_,O⟩;rw[G]at gq;have k9:(V.a.al.drop 0).find? (ctd V.a V.o V.un s)=V.a.al.find? (ctd V.a V.o V.un d.1.1):=by rw[G,NK]
 refine QX (α:=Nat) [(2,4),(10,10),(39,51)] (λz=>[(39,sS z)]) (λz w'=>z<=V.a.al.length/\sW w6 w'/\(V.a.al.drop z).find? (ctd V.a V.o V.un s)=V.a.al.find? (ctd V.a V.o V.un d.1.1)) (λz=>V.a.al.length - z) 0 La ⟨Lo _,O6.Y _ _,k9⟩ ?_;rintro k g w7 ⟨hk,h7,Y⟩;have hw:=hP.I h7;have hC:=k6.I h7;have ma:=gs.D h7;refine Zk rfl O (λhQ=>?_) (λhQ=>?_)
 ·refine Qt ?_;have mc:V.a.al.length<=k:=by have T:¬(k:Int)<(V.a.al.length:Int):=hQ;omega
  rw[Lu mc]at Y;rw[QkO hN Y.symm,G]at U;have gu:s=(s.toNat:Int):=oa
  have gv:s.toNat<n:=oa
  have hE:=gg s.toNat gv;rw[<-gu]at hE;have p6:=Yg V.a.ed s;have mf:s.toNat<(oJ n).length:=by rw[Mb];exact gv
  have mg:(sS d.1.1)=sS (s.toNat:Int):=by rw[G];exact OW _ gu
  refine Qd<|ZK [] (Xj 0 10 [])<|p Qy<|p (YN O)<|p (QH O)<|pq (λ_ hc=>Qk ((h.blk.I hw.st).I hc) O O)<|p (QH O)<|pq (λ_ hc=>Qk (hC.I hc) O O) <|
   Lg.pig (g:=λj:Nat=>[rv j]) (i:=s.toNat) O (λ_=>O) (ge.I hw.st) O (show Go.Lg.ev _ _=_ from mg) mf λp7 gx=>?_
  rw[Mw]at gx;refine pq (λ_ hc=>Qq (u:=rv s.toNat) (gx.I hc) O)<|p (λ_=>Y1 (hE.I hw.st) O)<|p Qy<|pe ?_;have gy:sW w7 { w7 with drawn:=w7.drawn+1 }:=O6.X _ _
  have mh:b8∉bm::ob vl:=λE=>oo (hr.lt _ E)
  refine QX (α:=Nat×O3×List CqV) [(5,5),(12,12),(61,86)] (λz=>[(5,z.2.1),(61,sS z.1)]) (λz w'=>z.1<=(QM V.a.ed s).length/\CqI bm w z.2.1 z.2.2 w'/\CqO n (z.2.2.map Prod.fst)/\d∈z.2.2/\q.length<=z.2.2.length/\QK ↑w' b8 239 (cqC d)/\b8∉bm::ob z.2.1/\((QM V.a.ed s).drop z.1).foldl (csE d.1) (z.2.2.map Prod.fst)=(QM V.a.ed s).foldl (csE d.1) (q.map Prod.fst)) (λz=>(QM V.a.ed s).length - z.1) (0,vl,q) ov
   ⟨Lo _,hw.I gy,h3,h6,Lp _,hC.I gy,mh,O⟩ ?_
  rintro⟨j,vj,qj⟩ g w8 ⟨hj,hg,h8,hD,gz,g0,hy,J⟩;simp only[]at hj hg h8 hD gz hy J;have p8:qj.length<=n:=by have:=h8.le;rwa [Ln]at this
  refine Zk O O (λhS=>?_) (λhS=>?_)
  ·refine Qt ?_;have mj:(QM V.a.ed s).length<=j:=by have T:¬(j:Int)<((QM V.a.ed s).length:Int):=hS;omega
   rw[Lu mj]at J;have mo:qj.map Prod.fst=(QM V.a.ed s).foldl (csE d.1) (q.map Prod.fst):=J;rw[<-mo]at U;refine Qr<|Qa<|QB O O<|Qb<|⟨(i+1,vj,qj),by show n+1 - (i+1)<n+1 - i;omega,ov,by show i+1<=qj.length;omega,hg,h8,U⟩
  have hz:j<(QM V.a.ed s).length:=by have T:(j:Int)<((QM V.a.ed s).length:Int):=hS;omega
  have mq:=Zt (Lm hz);have g2:=kk _ mq.1;rw[QY hz,LQ]at J;refine Zd ((QM V.a.ed s)[j]'hz) λe he=>?_;rw[he]at g2 J;refine Qf<|Qd<|Qn<|Qc<|xie (hE.I hg.st) O O hz λp9 g3=>?_;rw[he]at g3;refine x (QF g3 O O)<|QT [sS 0,sS 0,sS 0] λhT w9 ms g4 mt=>Q5 (Qp e) mt ox λmu mv hU=>xe ?_;have hV:sW w8 mu:=ms.Q mv g4;have I:=hg.I hV;have g5:=g0.I hV;have g6:csE d.1 (qj.map Prod.fst) e=if e.2.2∈(qj.map Prod.fst).map Prod.fst then qj.map Prod.fst else qj.map Prod.fst++[(e.2.2,d.1.2++[e.2.1])]:=rfl
  have g7:(qj.map Prod.fst).map Prod.fst=qj.map cqK:=MB;rw[g7]at g6;rw[g6]at J;refine Ql<|Qs O hU O O<|x (QaR (k:=e.2.2) I.m O O)<|x (Zj O)<|xe<|Q6 O (λhW=>?_) (λhW=>?_)
  ·have hF:=Vu hW;rw[OU hF]at J;refine Ql<|Qs O hU O O<|Qo<|yi (k:=e.2.2) I.m O O O λha hh mw=>xe ?_;have hX:∀b∈[bm],b∈bm::ob vj:=λb hb=>by rw[Lb.1 hb];exact Lh
   have my:hT∉[bm]:=λE=>by have:=hg.lt bm Lh;rw[Lb.1 E]at g4;omega
   have g8:=hU.J hh my;have g9:=g5.J hh λE=>hy (hX _ E);have mz:=((I.e d hD).2 [] (λ_ hb=>by cases hb)).1;have m0:Qu [] ↑ha d.2 d.1.2:=kx (mz.J hh hX);have qf:=I.st.size;have ql:=hh.size;have m1:=Qg I.o hh λb hb E=>I.nm (Lb.1 E ▸ hb);refine QdA (α:=O3×Nat) (O6 (ob vj) ha) (sW ha) [oz 0,oz 1,oz 2,oz 3,oz 4,oz 6,oz 7] (λ_=>[]) [5,8] [oA 9,oz 10,oA 11,oA 12,oz 13] [(78,78),(81,81)] (cnP ↑ha d.1.2 e.2.1)
    (λz=>[(78,z.1),(81,.slice (some ⟨z.2,0,none⟩) 1 1)]) (λz w'=>Qh 3 ↑ha w' z.1 d.1.2/\z.2∉ob z.1/\QK ↑w' z.2 3 [sS e.2.1])
    mixed oh oc (O6.X _ _) (λ_ h=>h.any) (λ_ _ hc G=>hc.D G) QkW ?_ ?_
   ·rintro g w' ⟨h5,⟨b,e8,hb,hB⟩,_⟩ m2;refine⟨(_,b),⟨O,e8,Z⟩,h5,λE=>?_,hB⟩;have:=m2 5 od 8 od og b (yf E);rw[e8]at this;exact this Lh
   refine p Qy<|p (QH O)<|pq (λ_ hc=>Qk (g8.J hc ?_) O O)<|p (QH O)<|pq (λ_ hc=>Qk (g9.J hc λE=>hy (Lj _ E)) O O) <|
    p (QH rfl)<|pq (λ_ hc=>Qk (g8.J hc ?_) O O)<|pe ⟨⟨?_,?_,Z⟩,?_⟩
   ·exact λE=>oo (hg.lt hT (Lj _ E))
   ·exact λE=>oo (hg.lt hT (Lj _ E))
   ·rintro g w' hc _;exact xg<|(Z0 (m0.I hc)).S λr m3 ⟨G,ho⟩=>⟨G,Za ho hc.size,Ja ho⟩
   ·rintro g w' hc _;exact Q8 [[sS e.2.1]] λb m3 G hb hB=>⟨G,⟨b,O,Lz hc.size hb,hB⟩,λc m4=>by rw[Lb.1 (show c∈[b] from m4)];exact⟨hb,hB.lt⟩⟩
   rintro⟨vc,q4⟩ g m5 hY ⟨hZ,m6,ka⟩;simp only[]at hZ m6 ka;have kb:=Qi hZ;have q5:d.1.2.length<=9:=by have:d.1.2.length<=q.length:=hO;omega
   refine pk<|Q2 (m:=1) (news:=[sS e.2.1]) (L:=[]) hZ O O O (ka.at od) om oa hY.size λhq kc m7 ke j1=>⟨(hY.O ke λb hb=>.inr (kb b hb).1).any,?_⟩;have kf:sW ha kc:=hY.O ke λb hb=>.inr (kb b hb).1;have ga:Qh 3 ↑ha kc hq (d.1.2++[e.2.1]):=Qh.snoc m7;refine p (λ_=>QD ⟨O,xN ga,Z⟩)<|pk<|Q8 [[sS e.2.2,ZX,hq]] λj2 j3 gb j4 m8=>⟨(kf.D gb).any,?_⟩;have hf:=kf.D gb;refine pk<|Q2 (m:=1) (news:=[sS e.2.2,ZX,hq]) (L:=[]) (Qm m1 hf) O O O (m8.at od) (λu hu=>ZL.all (us:=[sS e.2.2,ZX,hq]) ⟨rfl,rfl,QA ga,Z⟩ u hu) oa (oo hf.size) λvr kg m9 h0 hG=>⟨hf.any.V h0,?_⟩;refine p ZI<|pe ?_;refine Qr<|QB O O<|Qa<|xe ?_;have za:=hf.size;have z0:=hV.size;have z1:=g0.lt;have kh:=I.nm;have ki:∀b∈bm::ob vj,b<ha.heap.size:=λb hb=>oo (I.lt b hb)
   have pc:∀L:LN,(∀b∈L,b<↑w)->Qu (L++bm::ob vr) ↑kg hq (d.1.2++[e.2.1]):=λL hL=>Zu.grow ((Qh.ints ga (by rw[Lc,Lv];omega) λb hb=>(Le.1 hb).elim (λh=>oo (hL b h)) (ki b)).I gb) h0 (λb hb=>Le.2 (.inr (Lj _ hb))) (QaU L hG);have pd:CqI bm w vr (qj++[((e.2.2,d.1.2++[e.2.1]),hq)]) kg:=by
    refine⟨((I.st.O hh λb hb=>.inr (by rw[Lb.1 hb];exact I.hb)).D hf).O h0 λb hb=>.inr (Qi I.o b hb).1,?_,λp' hA=>?_,?_,λpf=>?_,I.hb⟩
    ·rw[LF,Na,Lc,Lv];exact m9
    ·rcases Le.1 hA with hA|hA
     ·exact⟨Z,λL hL=>((((I.e p' hA).2 L hL).J hh λb hb=>Le.2 (.inr (hX b hb))).I hf).grow h0 (λb hb=>Le.2 (.inr (Lj _ hb))) (QaU L hG)⟩
     rw[Lb.1 hA];exact⟨Z,λL hL=>⟨pc L hL,Z⟩⟩
    ·rw[Ly];exact(mw.I hf).J h0 kh
    rcases hG _ pf with h1|h1
    ·exact kh h1
    have:=ki bm Lh;omega
   refine⟨(j+1,vr,qj++[((e.2.2,d.1.2++[e.2.1]),hq)]),by show(QM V.a.ed s).length - (j+1)<(QM V.a.ed s).length - j;omega,ov,hz,pd,?_,Le.2 (.inl hD),by rw[Lc];omega,?_,λE=>?_,?_⟩
   ·show CqO n (OT _ (qj++[_]));rw[Ly];refine h8.add g2.2.2.2.1 oa (by rw[Lc,Lv,Ln];have:d.1.2.length<=q.length:=hO;omega) ?_;rw[g7];exact hF
   ·exact(g9.I hf).J h0 λE=>hy (Lj _ E)
   ·rcases QaV hG _ E with h1|h1
    ·exact hy h1
    omega
   show((QM V.a.ed s).drop (j+1)).foldl (csE d.1) (OT _ (qj++[_]))=_;rw[Ly];exact J
  have hF:=Km hW;rw[OV hF]at J;refine Qf<|Qr<|QB O O<|Qa<|xe ?_;exact⟨(j+1,vj,qj),by show(QM V.a.ed s).length - (j+1)<(QM V.a.ed s).length - j;omega,ov,hz,I,h8,hD,gz,g5,hy,J⟩
 have hH:k<V.a.al.length:=by have T:(k:Int)<(V.a.al.length:Int):=hQ;omega
 rw[Qnn hH]at Y;refine Qf<|Qd<|Qn<|Qc<|xii (i:=k) (gt.I h7) O O hH λz2 kj=>?_;refine Zd (V.a.al[k]'hH) λv hv=>?_;rw[hv]at kj Y;refine x (Qq kj O)<|Qb ?_;have hct:=Qie (v:=v) (h.I hw.st) gq.1 oa h9;rw[<-G]at hct;refine Ql<|Qs O hC O O<|Qa<|Qw<|hct.S ?_;rintro _ m5 ⟨rfl,hI⟩;refine xe ?_;rw[<-G]at Y;refine Q6 rfl (λgc=>?_) (λgc=>?_)
 ·rw[OV gc]at Y;rw[QkM hN Y.symm]at U;rw[U];refine Qc<|Qs O (hC.I hI) O O<|Qa<|x Qe<|x Qe<|Qb<|Qj ⟨[d.2,sS v,.bool false],ox,hw.st.D hI,d.2,O,λL hL=>((gn L hL).1.I (ma.D hI)).up λb hb=>.inl (Le.2 (.inl hb))⟩
 rw[OU (λh=>MV (gc.symm.D h)),G]at Y;refine Qf<|Qr<|QB O O<|Qa<|xe ?_;exact⟨k+1,by show V.a.al.length - (k+1)<V.a.al.length - k;omega,La,hH,h7.D hI,by rw[G];exact Y⟩
structure Yh (l:LI):Prop where
 b:∀x∈l,0<=x/\x<32
 i:Ys l
theorem Yh.ck (h:Yh l):J9 32 none l=0:=QbG h.b h.i
theorem Yh.nil:Yh []:=⟨(λ_ h=>by cases h),List.Pairwise.nil⟩
structure Pl9 (a:Qz):Prop where
 ok:QS a
 s9:a.st<=9
 e:a.ed.length<=1000
theorem Vr (h:Zr [] ↑w va vm ve a)(I:Qu [] ↑w vo o)(hU:Qu [] ↑w vu un)(E:Pl9 a)(Y:Yh o)(hu:Yh un):
  QU sV 56 [.agg #[va,sS a.st,vm,ve],vo,vu] w λr w'=>sW w w'/\∃V:VwV,r=.tuple #[.pointer (some ⟨V.b,0,none⟩),sS 0]/\VwA ↑w' V/\V.a=a/\V.o=o/\V.un=un:=by
 refine Zm func56 ?_;refine Qc<|Zf [va,sS a.st,vm,ve] λb3 w1 he hE hf=>x Qe<|Qb ?_;have hA:=Y8 (h.I he);rw[(Zz a).2 E.ok]at hA;refine Qd<|Qc<|Q3 hf O O<|Qw<|hA.S ?_;rintro _ w2 ⟨rfl,hg⟩;refine Qb<|Ql<|ZN O O<|xe<|Zw rfl<|Qf ?_;have hr:=he.D hg;refine Qd<|Ql<|Qa<|Qo<|Yo (us:=[[vo],[vu]]) O O og od ⟨I.cells,rfl,hU.cells,rfl,Z⟩ λhs w3 hh hF hw=>?_;have hj:Zu [] ↑w3 (sL hs 2 2) 2 1 [vo,vu]:=hw.arr od (n:=2) (cap:=2) (sz:=1) rfl og (Lp _);have hy:=hr.D hh;refine QG hj O<|Qa<|xe<|QX (α:=Nat) [(6,7),(10,11),(24,33)] (λz=>[(24,sS z)]) (λz w'=>z<=2/\sW w3 w') (λz=>2 - z) 0 La ⟨Lo _,O6.Y _ _⟩ ?_;rintro i g w4 ⟨hi,J⟩;have G:=hy.D J;have hk:=((hf.I hg).I hh).I J;refine Zk rfl O (λhm=>?_) (λhm=>?_)
 ·refine Qt<|Qd<|Qc<|Q3 hk O O<|Qa<|Qw<|(ji (h.I G) (I.I G) E.ok Y.b Y.i E.s9 E.e).S ?_;rintro _ w5 ⟨hz,_,vt,rfl,hG,h0,h1,h2,rfl,h3⟩;have ha:=h3 [] (λ_ h=>by cases h);refine Qa<|QO O O<|QO O O<|QO O O<|QT Xf λhH w6 h4 h5 h6=>Q5 [h0,sS (ZO a o).st,h1,h2] h6 ⟨ha.al.one,O,ha.mr.one,ha.ed.one,Z⟩ λw7 h7 hI=>x Qe<|Qb ?_;have h8:sW w5 w7:=h4.Q h7 h5;have hn:=hz.D h8;have T:=G.D hn;refine Ql<|ZN O O<|xe<|Zw O<|Qf<|Qc<|Q3 (hk.I hn) O O<|Qa<|Qa<|Qw<|(QoO (h.I T) (I.I T) (hU.I T) E.ok).S ?_;rintro _ w8 ⟨h9,V,rfl,hV,e1,e2,e3⟩;refine x Qe<|Qb<|Qj ⟨[_,sS 0],ov,T.D h9,V,O,hV,e1,e2,e3⟩
 have U:i<2:=by have hJ:(i:Int)<(2:Nat):=hm;omega
 have hB:∃l,Qu [] ↑w4 ([vo,vu][i]'U) l/\J9 32 none l=0:=by
  have hD:i=0\/i=1:=oa
  rcases hD with rfl|rfl
  ·exact⟨o,I.I G,Y.ck⟩
  exact⟨un,hU.I G,hu.ck⟩
 obtain⟨l,hl,hck⟩:=hB;refine Qf<|Qd<|Qn<|Qc<|O9 (g:=λv:O3=>[v]) (es:=[vo,vu]) (i:=i) (λ_=>O) (hj.I J) O O U λhK hq=>?_;refine Zd ([vo,vu][i]'U) λv hv=>?_;rw[hv]at hl hq;refine x (Qq (u:=v) hq O)<|Qb ?_;have hC:=qY hl 32;rw[hck]at hC;refine Ql<|Qw<|hC.S ?_;rintro _ w9 ⟨rfl,rfl⟩;refine Qb<|Ql<|ZN O O<|xe<|Zw rfl<|Qf<|Qr<|QB O O<|Qa<|xe ?_;exact⟨i+1,by show 2 - (i+1)<2 - i;omega,La,U,J⟩
theorem QdD (h:Zr [] ↑w va vm ve a)(J:Qu [] ↑w vo o)(G:Pl9 a)(T:Yh o):
  QU sV 17 [.agg #[va,sS a.st,vm,ve],vo] w λr w'=>sW w w'/\∃vw vt,r=.tuple #[vw,vt,.bool (obs a o []).isNone,sS 0]/\Yr ↑w ↑w' vw ((obs a o []).elim [] (·.1))/\Yr ↑w ↑w' vt ((obs a o []).elim [] (·.2)):=by
 refine Zm func17 ?_;refine Qc<|Zf [va,sS a.st,vm,ve] λb2 U E he Y=>x Qe<|x Qe<|x Qe<|Qb<|Qc<|Q3 Y O O<|Qa<|Qw<|(Vr (h.I E) (J.I E) (Qa8 [] ↑U) G T Yh.nil).S ?_;rintro _ w2 ⟨I,V,rfl,hV,rfl,rfl,e3⟩;refine Qa<|QO O O<|QO O O<|x Qe<|Qb<|Qd<|Ql<|ZN O O<|xe<|Zw rfl<|Qf ?_;have hR:=QbX hV G.s9 G.e;rw[e3]at hR;refine Ql<|Qw<|hR.S ?_;rintro _ w3 ⟨ha,vw,vt,rfl,hw,ht⟩;refine Qa<|QO O O<|QO O O<|QO O O<|x Qe<|x Qe<|Qb<|Ql<|Qa<|Qa<|x Qe<|x Qe<|x Qe<|Qb<|Qj ⟨[vw,vt,_,sS 0],oy,(E.D I).D ha,vw,vt,O,hw.S (E.D I).size,ht.S (E.D I).size⟩
theorem zo (h:Zr [] ↑w va vm ve a)(J:Qu [] ↑w vo o)(hU:Qu [] ↑w vu un)(G:Pl9 a)(T:Yh o)(U:Yh un):
  QU sV 18 [.agg #[va,sS a.st,vm,ve],vo,vu] w λr w'=>sW w w'/\∃vw,r=.tuple #[vw,sS ((cns a o un).elim (-1) (·.2)),.bool (cns a o un).isNone,sS 0]/\Yr ↑w ↑w' vw ((cns a o un).elim [] (·.1)):=by
 refine Zm func18 ?_;refine Qc<|Zf [va,sS a.st,vm,ve] λb3 w1 E he Y=>x Qe<|x Qe<|x Qe<|Qb<|Qc<|Q3 Y O O<|Qa<|Qa<|Qw<|(Vr (h.I E) (J.I E) (hU.I E) G T U).S ?_;rintro _ w2 ⟨I,V,rfl,hV,rfl,rfl,rfl⟩;refine Qa<|QO O O<|QO O O<|x Qe<|Qb<|Qd<|Ql<|ZN O O<|xe<|Zw rfl<|Qf<|Ql<|Qw<|(QbY hV G.s9 G.e).S ?_;rintro _ w3 ⟨ha,vw,rfl,hw⟩;refine Qa<|QO O O<|QO O O<|QO O O<|x Qe<|x Qe<|Qb<|Ql<|Qa<|Qa<|x Qe<|x Qe<|x Qe<|Qb<|Qj ⟨[vw,_,_,sS 0],oy,(E.D I).D ha,vw,O,hw.S (E.D I).size⟩
theorem Yh.len (h:Yh l):l.length<=32:=xI 32 l (h.i.imp λE e=>oa) h.b
theorem Yh.fil (h:Yh l)(p:Int->Bool):Yh (l.filter p):=⟨λx hx=>h.b x (LJ.1 hx).1,h.i.filter p⟩
theorem Yh.ins {l:LI}(v:Int):Yh (ins l v):=⟨λ_ hx=>(zr.1 hx).1,Uk 32 _⟩
theorem Qj7 {v:Int}(h:Yh l)(E:v∉l)(G:0<=v)(I:v<32):((l++[v]).mergeSort λx y=>decide (x<=y))=ins l v:=by
 refine j7 ?_ λx hx=>?_
 ·rw[Mf];exact⟨h.i.imp λT e=>oa,od,λa J b hb e=>E ((Lb.1 hb) ▸ e ▸ J)⟩
 rcases Le.1 hx with hx|hx
 ·exact h.b x hx
 rw[Lb.1 hx];exact⟨G,I⟩
theorem QpF {W:O2}{I J:Nat}{set:LI}(h:Zr [] ↑W va vm ve a)(Y:QK ↑W I 53 [va,sS a.st,vm,ve])(ha:QK ↑W J 47 [vu])(hU:Qu [] ↑W vu un)(hS:Qu [] ↑W vs set)(E:Pl9 a)(ho:Yh set)(hu:Yh un):
  QU sV 59 [vs,sP I,sP J] W λr w'=>r=.tuple #[.bool (hld a un set),sS 0]/\sW W w':=by
 refine Zm func59 ?_;refine Qc<|x Qe<|Qb<|Qc<|Q3 Y O O<|Qa<|ZD ha O O<|Qw<|(Vr h hS hU E ho hu).S ?_;rintro _ w1 ⟨he,V,rfl,T,rfl,rfl,rfl⟩;refine Qa<|QO O O<|QO O O<|x Qe<|Qb<|Qd<|Ql<|ZN O O<|xe<|Zw rfl<|Qf<|Ql<|Qw<|(QbX T E.s9 E.e).S ?_;rintro _ w2 ⟨U,vw,vt,rfl,_,_⟩;refine Qa<|QO O O<|QO O O<|QO O O<|x Qe<|x Qe<|Qb<|Ql<|Qw<|(QbY (T.I U) E.s9 E.e).S ?_;rintro _ w3 ⟨hf,hh,rfl,_⟩;refine Qa<|QO O O<|QO O O<|QO O O<|x Qe<|x Qe<|Qb ?_;have hg:=(he.D U).D hf;refine QW (α:=Unit) [(4,5),(36,39)] (λ_=>[(4,.bool (hld V.a V.un V.o)),(5,sS 0)]) (λ_ w'=>w'=w3) oh ?_ ?_
 ·refine Qr<|xB VX (λG=>?_) (λG=>?_)
  ·refine Qa<|Qa<|QC O<|x Qe<|Qb<|⟨(),⟨OW Value.bool (by unfold hld;rw[G];rfl),O,Z⟩,O⟩
  refine Qa<|Kd<|QC O<|x Qe<|Qb<|⟨(),⟨OW Value.bool (by unfold hld;rw[G];rfl),O,Z⟩,O⟩
 rintro _ g _ rfl;exact Qj ⟨[_,_],ov,O,hg⟩
theorem Qnq {W:O2}{b:Nat}{v:Int}(E:QK ↑W b 3 [sS v])(e:Int):
  QU sV 65 [sS e,sP b] W λr w'=>r=.bool (decide (e=v))/\w'=W:=by
 refine Zm func65 ?_;refine Qc<|Qb<|Ql<|ZD E O O<|x (Zc O O)<|Qb<|Qj ⟨[_],La,O,O⟩
theorem Qh8 {z:LI×LI}(h:hld a un z.1=true):xtA a un l z=z:=by
 cases l with
 | nil=>rfl
 | cons v l=>rw[xtA,OV h]
theorem QoA {z:LI×LI}{k:Nat}(E:k<l.length)(h:hld a un z.1=false):xtA a un (l.drop k) z=xtA a un (l.drop (k+1)) (if l[k]'E∈z.1 then z else(ins z.1 (l[k]'E),z.2++[l[k]'E])):=by
 rw[QY E,xtA,OU (by rw[h];exact MV)]
theorem QhY (h:Zr [] ↑w va vm ve a)(hO:Qu [] ↑w vo o)(hU:Qu [] ↑w vu un)(hp:Pl9 a)(ho:Yh o)(hu:Yh un):
  QU sV 22 [.agg #[va,sS a.st,vm,ve],vo,vu] w λr w'=>sW w w'/\∃vw,r=.tuple #[vw,sS 0]/\Qh 3 ↑w w' vw (QeG a o un)/\Yh (QeG a o un):=by
 have hok:=hp.ok;have k5:=hok.al_le;have hT:Yh a.al:=⟨hok.al,hok.ali⟩;refine Zd (QeG a o un) λE hE=>?_;refine Zm func22 ?_;refine Qc<|Zf [va,sS a.st,vm,ve] λb3 w1 gv k6 gx=>Qo<|qP (us:=[vu]) hU.cells λb5 w2 hX k9 hY=>x Qe<|Qb ?_;have h0:=gv.D hX;have h8:=gx.I hX;refine Qc<|Q3 h8 O O<|Qa<|ZD hY O O<|Qw<|(Vr (h.I h0) (hO.I h0) (hU.I h0) hp ho hu).S ?_;rintro _ G ⟨h2,V,rfl,hV,gy,gz,ma⟩;have hq:=h0.D h2;have g0:=hq.size;refine Qa<|QO O O<|QO O O<|x Qe<|Qb<|Qd<|Ql<|ZN O O<|xe<|Zw rfl<|Qf<|Qc<|x (Zl (l:=[]) (l':=[.tmp 3,.tmp 5]))<|Qb ?_;have hK:=jE hV;rw[gy,gz]at hK;refine Ql<|Qw<|hK.S ?_;rintro v4 w4 ⟨h9,g2⟩;refine Qb ?_;have g3:=hq.D h9;have g4:=(h8.I h2).I h9;have g5:Yh (kpt a o):=hT.fil _;refine Qc<|Qb ?_;have g6:=h9;have g7:=h8.I h2;have g8:=hY.I h2;have hZ:∀{W:O2} {vs:O3} {set:LI},sW G W->Qh 3 ↑G W vs set->Yh set->QU sV 59 [vs,sP b3,sP b5] W λr w'=>r=.tuple #[.bool (hld a un set),sS 0]/\sW W w' :=
  λhW hS hs=>QpF (h.I (hq.D hW)) (g7.I hW) (g8.I hW) (hU.I (hq.D hW)) (Qh.ints hS (oo hs.len) od) hp hs hu
 have hA:QeG a o un=(xtA a un a.al (kpt a o,[])).2.foldl (xtD a un) (xtA a un a.al (kpt a o,[])).1:=rfl;rw[hE]at hA ⊢;have ga:xtA a un (a.al.drop 0) (kpt a o,[])=xtA a un a.al (kpt a o,[]):=by rw[NK]
 refine Zd (xtA a un a.al (kpt a o,[])) λR hR=>?_;rw[hR]at hA ga;refine QW (α:=O3×O3) [(6,7),(11,12),(14,16),(32,66)] (λz=>[(11,z.1),(12,z.2)]) (λz w'=>sW G w'/\Qh 3 ↑G w' z.1 R.1/\Qh 3 ↑G w' z.2 R.2/\Yh R.1/\R.2.length<=32) oh ?_ ?_
 ·refine Qc<|Qs O g4 O O<|QG (h.al.I g3) O<|Qa<|xe<|QX (α:=Nat×O3×O3×LI×LI) [(6,7),(11,12),(14,16),(38,66)] (λz=>[(11,z.2.1),(12,z.2.2.1),(38,sS z.1)]) (λz w'=>z.1<=a.al.length/\sW G w'/\Qh 3 ↑G w' z.2.1 z.2.2.2.1/\Qh 3 ↑G w' z.2.2.1 z.2.2.2.2/\Dj z.2.1 z.2.2.1/\Yh z.2.2.2.1/\z.2.2.2.2.length<=z.1/\xtA a un (a.al.drop z.1) (z.2.2.2.1,z.2.2.2.2)=R) (λz=>a.al.length - z.1) (0,v4,ZX,kpt a o,[]) ox
   ⟨Lo _,g6,g2,QL _ _ _ _,Dj.nil' _,g5,Lp _,ga⟩ ?_
  rintro⟨k,vs,vd,set,add⟩ g w5 ⟨hk,hr,T,he,h3,hsE,g9,Y⟩;simp only[]at hk T he h3 hsE g9 Y;have ka:=hsE.len;refine Zk O O (λhB=>?_) (λhB=>?_)
  ·refine Qt ?_;have hC:a.al.length<=k:=by have hD:¬(k:Int)<(a.al.length:Int):=hB;omega
   rw[Lu hC]at Y;have hf:R=(set,add):=Y.symm;exact⟨(vs,vd),ov,hr,by rw[hf];exact T,by rw[hf];exact he,by rw[hf];exact hsE,by rw[hf];show add.length<=32;omega⟩
  have U:k<a.al.length:=by have hD:(k:Int)<(a.al.length:Int):=hB;omega
  have hF:=hT.b _ (Lm U);refine Qf<|Qd<|Qn<|Qc<|xii (i:=k) (h.al.I (hq.D hr)) O O U λmc gb=>?_;have hgo:=QoA (a:=a) (un:=un) (z:=(set,add)) U;refine Zd (a.al[k]'U) λv hv=>?_;rw[hv]at gb hgo hF;refine x (Qq gb O)<|Qb<|Ql<|Qa<|Qo<|xc (first:=[]) (capt:=[sP b3,sP b5]) O<|(hZ hr T hsE).S ?_;rintro _ w6 ⟨rfl,I⟩;refine Qa<|QO O O<|QO O O<|x Qe<|Qb ?_;have hg:=hr.D I;refine Qd<|Ql<|ZN O O<|xe<|Zw O<|Qf<|Qd<|Ql<|xe<|Q6 O (λhG=>?_) (λhG=>?_)
  ·refine Qt ?_;have hH:hld a un (set,add).1=true:=hG;rw[Qh8 hH]at Y;have hf:R=(set,add):=Y.symm;exact⟨(vs,vd),ov,hg,by rw[hf];exact Qm T I,by rw[hf];exact Qm he I,by rw[hf];exact hsE,by rw[hf];show add.length<=32;omega⟩
  have hH:hld a un (set,add).1=false:=hG;rw[hgo hH]at Y;refine Qf<|Ql<|Qa<|Qw<|(ZH (Qh.ints (L:=[]) (Qm T I) oa od) v).S ?_;rintro _ w7 ⟨rfl,rfl⟩;refine x (Zj O)<|xe<|Q6 O (λhI=>?_) (λhI=>?_)
  ·have gc:=Vu hI;rw[OU gc]at Y;have hJ:=Qi T;have kb:=Qi he;have mf:=I.size;have mg:=hg.size;refine Ql<|Qa<|Qo<|Q8 [[sS v]] λmh w8 hh mj kc =>
    Qo<|Q2 (m:=1) (news:=[sS v]) (L:=[]) (Qm he (I.D hh)) O O O (kc.at od) om oa (oo hh.size) λv9 w9 h4 hy ke=>Qb ?_
   have mo:=hh.size;have ge:sW G w9:=(hg.D hh).O hy λb hb=>.inr (kb b hb).1;have mq:=ge.size;have kf:=Qg (Qm T (I.D hh)) hy λb hb J=>h3 b hb J;have gg:Dj v9 vs:=λb hb J=>by
    rcases ke b hb with h1|h1
    ·exact h3 b J h1
    have:=(hJ b J).2;omega
   have gh:Qh 3 ↑G w9 v9 (add++[v]):=Qh.snoc h4;refine Ql<|Qa<|Qo<|Q8 [[sS v]] λms hL hj mt kg =>
    Qo<|Q2 (m:=1) (news:=[sS v]) (L:=[]) (Qm kf hj) O O O (kg.at od) om oa (oo hj.size) λhM hN kh hn ki=>Qb ?_
   have kj:sW G hN:=(ge.D hj).O hn λb hb=>.inr (hJ b hb).1;have gi:Qh 3 ↑G hN hM (set++[v]):=Qh.snoc kh;have kk:=Qg (Qm gh hj) hn λb hb J=>gg b hb J;have gj:Dj hM v9:=λb hb J=>by
    rcases ki b hb with h1|h1
    ·exact gg b J h1
    have:=(Qi gh b J).2;have:=hj.size;omega
   refine Qr<|Qa<|Qw<|(Kf gi (by rw[Lc,Lv];omega)).S ?_;rintro _ mu ⟨gk,gl⟩;rw[Qj7 hsE gc hF.1 hF.2]at gl;refine xe<|Qr<|QB O O<|Qa<|xe ?_;exact⟨(k+1,hM,v9,ins set v,add++[v]),by show a.al.length - (k+1)<a.al.length - k;omega,ox,U,kj.O gk λb hb=>.inr (Qi gi b hb).1,gl,Qg kk gk λb hb J=>gj b J hb,gj,Yh.ins v,by show(add++[v]).length<=k+1;rw[Lc,Lv];omega,Y⟩
  have kn:=Km hI;rw[OV kn]at Y;refine Qf<|Qr<|QB O O<|Qa<|xe ?_;exact⟨(k+1,vs,vd,set,add),by show a.al.length - (k+1)<a.al.length - k;omega,ox,U,hg,Qm T I,Qm he I,h3,hsE,by show add.length<=k+1;omega,Y⟩
 rintro⟨vs,vd⟩ g w5 ⟨hr,T,he,hsE,mv⟩;simp only[]at T he;have gm:Qu [] ↑w5 vd R.2:=Qh.ints he oa od;have hJ:=Qi T;refine Qd<|Ql<|QG gm O<|Qa<|xe<|QX (α:=Nat×O3×LI) [(6,7),(11,11),(18,21),(69,88)] (λz=>[(11,z.2.1),(69,sS z.1)]) (λz w'=>z.1<=R.2.length/\sW w5 w'/\Qh 3 ↑G w' z.2.1 z.2.2/\Yh z.2.2/\(R.2.drop z.1).foldl (xtD a un) z.2.2=E) (λz=>R.2.length - z.1) (0,vs,R.1) ov ⟨Lo _,O6.Y _ _,T,hsE,hA.symm⟩ ?_;rintro⟨k,h5,set⟩ g w6 ⟨hk,I,hz,hw,ha⟩;simp only[]at hk hz hw ha;have hg:=hr.D I;have ka:=hw.len;have ko:Qu [] ↑w6 h5 set:=Qh.ints hz oa od;refine Zk rfl O (λhP=>?_) (λhP=>?_)
 ·refine Qt ?_;have hC:R.2.length<=k:=by have hD:¬(k:Int)<(R.2.length:Int):=hP;omega
  rw[Lu hC]at ha;have kq:set=E:=ha;rw[kq]at hz hw;refine Ql<|x Qe<|Qb<|Qj ⟨[h5,sS 0],ov,hq.D hg,h5,O,Za hz g0,hw⟩
 have U:k<R.2.length:=by have hD:(k:Int)<(R.2.length:Int):=hP;omega
 rw[QY U,LQ]at ha;refine Qf<|Qd<|Qn<|Qc<|xii (i:=k) (gm.I I) O O U λmw gn=>?_;refine Zd (R.2[k]'U) λv hv=>?_;rw[hv]at gn ha;refine x (Qq gn O)<|QT [sS 0] λkr w7 kt ku kv=>Qo<|Qv (u:=sS v) kv O O (L6 O) O λw8 hh gq=>xe ?_;have h6:sW w6 w8:=kt.Q hh ku;refine Ql<|Qw<|(Z0 (ko.I h6)).S ?_;rintro v9 w9 ⟨hy,h4⟩;have gr:=Qi h4;have kw:=gq.I hy;have my:=gq.lt;refine x (Zl (l:=[]) (l':=[.tmp 18]))<|Qw<|(Qgu (gp:=65) (cap:=[sP kr]) (p:=λe=>decide (e=v)) (enters_of func65 oc O) h4 oa
  (λe W hW=>Qnq (kw.J hW λJ=>oo (gr _ J).1) e)).S ?_
 rintro gs hL ⟨hj,kx⟩;refine Qb ?_;have kz:=h6.D hy;have h7:sW w6 hL:=kz.O hj λb hb=>.inr (oq (gr b hb).1 h6.size);have k0:=hg.D h7;have gt:Yh (set.filter λe=>!decide (e=v)):=hw.fil _;have gu:Qh 3 ↑G hL gs (set.filter λe=>!decide (e=v)):=Za kx (hg.D h6).size;have k4:xtD a un set v=if hld a un (set.filter λe=>!decide (e=v))=true then set.filter λe=>!decide (e=v) else set:=rfl
 rw[k4]at ha;refine Ql<|Qa<|Qo<|xc (first:=[]) (capt:=[sP b3,sP b5]) O<|(hZ k0 gu gt).S ?_;rintro _ hN ⟨rfl,hn⟩;refine Qa<|QO O O<|QO O O<|x Qe<|Qb<|Qd<|Ql<|ZN O O<|xe<|Zw rfl<|Qf<|Ql<|xe<|Q6 rfl (λhQ=>?_) (λhQ=>?_)
 ·rw[OV hQ]at ha;refine Qr<|Qa<|Qb<|Qr<|QB O O<|Qa<|xe ?_;exact⟨(k+1,gs,set.filter λe=>!decide (e=v)),by show R.2.length - (k+1)<R.2.length - k;omega,ov,U,(I.D h7).D hn,Qm gu hn,gt,ha⟩
 rw[OU (λh=>MV (hQ.symm.D h))]at ha;refine Qf<|Qr<|QB O O<|Qa<|xe ?_;exact⟨(k+1,h5,set),by show R.2.length - (k+1)<R.2.length - k;omega,ov,U,(I.D h7).D hn,Qm hz (h7.D hn),hw,ha⟩
open Go.RowKit
section
variable {e bys:Nat}
theorem QiR [h:Sl P t e 1 bys z]{x E G I:O4}{b cap lo hi:Nat}{k0 k1 k2:IntKind}(hx:ev f x=sL b n cap)(J:ev f E=.int k0 lo)(T:ev f G=.int k1 lo)(U:ev f I=.int k2 hi)(ha:lo<=hi)(hf:hi<=cap)(w:O2):
  (execOp (ev f) ⟨d,.slice t x (some E) (some G) (some I),ty,pS,af,gd⟩).run P w=.ok (.value (.slice (some ⟨b,if hi=lo then 0 else lo,none⟩) 0 (hi - lo))) w:=by
 obtain⟨ii,V,_,hs,_⟩:=Sl.info h;by_cases Y:hi=lo
 ·subst Y;simp[execOp,hx,J,T,U,Instr.sliceAt,Instr.slice,Instr.sliceBounds,Instr.sliceBound,asIntOf,run_underlying h.u,sizeOf,typeInfo,V];intro h9;omega
 simp[execOp,hx,J,T,U,Instr.sliceAt,Instr.slice,Instr.sliceBounds,Instr.sliceBound,asIntOf,run_underlying h.u,sizeOf,typeInfo,V,hs,ha,hf,Y,Addr.add];intro h9;exact h9.symm
theorem Qo6 [h:Sl P t e 1 bys z]{s:O4}{b cap:Nat}{u:O3}{a:Addr}{c:Nat}(G:QK ↑w b e us)(T:ev f s=.slice (some ⟨b,off,none⟩) n cap)(U:ev f y=.slice (some a) 1 c)(V:At [] ↑w a [u])(Y:u.oneCell'=true)(ha:n+1<=cap)(he:off+n<us.length)
  (hK:∀w',O6 [b] w w'->QK ↑w' b e (us.set (off+n) u)->K (QP f d (.slice (some ⟨b,off,none⟩) (n+1) cap)) w'):XO P ⟨d,.call ⟨.builtin .append,#[s,y],#[t,t]⟩,ty,pS,af,gd⟩ f w K:=by
 obtain⟨ii,hf,_,E,_⟩:=Sl.info h;have I:=run_firstCells_some (P:=P) w ii.size 1 a 1 c [u] (by rw[E];rfl) V.cells;rw[E]at I;have J:=run_storeCells_at P b (off+n) e [u] 0 us.toArray w G (by simp;omega) (by simp[Y]);simp only[Ox,oL,VK us (off+n) u he]at J;refine xv (v:=.slice (some ⟨b,off,none⟩) (n+1) cap) (w':=w.setRow b (us.set (off+n) u).toArray) ?_ (hK _ (O6.setRow _ _ _) (JA G));have hg:(Builtin.append_ #[t,t] ty #[.slice (some ⟨b,off,none⟩) n cap,.slice (some a) 1 c]).run P w=.ok (.slice (some ⟨b,off,none⟩) (n+1) cap) (w.setRow b (us.set (off+n) u).toArray):=by
  simp[Builtin.append_,run_underlying h.u,sizeOf,typeInfo,hf,Builtin.lenOf,ha,I,Addr.add_lit,E,J]
 simp[execOp,resolve,invoke,builtin,T,U,hg]
end
abbrev cstv (n:Nat)(f:Nat->Int):LV:=(oJ n).map λi=>sS (f i)
theorem Jo {f:Nat->Int}(hi:i<n):(cstv n f)[0+i*1]?=some (sS (f i)):=by simp[hi]
theorem VD {f:Nat->Int}{v:Int}:(cstv n f).set (0+i*1) (sS v)=cstv n (Xv f i v):=by
 rw[LW,OR];exact Ke (λv=>sS v) n f i v
def pre (ed:List Ed)(s:Nat):LI:=(ed.filter λe=>decide (e.2.2=(s:Int))).map (·.1)
def pos (ed:List Ed)(s:Nat):Nat:=(ed.filter λe=>decide (e.2.2<(s:Int))).length
def num (ed:List Ed)(s:Nat):Nat:=(pre ed s).length
theorem JC (s:Nat):∀ed:List Ed,pos ed (s+1)=pos ed s+num ed s
 | []=>rfl
 | e::ed=>by
  have ih:=JC s ed;unfold pos num pre at *;rw[Ln]at *;simp only[OA,decide_eq_true_eq];by_cases E:e.2.2<(s:Int)
  ·rw[OV E,OV (show e.2.2<((s+1:Nat):Int) by omega),OU (show ¬e.2.2=(s:Int) by omega),LP,LP];omega
  by_cases G:e.2.2=(s:Int)
  ·rw[OU E,OV (show e.2.2<((s+1:Nat):Int) by omega),OV G,LP,LP];omega
  rw[OU E,OU (show ¬e.2.2<((s+1:Nat):Int) by omega),OU G];exact ih
theorem Qcx (ed:List Ed){s:Nat}(h:s<=t):pos ed s<=pos ed t:=by
 induction t with
 | zero=>rw[Nat.le_zero.1 h];exact Lp _
 | succ t ih =>
  rcases OM t s with E|E
  ·rw[show s=t+1 by omega];exact Lp _
  have:=ih E;have:=JC t ed;omega
theorem Qi4 (h:∀e∈ed,0<=e.2.2):pos ed 0=0:=by
 unfold pos;rw[List.length_eq_zero_iff,MO];intro e E hd;have:=OZ hd;have:=h e E;omega
theorem Qd9 (ed:List Ed)(s:Nat):pos ed s<=ed.length:=LK _ _
theorem Qcw {k:Nat}(h:k<ed.length)(s:Nat):pre (ed.take (k+1)) s=pre (ed.take k) s++if(ed[k]'h).2.2=(s:Int) then[(ed[k]'h).1]else[]:=by
 unfold pre;rw[Ll h,LT,Ly];congr 1;by_cases e:(ed[k]'h).2.2=(s:Int) <;> simp[e]
theorem yj {k:Nat}(s:Nat):num (ed.take k) s<=num ed s:=by
 unfold num pre;rw[Ln,Ln];exact((List.take_sublist k ed).filter _).length_le
def offs (ed:List Ed)(s:Nat):Nat:=if num ed s=0 then 0 else pos ed s
theorem Qmz {s:Nat}(h:j<num ed s):offs ed s+j<ed.length:=by
 unfold offs;rw[OU oa];have:=JC s ed;have:=Qd9 ed (s+1);omega
theorem Qmy {s:Nat}(E:s≠t)(hi:i<num ed s)(G:j<num ed t):offs ed s+i≠offs ed t+j:=by
 unfold offs;rw[OU oa,OU oa];have I:=JC s ed;have J:=JC t ed;rcases Nat.lt_or_gt_of_ne E with h|h
 ·have:=Qcx ed (show s+1<=t by omega);omega
 have:=Qcx ed (show t+1<=s by omega);omega
def cnb (ed:List Ed):Nat->Int
 | 0=>0
 | i+1=>(num ed i:Int)
theorem QkU {k:Nat}(h:k<ed.length)(ht:(ed[k]'h).2.2=(t:Int))(i:Nat):cnb (ed.take (k+1)) i=if i=t+1 then cnb (ed.take k) i+1 else cnb (ed.take k) i:=by
 cases i with
 | zero=>rw[OU oa];rfl
 | succ i =>
  show((num (ed.take (k+1)) i:Nat):Int)=_;unfold num;rw[Qcw h i];by_cases e:i=t
  ·subst e;rw[OV ht,OV rfl,Lc];rfl
  rw[OU (by rw[ht];omega),LH,OU oa];rfl
theorem Qnb (h:Zr [] ↑w va vm ve a)(hok:QS a)(hn:a.st=(n:Int)):
  QU sV 129 [.agg #[va,sS a.st,vm,ve]] w λr w'=>sW w w'/\∃rv:Nat->O3,Zu [] ↑w' r (oJ n).length 1 ((oJ n).flatMap λi=>[rv i])/\∀i,i<n->Qu [] ↑w' (rv i) (pre a.ed i):=by
 have pg:=hok.st1;have ka:=hok.ed_le;have hC:=hok.ed;have kb:∀e∈a.ed,0<=e.2.2:=λe I=>(hC e I).2.2.2.1;refine Zm func129 ?_;refine Qc<|Zf [va,sS a.st,vm,ve] λb1 w1 kc ph hD=>Qb ?_;have pn:=hD.lt;refine Qc ?_;have ga:(sS (a.st+1))=sS ((n+1:Nat):Int):=OW _ oa;refine Qs rfl hD O O<|QB O O<|Qo<|Y2 (n:=n+1) ga ga oa λbC w2 gb po gc=>Qb ?_;have pp:=gc.lt;have ke:QK ↑w2 bC 3 (cstv (n+1) λ_=>0):=by
  have e:(oG (n+1) (sS 0).cells.toList).flatten=cstv (n+1) λ_=>0:=by
   apply L3
   ·simp[Value.cells]
   intro i h1 Y;simp[Value.cells]
  rw[<-e];exact gc
 have hE:=kc.D gb;have hF:=hD.I gb;refine Qd<|Qc<|Qs O hF O O<|QG (h.ed.I hE) O<|Qa<|xe<|QX (α:=Nat×(Nat->Int)) [(5,5),(19,31)] (λz=>[(19,sS z.1)]) (λz w'=>z.1<=a.ed.length/\O6 [bC] w2 w'/\QK ↑w' bC 3 (cstv (n+1) z.2)/\∀i,z.2 i=cnb (a.ed.take z.1) i) (λz=>a.ed.length - z.1) (0,λ_=>0) La
  ⟨Lo _,O6.Y _ _,ke,λi=>by cases i <;> rfl⟩ ?_
 rintro⟨k,fc⟩ g w3 ⟨hk,h0,h4,T⟩;simp only[]at hk h4 T;have kf:sW w w3:=hE.Q h0 oa;have ge:b1∉[bC]:=ol
 have kg:=hF.J h0 ge;refine Zk rfl O (λhG=>?_) (λhG=>?_)
 ·refine Qt ?_;have kh:a.ed.length<=k:=by have J:¬(k:Int)<(a.ed.length:Int):=hG;omega
  rw[Lr kh]at T;refine Qd<|Qc<|Qs O kg O O<|Qa<|xe<|QX (α:=Nat×(Nat->Int)) [(6,6),(34,48)] (λz=>[(34,sS z.1)]) (λz w'=>z.1<=n/\O6 [bC] w2 w'/\QK ↑w' bC 3 (cstv (n+1) z.2)/\∀i,i<=n->z.2 i=if i<=z.1 then(pos a.ed i:Int) else cnb a.ed i) (λz=>n - z.1) (0,fc) La
   ⟨Lo _,h0,h4,λi _=>by
    show fc i=if i<=0 then(pos a.ed i:Int) else cnb a.ed i
    rw[T i];cases i with
    | zero=>rw[OV (Lp 0),Qi4 kb];rfl
    | succ i=>rw[OU oa]⟩ ?_
  rintro⟨s,G⟩ g w4 ⟨hs,h5,ha,hf⟩;simp only[]at hs ha hf;have gg:sW w w4:=hE.Q h5 oa;have hg:=hF.J h5 ge;refine Qc<|x (YB (b:=a.st) O O)<|xe<|Qd<|Zp O (λhH=>?_) (λhH=>?_)
  ·refine Qt ?_;have ki:s=n:=by have J:¬(s:Int)<a.st:=hH;omega
   subst ki;have gh:∀i,i<=s->G i=(pos a.ed i:Int):=λi hi=>by rw[hf i hi,OV hi]
   have pt:=h5.size;refine Qc<|Qs O hg O O<|QG (h.ed.I gg) O<|Qo<|Y2 (n:=a.ed.length) O O oa λbA w5 gi pu gj=>Qb<|Qc ?_;have gk:(sS a.st)=sS (s:Int):=OW _ hn;refine Qs O (hg.I gi) O O<|Qo<|Y2 (n:=s) gk gk oa λbO w6 gl pw hI=>Qb ?_;rw[Up]at hI;have pz:=gj.lt;have hJ:=gi.D gl;have kj:=gg.D hJ;have kk:=ha.I hJ;have kn:=hg.I hJ;have hK:bA≠bO:=oa
   have ko:bC≠bO:=oa
   have kq:b1≠bO:=oa
   have kr:Zu [] ↑w6 (sL bO s s) s 1 ((oJ s).map λ_=>nS):=hI.arr od (n:=s) (cap:=s) (sz:=1) od oa (Lp _);refine Qd<|Ql<|QG kr O<|Qa<|xe<|QX (α:=Nat×(Nat->O3)) [(9,9),(58,79)] (λz=>[(58,sS z.1)]) (λz w'=>z.1<=s/\O6 [bO] w6 w'/\QK ↑w' bO 47 ((oJ s).map z.2)/\∀i,i<z.1->z.2 i=.slice (some ⟨bA,offs a.ed i,none⟩) 0 (num a.ed i)) (λz=>s - z.1) (0,λ_=>nS) La
    ⟨Lo _,O6.Y _ _,hI,λi hi=>OX hi (Nz _)⟩ ?_
   rintro⟨r,rv⟩ g U ⟨hr,hh,hL,hM⟩;simp only[]at hr hL hM;have gm:sW w U:=kj.Q hh oa;have gn:=kn.J hh (by simp only[oF];exact kq);have hN:=kk.J hh (by simp only[oF];exact ko);refine Zk O O (λhO=>?_) (λhO=>?_)
   ·refine Qt ?_;have kt:r=s:=by have J:¬(r:Int)<(s:Int):=hO;omega
    subst kt;have ku:=((gj.I gl).J hh (by simp only[oF];exact hK));refine Qd<|Qc<|Qs O gn O O<|QG (h.ed.I gm) O<|Qa<|xe<|QX (α:=Nat×(Nat->O3)×LV) [(11,11),(83,100)] (λz=>[(83,sS z.1)]) (λz w'=>z.1<=a.ed.length/\O6 [bA,bO] U w'/\QK ↑w' bO 47 ((oJ r).map z.2.1)/\QK ↑w' bA 3 z.2.2/\z.2.2.length=a.ed.length/\(∀i,i<r->z.2.1 i=.slice (some ⟨bA,offs a.ed i,none⟩) (num (a.ed.take z.1) i) (num a.ed i))/\∀i j u,i<r->(pre (a.ed.take z.1) i)[j]?=some u->z.2.2[offs a.ed i+j]?=some (sS u)) (λz=>a.ed.length - z.1) (0,rv,_) La
     ⟨Lo _,O6.Y _ _,hL,ku,by simp[Value.cells],λi hi=>hM i hi,λi j u _ E=>by simp[pre]at E⟩ ?_
    rintro⟨m,V,cs⟩ g w8 ⟨hm,hP,hQ,hj,h6,ho,hp⟩;simp only[]at hm hQ hj h6 ho hp;have gq:sW w w8:=gm.O hP λb hb=>.inr (by simp only[oK,oH,or_false]at hb;omega);have hR:=gn.J hP (by simp only[oK,oH,or_false];omega);refine Zk O O (λhS=>?_) (λhS=>?_)
    ·refine Qt ?_;have kv:a.ed.length<=m:=by have J:¬(m:Int)<(a.ed.length:Int):=hS;omega
     rw[Lr kv]at ho hp;refine Ql<|Qb<|Qj ⟨[_],La,gq,V,?_,λi hi=>?_⟩
     ·rw[ya];have:=hQ.arr (L:=[]) od (n:=(oJ r).length) (cap:=r) (sz:=1) od (by simp;omega) od;rw[Mb]at this ⊢;exact this
     rw[ho i hi];have h7:num a.ed i<=1000000:=by unfold num pre;rw[Ln];exact Lz (LK _ _) (Lz ka og)
     refine⟨od,Lz h7 og,.inr ⟨_,_,rfl,Lp _,(λu _=>od),(λu _=>hj.lt),λj u E=>?_⟩⟩;rw[My]at E;cases hq:(pre a.ed i)[j]? with
     | none=>rw[hq]at E;cases E
     | some v =>
      rw[hq]at E;cases E
      rw[Addr.add_lit,hj.cell];exact hp i j v hi hq
    have hv:m<a.ed.length:=by have J:(m:Int)<(a.ed.length:Int):=hS;omega
    have hT:=hC _ (Lm hv);have h8:=Qcw hv;refine Zd (a.ed[m]'hv) λe I=>?_;rw[I]at hT;simp only[I]at h8;obtain⟨t,ht⟩:∃t:Nat,e.2.2=(t:Int):=⟨e.2.2.toNat,oa⟩;have h9:t<r:=oa
    have kw:num (a.ed.take (m+1)) t=num (a.ed.take m) t+1:=by unfold num;rw[h8,OV ht,Lc];rfl
    have h7:num (a.ed.take m) t<num a.ed t:=by have:=yj (ed:=a.ed) (k:=m+1) t;omega
    have gr:=Qmz h7;have kx:=ho t h9;refine Qf<|Qd<|Qn<|Qc<|xie (h.ed.I gq) O O hv λp0 gs=>?_;rw[I]at gs;refine x (QF gs O O)<|QT [sS 0,sS 0,sS 0] λb11 w9 kz k0 k4=>Q5 (Qp e) k4 ox λhw k5 hU=>xe ?_;have hV:sW w8 hw:=kz.Q k5 k0;have gt:=hQ.I hV;have k6:=hj.I hV;have k9:=hj.lt;have ma:∀{b:Nat},b<↑w8->b11≠b:=λhb=>oa
    have hy:(sS e.2.2)=sS (t:Int):=OW _ ht;refine ZK [bA] (Xj 0 14 [10,11,13]) ?_;have hW:b11∉[bA]:=by simp only[oF];exact ma k9
    have gu:bO∉[bA]:=by simp only[oF];exact λh=>hK h.symm
    have gv:sW hw { hw with drawn:=hw.drawn+1 }:=O6.X _ _
    refine p Qy<|p (QH O)<|pq (λ_ hc=>Qk (hU.J hc hW) O O)<|p Qy<|p (QH O)<|pq (λ_ hc=>Qk (hU.J hc hW) O O) <|
     p (λ_=>QE (i:=t) O (show Go.Lg.ev _ _=_ from hy) h9)<|pq (λ_ hc=>Qk (u:=V t) (gt.J hc gu) O (K5 h9))<|p (QH O)<|pq (λ_ hc=>Qk (hU.J hc hW) O O) <|
     pk<|Q8 [[sS e.1]] λp4 hX gx p5 mc=>⟨(gv.D gx).any,?_⟩
    have hA:sW hw hX:=gv.D gx;refine pk<|Qo6 (u:=sS e.1) (k6.I hA) (show Go.Lg.ev _ _=_ from kx) O (mc.at od) rfl oa (by rw[h6];exact gr) λgy hY mf=>⟨hA.any.V hY,?_⟩;have mg:((oJ r).map V).length=r:=od
    refine p (λ_=>QE (i:=t) O (show Go.Lg.ev _ _=_ from hy) h9)<|pkk<|Qv (j:=0+t*1) (u:=.slice (some ⟨bA,offs a.ed t,none⟩) (num (a.ed.take m) t+1) (num a.ed t)) ((gt.I hA).J hY gu) O O (by rw[mg];omega) O λgz g0 mh=>pe ?_;have mj:QK ↑gz bO 47 ((oJ r).map (Xv V t (.slice (some ⟨bA,offs a.ed t,none⟩) (num (a.ed.take m) t+1) (num a.ed t)))):=by
     have e1:=Ke id r V t (.slice (some ⟨bA,offs a.ed t,none⟩) (num (a.ed.take m) t+1) (num a.ed t));simp only[id]at e1;rw[<-e1];simpa using mh
    refine Qr<|QB O O<|Qa<|xe<|⟨(m+1,Xv V t (.slice (some ⟨bA,offs a.ed t,none⟩) (num (a.ed.take m) t+1) (num a.ed t)),cs.set (offs a.ed t+num (a.ed.take m) t) (sS e.1)),by show a.ed.length - (m+1)<a.ed.length - m;omega,La,hv,?_,mj,mf.J g0 (by simp only[oF];exact hK),by simp only[];rw[M0];exact h6,λi hi=>?_,λi j u hi E=>?_⟩
    ·have g2:∀b,b=bA\/b=bO->b∈[bA,bO]:=λb hb=>by simp only[oK,oH,or_false];exact hb
     have k1:O6 [bA,bO] U hX:=hP.V ((hV.D hA).S λb hb=>by cases hb);have k2:O6 [bA,bO] hX gy:=hY.S λb hb=>g2 b (.inl (Lb.1 hb));have k3:O6 [bA,bO] gy gz:=g0.S λb hb=>g2 b (.inr (Lb.1 hb));exact(k1.V k2).V k3
    ·simp only[];by_cases e1:i=t
     ·subst e1;rw[Zv,kw]
     rw[ZP _ _ e1,ho i hi];congr 1;unfold num;rw[h8,OU (by rw[ht];omega),LH]
    simp only[]at E ⊢;rw[h8]at E;by_cases e1:i=t
    ·subst e1;rw[OV ht]at E;rcases OM j (num (a.ed.take m) i) with Y|Y
     ·rw[LX Y]at E;rw[MW oa];exact hp i j u hi E
     rw[Mu Y]at E;have mo:j - num (a.ed.take m) i=0:=by
      rcases Nat.eq_zero_or_pos (j - num (a.ed.take m) i) with h3|h3
      ·exact h3
      rw[Mv (by simp only[oL];exact h3)]at E;cases E
     have mq:j=num (a.ed.take m) i:=oa
     have ms:u=e.1:=by
      have:(pre (a.ed.take m) i).length=num (a.ed.take m) i:=rfl;rw[this,mo]at E;exact(Option.some.inj E).symm
     rw[mq,ms,List.getElem?_set_self (by rw[h6];exact gr)]
    rw[OU (by rw[ht];omega),LH]at E;have mt:j<num a.ed i:=LU (Mm.1 E).1 (yj i);rw[MW (Qmy (λh=>e1 h.symm) h7 mt)];exact hp i j u hi E
   have g3:r<s:=by have J:(r:Int)<(s:Int):=hO;omega
   refine Qf<|Qd<|Qn<|Ql<|Qb ?_;have mu:=JC r a.ed;have g4:=Qd9 a.ed (r+1);have hfr:G r=(pos a.ed r:Int):=gh r oa;have mv:G (r+1)=(pos a.ed (r+1):Int):=gh (r+1) oa;have g5:(sS (G r))=sS (pos a.ed r:Int):=OW _ hfr;have mw:(sS (G (r+1)))=sS (pos a.ed (r+1):Int):=OW _ mv;have hB:(sS ((r:Int)+1))=sS ((r+1:Nat):Int):=rfl;refine ZK [] (Xj 0 19 [18])<|p Qy<|p Qy<|p Qy<|p Qy<|p Qy<|p (λ_=>QE (i:=r) O O oa) <|
    pq (λ_ hc=>Qk (hN.I hc) O (Jo oa))<|p Qy<|p Qy<|p (λ_=>QE (i:=r) O O oa)<|pq (λ_ hc=>Qk (hN.I hc) O (Jo oa)) <|
    p Qy<|p Qy<|p (λ_=>Xt O O ⟨oa,oa⟩)<|p (λ_=>QE (i:=r+1) O (show Go.Lg.ev _ _=_ from hB) oa) <|
    pq (λ_ hc=>Qk (hN.I hc) O (Jo oa))<|p (QiR O (show Go.Lg.ev _ _=_ from g5) (show Go.Lg.ev _ _=_ from g5) (show Go.Lg.ev _ _=_ from mw) oa g4)<|p (λ_=>QE (i:=r) O O g3)<|pkk<|Qv (j:=0+r*1) (u:=.slice (some ⟨bA,if pos a.ed (r+1)=pos a.ed r then 0 else pos a.ed r,none⟩) 0 (pos a.ed (r+1) - pos a.ed r)) (hL.I (O6.X _ _)) O O (by simp;omega) O λmy mz hg=>pe ?_
   have m0:sW U { U with drawn:=U.drawn+1 }:=O6.X _ _
   have m1:(Value.slice (some ⟨bA,if pos a.ed (r+1)=pos a.ed r then 0 else pos a.ed r,none⟩) 0 (pos a.ed (r+1) - pos a.ed r))=.slice (some ⟨bA,offs a.ed r,none⟩) 0 (num a.ed r):=by
    have e1:pos a.ed (r+1) - pos a.ed r=num a.ed r:=oa
    have e2:(if pos a.ed (r+1)=pos a.ed r then 0 else pos a.ed r)=offs a.ed r:=by
     unfold offs;by_cases e3:num a.ed r=0
     ·rw[OV e3,OV oa]
     rw[OU e3,OU oa]
    rw[e1,e2]
   have m2:QK ↑my bO 47 ((oJ s).map (Xv rv r (.slice (some ⟨bA,offs a.ed r,none⟩) 0 (num a.ed r)))):=by
    have e1:=Ke id s rv r (.slice (some ⟨bA,offs a.ed r,none⟩) 0 (num a.ed r));simp only[id]at e1;rw[<-e1,<-m1];simpa using hg
   refine Qr<|QB O O<|Qa<|xe<|⟨(r+1,Xv rv r (.slice (some ⟨bA,offs a.ed r,none⟩) 0 (num a.ed r))),by show s - (r+1)<s - r;omega,La,g3,(hh.V (m0.S λb hb=>by cases hb)).V mz,m2,λi hi=>?_⟩;simp only[];by_cases e1:i=r
   ·subst e1;rw[Zv]
   rw[ZP _ _ e1];exact hM i (by have J:i<r+1:=hi;omega)
  have m3:s<n:=by have J:(s:Int)<a.st:=hH;omega
  refine Qf<|Qd<|Qn<|Ql<|Qb ?_;have mu:=JC s a.ed;have g4:=Qd9 a.ed (s+1);have p6:G s=(pos a.ed s:Int):=by rw[hf s oa,OV (Lp _)]
  have p7:G (s+1)=(num a.ed s:Int):=by rw[hf (s+1) oa,OU oa];rfl
  have hB:(sS ((s:Int)+1))=sS ((s+1:Nat):Int):=rfl;refine ZK [] (Xj 0 12 [11])<|p Qy<|p Qy<|p (λ_=>Xt O O ⟨oa,oa⟩)<|p (λ_=>QE (i:=s+1) O (show Go.Lg.ev _ _=_ from hB) oa) <|
   pq (λ_ hc=>Qk (ha.I hc) O (Jo oa))<|p Qy<|p Qy<|p (λ_=>QE (i:=s) O O oa)<|pq (λ_ hc=>Qk (ha.I hc) O (Jo oa)) <|
   p (λ_=>Xt O O ⟨oa,oa⟩)<|p (λ_=>QE (i:=s+1) O (show Go.Lg.ev _ _=_ from hB) oa)<|pkk<|Qv (j:=0+(s+1)*1) (u:=sS (G (s+1)+G s)) (ha.I (O6.X _ _)) O O (by simp;omega) O λp8 m4 g6=>pe ?_
  rw[VD]at g6;have m5:sW w4 { w4 with drawn:=w4.drawn+1 }:=O6.X _ _
  refine Qr<|QB O O<|Qa<|xe<|⟨(s+1,Xv G (s+1) (G (s+1)+G s)),by show n - (s+1)<n - s;omega,La,m3,(h5.V (m5.S λb hb=>by cases hb)).V m4,g6,λi hi=>?_⟩;simp only[];by_cases e1:i=s+1
  ·subst e1;rw[Zv,OV (Lp _)];omega
  rw[ZP _ _ e1,hf i hi];by_cases e2:i<=s
  ·rw[OV e2,OV oa]
  rw[OU e2,OU oa]
 have hz:k<a.ed.length:=by have J:(k:Int)<(a.ed.length:Int):=hG;omega
 have hT:=hC _ (Lm hz);have g7:=λt ht=>QkU (t:=t) hz ht;refine Zd (a.ed[k]'hz) λe I=>?_;rw[I]at hT;simp only[I]at g7;obtain⟨t,ht⟩:∃t:Nat,e.2.2=(t:Int):=⟨e.2.2.toNat,oa⟩;have p9:t<n:=oa
 refine Qf<|Qd<|Qn<|Qc<|xie (h.ed.I kf) O O hz λqf g9=>?_;rw[I]at g9;refine x (QF g9 O O)<|QT [sS 0,sS 0,sS 0] λb5 qj m6 m7 m8=>Q5 (Qp e) m8 ox λm9 pc pd=>xe ?_;have hZ:sW w3 m9:=m6.Q pc m7;have hy:(sS (e.2.2+1))=sS ((t+1:Nat):Int):=OW _ oa;have ql:0<=fc (t+1)/\fc (t+1)<=1000000:=by
  rw[T];have h1:=yj (ed:=a.ed) (k:=k) t;have Y:num a.ed t<=a.ed.length:=by unfold num pre;rw[Ln];exact LK _ _
  show 0<=((num (a.ed.take k) t:Nat):Int)/\((num (a.ed.take k) t:Nat):Int)<=1000000;omega
 refine Qr<|Qa<|Qs O pd O O<|QB O O<|x (QE (i:=t+1) O (show Go.Lg.ev _ _=_ from hy) oa) <|
  ZD (h4.I hZ) O (Jo oa)<|QB O O<|x (QE (i:=t+1) O (show Go.Lg.ev _ _=_ from hy) oa)<|Qo<|Qv (j:=0+(t+1)*1) (u:=sS (fc (t+1)+1)) (h4.I hZ) O O (by simp;omega) O λq4 pf hR=>xe ?_
 rw[VD]at hR;refine Qr<|QB O O<|Qa<|xe<|⟨(k+1,Xv fc (t+1) (fc (t+1)+1)),by show a.ed.length - (k+1)<a.ed.length - k;omega,La,hz,(h0.V (hZ.S λb hb=>by cases hb)).V pf,hR,λi=>?_⟩;simp only[];rw[g7 t ht i];by_cases e1:i=t+1
 ·subst e1;rw[Zv,OV rfl,T]
 rw[ZP _ _ e1,OU e1,T]
def bq (ed:List Ed):Nat->Nat->LI->LI
 | 0,_,l=>l
 | f+1,i,l=>if i<l.length then bq ed f (i+1) ((pre ed (O7 l i).toNat).foldl yQ l) else l
theorem QnO {f:Nat}(h:¬i<l.length):bq ed f i l=l:=by
 cases f with
 | zero=>rfl
 | succ f=>rw[bq,OU h]
def crq (a:Qz)(tg:LI):LI:=bq a.ed (tg.length+a.st.toNat) 0 tg
def blkd (a:Qz)(tg:LI):LI:=((oJ a.st.toNat).filter λi:Nat=>decide ((i:Int)∉crq a tg)).map λi:Nat=>(i:Int)
structure RkI (n:Nat)(l:LI)(f:Nat->Int):Prop where
 s:∀i:Nat,i<n->(f i<0↔(i:Int)∉l)
 lo:∀i:Nat,i<n->-1<=f i
 hi:∀i:Nat,i<n->f i<=(l.length:Int)
theorem QgX {tg:LI}(h:Zr [] ↑w va vm ve a)(hok:QS a)(hn:a.st=(n:Int))(hT:Qu [] ↑w vt tg)(hP:∀x∈tg,0<=x/\x<(n:Int))(mg:tg.length<=1000000):
  QU sV 55 [.agg #[va,sS a.st,vm,ve],vt] w λr w'=>sW w w'/\∃b f,r=sL b n n/\↑w<=b/\QK ↑w' b 3 (cstv n f)/\∀i:Nat,i<n->(f i<0↔(i:Int)∉crq a tg):=by
 have mh:=hok.st1;have gz:=hok.ed_le;have g0:=hok.ed;refine Zd (crq a tg) λR hR=>?_;have g2:bq a.ed (tg.length+n) 0 tg=R:=by rw[<-hR];unfold crq;rw[hn];rfl
 rw[hR];refine Zm func55 ?_;refine Qc<|Zf [va,sS a.st,vm,ve] λb2 w1 hQ mj hS=>Qb<|Qc<|Q3 hS O O<|Qw<|(Qnb (h.I hQ) hok hn).S ?_;rintro vr w2 ⟨hU,rv,g3,g4⟩;refine Qb ?_;have h7:=hQ.D hU;have hV:(sS a.st)=sS (n:Int):=OW _ hn;refine Qc<|Qs O (hS.I hU) O O<|Qo<|Y2 (n:=n) hV hV oa λbO w3 hW hX g5=>Qb ?_;have hY:QK ↑w3 bO 3 (cstv n λ_=>0):=by
  have e:(oG n (sS 0).cells.toList).flatten=cstv n λ_=>0:=by
   apply L3
   ·simp[Value.cells]
   intro i h1 T;simp[Value.cells]
  rw[<-e];exact g5
 have g6:=h7.D hW;have mo:=h7.size;have g7:Zu [] ↑w3 (sL bO n n) n 1 (cstv n λ_=>0):=hY.arr od (n:=n) (cap:=n) (sz:=1) od oa (Lp _);refine Qd<|Ql<|QG g7 O<|Qa<|xe<|QX (α:=Nat×(Nat->Int)) [(7,7),(21,27)] (λz=>[(21,sS z.1)]) (λz w'=>z.1<=n/\O6 [bO] w3 w'/\QK ↑w' bO 3 (cstv n z.2)/\∀i,i<z.1->z.2 i=-1) (λz=>n - z.1) (0,λ_=>0) La ⟨Lo _,O6.Y _ _,hY,λi hi=>OX hi (Nz _)⟩ ?_;rintro⟨k,f4⟩ g w4 ⟨hk,h8,h0,hv⟩;simp only[]at hk h0 hv;refine Zk rfl O (λh9=>?_) (λh9=>?_)
 ·refine Qt ?_;have g8:k=n:=by have U:¬(k:Int)<(n:Int):=h9;omega
  subst g8;have g9:sW w w4:=g6.Q h8 oa;have hZ:sW w2 w4:=hW.Q h8 hX;have ka:=hZ.size;refine Ql<|Qw<|(Z0 (hT.I g9)).S ?_;rintro v5 w5 ⟨ga,hA⟩;refine Qb ?_;have kb:Qu [] ↑w5 v5 tg:=Qh.ints hA oa od;have gb:bO∉ob v5:=λhm=>oq (Qi hA _ hm).1 h0.lt
  have kc:=hZ.D ga;refine Qd<|Ql<|QG kb O<|Qa<|xe<|QX (α:=Nat×(Nat->Int)) [(10,10),(32,39)] (λz=>[(32,sS z.1)]) (λz w'=>z.1<=tg.length/\O6 [bO] w5 w'/\QK ↑w' bO 3 (cstv k z.2)/\RkI k (tg.take z.1) z.2) (λz=>tg.length - z.1) (0,f4) La
   ⟨Lo _,O6.Y _ _,h0.I ga,⟨λi hi=>by show f4 i<0↔_;rw[hv i hi];simp,λi hi=>by show -1<=f4 i;rw[hv i hi];omega,λi hi=>by show f4 i<=_;rw[hv i hi];omega⟩⟩ ?_
  rintro⟨j,f6⟩ g w6 ⟨hj,hB,hC,hf⟩;simp only[]at hj hC hf;have gc:=Qg hA hB λb hb hm=>gb (Lb.1 hm ▸ hb);have ke:Qu [] ↑w6 v5 tg:=Qh.ints gc oa od;refine Zk O O (λhD=>?_) (λhD=>?_)
  ·refine Qt ?_;have kf:tg.length<=j:=by have U:¬(j:Int)<(tg.length:Int):=hD;omega
   rw[Lr kf]at hf;have kg:sW w2 w6:=kc.Q hB hX;refine Qd<|Qc<|Qb<|QX (α:=Nat×O3×LI×(Nat->Int)) [(8,8),(11,11),(13,13),(40,78)] (λz=>[(8,z.2.1),(11,sS z.1)]) (λz w'=>z.1<=z.2.2.1.length/\sW w2 w'/\Qh 3 ↑w2 w' z.2.1 z.2.2.1/\bO∉ob z.2.1/\QK ↑w' bO 3 (cstv k z.2.2.2)/\RkI k z.2.2.1 z.2.2.2/\Ug k tg z.2.2.1/\bq a.ed (tg.length+k - z.1) z.1 z.2.2.1=R) (λz=>tg.length+k+1 - z.1) (0,v5,tg,f6) ov
    ⟨Lo _,kg,Za gc ka,gb,hC,hf,Ug.zero _ _,g2⟩ ?_
   rintro⟨i,vq,l,f7⟩ g w7 ⟨hi,h4,hF,ge,hG,hH,h5,V⟩;simp only[]at hi hF ge hG hH h5 V;have mq:=h5.len;have kh:=h5.all hP;have gg:Qu [] ↑w7 vq l:=Qh.ints hF oa od;refine Qd<|Ql<|Qa<|QG gg O<|ZW O O<|xe<|Zp O (λhI=>?_) (λhI=>?_)
   ·refine Qt ?_;have ki:¬i<l.length:=by have U:¬(i:Int)<(l.length:Int):=hI;omega
    rw[QnO ki]at V;refine Ql<|Qb<|Qj ⟨[_],La,h7.D h4,bO,f7,O,oa,hG,λi hi=>by rw[<-V];exact hH.s i hi⟩
   have G:i<l.length:=by have U:(i:Int)<(l.length:Int):=hI;omega
   have kj:=kh _ (Xy G);have kk:tg.length+k - i=(tg.length+k - (i+1))+1:=oa
   rw[kk,bq,OV G]at V;have hJ:=Zo G;refine Zd (O7 l i) λs hs=>?_;rw[hs]at kj V hJ;have gh:s=(s.toNat:Int):=oa
   have hg:s.toNat<k:=oa
   have hE:=g4 s.toNat hg;have kn:(pre a.ed s.toNat).length<=131072:=by unfold pre;rw[Ln];exact Lz (LK _ _) gz
   have gi:∀x∈pre a.ed s.toNat,0<=x/\x<(k:Int):=λx hx=>by
    obtain⟨e,he,rfl⟩:=Lx.1 hx;have:=g0 e (LJ.1 he).1;omega
   have gj:(sS s)=sS (s.toNat:Int):=OW _ gh;have ko:s.toNat<(oJ k).length:=by rw[Mb];exact hg
   refine Zd (pre a.ed s.toNat) λps kq=>?_;rw[kq]at hE kn gi V;refine Qf<|Qd<|Qn<|Ql<|Qa<|Qa<|xii (i:=i) gg O O G λms gk=>?_;rw[hJ]at gk;refine x (Qq gk O)<|O9 (g:=λj:Nat=>[rv j]) (i:=s.toNat) (λ_=>O) (g3.I h4) O (show Go.Lg.ev _ _=_ from gj) ko λmt gl=>?_;rw[Mw]at gl;refine x (Qq (u:=rv s.toNat) gl O)<|QG (hE.I h4) O<|Qa<|xe<|QX (α:=Nat×O3×LI×(Nat->Int)) [(8,8),(13,13),(54,78)] (λz=>[(8,z.2.1),(54,sS z.1)]) (λz w'=>z.1<=ps.length/\sW w2 w'/\Qh 3 ↑w2 w' z.2.1 z.2.2.1/\bO∉ob z.2.1/\QK ↑w' bO 3 (cstv k z.2.2.2)/\RkI k z.2.2.1 z.2.2.2/\Ug k tg z.2.2.1/\z.2.2.1[i]?=some s/\(ps.drop z.1).foldl yQ z.2.2.1=ps.foldl yQ l) (λz=>ps.length - z.1) (0,vq,l,f7) ov
    ⟨Lo _,h4,hF,ge,hG,hH,h5,by rw[LD G,hJ],rfl⟩ ?_
   rintro⟨m,hK,lm,f8⟩ g w8 ⟨hm,hh,ho,hp,ha,I,hw,hy,J⟩;simp only[]at hm ho hp ha I hw hy J;have mu:=hw.len;have hr:i<lm.length:=(Mm.1 hy).1;have gm:lm[i]'hr=s:=by have:=hy;rw[LD hr]at this;exact Option.some.inj this
   have kr:Qu [] ↑w8 hK lm:=Qh.ints ho oa od;refine Zk O O (λhL=>?_) (λhL=>?_)
   ·refine Qt ?_;have kt:ps.length<=m:=by have U:¬(m:Int)<(ps.length:Int):=hL;omega
    rw[Lu kt]at J;have ku:lm=ps.foldl yQ l:=J;rw[<-ku]at V;refine Qr<|Qa<|QB O O<|Qb<|⟨(i+1,hK,lm,f8),by show tg.length+k+1 - (i+1)<tg.length+k+1 - i;omega,ov,hr,hh,ho,hp,ha,I,hw,V⟩
   have hu:m<ps.length:=by have U:(m:Int)<(ps.length:Int):=hL;omega
   have gn:=gi _ (Lm hu);rw[QY hu,LQ]at J;refine Zd (ps[m]'hu) λq hq=>?_;rw[hq]at gn J;obtain⟨t,ht⟩:∃t:Nat,q=(t:Int):=⟨q.toNat,oa⟩;have Y:t<k:=oa
   have h6:(sS q)=sS (t:Int):=OW _ ht;refine Qf<|Qd<|Qn<|Qc<|xii (i:=m) (hE.I hh) O O hu λmv gq=>?_;rw[hq]at gq;refine x (Qq gq O)<|Qb<|Ql<|Qa<|x (QE (i:=t) O (show Go.Lg.ev _ _=_ from h6) Y)<|ZD ha O (Jo Y)<|x (YB (a:=f8 t) (b:=0) O O)<|xe<|Zp O (λhM=>?_) (λhM=>?_)
   ·have kv:q∈lm:=by rw[ht];exact Classical.byContradiction λhn=>hM ((I.s t Y).2 hn)
    have hN:yQ lm q=lm:=by unfold yQ;rw[OU (not_not_intro kv)]
    rw[hN]at J;refine Qf<|Qr<|QB O O<|Qa<|xe ?_;exact⟨(m+1,hK,lm,f8),by show ps.length - (m+1)<ps.length - m;omega,ov,hu,hh,ho,hp,ha,I,hw,hy,J⟩
   have gr:q∉lm:=by rw[ht];exact(I.s t Y).1 hM
   have hN:yQ lm q=lm++[q]:=by unfold yQ;rw[OV gr]
   rw[hN]at J;have mw:=I.hi s.toNat hg;have my:¬f8 s.toNat<0:=λh=>(I.s s.toNat hg).1 h (by rw[<-gh,<-gm];exact Lm hr);have kw:=Qi ho;have mz:=hh.size;refine Ql<|Qa<|Qa<|Qa<|Qa<|xii (i:=i) kr O O hr λm0 gs=>?_;rw[gm]at gs;refine x (Qq gs O)<|x (QE (i:=s.toNat) O (show Go.Lg.ev _ _=_ from gj) hg)<|ZD ha O (Jo hg)<|QB O O<|x (QE (i:=t) O (show Go.Lg.ev _ _=_ from h6) Y) <|
    Qo<|Qv (j:=0+t*1) (u:=sS (f8 s.toNat+1)) ha O O (by simp;omega) O λw9 hO gt=>xe ?_
   rw[VD]at gt;have kx:=Qg ho hO λb hb hm=>hp (Lb.1 hm ▸ hb);have m1:=hO.size;refine Qr<|Qa<|Qa<|Qo<|Q8 [[sS q]] λm2 m3 hz m4 kz=>Qo<|Q2 (m:=1) (news:=[sS q]) (L:=[]) (Qm kx hz) O O O (kz.at od) om oa (oq hz.size hh.size) λk0 m5 k4 gu k5=>Qb<|Qr<|QB O O<|Qa<|xe ?_;have m6:=hz.size;refine⟨(m+1,k0,lm++[q],Xv f8 t (f8 s.toNat+1)),by show ps.length - (m+1)<ps.length - m;omega,ov,hu,((hh.Q hO oa).D hz).O gu λb hb=>.inr (oo (kw b hb).1),Qh.snoc k4,λk6=>?_,(gt.I hz).J gu hp,⟨λE hi'=>?_,λE hi'=>?_,λE hi'=>?_⟩,hw.add gn gr,?_,J⟩
   ·rcases k5 _ k6 with h1|h1
    ·exact hp h1
    have:=ha.lt;omega
   ·simp only[];rw[Le,Lb];by_cases e1:E=t
    ·subst e1;rw[Zv];exact⟨λh=>OX h oa,λh=>OX (Or.inr ht.symm) h⟩
    rw[ZP _ _ e1,I.s E hi'];exact⟨λh T=>T.elim h λh3=>e1 oa,λh T=>h (.inl T)⟩
   ·simp only[];by_cases e1:E=t
    ·subst e1;rw[Zv];omega
    rw[ZP _ _ e1];exact I.lo E hi'
   ·simp only[];rw[Lc,Lv];by_cases e1:E=t
    ·subst e1;rw[Zv];omega
    rw[ZP _ _ e1];have:=I.hi E hi';omega
   simp only[];rw[LX hr];exact hy
  have G:j<tg.length:=by have U:(j:Int)<(tg.length:Int):=hD;omega
  have Y:tg.take (j+1)=tg.take j++[tg[j]'G]:=Ll G;have k9:=hP _ (Lm G);refine Qf<|Qd<|Qn<|Qc<|xii (i:=j) ke O O G λm7 gv=>?_;refine Zd (tg[j]'G) λq hq=>?_;rw[hq]at gv Y k9;obtain⟨t,ht⟩:∃t:Nat,q=(t:Int):=⟨q.toNat,oa⟩;have ma:t<k:=oa
  have h6:(sS q)=sS (t:Int):=OW _ ht;refine x (Qq gv O)<|Qb<|Qr<|Qa<|Qa<|x (QE (i:=t) O (show Go.Lg.ev _ _=_ from h6) ma)<|Qo<|Qv (j:=0+t*1) (u:=sS 0) hC O O (by simp;omega) O λm8 mc gx=>xe ?_;rw[VD]at gx;refine Qr<|QB O O<|Qa<|xe<|⟨(j+1,Xv f6 t 0),by show tg.length - (j+1)<tg.length - j;omega,La,G,hB.V mc,gx,?_⟩;simp only[];rw[Y];refine⟨λE hi'=>?_,λE hi'=>?_,λE hi'=>?_⟩
  ·rw[Le,Lb];by_cases e1:E=t
   ·subst e1;rw[Zv];exact⟨λh=>OX h oa,λh=>OX (Or.inr ht.symm) h⟩
   rw[ZP _ _ e1,hf.s E hi'];exact⟨λh T=>T.elim h λh3=>e1 oa,λh T=>h (.inl T)⟩
  ·by_cases e1:E=t
   ·subst e1;rw[Zv];omega
   rw[ZP _ _ e1];exact hf.lo E hi'
  rw[Lc,Lv];by_cases e1:E=t
  ·subst e1;rw[Zv];omega
  rw[ZP _ _ e1];have:=hf.hi E hi';omega
 have G:k<n:=by have U:(k:Int)<(n:Int):=h9;omega
 refine Qf<|Qd<|Qn<|Ql<|Qb<|Qr<|Qa<|Qa<|x (QE (i:=k) O O G)<|Qo<|Qv (j:=0+k*1) (u:=sS (-1)) h0 O O (by simp;omega) O λm9 mf gy=>xe ?_;rw[VD]at gy;refine Qr<|QB O O<|Qa<|xe<|⟨(k+1,Xv f4 k (-1)),by show n - (k+1)<n - k;omega,La,G,h8.V mf,gy,λi hi=>?_⟩;simp only[];by_cases e1:i=k
 ·subst e1;rw[Zv]
 rw[ZP _ _ e1];exact hv i (by have U:i<k+1:=hi;omega)
theorem QhN (f:Nat->Int)(k:Nat):(((oJ (k+1)).filter λi=>decide (f i<0)).map λi:Nat=>(i:Int))=((oJ k).filter λi=>decide (f i<0)).map (λi:Nat=>(i:Int))++if f k<0 then[(k:Int)]else[]:=by
 rw[Nh,LT,Ly];congr 1;by_cases e:f k<0 <;> simp[e]
theorem Qe1 {b:Nat}{f:Nat->Int}(Y:QK ↑w b 3 (cstv n f))(hn:n<=4096):
  QU sV 54 [sL b n n] w λr w'=>sW w w'/\Qh 3 ↑w w' r (((oJ n).filter λi=>decide (f i<0)).map λi:Nat=>(i:Int)):=by
 have hA:Zu [] ↑w (sL b n n) n 1 (cstv n f):=Y.arr od (n:=n) (cap:=n) (sz:=1) od oa (Lp _);refine Zm func54 ?_;refine Qc<|Qb<|Qc<|Qb<|Qd<|Ql<|QG hA O<|Qa<|xe<|QX (α:=Nat×O3) [(3,5),(8,19)] (λz=>[(3,z.2),(8,sS z.1)]) (λz w'=>z.1<=n/\sW w w'/\Qh 3 ↑w w' z.2 (((oJ z.1).filter λi=>decide (f i<0)).map λi:Nat=>(i:Int))) (λz=>n - z.1) (0,ZX) ov ⟨Lo _,O6.Y _ _,QL _ _ _ _⟩ ?_;rintro⟨k,vo⟩ g w1 ⟨hk,G,E⟩;simp only[]at hk E;refine Zk rfl O (λT=>?_) (λT=>?_)
 ·refine Qt ?_;have ha:k=n:=by have he:¬(k:Int)<(n:Int):=T;omega
  rw[ha]at E;refine Ql<|Qb<|Qj ⟨[_],La,G,E⟩
 have I:k<n:=by have he:(k:Int)<(n:Int):=T;omega
 have J:=QhN f k;have hj:(((oJ k).filter λi=>decide (f i<0)).map λi:Nat=>(i:Int)).length<=4096:=by
  rw[Ln];exact Lz (LK _ _) (by rw[Mb];omega)
 refine Qf<|Qd<|Qn<|Ql<|x (QE (i:=k) O O I)<|ZD (Y.I G) O (Jo I)<|x Qe<|Qb<|Ql<|x (YB (a:=f k) (b:=0) O O)<|xe<|Zp rfl (λU=>?_) (λU=>?_)
 ·rw[OU U,LH]at J;refine Qf<|Qr<|QB O O<|Qa<|xe ?_;exact⟨(k+1,vo),by show n - (k+1)<n - k;omega,ov,I,G,by simp only[];rw[J];exact E⟩
 rw[OV U]at J;refine Qr<|Qa<|Qa<|Qo<|Q8 [[sS k]] λhm w2 V ho hf=>Qo<|Q2 (m:=1) (news:=[sS k]) (L:=[]) (Qm E V) O O O (hf.at od) om oa (oq G.size V.size) λv3 w3 hg hh hp=>Qb<|Qr<|QB O O<|Qa<|xe ?_;exact⟨(k+1,v3),by show n - (k+1)<n - k;omega,ov,I,(G.D V).O hh λb hb=>.inr (Qi E b hb).1,by simp only[];rw[J];exact Qh.snoc hg⟩
def zi (n:Nat):LI:=(oJ n).map λi:Nat=>(i:Int)
theorem Qqg {st:Int}(hn:st=(n:Int))(hl:n<=4096):
  QU sV 128 [.agg #[va,sS st,vm,ve]] w λr w'=>sW w w'/\Qh 3 ↑w w' r (zi n):=by
 refine Zm func128 ?_;refine Qc<|Zf [va,sS st,vm,ve] λb1 w1 T hr hh=>Qb ?_;have U:(sS st)=sS (n:Int):=OW _ hn;refine Qc<|Qs O hh O O<|Qo<|Y2 (n:=n) U U oa λbO G hj hs hm=>Qb ?_;have V:QK ↑G bO 3 (cstv n λ_=>0):=by
  have e:(oG n (sS 0).cells.toList).flatten=cstv n λ_=>0:=by
   apply L3
   ·simp[Value.cells]
   intro i h1 h2;simp[Value.cells]
  rw[<-e];exact hm
 have hu:=T.size;have ho:Zu [] ↑G (sL bO n n) n 1 (cstv n λ_=>0):=V.arr od (n:=n) (cap:=n) (sz:=1) od oa (Lp _);refine Qd<|Ql<|QG ho O<|Qa<|xe<|QX (α:=Nat×(Nat->Int)) [(4,4),(10,17)] (λz=>[(10,sS z.1)]) (λz w'=>z.1<=n/\O6 [bO] G w'/\QK ↑w' bO 3 (cstv n z.2)/\∀i,i<z.1->z.2 i=(i:Int)) (λz=>n - z.1) (0,λ_=>0) La ⟨Lo _,O6.Y _ _,V,λi hi=>OX hi (Nz _)⟩ ?_;rintro⟨k,f3⟩ g w3 ⟨hk,Y,E,I⟩;simp only[]at hk E I;refine Zk rfl O (λJ=>?_) (λJ=>?_)
 ·refine Qt ?_;have hp:k=n:=by have ha:¬(k:Int)<(n:Int):=J;omega
  subst hp;refine Ql<|Qb<|Qj ⟨[_],La,(T.D hj).Q Y oa,?_⟩;have e:cstv k f3=(zi k).map (Value.int .i64):=by
   unfold cstv zi;rw[MB];exact List.map_congr_left λi hi=>OW _ (I i (MI.1 hi))
  rw[e]at E;have he:(zi k).length=k:=by simp[zi]
  have:=E.own (n:=k) (sz:=1) (by rw[Ln,he,OR]) oa (base:=↑w) oa;show w3.ownsRow _ _ 1 _ (zi k).length _;rw[he];exact this
 have hf:k<n:=by have ha:(k:Int)<(n:Int):=J;omega
 refine Qf<|Qd<|Qn<|Ql<|Qb<|Qr<|Qa<|Qa<|Qa<|x (QE (i:=k) O O hf)<|Qo<|Qv (j:=0+k*1) (u:=sS (k:Int)) E O O (by simp;omega) O λw4 hq hg=>xe ?_;rw[VD]at hg;refine Qr<|QB O O<|Qa<|xe<|⟨(k+1,Xv f3 k (k:Int)),by show n - (k+1)<n - k;omega,La,hf,Y.V hq,hg,λi hi=>?_⟩;simp only[];by_cases e1:i=k
 ·subst e1;rw[Zv]
 rw[ZP _ _ e1];exact I i (by have ha:i<k+1:=hi;omega)
section
variable {P:LI->Prop}
structure SyB (P:LI->Prop)(s:Sy):Prop where
 nd:s.tup.Nodup
 p:∀t∈s.tup,P t
theorem QoI (Y:B<=4096)(T:∀l:List (LI),l.Nodup->(∀t∈l,P t)->l.length<=B){t:LI}{v:Int}{z:Sy}(E:SyB P z)(U:∀u,QZ v aa t=some u->P u):
  ∃z',syE aa i t z v=some z'/\SyB P z':=by
 unfold syE;cases V:QZ v aa t with
 | none=>exact⟨z,O,E⟩
 | some u =>
  simp only[];by_cases G:u∈z.tup
  ·rw[OV G];exact⟨_,O,E.nd,E.p⟩
  have I:(z.tup++[u]).Nodup:=JF E.nd G;have J:∀t∈z.tup++[u],P t:=λt ht=>by
   rcases Le.1 ht with ht|ht
   ·exact E.p t ht
   rw[Lb.1 ht];exact U u V
  have hc:=T _ I J;rw[Lc,Lv]at hc;rw[OU G,OU oa];exact⟨_,O,I,J⟩
theorem Qfy (G:B<=4096)(I:∀l:List (LI),l.Nodup->(∀t∈l,P t)->l.length<=B){i:Nat}{t:LI}:∀(vs:LI) (z:Sy),SyB P z->(∀v∈vs,∀u,QZ v aa t=some u->P u)->∃z',VS aa i t vs z=some z'/\SyB P z'
 | [],z,E,_=>⟨z,O,E⟩
 | v::vs,z,E,J=>by
  obtain⟨T,U,V⟩:=QoI (i:=i) G I E (J v Lh);obtain⟨Y,h3,h4⟩:=Qfy G I vs T V (λw hw=>J w (Lj _ hw));exact⟨Y,by rw[VS,U];exact h3,h4⟩
theorem Qit (G:B<=4096)(I:∀l:List (LI),l.Nodup->(∀t∈l,P t)->l.length<=B)(J:∀t,P t->∀v∈evs aa,∀u,QZ v aa t=some u->P u):∀(f i:Nat) (z:Sy),SyB P z->∃z',syL aa f i z=some z'
 | 0,_,z,_=>⟨z,O⟩
 | f+1,i,z,E=>by
  rw[syL];split
  ·rename_i hi;have U:P (Jq z i):=E.p _ (by unfold Jq;simp[oN,hi]);have T:(ZY aa i (Jq z i) z).tup=z.tup:=by unfold ZY;split <;> rfl
   obtain⟨V,Y,h2⟩:=Qfy (i:=i) G I (evs aa) (ZY aa i (Jq z i) z) ⟨by rw[T];exact E.nd,by rw[T];exact E.p⟩ (J _ U);obtain⟨s2,h3⟩:=Qit G I J f (i+1) V h2;exact⟨s2,by rw[Y];exact h3⟩
  exact⟨z,O⟩
theorem Qft (E:B<=4096)(G:∀l:List (LI),l.Nodup->(∀t∈l,P t)->l.length<=B)(I:(∀a∈aa,a.st≠0)->P (oG aa.length 0))(J:∀t,P t->∀v∈evs aa,∀u,QZ v aa t=some u->P u):
  ∃z,xp aa=some z:=by
 unfold xp;split
 ·exact⟨_,rfl⟩
 rename_i T;have U:P (oG aa.length 0):=I (λa V e=>T ⟨a,V,e⟩);obtain⟨z,Y⟩:=Qit E G J 4096 0 (zT aa) ⟨by simp[zT],λt ht=>by simp[zT]at ht;subst ht;exact U⟩;exact⟨_,by rw[Y];rfl⟩
end
def VG (k:Nat):LI->Int
 | []=>0
 | x::t=>x+(k:Int)*VG k t
theorem Qgq {k:Nat}:∀{t:LI},(∀x∈t,0<=x/\x<(k:Int))->0<=VG k t/\VG k t<((k ^ t.length:Nat):Int)
 | [],_=>by simp[VG]
 | x::t,h=>by
  have hx:=h x Lh;obtain⟨E,T⟩:=Qgq (t:=t) (λy G=>h y (Lj _ G));have U:(0:Int)<(k:Int):=oa
  rw[VG,LP,OH];have I:(k:Int)*VG k t<=(k:Int)*(((k ^ t.length:Nat):Int) - 1):=Int.mul_le_mul_of_nonneg_left oa oa;have V:0<=(k:Int)*VG k t:=Int.mul_nonneg oa E;rw[Int.mul_sub,Int.mul_one]at I;have J:((k ^ t.length*k:Nat):Int)=(k:Int)*((k ^ t.length:Nat):Int):=by rw[Int.natCast_mul,Int.mul_comm]
  rw[J];exact⟨oa,oa⟩
theorem Qc8 {k:Nat}:∀{t u:LI},t.length=u.length->(∀x∈t,0<=x/\x<(k:Int))->(∀x∈u,0<=x/\x<(k:Int))->VG k t=VG k u->t=u
 | [],[],_,_,_,_=>rfl
 | [],_::_,h,_,_,_=>by cases h
 | _::_,[],h,_,_,_=>by cases h
 | x::t,y::u,hl,ht,G,I=>by
  have hx:=ht x Lh;have J:=G y Lh;rw[VG,VG]at I;have T:(x+(k:Int)*VG k t) % (k:Int)=x:=by rw[Int.add_mul_emod_self_left];exact Int.emod_eq_of_lt hx.1 hx.2
  have m2:(y+(k:Int)*VG k u) % (k:Int)=y:=by rw[Int.add_mul_emod_self_left];exact Int.emod_eq_of_lt J.1 J.2
  rw[I]at T;have U:x=y:=oa
  subst U;have V:(k:Int)*VG k t=(k:Int)*VG k u:=oa
  have Y:(k:Int)≠0:=oa
  rw[Qc8 (ou hl) (λz E=>ht z (Lj _ E)) (λz E=>G z (Lj _ E)) (Int.eq_of_mul_eq_mul_left Y V)]
theorem Qb3 {k:Nat}(U:∀a∈aa,QS a)(hk:∀a∈aa,a.st<=(k:Int))(hB:k ^ aa.length<=4096):∃z,xp aa=some z:=by
 have J:∀t,Vt aa t->∀x∈t,0<=x/\x<(k:Int):=λt ht x hx=>by
  obtain⟨i,hi,e⟩:=LR hx;have V:i<aa.length:=by rw[<-ht.1];exact hi
  have G:=ht.2 i hi V;have I:=hk _ (Lm V);rw[e]at G;omega
 refine Qft (P:=Vt aa) hB (λl hn E=>?_) (λhz=>?_) (λt ht v _ u T=>Xs U ht T)
 ·have G:(l.map (VG k)).Nodup:=by
   unfold List.Nodup;rw[L9];refine List.Pairwise.imp_of_mem (λ{a b} Y hb he e=>he ?_) hn;exact Qc8 (by rw[(E a Y).1,(E b hb).1]) (J a (E a Y)) (J b (E b hb)) e
  have I:=xI (k ^ aa.length) _ G (λu T=>by
   obtain⟨t,ht,rfl⟩:=Lx.1 T;have h3:=Qgq (J t (E t ht));rw[(E t ht).1]at h3;exact h3)
  rw[Ln]at I;exact I
 refine⟨od,λi h h'=>?_⟩;have G:=hz _ (Lm h');have I:=(U _ (Lm h')).st0;simp only[Oq];omega
def bpt (a:Qz)(tg:LI):LI×Bool:=if a.st=0 then([],false) else ptR a a.st.toNat 0 tg (zi a.st.toNat)
theorem QnV {m:Int}(E:(n:Int)<=m):J9 m none (zi n)=0:=by
 refine QbG (λx hx=>?_) ?_
 ·obtain⟨i,hi,rfl⟩:=Lx.1 hx;have:=MI.1 hi;omega
 unfold zi Ys;rw[L9];exact List.pairwise_lt_range.imp λh=>oa
theorem Qlh {tg:LI}(h:Zr [] ↑w va vm ve a)(hok:QS a)(hT:Qu [] ↑w vt tg)(hg:J9 a.st none tg=0):
  QU sV 53 [.agg #[va,sS a.st,vm,ve],sS 0,vt] w λr w'=>sW w w'/\∃v,r=.tuple #[v,.bool (bpt a tg).2]/\Yr ↑w ↑w' v (bpt a tg).1:=by
 have hp:=hok.st0;have hq:=hok.st1;obtain⟨n,hn⟩:∃n:Nat,a.st=n:=⟨a.st.toNat,oa⟩;have hh:a.st.toNat=n:=oa
 have E:bpt a tg=if a.st=0 then([],false) else ptR a n 0 tg (zi n):=by unfold bpt;rw[hh]
 refine Zd (bpt a tg) λR hR=>?_;rw[hR]at E ⊢;refine Zm func53 ?_;refine Qc<|Zf [va,sS a.st,vm,ve] λb3 G ha hr J=>x Qe<|Qb<|Qd<|Ql<|Qs O J O O<|x (Yf (a:=0) (b:=a.st) O O)<|xe<|Zg rfl (λT=>?_) (λT=>?_)
 ·have U:a.st=0:=by have hj:(0:Int)≥a.st:=T;omega
  rw[OV U]at E;rw[E];refine Qc<|x Qe<|Qb<|Qj ⟨[ZX,.bool false],ov,ha,ZX,O,Yr.nil _ _⟩
 have U:¬a.st=0:=by have hj:¬(0:Int)≥a.st:=T;omega
 rw[OU U]at E;have he:0<n:=oa
 refine Qf<|Qd<|ZK [] (Xj 0 13 [4,5]) ?_;have hk:sW G { G with drawn:=G.drawn+1 }:=O6.X _ _
 refine pq (λ_ hc=>Zi (J.I hc) O O)<|p Qy<|p Qy<|pq (λ_ hc=>Zi (J.I hc) O O)<|pk<|xg<|(Qqg (w:={ G with drawn:=G.drawn+1 }) hn oa).S ?_
 rintro v2 w2 ⟨hm,ho⟩;have V:=hk.D hm;have I:=ha.D V;have hs:(zi n).length<=4096:=by simp[zi];omega
 refine⟨V,?_⟩;refine pk<|xg<|(Qn0 (n:=n) (from0:=0) (h.I I) ((Zz a).2 hok) hn he (hT.I I) (Qh.ints ho oa od) hg (QnV oa) (Lx.2 ⟨0,MI.2 he,rfl⟩)).S ?_;rintro _ w3 ⟨hf,v,rfl,Y⟩;rw[<-E]at Y ⊢;refine⟨V.D hf,?_⟩;refine p Qy<|p (λ_=>Q0 O O)<|p (λ_=>Q0 O O)<|p (λ_=>Q0 O O)<|p ZI<|p ZI<|p ZI<|pe ?_;refine Ql<|Qa<|x Qe<|Qb<|Qj ⟨[v,_],ov,I.D hf,v,O,?_⟩;rw[E]at Y ⊢;exact λL hL=>Qh.ints Y (Lz (Qmh a n tg _) oa) λb hb=>LU (hL b hb) I.size
def nbl (a:Qz):LI×Bool:=((bpt (J7 [a]) (blkd (J7 [a]) (J7 [a]).mr)).1,!(bpt (J7 [a]) (blkd (J7 [a]) (J7 [a]).mr)).2)
theorem QnP (a:Qz)(h:0<=a.st)(tg:LI):J9 a.st none (blkd a tg)=0:=by
 refine QbG (λx hx=>?_) ?_
 ·obtain⟨i,hi,rfl⟩:=Lx.1 hx;have:=MI.1 (LJ.1 hi).1;omega
 unfold blkd Ys;rw[L9];exact(List.pairwise_lt_range.filter _).imp λh=>oa
theorem QcE (hok:QS a):∃Q,xp [a]=some (J7 [a],Q)/\QS (J7 [a]):=by
 have G:=hok.st0;obtain⟨z,E⟩:=Qb3 (aa:=[a]) (k:=a.st.toNat) (λb hb=>by rw[Lb.1 hb];exact hok) (λb hb=>by rw[Lb.1 hb];omega) (by have:=hok.st1;simp only[oL,Nat.pow_one];omega);have e:J7 [a]=z.1:=by unfold J7;rw[E]
 rw[e];exact⟨z.2,E,(Yz (λb hb=>by rw[Lb.1 hb];exact hok) (A:=z.1) (Q:=z.2) E).1.okay (λb hb=>by rw[Lb.1 hb];exact hok)⟩
theorem jk {vl:O3}{q:AV}(h:X7 [] ↑w vl [q])(hok:QS q.a)(h9:q.a.st<=100):
  QU sV 16 [vl] w λr w'=>sW w w'/\∃v,r=.tuple #[v,.bool (nbl q.a).2,sS 0]/\Yr ↑w ↑w' v (nbl q.a).1:=by
 obtain⟨Q,hz,E⟩:=QcE hok;have V:=E.st0;have hk:=E.st1;have ho:(J7 [q.a]).mr.length<=4096:=by
  have:=xI (J7 [q.a]).st.toNat _ (E.mri.imp λhC e=>oa) λx hx=>oo (E.mr x hx)
  omega
 refine Zm func16 ?_;refine Qc<|x Qe<|x Qe<|Qb<|Ql<|Qw<|(jg h λp hp=>by rw[Lb.1 hp];exact h9).S ?_;rintro _ Y ⟨hq,va,vt,c,rfl,hR⟩;have hc:c=0/\Xb ↑w ↑Y va (J7 [q.a]):=by
  unfold Yy at hR;have hck:KT ([q].map (·.a))=0:=by
   show KT [q.a]=0;unfold KT ckL;rw[OU od,OU (by rw[(Zz _).2 hok];simp)];rfl
  rw[OU (by rw[hck];simp)]at hR;have hm:[q].map (·.a)=[q.a]:=rfl;rw[hm,hz]at hR;exact⟨hR.1,hR.2.1⟩
 obtain⟨rfl,hr,hs,hu,rfl,hw⟩:=hc;have G:=hw [] od;refine Zd (J7 [q.a]) λS hS=>?_;have hy:nbl q.a=((bpt S (blkd S S.mr)).1,!(bpt S (blkd S S.mr)).2):=by unfold nbl;rw[hS]
 rw[hS]at G E V hk ho;obtain⟨n,hn⟩:∃n:Nat,S.st=n:=⟨S.st.toNat,oa⟩;have h0:S.st.toNat=n:=oa
 have h1:∀x∈S.mr,0<=x/\x<(n:Int):=λx hx=>oo (E.mr x hx)
 rw[hy,hS];refine Qa<|QO O O<|QO O O<|QO O O<|QT Xf λb5 w2 h2 h3 h4=>Q5 [hr,sS S.st,hs,hu] h4 ⟨G.al.one,O,G.mr.one,G.ed.one,Z⟩ λI h5 T=>x Qe<|Qb ?_;have U:sW Y I:=h2.Q h5 h3;have ha:=hq.D U;refine Qd<|Ql<|ZN O O<|xe<|Zw rfl<|Qf<|Qd<|ZK [] (Xj 0 12 [4,5,6]) ?_;have he:sW I { I with drawn:=I.drawn+1 }:=O6.X _ _
 have hf:=U.D he;refine pq (λ_ hc=>Zi (T.I hc) O O)<|pq (λ_ hc=>Zi (T.I hc) O O)<|p (QH O)<|pq (λ_ hc=>Qk (T.I hc) O O)<|pk<|xg<|(QgX (w:={ I with drawn:=I.drawn+1 }) (G.I hf) E hn (G.mr.I hf) h1 oa).S ?_
 rintro _ w4 ⟨h6,b,f,rfl,hb,h7,h8⟩;have hg:=he.D h6;refine⟨hg,?_⟩;refine pk<|xg<|(Qe1 h7 oa).S ?_;rintro v5 w5 ⟨hA,hh⟩;have hB:(((oJ n).filter λi=>decide (f i<0)).map λi:Nat=>(i:Int))=blkd S S.mr:=by
  unfold blkd;rw[h0];congr 1;exact NB λi hi=>bD (h8 i (MI.1 hi))
 rw[hB]at hh;have J:=hg.D hA;refine⟨J,?_⟩;have hD:(blkd S S.mr).length<=4096:=by
  unfold blkd;rw[Ln];exact Lz (LK _ _) (by rw[Mb];omega)
 refine pk<|xg<|(Qlh (G.I (U.D J)) E (Qh.ints hh oa od) (QnP S V _)).S ?_;rintro _ w6 ⟨hj,v,rfl,hv⟩;refine⟨J.D hj,?_⟩;refine p Qy<|p (λ_=>Q0 O O)<|p (λ_=>Q0 O O)<|p ZI<|p ZI<|pe ?_;refine Ql<|Qa<|x (Zj O)<|x Qe<|x Qe<|Qb<|Qj ⟨[v,_,sS 0],ox,(ha.D J).D hj,v,O,hv.S (ha.D J).size⟩
end Go.Lg
namespace Go.Proofs
open Go.Proofs.Tryz
open Go.Shelf
def Tryz.sortEd_ren:Go.Shelf.Ren:=⟨λ|6=>244|15=>141|14=>278|28=>220|29=>221|20=>300|21=>301|22=>302|23=>303|24=>304|25=>305|26=>306|27=>307|46=>318|47=>258|48=>259|49=>319|50=>320|57=>325|n=>n,λ|22=>51|24=>179|25=>345|3=>3|39=>246|0=>0|53=>317|55=>319|4=>4|46=>311|45=>310|50=>205|5=>5|9=>9|66=>363|70=>367|76=>389|77=>379|n=>n,λ|n=>n⟩
theorem Tryz.sortEd:Go.Proofs.SlLaysF0.n6 sV Tryz.sortEd_ren:=lyS
end Go.Proofs
namespace Go.Lg
open Go.Lg Go.Sort
abbrev Ez:={ x:Ed // (0<=x.1/\x.1<1099511627776)/\0<=x.2.1/\x.2.1<1099511627776 }
instance:Inhabited Ez:=⟨⟨(0,0,0),og⟩⟩
abbrev zg (x:Ez):LV:=[sS x.1.1,sS x.1.2.1,sS x.1.2.2]
abbrev EzO (base:Nat)(w:O2)(v:O3)(l:List Ez):Prop:=w.ownsRow base 179 3 v l.length (l.flatMap zg)
def ecf (x y:Ez):Int:=if x.1.1=y.1.1 then x.1.2.1 - y.1.2.1 else x.1.1 - y.1.1
theorem QrA (x y:Ez)(W:O2):Calls sV 310 #[sT (zg x),sT (zg y)] W λe w'=>e=.returned (sS (ecf x y))/\∃q os',w'=grow (W.drewN q) os':=by
 have E:IntKind.i64.wrap (x.1.1 - y.1.1)=x.1.1 - y.1.1:=XX ⟨oq x.2 y.2,oq x.2 y.2⟩;have G:IntKind.i64.wrap (x.1.2.1 - y.1.2.1)=x.1.2.1 - y.1.2.1:=XX ⟨oq x.2 y.2,oq x.2 y.2⟩
 go_enter func310,ntmps310
 go_wp2
 ·go_ret;rename_i h;exact⟨by rw[ecf,OU (ou h)];rfl,0,_,by rw[alloc_eq_grow,alloc_eq_grow,grow_grow];rfl⟩
 go_ret;rename_i h;exact⟨by rw[ecf,OV (ou h)];rfl,0,_,by rw[alloc_eq_grow,alloc_eq_grow,grow_grow];rfl⟩
theorem QrB (x y:Ez)(W:O2):Calls sV 245 #[sT (zg x),sT (zg y)] W λe w'=>e=.returned (sS (ecf x y))/\∃q os',w'=grow (W.drewN q) os':=by
 have E:IntKind.i64.wrap (x.1.1 - y.1.1)=x.1.1 - y.1.1:=XX ⟨oq x.2 y.2,oq x.2 y.2⟩;have G:IntKind.i64.wrap (x.1.2.1 - y.1.2.1)=x.1.2.1 - y.1.2.1:=XX ⟨oq x.2 y.2,oq x.2 y.2⟩
 go_enter func245,ntmps245
 go_wp2
 ·go_ret;rename_i h;exact⟨by rw[ecf,OU (ou h)];rfl,0,_,by rw[alloc_eq_grow,alloc_eq_grow,grow_grow];rfl⟩
 go_ret;rename_i h;exact⟨by rw[ecf,OV (ou h)];rfl,0,_,by rw[alloc_eq_grow,alloc_eq_grow,grow_grow];rfl⟩
theorem Qbu (x:Ez):(zg x).length=3:=rfl
theorem QeF:∀l:List Ez,(l.flatMap zg).length=l.length*3
 | []=>rfl
 | x::l=>by rw[LM,Lc,QeF l,Qbu,LP];omega
theorem Qgp {l:List Ez}(J:j<l.length*3):(l.flatMap zg)[j]?=some ((flatK zg 3 l.toArray)[j]!):=by
 have E:j / 3<l.length:=Nat.div_lt_of_lt_mul oa;have G:j % 3<3:=OQ _ og;rw[get_flatK _ _ _ _ (ou J)];have T:(l.flatMap zg)[j]?=(zg (l[j / 3]'E))[j % 3]?:=by
  rw[<-(Jl zg 3 Qbu l (j / 3) E),LZ,OV G,MN];congr 1;omega
 rw[T];have U:(l.toArray)[j / 3]! = l[j / 3]'E:=by simp[E]
 rw[U];have I:j % 3<(zg (l[j / 3]'E)).length:=G;exact(LD I).D (OW some (getElem!_pos (zg (l[j / 3]'E)) (j % 3) I).symm)
theorem QkG (x y:Ez):ltOf ecf x y=true↔x.1.1<y.1.1\/x.1.1=y.1.1/\x.1.2.1<y.1.2.1:=by
 unfold ltOf ecf;rw[decide_eq_true_iff];split <;> omega
theorem Qby (x y:Ez):ltOf ecf x y=false↔y.1.1<x.1.1\/y.1.1=x.1.1/\y.1.2.1<=x.1.2.1:=by
 rw[<-Bool.not_eq_true,QkG];omega
theorem QpM:SWO (ltOf ecf) where
 irrefl x:=by rw[Qby];omega
 trans x y z h1 h2:=by rw[QkG]at *;omega
 ntrans x y z h1 h2:=by rw[Qby]at *;omega
theorem Qmo [Inhabited α]{lt:α->α->Bool}{d E:Array α}(I:PermIn 0 d.size d E)(J:SortedIn lt 0 d.size E):E.toList.Perm d.toList/\E.toList.Pairwise (λx y=>lt y x=false):=by
 obtain⟨T,_,G⟩:=I;have e1:E.extract 0 d.size=E:=by rw[<-T];exact Array.extract_size
 rw[e1,Array.extract_size]at G;refine⟨G,?_⟩;rw[Mg];intro i j hi U V;have hi':i<E.size:=by simpa using hi
 have Y:j<E.size:=by simpa using U
 have:=J i j (Lo _) V oa;rw[getElem!_pos E j Y,getElem!_pos E i hi']at this;simpa using this
theorem Qd4 (eg:∀args w,(callFunc g args).run sV w=.ok (.enter g args) w)(hf:∀(x y:Ez) (W:O2),Calls sV g #[sT (zg x),sT (zg y)] W λe w'=>e=.returned (sS (ecf x y))/\∃q os',w'=grow (W.drewN q) os')
    {v:O3} {l:List Ez} (h:EzO base w v l) (hl:l.length<=1099511627776):
  QU sV 244 [v,.func (.func g) #[] #[]] w λ_ w'=>O6 (ob v) w w'/\∃l':List Ez,l'.Perm l/\l'.Pairwise (λx y=>ltOf ecf y x=false)/\EzO base w' v l':=by
 unfold QU;rcases h.2 with⟨rfl,h0⟩|⟨gb,cap,cur,rfl,hh,I,hm,ho,hq,hr⟩
 ·have hs:l=[]:=Ls h0;subst hs;have hc:=AnyF.slices_SortFunc_none Tryz.sortEd none 0 (.func (.func g) #[] #[]) w;change Calls sV 244 _ _ _ at hc;refine Calls.mono hc λe w' J=>?_;obtain⟨rfl,rfl⟩:=J;exact⟨O6.Y _ _,[],List.Perm.refl _,List.Pairwise.nil,h⟩
 have V:gb<w.heap.size:=(LO.1 I).1;have hH:HoldsK zg 3 w gb 0 l.toArray:=by
  intro j E;rw[size_flatK,LY]at E;have Y:=Qgp E;rw[<-hr,LZ,OV E]at Y;constructor
  ·show(match w.heap[gb]? with|some (.cells c _ _)=>if(none:Option _).isSome then none else c[0+j]?|_=>none)=_
   rw[I];simp only[oX,Option.isSome_none,Ol,if_false];rw[<-MR,Y];rfl
  show(match w.heap[gb]? with|some (.cells _ _ (lo,hi))=>decide (lo<=0+j) && decide (0+j<hi)|_=>false)=false
  rw[I];simp
 have hc:=AnyQ.slices_SortFunc Tryz.sortEd 3 isAgg179 sizeOf179 zg Qbu (λx v hv=>by simp at hv;rcases hv with rfl|rfl|rfl <;> rfl) ecf QpM g #[] gb 0 cap l.toArray w eg (λm os dk _ x y=>hf x y _) hH V (by simp;omega)
 change Calls sV 244 _ _ _ at hc;rw[LY]at hc;refine Calls.mono hc λe w' J=>?_;obtain⟨rfl,G,n,os,hp,hu,rfl⟩:=J;have T:G.size=l.length:=by have:=hp.1;simpa using this
 have ha:=Qmo (d:=l.toArray) (by rw[LY];exact hp) (by rw[LY];exact hu);have U:(sortWorldK zg 3 w gb 0 n G os).heap=w.heap.modify gb (onCells (putCells id 0 (flatK zg 3 G)))++os:=rfl;refine⟨⟨rfl,O,O,?_,λk hk hn=>?_⟩,G.toList,ha.1,ha.2,?_⟩
 ·rw[U,NA,MJ];omega
 ·rw[U,MG,MJ,OV hk,MZ,OU (λe=>hn (by simp[ob,e]))]
 refine⟨QeF _,.inr ⟨gb,cap,putCells id 0 (flatK zg 3 G) cur,by simp[T],hh,?_,by simp[T];exact hm,ho,by simp[putCells,hq],?_⟩⟩
 ·rw[U,MG,MJ,OV V,MZ,OV rfl,I];rfl
 apply Nr;intro j;rw[LZ];by_cases E:j<G.toList.length*3
 ·rw[OV E,Qgp E,MR];have hw:j<cur.size:=by simp[T]at E;omega
  have hy:j<(flatK zg 3 G).size:=by simpa using E
  simp only[putCells,Array.getElem?_mapIdx,Array.getElem?_eq_getElem hw,OD,Nat.zero_le,oX,true_and,OV hy,ON,id]
 rw[OU E,Mv];rw[QeF];omega
theorem Qkt:∀l:List Ez,(l.map (·.1)).flatMap Qp=l.flatMap zg
 | []=>rfl
 | x::l=>by rw[LS,LM,LM,Qkt l];rfl
theorem Qgo:∀l:List Ed,(∀e∈l,(0<=e.1/\e.1<1099511627776)/\0<=e.2.1/\e.2.1<1099511627776)->∃zs:List Ez,zs.map (·.1)=l
 | [],_=>⟨[],O⟩
 | e::l,h=>by
  obtain⟨zs,E⟩:=Qgo l (λd hd=>h d (Lj _ hd));exact⟨⟨e,h e Lh⟩::zs,by rw[LS,E]⟩
abbrev Qdb (x y:Ed):Prop:=x.1<y.1\/x.1=y.1/\x.2.1<=y.2.1
theorem jP (eg:∀args w,(callFunc g args).run sV w=.ok (.enter g args) w)(E:∀(x y:Ez) (W:O2),Calls sV g #[sT (zg x),sT (zg y)] W λe w'=>e=.returned (sS (ecf x y))/\∃q os',w'=grow (W.drewN q) os')
    {v:O3} {l:List Ed} (h:w.ownsRow base 179 3 v l.length (l.flatMap Qp)) (hl:l.length<=1099511627776) (hb:∀e∈l,(0<=e.1/\e.1<1099511627776)/\0<=e.2.1/\e.2.1<1099511627776):
  QU sV 244 [v,.func (.func g) #[] #[]] w λ_ w'=>O6 (ob v) w w'/\∃l':List Ed,l'.Perm l/\l'.Pairwise Qdb/\w'.ownsRow base 179 3 v l'.length (l'.flatMap Qp):=by
 obtain⟨zs,rfl⟩:=Qgo l hb;rw[Ln]at hl;rw[Ln,Qkt]at h;refine(Qd4 eg E h hl).S λ_ _ ⟨G,l',I,J,T⟩=>⟨G,l'.map (·.1),I.map _,?_,by rw[Ln,Qkt];exact T⟩;rw[L9];refine J.imp λ{x y} U=>?_;have:=(Qby y x).1 U;exact this
theorem QaL {v:O3}{l:List Ed}(h:w.ownsRow base 179 3 v l.length (l.flatMap Qp))(hl:l.length<=1099511627776)(hb:∀e∈l,(0<=e.1/\e.1<1099511627776)/\0<=e.2.1/\e.2.1<1099511627776):
  QU sV 283 [v] w λ_ w'=>O6 (ob v) w w'/\∃l':List Ed,l'.Perm l/\l'.Pairwise Qdb/\w'.ownsRow base 179 3 v l'.length (l'.flatMap Qp):=by
 refine Zm func283 ?_;refine Qr<|Qa<|Qw<|(jP (enters_of func310 oc O) QrA h hl hb).S ?_;rintro G I E;refine xe ?_;exact⟨[],Z,E⟩
theorem Qg1 {v:O3}{l:List Ed}(h:w.ownsRow base 179 3 v l.length (l.flatMap Qp))(hl:l.length<=1099511627776)(hb:∀e∈l,(0<=e.1/\e.1<1099511627776)/\0<=e.2.1/\e.2.1<1099511627776):
  QU sV 244 [v,.func (.func 245) #[] #[]] w λ_ w'=>O6 (ob v) w w'/\∃l':List Ed,l'.Perm l/\l'.Pairwise Qdb/\w'.ownsRow base 179 3 v l'.length (l'.flatMap Qp):=
 jP (enters_of func245 oc O) QrB h hl hb
def cmF (c:ZS)(l:List (LI)):LI:=l.zipIdx.filterMap λp=>if(Uh c.ex c.cs p.1).2.2=true then some (p.2:Int) else none
theorem QkY {c:ZS}{l:List (LI)}{k:Nat}(h:k<l.length):cmF c (l.take (k+1))=cmF c (l.take k)++(if(Uh c.ex c.cs (l[k]'h)).2.2=true then[(k:Int)]else[]):=by
 unfold cmF;rw[Ll h,List.zipIdx_append,List.filterMap_append];have e:0+(l.take k).length=k:=by rw[LC];omega
 rw[e];simp only[List.zipIdx_cons,List.zipIdx_nil,List.filterMap_cons,List.filterMap_nil];by_cases E:(Uh c.ex c.cs (l[k]'h)).2.2=true
 ·rw[OV E,OV E]
 rw[OU E,OU E]
theorem QnI (c:ZS)(l:List (LI)):(cmF c l).length<=l.length:=by
 unfold cmF;refine Lz (List.length_filterMap_le _ _) ?_;rw[List.length_zipIdx];exact Lp _
def QgA (c:ZS):Bool:=match xp (O8 c.co),xp (O8 c.co++O8 c.rq) with
 | some (pa,ps),some (_,ts)=>ts.all λt=>decide ((wrf c.rq (t.drop c.co.length) (enb pa (plx ps (t.take c.co.length)))).length<=1)
 | _,_=>false
def cmB (c:ZS):LI:=match xp (O8 c.co++O8 c.rq) with
 | some (sa,ts)=>cmF c (ts.map (·.take c.co.length))++[sa.st]
 | none=>[]
structure CmI (b2 base:Nat)(W:O2)(xa:O3)(st:Int)(xm vb ve:O3)(bad:LI)(es:List Ed):Prop where
 B:QK ↑W b2 53 [xa,sS st,xm,ve]
 b:Qh 3 base W vb bad
 e:W.ownsRow base 179 3 ve es.length (es.flatMap Qp)
 dj:Dj vb ve
 bd:∀e∈es,(0<=e.1/\e.1<1099511627776)/\0<=e.2.1/\e.2.1<1099511627776
theorem CmI.I {G base:Nat}{W W':O2}{xa:O3}{st:Int}{xm vb ve:O3}{bad:LI}{es:List Ed}(h:CmI G base W xa st xm vb ve bad es)(E:sW W W'):CmI G base W' xa st xm vb ve bad es :=
 ⟨h.B.I E,Qm h.b E,Qm h.e E,h.dj,h.bd⟩
theorem CmI.addB {W:O2}{xa:O3}{st:Int}{xm G:O3}{bad bad':LI}(h:CmI E base W xa st xm vb ve bad es)(hb:E<base)(I:O6 (ob vb) W W')(U:Qh 3 base W' G bad')(V:∀b∈ob G,b∈ob vb\/↑W<=b):CmI E base W' xa st xm G ve bad' es :=
 ⟨h.B.J I (QJ h.b hb),U,Qg h.e I (λb hb Y=>h.dj b Y hb),λb ha J=>(V b ha).elim (λT=>h.dj b T J) (λT=>oo (QV h.e b J)),h.bd⟩
theorem CmI.addE {W W1:O2}{xa:O3}{st:Int}{xm I:O3}{bad:LI}{e:Ed}(h:CmI E base W xa st xm vb ve bad es)(hb:E<base)(hs:O6 (ob ve) W W1)(T:W1.ownsRow base 179 3 I (es.length+1) (es.flatMap Qp++Qp e))(hn:∀b∈ob I,b∈ob ve\/↑W<=b)
  (U:O6 [E] W1 W') (hB:QK ↑W' E 53 [xa,sS st,xm,I]) (he:(0<=e.1/\e.1<1099511627776)/\0<=e.2.1/\e.2.1<1099511627776):CmI E base W' xa st xm vb I bad (es++[e]):=by
 refine⟨hB,Qg (Qg h.b hs (λb hb G=>h.dj b hb G)) U (λb J G=>by have:=(Qi h.b b J).1;rw[Lb.1 G]at this;omega),?_,λb V ha=>(hn b ha).elim (λY=>h.dj b V Y) (λY=>oo (QV h.b b V)),λd hd=>?_⟩
 ·have h9:=Qg T U (λb J G=>by have:=((Qi T) b J).1;rw[Lb.1 G]at this;omega);rw[Lc,LF];simpa using h9
 rcases Le.1 hd with hd|hd
 ·exact h.bd d hd
 rw[Lb.1 hd];exact he
theorem CmI.stb {xa:O3}{st:Int}{xm:O3}{bad:LI}:Ye B (λW=>CmI G base W xa st xm vb ve bad es):=
 λW W' X h E hX=>⟨Ye.blk W W' X h.B E hX,Ye.row W W' X h.b E hX,Ye.row W W' X h.e E hX,h.dj,h.bd⟩
theorem QdH (h0:Ya [] ↑w c)(kq:Kb w 4096)(kr:YQ c.C=0)(hf:(spc c.C).a.st<4096)(h1:QgA c.C=true):
  QU sV 183 [c.val] w λr w'=>sW w w'/\∃xa xm xe vb,r=.tuple #[.agg #[xa,sS ((spc c.C).a.st+1),xm,xe],vb,sS 0]/\ZL [xa,xm,xe]/\Qh 3 ↑w w' vb (cmB c.C):=by
 refine QU.of_G 20 func183 O ntmps183 results183 od ?_;refine QQ<|Qx oh oh<|Zf c.cells λb1 w1 pg hb1 kt=>QT ze λE w2 ku hb2 kv=>x Qe<|Qb ?_;have hO:=pg.D ku;have hl1:=kt.lt;have ph:=kv.lt;have pn:=kt.I ku;have kw:Ya [E] ↑w2 c:=(h0.up (L':=[E]) (λb hb=>.inr (by rw[Lb.1 hb];omega))).I hO;refine QQ<|Qx oh oh<|Q3 pn O O<|Qw<|(Qdr (h0.I hO) (kq.I hO)).S ?_;rintro r3 w3 ⟨gn,vp,rfl,_,po⟩;obtain⟨b,q,rfl,rfl,T,_,pp⟩:=po kr;rw[kr];have hz:=hO.D gn;have kx:JR [E] b ↑w3 q:=(pp [E] (λx hx=>by rw[Lb.1 hx];exact ph)).2 kw;have hsp:=QaK T.p T.s;have hst':q.s.a.st<4096:=by rw[hsp]at hf;exact hf
 have pt:cmB q.c.C=cmF q.c.C ((q.ts.map (·.2)).map (·.take q.c.C.co.length))++[q.s.a.st]:=by unfold cmB;rw[T.s]
 have pu:∀t∈q.ts.map (·.2),(wrf q.c.C.rq (t.drop q.c.C.co.length) (enb q.p.a (plx (q.qs.map (·.2)) (t.take q.c.C.co.length)))).length<=1:=λt ht=>by
  unfold QgA at h1;rw[T.p,T.s]at h1;exact OZ (Mh.1 h1 t ht)
 have pw:(spc q.c.C).a.st=q.s.a.st:=by rw[hsp]
 rw[pw,pt];refine Qa<|QO O O<|QO O O<|x Qe<|Qb<|QQ<|QQ<|Qx oh oh<|Qa<|ZN O O<|xe<|J5 rfl<|Yb ?_;refine QQ<|Qx oh oh<|Qa<|Z7 O<|Q9 O<|Qs O kx.B O O<|QT [sS 0] λb6 w4 pz p0 p4=>Qo<|Qv (j:=0) (u:=sS q.s.a.st) p4 O O od rfl λG p5 kz=>xe ?_;have hP:sW w3 G:=pz.Q p5 p0;have hq:=kx.I hP;have hz3:=gn.size;have k0:=kz.lt;have p6:QK ↑G E 53 ze:=(kv.I gn).I hP;have hR:QK ↑G b6 3 [sS q.s.a.st]:=kz;have hst0:0<=q.s.a.st:=by
  have:=(Yz (λa Y=>by
   rcases Le.1 Y with Y|Y
   ·exact YX (YT T.ok).co a Y
   exact YX (YT T.ok).rq a Y) T.s).1.st
  omega
 refine QQ<|QQ<|Qx oh oh<|ZD hR O O<|x (Yf O O)<|xe<|Qn2 O (λk4=>OX (show q.s.a.st≥4096 from k4) oa) (λk4=>?_);refine Yb ?_;have gq:sW G { G with drawn:=G.drawn+1 }:=O6.X _ _
 refine QQ<|Ub (sW G) [oz 0,oz 1,oz 2,oz 3,oz 4,oz 6,oz 7,oz 8,oz 9,oz 10,oz 11,oz 12,oz 14,oz 15,oz 16,oz 17,oz 18,oA 5,oA 13,oA 19,oz 20,oA 21] mixed oh oh oc gq ?_;refine p Qy<|p (YN O)<|p (QH O)<|p (QH O)<|pq (λ_ hc=>Qk (hq.B.I hc) O O)<|pq (λ_ hc=>Qk (hR.I hc) O O)<|p (λ_=>Xt O O ⟨oa,oa⟩)<|p Qy<|p (YN O)<|p (QH O)<|p (QH O) <|
  pq (λ_ hc=>Qk (hq.B.I hc) O O)<|p Qy<|p (YN O)<|p (QH O)<|p (QH O)<|pq (λ_ hc=>Qk (hq.B.I hc) O O)<|pk<|xg<|(Z0 (hq.s.al.I gq)).S ?_
 rintro xa w6 ⟨p7,gr⟩;have gs:=gq.D p7;refine⟨gs,?_⟩;refine pk<|xg<|(Z0 (hq.s.mr.I gs)).S ?_;rintro xm w7 ⟨p8,gt⟩;have hS:=gs.D p8;refine⟨hS,?_⟩;refine pk<|xg<|(yT (hq.s.ed.I hS)).S ?_;rintro hT w8 ⟨p9,hU⟩;have gu:=hS.D p9;refine⟨gu,?_⟩;refine p (λ_=>QD ⟨xN gr,O,xN gt,xN hU,Z⟩)<|pkk<|qo [xa,sS (q.s.a.st+1),xm,hT] (p6.I gu) ⟨QA gr,O,QA gt,QA hU,Z⟩ λw9 k5 qf=>pe ?_;have k6:O6 [E] G w9:=gu.any.V k5;have hz7:=hS.size;have hA:E<G.heap.size:=oa
 have k9:=hq.st k6;have hX:ZL [xa,xm]:=⟨QA gr,QA gt,Z⟩;have qj:w9.ownsRow ↑G 179 3 hT q.s.a.ed.length (q.s.a.ed.flatMap Qp):=Qg (Za hU oa) k5 (λb hb I=>by have:=(Qi hU b hb).1;rw[Lb.1 I]at this;omega);have hok:=YT T.ok;have hB:∀a∈O8 q.c.C.co++O8 q.c.C.rq,QS a:=λa Y=>by
  rcases Le.1 Y with Y|Y
  ·exact YX hok.co a Y
  exact YX hok.rq a Y
 have gv:=(Yz hB T.s).1.okay hB;have ql:∀e∈q.s.a.ed,(0<=e.1/\e.1<1099511627776)/\0<=e.2.1/\e.2.1<1099511627776:=λe he=>by
  have h1:=gv.ed e he;have h2:=gv.al _ h1.2.2.1;omega
 have q4:CmI E ↑G w9 xa (q.s.a.st+1) xm Zq hT [] q.s.a.ed:=⟨qf,QL _ _ _ _,qj,λb hb=>(by cases hb),ql⟩;have ma:=zq hB T.s;have mc:=ma.1;have q5:=ma.2;simp only[]at mc q5;have hckc:=hok.c8;have hY:q.c.C.co.length=q.c.co.length:=Ln ..;have j1:q.c.C.rq.length=q.c.rq.length:=Ln ..;have hcr:=hok.cr;have j2:(O8 q.c.C.co++O8 q.c.C.rq).length=q.c.co.length+q.c.rq.length:=by rw[Lc];unfold O8;rw[Ln,Ln,hY,j1]
 refine QQ<|QQ<|Qx oh oh<|Qa<|Z7 O<|Qs O k9.B O O<|QG k9.ts.arr O<|Qa<|xe<|Zd ((q.ts.map (·.2)).map (·.take q.c.C.co.length)) λtcs gx=>?_;rw[gx];have htcl:tcs.length=q.ts.length:=by rw[<-gx,Ln,Ln]
 have hTn:q.ts.length<=4096:=by have h2:=(Yz hB T.s).1.st;have h3:(q.ts.map (·.2)).length=q.ts.length:=Ln ..;omega
 refine ZM<|KL (α:=Nat×O3×O3×List Ed) [(3,3),(7,16),(60,109)] (λz=>[(3,z.2.1),(60,sS z.1)])
  (λz ds W'=>z.1<=q.ts.length/\O6 [E] G W'/\KN ↑G ↑W' ds W'/\CmI E ↑G W' xa (q.s.a.st+1) xm z.2.1 z.2.2.1 (cmF q.c.C (tcs.take z.1)) z.2.2.2/\z.2.2.2.length<=131072+z.1)
  (λz=>q.ts.length - z.1) oh (0,Zq,hT,q.s.a.ed) ov ⟨Lo _,k6,⟨Mx,λD hD=>by cases hD⟩,q4,gv.ed_le⟩ ?_
 rintro⟨k,vb,ve,es⟩ g ds h4 ⟨hk,hC,mf,J,j3⟩;simp only[]at hk J j3;have hz10:=hC.size;have hZ:=QnI q.c.C (tcs.take k);rw[LC]at hZ;refine QQ<|Qx oh oh<|ZW O O<|xe<|QQ<|U3 O (λmg=>?_) (λmg=>?_)
 ·refine JL ?_;rw[Lr oa]at J hZ;refine Zd (cmF q.c.C tcs) λbad ga=>?_;rw[ga]at J hZ;have gy:E∉ob ve:=QJ J.e hA;have j4:E∉ob vb:=QJ J.b hA;have gb:b6∉[E]:=ol
  have za:b6∉ob ve:=QJ J.e k0;have z0:b6∉ob vb:=QJ J.b k0;refine QQ<|Qx oh oh<|Qs O J.B O O<|Qw<|(Qg1 J.e oa J.bd).S ?_;rintro r11 h5 ⟨hr,hj,hp,_,ho11⟩;refine xe ?_;have gc:=J.B.J hr gy;have gz:=(hR.J hC gb).J hr za;have g0:=Qg J.b hr (λb hb I=>J.dj b hb I);have hz11:=hr.size;have hv:=Qi J.e;have hE:=Qi g0;have z1:KN ↑G ↑h4 ds h5:=mf.J hr (Go.Lg.Q7 J.e);refine QQ<|Ub (λw'=>O6 (E::ob vb) h5 w'/\QK ↑w' E 53 [xa,sS (q.s.a.st+1),xm,ve]/\QK ↑w' b6 3 [sS q.s.a.st]) [oz 0,oz 1,oz 2,oA 3,oA 4,oA 5,oz 6,oz 7] mixed oh oh oc ⟨O6.X _ _,gc.I (O6.X _ _),gz.I (O6.X _ _)⟩ ?_;refine pq (λ_ hc=>Zi hc.2.1 O O)<|p Qy<|pq (λ_ hc=>Qk hc.2.2 O O)<|pk<|Q8 [[sS q.s.a.st]] λb116 g4 g5 hb116 z2=>?_;have h6:=(O6.X [] h5).D g5;have hz12:=h6.size;refine⟨⟨h6.any,gc.I h6,gz.I h6⟩,?_⟩;refine pk<|Q2 (m:=1) (news:=[sS q.s.a.st]) (L:=[]) (Qm g0 h6) O O O (z2.at od) om oa oa λmh hG mj ge hn13=>?_;have gg:O6 (ob vb) h5 hG:=h6.any.V ge;have mo:=gc.J gg j4;have mq:=gz.J gg z0;refine⟨⟨gg.S (λb hb=>Lj _ hb),mo,mq⟩,?_⟩;refine pk<|qo [xa,sS (q.s.a.st+1),xm,ve] mo ⟨hX.1,O,hX.2.1,QA J.e,Z⟩ λhg U ms=>?_;have g6:O6 (E::ob vb) h5 hg:=(gg.S (λb hb=>Lj _ hb)).V (U.S od);refine⟨⟨g6,ms,mq.J U gb⟩,?_⟩;refine p ZI<|p ZI<|pe ?_;have hw:KN ↑G ↑h4 ds hg:=z1.J g6 (λb hb=>by
   rcases Lk.1 hb with rfl|hb
   ·exact gc.cells
   exact Go.Lg.Q7 g0 b hb)
  have z3:E∉ds:=λI=>oo (hw.2 E I).1
  have hH:sW w hg:=(((hz.D hP).Q hC oa).O hr (λb hb=>.inr (oq (hv b hb).1 hz.size))).O g6 (λb hb=>.inr (by
   rcases Lk.1 hb with rfl|hb
   ·omega
   have:=(hE b hb).1;have:=hz.size;omega))
  refine J4 ⟨λD hD=>(hw.2 D hD).2.2,hw.1,[.agg #[xa,sS (q.s.a.st+1),xm,ve],mh,sS 0],λW' g7=>?_⟩;refine⟨⟨JN (ms.J g7 z3),O,O,Z⟩,hH.O g7 (λD hD=>.inr (oq (hw.2 D hD).1 hz.size)),xa,xm,ve,mh,O,⟨hX.1,hX.2.1,QA J.e,Z⟩,?_⟩;have h9:=Qh.snoc (Qg mj U (λb hb I=>by have:=(Qi mj b hb).1;rw[Lb.1 I]at this;omega));have mt:=Qg h9 g7 (λb hb I=>by
   obtain⟨o,g1,g2⟩:=Go.Lg.Q7 h9 b hb;rw[(hw.2 b I).2.2]at g1;cases g1
   cases g2)
  rw[<-ga]at mt;exact Za mt (oo hz.size)
 have hI:k<q.ts.length:=by have h62:(k:Int)<(q.ts.length:Int):=mg;omega
 have mu:k<tcs.length:=oa
 have hh:=QkY (c:=q.c.C) mu;have z4:tcs[k]'mu=(q.ts[k]'hI).2.take q.c.C.co.length:=by subst gx;simp
 have gh:=Lm hI;have hJ:=mc _ (LL (f:=(·.2)) gh);have hy:=pu _ (LL (f:=(·.2)) gh);rw[z4]at hh;refine Zd (cmF q.c.C (tcs.take k)) λbad ga=>?_;rw[ga]at J hZ hh;refine Zd (ob vb++ob ve) λav g8=>?_;have hE:=Qi J.b;have hv:=Qi J.e;have z5:∀x∈av,↑G<=x/\x<h4.heap.size:=λx hx=>by
  rw[<-g8]at hx;exact(Le.1 hx).elim (hE x) (hv x)
 have hAv:JR (E::av) b ↑G q:=hq.up (λx hx=>by
  rcases Lk.1 hx with rfl|hx
  ·exact .inl Lh
  exact .inr (z5 x hx).1)
 have gi:JR (E::av) b ↑h4 q:=hAv.st (hC.S od);refine Zd (cmF q.c.C (tcs.take (k+1))) λg9 mv=>?_;rw[mv]at hh;refine Yb<|QgT (α:=O3×O3×List Ed) [(3,3),(7,16),(61,109)] (λz=>[(3,z.1),(60,sS k)]) (λz h7 W'=>O6 [E] G W'/\KN ↑G ↑W' h7 W'/\CmI E ↑G W' xa (q.s.a.st+1) xm z.1 z.2.1 g9 z.2.2/\z.2.2.length<=131072+(k+1)) oh ?_ ?_
 rotate_left
 ·rintro⟨gj,hs,hj⟩ g h7 W ⟨hsW,hDW,hIW,hlW⟩;refine Qx oh oh<|QB O O<|Qa<|xe ?_;exact⟨(k+1,gj,hs,hj),oe,ov,hI,hsW,hDW,by simp only[];rw[mv];exact hIW,hlW⟩
 refine ZM<|QQ<|Qx oh oh<|Qa<|O9 (g:=YK) KB gi.ts.arr O O hI λa63 mw=>?_;refine Zd (q.ts[k]'hI) λt ht=>?_;rw[ht]at mw gh hJ hy hh;have htl:t.2.length=q.c.co.length+q.c.rq.length:=by rw[hJ.1,j2]
 refine x (Qq mw O)<|QT [sS 0] λb7 h5 hr hb7 hB7=>Qo<|Qv (j:=0) (u:=sS k) hB7 O O od rfl λg4 g5 hB712=>Qb ?_;have ka:sW h4 g4:=hr.Q g5 hb7;have hB712':QK ↑g4 b7 3 [sS k]:=hB712;refine QQ<|Qx oh oh<|Qa<|Qa<|Qw<|(Qce (gi.I ka) ((gi.ts.each t gh).I ka) oa).S ?_;rintro r13 hG ⟨ge,v9,my,rfl,kb,mz⟩;refine Qa<|QO O O<|QO O O<|x Qe<|Qb ?_;have hK:=ka.D ge;have m0:=gi.I hK;rw[hY]at hy hh;refine Zd (t.2.take q.c.co.length) λtc gk=>?_;refine Zd (t.2.drop q.c.co.length) λtr m1=>?_;rw[gk]at kb hy hh;rw[m1]at mz hy;have htcl2:tc.length=q.c.co.length:=by rw[<-gk,LC];omega
 have m2:∀x∈tc,0<=x/\x<4096:=λx hx=>(hJ.bd (m:=4096) (λa Y=>(hB a Y).st1)) x (L2 (by rw[gk];exact hx));have hVc:Vt (O8 q.c.C.co) tc:=by
  have h1:=hJ.take;rw[show(O8 q.c.C.co).length=q.c.co.length by unfold O8;rw[Ln];exact hY,gk]at h1;exact h1
 have hVr:Vt (O8 q.c.C.rq) tr:=by
  have h1:=hJ.drop;rw[show(O8 q.c.C.co).length=q.c.co.length by unfold O8;rw[Ln];exact hY,m1]at h1;exact h1
 have gl:JR [] b ↑hG q:=m0.up od;have hvo:=qW gl.k1 gl.k2 gl.k3 (kb.up (L':=[]) od) (by rw[T.ex,T.cs];exact hok.cd) hVc.tpOk;rw[T.ex,T.cs]at hvo;refine Zd (Uh q.c.C.ex q.c.C.cs tc) λV hV=>?_;rw[hV]at hvo hh;have kc:=J.I hK;have hz13:=hK.size;have m3:=hB712'.I ge;refine QgT (α:=O3) [(3,3),(11,14),(71,86)] (λz=>[(3,z)]) (λz h7 W=>h7=ds/\O6 (ob vb) hG W/\Qh 3 ↑G W z g9/\∀x∈ob z,x∈ob vb\/↑hG<=x) oh ?_ ?_
 ·refine QQ<|Qx oh oh<|Qa<|Z7 O<|Q9 O<|x (ZR (us:=[q.vs,q.vx,q.vk]) gl.B O O O)<|Qa<|Qw<|hvo.S ?_;rintro r14 hg ⟨U,rfl⟩;refine Qa<|QO O O<|QO O O<|QO O O<|QO O O<|x Qe<|x Qe<|x Qe<|Qb<|QQ<|Qx oh oh<|Qa<|xe ?_;have m4:=Qm kc.b U;refine KM O (λke=>?_) (λke=>?_)
  ·rw[OV ke]at hh;refine Qx oh oh<|Qa<|ZD (m3.I U) O O<|Qo<|Q8 [[sS k]] λb85 y1 hn hb85 hB85=>?_;have zy1:=hn.size;have hz14:=U.size;refine Qo<|Q2 (m:=1) (news:=[sS k]) (L:=[]) (Qm m4 hn) O O O (hB85.at od) om oa oa λz y2 gm hL kf=>Qb<|⟨z,⟨rfl,Z⟩,rfl,(U.D hn).any.V hL,by rw[hh];exact Qh.snoc gm,λx hx=>(kf x hx).imp id (λh=>oa)⟩
  rw[OU (by rw[ke];decide),LH]at hh;refine Yb ?_;exact⟨vb,La,O,U.any,by rw[hh];exact m4,λx hx=>.inl hx⟩
 rintro gj g h7 hg ⟨rfl,U,hbO,hbn⟩;have hI14:=kc.addB hA U hbO hbn;have hz14:=U.size;have kg:∀x∈ob vb,x∈E::av:=λx hx=>Lj _ (by rw[<-g8];exact Le.2 (.inl hx));have m5:∀x∈E::ob ve,x∈E::av:=λx hx=>by
  rcases Lk.1 hx with rfl|hx
  ·exact Lh
  exact Lj _ (by rw[<-g8];exact Le.2 (.inr hx))
 have kh:=m0.st (U.S kg);have hI9a:=kb.st (U.S kg);have m6:=mz.st (U.S kg);have hH:O6 [E] G hg:=(hC.D hK.any).O U (λx hx=>.inr (hE x hx).1);have hs014:sW w hg:=(hz.D hP).Q hH oa;have hn7b:b7∉ob vb:=λI=>oo (hE b7 I).2
 have gb:b6∉[E]:=ol
 have hw:KN ↑G ↑h4 h7 hg:=(mf.I hK).J U (Go.Lg.Q7 kc.b);refine QQ<|Ub (sW hg) [oz 0,oz 1,oz 2,oz 3,oz 4,oA 5,oz 6,oz 7] mixed oh oh oc (O6.X _ _) ?_;refine p Qy<|p (YN O)<|p (QH O)<|pq (λ_ hc=>Qk (kh.B.I hc) O O)<|p Qy<|pk<|xg<|(QbJ (hI9a.I (O6.X _ _)) ((kq.I hs014).I (O6.X _ _)) m2 oa).S ?_;rintro r15 w15 ⟨rfl,hs15⟩;have ki:=(O6.X [] hg).D hs15;refine⟨ki,?_⟩;have m7:(match xh q.mm (KU tc) with|some u=>u|none=>sS 0)=sS (plx (q.qs.map (·.2)) tc):=by
  rw[T.m tc htcl2 (λx hx=>(m2 x hx).1)];unfold plx;by_cases I:tc∈q.qs.map (·.2)
  ·rw[OV I,OV I]
  rw[OU I,OU I]
 have hM:=Qcy T.ok T.p;have m8:=Qi5 hM.2.2.1 tc;refine Zd (plx (q.qs.map (·.2)) tc) λpi hpi=>?_;rw[hpi]at m7 hy m8;rw[<-hM.2.1]at m8;have hckp:cks q.p.a pi=0:=by
  unfold cks;rw[OU (by rw[(Zz q.p.a).2 hM.1];decide),OU oa]
 refine pq (λ_ hc=>(Jr (k:=KU tc) (kh.m.I hc) O O).D (OW (λv=>Result.ok (Next.value v) _) m7))<|p ZI<|pe ?_;refine QQ<|Qx oh oh<|Qa<|Qa<|Qa<|Qw<|(qN (b:=b) (st:=pi) (vr:=my) m6.cells).S ?_;rintro r16 h8 ⟨hs16,c1,c2,c3,rfl,hc1,kw,hc3,hR1,hR2,hR3⟩;refine xe ?_;have hu:=ki.D hs16;have hz1415:=ki.size;have hz16:=hu.size;have kj:=hI14.I hu;have hD16:=hw.I hu;have hB716:=(m3.J U hn7b).I hu;have hB616:=(hR.J hH gb).I hu;have hs516:O6 [E] G h8:=hH.D hu.any;refine Zd (wrf q.c.C.rq tr (enb q.p.a pi)) λfl kk=>?_;rw[kk]at hy;have kn:∀x∈E::ob ve,x<hg.heap.size:=λx hx=>by
  rcases Lk.1 hx with rfl|hx
  ·omega
  have:=(hv x hx).2;omega
 have hSt16:JR (E::ob ve) b ↑h8 q:=(kh.I hu).up (λx hx=>.inl (m5 x hx));have hIr16:Qu (E::ob ve) ↑h8 my tr:=(m6.I hu).up (λx hx=>.inl (m5 x hx));have hEv:∀p∈fl,0<=p.1/\p.1<32:=λp hp=>by
  rw[<-kk]at hp;have g1:=(zp.1 hp).1;unfold enb at g1;obtain⟨e,he,g2⟩:=Lx.1 g1;have g3:=hM.1.al _ (hM.1.ed e (Zt he).1).2.2.1;rw[g2]at g3;exact g3
 have hn7L:b7∉E::ob ve:=λI=>by
  rcases Lk.1 I with g1|g1
  ·omega
  have:=(hv b7 g1).2;omega
 have hn6L:b6∉E::ob ve:=λI=>by
  rcases Lk.1 I with g1|g1
  ·omega
  have:=(hv b6 g1).1;omega
 have gy:E∉ob ve:=QJ J.e hA;have hb016:G.heap.size<=h8.heap.size:=oa
 have hel2:es.length+1<=1099511627776:=oa
 have hkb2:(0:Int)<=(k:Int)/\(k:Int)<1099511627776:=oa
 refine ZM<|QdF (α:={ x:Int×Int // x∈fl }) (E::ob ve) oa (capt:=[sP c1,sP c2,sP c3]) O (encs:=λx=>[sS x.1.1,sS x.1.2]) og (λ_=>O)
  (Uq hR1 hR2 hR3 (λI=>oo (kn _ I)) (λI=>oo (kn _ I)) (λx hx=>oo (kn _ hx)) hSt16 hIr16 (λx hx=>hok.rq x.it (LL hx)) hVr hckp O kk)
  (λpre W=>∃hs hj,O6 (E::ob ve) h8 W/\CmI E ↑G W xa (q.s.a.st+1) xm gj hs g9 hj/\(pre=[]->hs=ve/\hj=es)/\hj.length<=es.length+pre.length)
  (λpre=>Ye.ex λhs=>Ye.ex λhj=>(Ye.J (Lp _)).and (CmI.stb.and ((Ye.pure _).and (Ye.pure _))))
  (λ_ _ _=>False) (λ_ _=>Ye.pure _)
  ⟨ve,es,O6.Y _ _,kj,λ_=>⟨O,O⟩,Lp _⟩
  (λf x f' W=>f'=upd (upd (upd f 98 (sS x.1.1)) 99 (sS x.1.2)) 16 (sS x.1.1)) (λx f'=>Ye.pure _) ?_ ?_ ?_ ?_
 ·rintro l pre ⟨⟨e,i⟩,he⟩ W hW;refine Qx oh oh<|Qb<|⟨O,X0.refl _ _ _,Lg.JS.refl _ _,hW,O⟩
 ·rintro l pre ⟨⟨e,i⟩,he⟩ f' W ⟨hs,hj,hf,ho,m9,hlen⟩ rfl hN;have pc:pre=[]:=Ls (Nat.lt_one_iff.1 (LU hN hy));rw[((m9 pc).1),((m9 pc).2)]at ho;have pd:=hf.size;have hee:=hEv _ he;refine ZM<|Qx oh oh<|Qs O ho.B O O<|ZD (hB716.J hf hn7L) O O<|Qa<|ZD (hB616.J hf hn6L) O O<|x (QD ⟨O,O,O,Z⟩)<|Qo<|Q8 [Qp ((k:Int),e,q.s.a.st)] λb106 y1 hn hb106 hB106=>?_;have zy1:=hn.size;refine Qo<|Q2 (m:=1) (news:=Qp ((k:Int),e,q.s.a.st)) (L:=[]) (Qm ho.e hn) O O O (hB106.at od) (by simp[Qp,Value.oneCell']) hel2 oa λu y2 gm hL kf=>?_;refine Q9 O<|Qo<|Qv (u:=u) ((ho.B.I hn).J hL gy) O O od (QA gm) λy3 pf hB3=>xe ?_;have ko:O6 (E::ob ve) W y3:=(hn.any.V (hL.S λx hx=>Lj _ hx)).V (pf.S od);have hnw:∀x∈ob u,x∈ob ve\/↑W<=x:=λx hx=>(kf x hx).imp id (λh=>oa);refine⟨X0.J ko pd (λx hx=>⟨.inl hx,?_⟩),Lg.JS.J ko,u,es++[((k:Int),e,q.s.a.st)],hf.V ko,ho.addE hA (hn.any.V hL) gm hnw pf hB3 ⟨hkb2,oe⟩,λh=>OX h od,by simp only[oM,oL];omega⟩;rcases Lk.1 hx with rfl|hx
  ·exact ho.B.cells
  exact Go.Lg.Q7 ho.e x hx
 ·rintro D xs W hD hxs ⟨hs,hj,hf,ho,_,hlen⟩ hdD;have hxl:xs.length=fl.length:=by have g1:=OW oV hxs;rw[Ln]at g1;exact g1
  have pd:=hf.size;refine⟨(gj,hs,hj),ov,hs516.O hf (λx hx=>?_),((hD16.J hf (λx hx=>?_)).up oa).cons oa (show ↑h8<=D from hD) hdD,ho,oe⟩
  ·rcases Lk.1 hx with rfl|hx
   ·exact .inl Lh
   exact .inr (hv x hx).1
  rcases Lk.1 hx with rfl|hx
  ·exact kj.B.cells
  exact Go.Lg.Q7 kj.e x hx
 rintro D e pre W hD hSp hF;exact hF.elim
instance ayZi1:Ay sV 29 3 28 27:=⟨oc,oc⟩
theorem QfV (p:Int×Int):∀u∈Zh p,u.oneCell'=true:=by
 intro y E;simp only[Zh,oK,oH,or_false]at E;rcases E with rfl|rfl <;> rfl
instance ayAv1:Ay sV 23 5 5 1:=⟨underlying23,oc⟩
def nm1 (c k:Nat):ByteArray:=⟨#[UInt8.ofNat (c+k)]⟩
def KH (k n:Nat):VE:=if 48<=n/\n<52 then⟨nm1 97 k,false,false,false,(n:Int) - 47⟩else
 ⟨nm1 97 k,decide (((n &&& 1:Nat):Int)=1),decide (((n &&& 2:Nat):Int)=2),decide (((n &&& 4:Nat):Int)=4),0⟩
def JI (ns:LN)(i:Nat):List VE:=(oJ i).map λk=>KH k (ns.getD k 0)
theorem QeJ (ns:LN)(i:Nat):JI ns (i+1)=JI ns i++[KH i (ns.getD i 0)]:=by
 unfold JI;rw[Nh,Ly];rfl
theorem VA (ns:LN)(i:Nat):(JI ns i).length=i:=by unfold JI;simp
theorem QdG (hn:ns.length=5)(hb:∀n∈ns,n<256):
  QU sV 82 [sT (bys ns)] w λr w'=>sW w w'/\w'.ownsRow ↑w 94 5 r (JI ns 5).length ((JI ns 5).flatMap Zy):=by
 refine Zm func82 ?_;refine Qc<|Zf (bys ns) λb1 w1 ho hL hp=>Qb<|Qc<|Qb<|Qd<|Qc<|Qb<|QX (α:=Nat×O3) [(3,53)] (λz=>[(3,z.2),(4,sS z.1)]) (λz w'=>z.1<=5/\sW w1 w'/\w'.ownsRow ↑w1 94 5 z.2 (JI ns z.1).length ((JI ns z.1).flatMap Zy)) (λz=>5 - z.1) (0,Zq) ov
  ⟨Lo _,O6.Y _ _,QL _ _ _ _⟩ ?_
 rintro⟨k,v⟩ g w2 ⟨hk,V,J⟩;simp only[]at hk J;refine Qd<|Ql<|ZW O O<|xe<|Zp rfl (λh7=>?_) (λh7=>?_)
 ·refine Qt ?_;have hv:k=5:=by have h8:¬(k:Int)<5:=h7;omega
  rw[hv]at J;refine Ql<|Qb<|Qj ⟨[v],La,ho.D V,Za J ho.size⟩
 have E:k<5:=by have h8:(k:Int)<5:=h7;omega
 have q:=qG (ns:=ns) (j:=0+k*1) oa;have ql:=Jk hb (0+k*1);have hw:ns.getD (0+k*1) 0=ns.getD k 0:=by rw[show 0+k*1=k by omega]
 rw[hw]at q ql;have hq:=QeJ ns k;have hM:=VA ns k;refine Zd (ns.getD k 0) λn hy=>?_;rw[hy]at q ql hq;have h0:=hp.I V;refine Qf<|Qd<|Qn<|Ql<|x (Yc (k':=.u8) O ⟨oa,oa⟩)<|QB O O<|Qo<|Q8 [[.int .u8 ((97:Int)+(k:Int))]] λh1 w3 he hN h2=>?_;have h3:((97:Int)+(k:Int))=((97+k:Nat):Int):=oa
 have h4:QK ↑w3 h1 5 [.int .u8 ((97+k:Nat):Int)]:=by rw[<-h3];exact h2
 refine x (QoV (n:=97+k) h4 oa O)<|x (QD ⟨O,Z⟩)<|Qo<|YW (us:=[.string ⟨#[]⟩,.bool false,.bool false,.bool false,sS 0]) O λG w4 h5 hO h6=>Q5 (Zy ⟨nm1 97 k,false,false,false,0⟩) h6 ⟨O,O,O,O,O,Z⟩ λw5 h9 hr =>
  xe ?_
 have hf:sW w2 w5:=(he.D h5).Q h9 (oo he.size);have I:=h0.I hf;have hP:=hf.size;have hQ:=he.size;have hR:=hp.lt;have hS:=V.size;have hg:b1∉[G]:=ol
 refine QW (α:=Unit) [(16,49)] (λ_=>[]) (λ_ w'=>O6 [G] w5 w'/\QK ↑w' G 94 (Zy (KH k n))) oh ?_ ?_
 ·refine QW (α:=Bool) [(16,25)] (λz=>[(25,.bool z)]) (λz w'=>w'=w5/\(z=true↔48<=n/\n<52)) oh ?_ ?_
  ·refine Qr<|Qa<|x (ZV (i:=k) O O E)<|ZD I O q<|xb (Yf O O) (λhh=>?_) (λhh=>?_)
   ·have hs:(48:Int)<=(n:Int):=hh;refine Qa<|Qa<|x (ZV (i:=k) O O E)<|ZD I O q<|ZW O O<|QC O<|xe<|⟨decide ((n:Int)<52),La,O,?_⟩;rw[decide_eq_true_eq];omega
   have hs:¬(48:Int)<=(n:Int):=hh;refine Qa<|ZA<|Kd<|QC O<|xe ?_;exact⟨false,La,O,⟨λh=>(by cases h),λh=>OX oa hs⟩⟩
  rintro z g6 T ⟨rfl,hz⟩;refine Q6 O (λY=>?_) (λY=>?_)
  ·have hc:=hz.1 Y;refine Qr<|Qa<|x (ZV (i:=k) O O E)<|ZD I O q<|x (Yc (k':=.i64) O ⟨oa,oa⟩)<|x (JB O O ⟨oa,oa⟩)<|Q9 O<|Qo<|Qv hr O O od rfl λw7 U hj =>
    xe ?_
   refine⟨(),Z,U,?_⟩;unfold KH;rw[OV hc];exact hj
  have hc:¬(48<=n/\n<52):=λh=>by have:=hz.2 h;rw[this]at Y;cases Y
  have ha:sW T { T with drawn:=T.drawn+1 }:=O6.X _ _
  refine ZK [G] (Xj 0 21 [16,18,20])<|p Qy<|p (λ_=>ZV (i:=k) O O E)<|pq (λ_ hc=>Qk (I.J hc hg) O q)<|p (λ_=>qk (a:=n) (b:=1) O O ql og)<|p (λ_=>Zc O O) <|
   p Qy<|p (λ_=>ZV (i:=k) O O E)<|pq (λ_ hc=>Qk (I.J hc hg) O q)<|p (λ_=>qk (a:=n) (b:=2) O O ql og)<|p (λ_=>Zc O O) <|
   p Qy<|p (λ_=>ZV (i:=k) O O E)<|pq (λ_ hc=>Qk (I.J hc hg) O q)<|p (λ_=>qk (a:=n) (b:=4) O O ql og)<|p (λ_=>Zc O O)<|?_
  refine p (QH O)<|pk<|Qv (hr.I ha) O O od rfl λw7 U hj=>⟨(ha.any (L:=[G])).V U,?_⟩;refine p (QH O)<|pk<|Qv hj O O od rfl λw8 hu hA=>⟨((ha.any (L:=[G])).V U).V hu,?_⟩;refine p (QH O)<|pkk<|Qv hA O O od rfl λw9 hB hC=>pe ?_;refine⟨(),Z,(((ha.any (L:=[G])).V U).V hu).V hB,?_⟩;unfold KH;rw[OU hc];exact hC
 rintro _ g6 T ⟨hD,hE⟩;have hF:sW w2 T:=hf.Q hD oa;refine Qr<|Qa<|Q3 hE O O<|Qo<|Q8 [Zy (KH k n)] λhT hU hG hV hH=>?_;have hm:=hF.D hG;have hW:=hm.size;refine Qo<|Q2 (news:=Zy (KH k n)) (L:=[]) (Qm J hm) O O O (hH.at od) (Qc6 _) oa oa λhI hX hJ hK hY =>
  Qb<|Qr<|Qa<|QB O O<|Qb<|⟨(k+1,hI),oe,ov,E,(V.D hm).O hK (λc hc=>.inr (Qi J c hc).1),?_⟩
 simp only[];rw[hq,Lc,LF];simpa using hJ
def X4 (n m:Nat):LI:=(oJ n).map λk:Nat=>if k<m then(k:Int) else -1
theorem Qai {k:Nat}(h:k<m):ZZ (Yt m) (k:Int)=k:=by
 unfold ZZ Yt;simp[oN,h]
theorem Qrq {fd R:LI}{t:Int}(G:fd=out++R)(E:t∈out):zf fd t=(out.idxOf t:Nat):=by
 subst G;unfold zf;rw[OV (LG _ E),Ma,OV E]
theorem QpB {fd R:LI}{t:Int}(E:fd=out++[t]++R)(G:t∉out):zf fd t=(out.length:Nat):=by
 subst E;unfold zf;rw[OV od,LA,Ma,OU G];simp
theorem Qah {k:Nat}(h:k<n):ZZ (X4 n m) (k:Int)=if k<m then(k:Int) else -1:=by
 unfold ZZ X4;simp[oN,h]
theorem Qjz :(X4 n m).set m (m:Int)=X4 n (m+1):=by
 apply L3
 ·simp[X4]
 intro k I G;have J:k<n:=by simpa[X4]using G
 rw[M6];by_cases e:m=k
 ·subst e;simp[X4]
 rw[OU e];simp only[X4,List.getElem_map,List.getElem_range];by_cases E:k<m
 ·rw[OV E,OV oa]
 rw[OU E,OU oa]
theorem jX {R:Nat->List Ed}(hR:∀i,∀e∈R i,e.1=(i:Int))(j:Nat):∀n,QM ((oO 0 n).flatMap R) j=if j<n then R j else[]
 | 0=>by simp[QM]
 | n+1=>by
  have E:QM (R n) j=if n=j then R n else[]:=by
   unfold QM;by_cases e:n=j
   ·rw[OV e];exact NE.2 λx hx=>OY (by rw[hR n x hx,e])
   rw[OU e];exact MO.2 λx hx=>by rw[decide_eq_true_eq,hR n x hx];omega
  rw[Mj,LF,LW];unfold QM at E ⊢;rw[LT];have ih:=jX hR j n;unfold QM at ih;rw[ih];simp only[oT,OJ,Oi];rw[E];by_cases G:j<n
  ·rw[OV G,OU oa,OV oa,LH]
  rw[OU G];by_cases I:n=j
  ·subst I;rw[OV rfl,OV oa,Mz]
  rw[OU I,OU oa];rfl
theorem zJ {s:Int}:∀(vs:LI) (out:LI),∃r,vs.foldl (VF a s) out=out++r
 | [],out=>⟨[],od⟩
 | v::vs,out=>by
  rw[LQ];obtain⟨r,E⟩:=zJ vs (VF a s out v);rw[E];unfold VF;split
  ·exact⟨[nxt a.ed s v]++r,by rw[LA]⟩
  exact⟨r,O⟩
theorem zH:∀(f i:Nat) (out:LI),∃r,zI a f i out=out++r
 | 0,i,out=>⟨[],by simp[zI]⟩
 | f+1,i,out=>by
  rw[zI];split
  ·obtain⟨r,E⟩:=zH f (i+1) (fdR a out (O7 out i));obtain⟨r',G⟩:=zJ (a:=a) (s:=O7 out i) a.al out;refine⟨r'++r,?_⟩;rw[E];unfold fdR;rw[G,LA]
  exact⟨[],od⟩
theorem zu {fd:LI}{i:Nat}:∀(vs out:LI) (c:Cs),(∃r,fd=vs.foldl (VF a (O7 fd i)) out++r)->c.ord=Yt out.length->c.num=X4 fd.length out.length ->
  (vs.filterMap (Kt a fd i)).foldl (Zs i) c=⟨Yt (vs.foldl (VF a (O7 fd i)) out).length,X4 fd.length (vs.foldl (VF a (O7 fd i)) out).length,c.mk',c.ed++vs.filterMap (Kt a fd i)⟩
 | [],out,c,_,J,G=>by
  obtain⟨o,n,m,e⟩:=c;subst J G;simp
 | v::vs,out,c,E,J,G=>by
  rw[LQ]at E ⊢;obtain⟨r,E⟩:=E;obtain⟨r2,hf⟩:=zJ (a:=a) (s:=O7 fd i) vs (VF a (O7 fd i) out v);have I:fd=VF a (O7 fd i) out v++(r2++r):=by rw[<-LA,<-hf];exact E
  by_cases V:0<=nxt a.ed (O7 fd i) v
  ·have Y:Kt a fd i v=some ((i:Int),v,zf fd (nxt a.ed (O7 fd i) v)):=by unfold Kt;rw[OV V]
   rw[Mr,Y];simp only[];rw[LQ];by_cases T:nxt a.ed (O7 fd i) v∈out
   ·have U:VF a (O7 fd i) out v=out:=by unfold VF;rw[OU (λh=>h.2 T)]
    rw[U]at E I ⊢;have hix:zf fd (nxt a.ed (O7 fd i) v)=(out.idxOf (nxt a.ed (O7 fd i) v):Nat):=Qrq I T;have hg:=L7 T;have he:out.length<=fd.length:=by rw[I];simp
    have ha:Zs i c ((i:Int),v,zf fd (nxt a.ed (O7 fd i) v))=⟨c.ord,c.num,c.mk',c.ed++[((i:Int),v,zf fd (nxt a.ed (O7 fd i) v))]⟩:=by
     unfold Zs;simp only[];rw[G,hix,Qah oa,OV hg,OU oa]
    rw[ha,zu vs out ⟨c.ord,c.num,c.mk',c.ed++[((i:Int),v,zf fd (nxt a.ed (O7 fd i) v))]⟩ ⟨r,E⟩ J G];simp only[Of,Ov]
   have U:VF a (O7 fd i) out v=out++[nxt a.ed (O7 fd i) v]:=by unfold VF;rw[OV ⟨V,T⟩]
   rw[U]at E I ⊢;have hix:zf fd (nxt a.ed (O7 fd i) v)=(out.length:Nat):=QpB I T;have he:out.length<fd.length:=by rw[I];simp
   have ha:Zs i c ((i:Int),v,zf fd (nxt a.ed (O7 fd i) v))=⟨Yt (out.length+1),X4 fd.length (out.length+1),c.mk',c.ed++[((i:Int),v,zf fd (nxt a.ed (O7 fd i) v))]⟩:=by
    unfold Zs;simp only[];rw[J,G,hix,Qah he,OU (Nat.lt_irrefl _),OV oa,JG,qr];simp only[Oy];rw[Qjz]
   rw[ha,zu vs (out++[nxt a.ed (O7 fd i) v]) _ ⟨r,E⟩ od od];simp only[Of,Ov]
  have Y:Kt a fd i v=none:=by unfold Kt;rw[OU V]
  have U:VF a (O7 fd i) out v=out:=by unfold VF;rw[OU (λh=>V h.1)]
  rw[U]at E ⊢;rw[Mr,Y];exact zu vs out c ⟨r,E⟩ J G
theorem Qk9 (fd:LI)(i:Nat):YY a fd (i+1)=YY a fd i++(if O7 fd i∈a.mr then[(i:Int)]else[]):=by
 unfold YY;rw[Mj,LT,Ly,LW];by_cases h:O7 fd i∈a.mr <;> simp[h]
theorem Qlb (fd:LI)(i:Nat):Xh a fd (i+1)=Xh a fd i++a.al.filterMap (Kt a fd i):=by
 unfold Xh;rw[Mj,LF,LW];simp
theorem Qdp {fd:LI}(h:i<n):(i:Int)∈YY a fd n↔O7 fd i∈a.mr:=by
 unfold YY;simp only[Om,Oj,Oh,decide_eq_true_eq];constructor
 ·rintro⟨k,⟨_,E⟩,G⟩;have:k=i:=oa
  subst this;exact E
 intro E;exact⟨i,⟨oa,E⟩,O⟩
theorem Qla {fd:LI}(V:fd=xq a)(hp:fd.length<=a.st.toNat):∀(f g i:Nat) (out:LI),i<=out.length->zI a g i out=fd->i+g=a.st.toNat->fd.length<=i+f ->
  Xg (Y9 a) f i ⟨Yt out.length,X4 fd.length out.length,YY a fd i,Xh a fd i⟩=⟨Yt fd.length,X4 fd.length fd.length,YY a fd fd.length,Xh a fd fd.length⟩:=by
 have hf:(Y9 a).ed=Xh a fd fd.length:=by rw[V];rfl
 have hg:(Y9 a).mr=YY a fd fd.length:=by rw[V];rfl
 have done:∀(i:Nat) (out:LI),i<=out.length->out=fd->¬i<out.length->(⟨Yt out.length,X4 fd.length out.length,YY a fd i,Xh a fd i⟩:Cs)=⟨Yt fd.length,X4 fd.length fd.length,YY a fd fd.length,Xh a fd fd.length⟩:=by
  intro i out I E Y;have:i=fd.length:=by rw[<-E];omega
  rw[this,E]
 intro f;induction f with
 | zero =>
  intro g i out I E Y h4;obtain⟨r,G⟩:=zH (a:=a) g i out;rw[E]at G;have hl:fd.length=out.length+r.length:=by rw[G,Lc]
  have hh:r=[]:=Ls oa;rw[Xg];exact done i out I (by rw[G,hh,LH]) oa
 | succ f ih =>
  intro g i out I E Y h4;obtain⟨r,G⟩:=zH (a:=a) g i out;rw[E]at G;have hl:fd.length=out.length+r.length:=by rw[G,Lc]
  rw[Xg];simp only[JG];by_cases hi:i<out.length
  ·rw[OV hi];obtain⟨J,rfl⟩:∃J,g=J+1:=⟨g - 1,oa⟩;rw[zI,OV hi]at E;have hj:O7 out i=O7 fd i:=by
    rw[G];unfold O7;simp[oN,Oa hi]
   rw[hj]at E;have U:i<fd.length:=oa
   have hk:QM (Y9 a).ed (i:Int)=a.al.filterMap (Kt a fd i):=by
    rw[hf];unfold Xh;rw[jX (λj e he=>by
     obtain⟨v,_,T⟩:=MF.1 he;unfold Kt at T;split at T
     ·cases T;rfl
     cases T),OV U]
   have hm:Ym (Y9 a) i ⟨Yt out.length,X4 fd.length out.length,YY a fd i,Xh a fd i⟩=⟨Yt out.length,X4 fd.length out.length,YY a fd (i+1),Xh a fd i⟩:=by
    unfold Ym;simp only[];rw[Qai hi,hg,Qk9];by_cases hc:O7 fd i∈a.mr
    ·rw[OV ((Qdp U).2 hc),OV hc]
    rw[OU (λh=>hc ((Qdp U).1 h)),OU hc];simp
   have hn:zb (Y9 a) i ⟨Yt out.length,X4 fd.length out.length,YY a fd i,Xh a fd i⟩=⟨Yt (fdR a out (O7 fd i)).length,X4 fd.length (fdR a out (O7 fd i)).length,YY a fd (i+1),Xh a fd (i+1)⟩:=by
    unfold zb;rw[hm];simp only[];rw[Qai hi,hk];obtain⟨r3,ha⟩:=zH (a:=a) J (i+1) (fdR a out (O7 fd i));rw[E]at ha;rw[zu a.al out ⟨Yt out.length,X4 fd.length out.length,YY a fd (i+1),Xh a fd i⟩ ⟨r3,ha⟩ rfl rfl,Qlb];rfl
   rw[hn];obtain⟨r4,ho⟩:=zJ (a:=a) (s:=O7 fd i) a.al out;exact ih J (i+1) _ (by unfold fdR;rw[ho,Lc];omega) E oa oa
  rw[OU hi];have h5:zI a g i out=out:=by
   cases g with
   | zero=>rfl
   | succ g=>rw[zI,OU hi]
  exact done i out I (h5.symm.D E) hi
theorem Qk8 (E:QS a)(G:0<a.st):YG (Y9 a)=Y9 a:=by
 have V:=Qdo E G;have Y:(Y9 a).st=((xq a).length:Int):=rfl;have I:(Y9 a).st.toNat=(xq a).length:=oa
 have h:=Qla (a:=a) O ((yF E).1.len E.st0) (xq a).length a.st.toNat 0 (fd0 a) (Lo _) O oa oa;have J:fd0 a=[0]:=by unfold fd0;rw[OV G]
 rw[J]at h;have T:Z3 (Y9 a)=⟨Yt 1,X4 (xq a).length 1,YY a (xq a) 0,Xh a (xq a) 0⟩:=by
  unfold Z3;rw[I];have e:(oG (xq a).length (-1:Int)).set 0 0=X4 (xq a).length 1:=by
   apply L3
   ·simp[X4]
   intro k h1 h2;rw[M6];simp only[X4,List.getElem_map,List.getElem_range,Oq];by_cases e:k=0
   ·subst e;simp
   rw[OU oa,OU oa]
  rw[e];simp[Yt,YY,Xh]
 unfold YG;rw[OU oa];simp only[];rw[T,I];have U:Xg (Y9 a) (xq a).length 0 ⟨Yt 1,X4 (xq a).length 1,YY a (xq a) 0,Xh a (xq a) 0⟩=⟨Yt (xq a).length,X4 (xq a).length (xq a).length,YY a (xq a) (xq a).length,Xh a (xq a) (xq a).length⟩:=h;rw[U];simp only[JG];rfl
theorem yx (E:QS a)(G:0<a.st):Kp (Y9 a)=true:=by
 unfold Kp;rw[Qk8 E G];simp[(Zz _).2 (QbI E).1]
theorem GdA.can (h:GdA a):Kp a=true:=by
 obtain⟨I,E,G,rfl⟩:=h.c;exact yx E G
structure D25 (c:ZS):Prop where
 ev:c.ev.length=5/\XQ c.ev=0
 c0:c.co.length≠0
 c3:c.co.length<=3
 r2:c.rq.length<=2
 co:∀x∈c.co,Xp x.nm=true/\GdA x.a/\∀e∈x.a.al,e<5
 rq:∀x∈c.rq,Xp x.nm=true/\GdA x.a/\∀e∈x.a.al,∃y∈c.co,e∈y.a.al
 nd:(c.co.map (·.nm)++c.rq.map (·.nm)).Nodup
 x2:c.ex.length<=2
 ex:∀x∈c.ex,Xp x.nm=true/\x.ls≠[]/\XC (szs c.co) none x.ls=0
 xn:(c.ex.map (·.nm)).Nodup
 k1:c.cs.length<=1
 cs:∀x∈c.cs,Xp x.nm=true/\XD (szs c.co) x=0
theorem Qfp (n:Nat)(x:Int):x∈VJ n↔0<=x/\x<(n:Int):=Kn n x
theorem Qfq (n:Nat):Ys (VJ n):=QjE n
theorem Qba {a b:LI}(ia:Ys a)(ib:Ys b)(h:∀e∈a,e∈b):(mns a b).length=0:=by
 refine Nat.eq_zero_of_not_pos λG=>?_;obtain⟨x,hx⟩:=List.exists_mem_of_length_pos G;have:=(UD ia ib x).1 hx;by_cases E:x∈a
 ·simp[E,h x E]at this
 simp[E]at this
theorem QgD {nev:Nat}{amg:LI}{seen:List ByteArray}{x:Jp}(G:Xp x.nm=true)(I:x.nm∉seen)(E:GdA x.a)(J:∀e∈x.a.al,e<(nev:Int))(hi:Ys amg)(T:∀e∈x.a.al,e∈amg):Yw nev amg seen x=0:=by
 have Y:=E.p;unfold Yw;rw[OU (by rw[G];decide),OU I,OU (by simpa using(Zz _).2 E.ok),OU (by rw[E.can];decide),OU oa,OU,OU (ou (Qba E.ok.ali hi T))];intro h;obtain⟨e,U,V⟩:=Nk.1 h;have:=J e U;have:=OZ V;omega
theorem QgE {nev:Nat}{al:LI}(ha:Ys al):∀(l:List Jp) (s:List ByteArray) (u:LI),Ys u->(∀x∈l,Xp x.nm=true/\GdA x.a/\∀e∈x.a.al,e<(nev:Int)/\e∈al)->(s++l.map (·.nm)).Nodup ->
  ∃I,Yx nev al s u l=(0,s++l.map (·.nm),I)/\Ys I/\∀e,e∈I↔e∈u\/∃y∈l,e∈y.a.al
 | [],s,u,T,_,_=>⟨u,by simp[Yx],T,od⟩
 | x::l,s,u,T,hx,U=>by
  obtain⟨h1,V,h3⟩:=hx x Lh;have hf:x.nm∉s:=by
   intro hm;rw[LS,Mf]at U;exact U.2.2 _ hm _ Lh O
  obtain⟨I,k1,k2,k3⟩:=QgE ha l (s++[x.nm]) (mrg (· || ·) u x.a.al) (Qa9 _ _ _ _ (Lp _) T V.ok.ali) (λy E=>hx y (Lj _ E)) (ou U);refine⟨I,?_,k2,λe=>?_⟩
  ·rw[Yx,OU (by simpa using(QgD h1 hf V (λe Y=>(h3 e Y).1) ha (λe Y=>(h3 e Y).2))),k1];simp
  rw[k3,UD T V.ok.ali];constructor
  ·rintro(⟨G|G,_⟩|⟨y,E,J⟩)
   ·exact .inl G
   ·exact .inr ⟨x,Lh,G⟩
   exact .inr ⟨y,Lj _ E,J⟩
  rintro(G|⟨y,E,J⟩)
  ·exact .inl ⟨.inl G,by simp[G]⟩
  rcases Lk.1 E with rfl|E
  ·exact .inl ⟨.inr J,by simp[J]⟩
  exact .inr ⟨y,E,J⟩
theorem QbH {nev:Nat}{u:LI}(I:Ys u):∀(l:List Jp) (s:List ByteArray),(∀x∈l,Xp x.nm=true/\GdA x.a/\∀e∈x.a.al,e<(nev:Int)/\e∈u)->(s++l.map (·.nm)).Nodup->Ks nev u s l=0
 | [],s,_,_=>rfl
 | x::l,s,hx,E=>by
  obtain⟨T,U,J⟩:=hx x Lh;have V:x.nm∉s:=by
   intro Y;rw[LS,Mf]at E;exact E.2.2 _ Y _ Lh O
  rw[Ks,OU (by simpa using(QgD T V U (λe G=>(J e G).1) I (λe G=>(J e G).2)))];exact QbH I l (s++[x.nm]) (λy hy=>hx y (Lj _ hy)) (ou E)
theorem Qao {sz:LI}:∀(l:List Exc) (s:List ByteArray),(∀x∈l,Xp x.nm=true/\x.ls≠[]/\XC sz none x.ls=0)->(s++l.map (·.nm)).Nodup->YO sz s l=0
 | [],s,_,_=>rfl
 | x::l,s,hx,E=>by
  obtain⟨G,I,J⟩:=hx x Lh;have T:x.nm∉s:=by
   intro U;rw[LS,Mf]at E;exact E.2.2 _ U _ Lh O
  have V:Vi s x.nm=0:=by unfold Vi;rw[OU (by rw[G];decide),OU T]
  have hl:x.ls.length≠0:=λh=>I (Ls h);have Y:J0 sz x.ls=0:=by unfold J0;rw[OU hl];exact J
  rw[YO,OU (ou V),OU (ou Y)];exact Qao l (s++[x.nm]) (λy hy=>hx y (Lj _ hy)) (ou E)
theorem QjB:∀{k:Nat},k<5->Xp (nm1 97 k)=true
 | 0,_=>og
 | 1,_=>og
 | 2,_=>og
 | 3,_=>og
 | 4,_=>og
theorem UR {seen:List ByteArray}{k:Nat}(E:k<5)(G:nm1 97 k∉seen):Je seen (KH k n)=0:=by
 have I:(KH k n).nm=nm1 97 k:=by unfold KH;split <;> rfl
 unfold Je;rw[I,OU (by rw[QjB E];decide),OU G];unfold KH;by_cases h:48<=n/\n<52
 ·rw[OV h];simp only[];rw[OU oa,OU od]
 rw[OU h];simp only[];rw[OU oa,OU od]
theorem Qkz (ns:LN):XQ (JI ns 5)=0:=by
 have e:JI ns 5=[KH 0 (ns.getD 0 0),KH 1 (ns.getD 1 0),KH 2 (ns.getD 2 0),KH 3 (ns.getD 3 0),KH 4 (ns.getD 4 0)]:=rfl;have E:∀k n,(KH k n).nm=nm1 97 k:=λk n=>by unfold KH;split <;> rfl
 unfold XQ;rw[OU (by rw[VA];decide),e];simp only[qT,E];rw[UR og og,UR og og,UR og og,UR og og,UR og og];simp
theorem D25.ck {c:ZS}(h:D25 c):Z2 c=0:=by
 have hg:=h.c3;have hh:=h.r2;have Y:c.ev.length=5:=h.ev.1;obtain⟨u',k1,k2,k3⟩:=QgE (nev:=c.ev.length) (al:=VJ c.ev.length) (Qfq _) c.co [] [] List.Pairwise.nil (λx hx=>by
  obtain⟨G,E,I⟩:=h.co x hx;refine⟨G,E,λe J=>?_⟩;have:=I e J;have:=(E.ok.al e J).1;rw[Y,Qfp];exact⟨oa,oa,oa⟩) (by
  have:=h.nd;rw[Mf]at this;simpa using this.1)
 have ha:=QbH (nev:=c.ev.length) k2 c.rq (c.co.map (·.nm)) (λx hx=>by
  obtain⟨G,E,I⟩:=h.rq x hx;refine⟨G,E,λe J=>?_⟩;obtain⟨y,U,T⟩:=I e J;have:=(h.co y U).2.2 e T;exact⟨oa,(k3 e).2 (.inr ⟨y,U,T⟩)⟩) h.nd
 unfold Z2;rw[OU (not_not_intro h.ev.2),OU h.c0,OU oa,k1];simp only[Oo];rw[OU od,OU (ou ha)];unfold Y7;have hj:(szs c.co).length=c.co.length:=by unfold szs;simp
 have hk:=h.x2;have hk1:=h.k1;have hf:¬(szs c.co).any Jf=true:=by
  intro hb;obtain⟨n,G,E⟩:=Nk.1 hb;unfold szs at G;obtain⟨x,hx,rfl⟩:=Lx.1 G;have:=(h.co x hx).2.1;have I:=this.p;have T:=this.s;unfold Jf at E;simp at E;omega
 rw[OU oa,OU hf,OU oa,OU (by simpa using Qao c.ex [] h.ex (ou h.xn))];rcases V:c.cs with _|⟨x,l⟩
 ·rfl
 have hl:l=[]:=Ls (by rw[V,LP]at hk1;omega);obtain⟨G,E⟩:=h.cs x (by rw[V];exact Lh);have hz:Vi [] x.nm=0:=by unfold Vi;rw[OU (by rw[G];decide),OU od]
 rw[hl,Xq,OU (ou hz),OU (ou E)];rfl
theorem qe {k:IntKind}[h:Ik P t k][h':St P E]{x:O4}{G:IntKind}(hx:ev f x=.int G n)(I:n<128):
  (execOp (ev f) ⟨d,.convert t E x,ty,pS,af,gd⟩).run P w=.ok (.value (.string ⟨#[UInt8.ofNat n]⟩)) w:=by
 refine zx hx ?_;rw[run_convert_int_string w t E G n (by rw[h.u];rfl) h'.u];have J:Utf8.valid (n:Int)=true:=by
  unfold Utf8.valid;simp;omega
 unfold Utf8.encode;simp only[J,if_true,Oy,I]
theorem QiV {x:O4}{k:IntKind}{a b:Int}(hx:ev f x=.int k a)(G:ev f y=.int k b)(hb:b≠0):
  (execOp (ev f) ⟨d,.binOp .rem t x y E,ty,pS,af,gd⟩).run P w=.ok (.value (.int k (a.tmod b))) w:=by
 refine Kh hx G ?_;simp[binOp,Op.intDiv,hb]
end Go.Lg
