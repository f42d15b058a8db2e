/- Merged out of 17 texts. -/
import Derived.Test.YtgmifemhkjdblaaGreatDoorKie
import Derived.Test.YtgmifemhkjdblaaGreatDoorKib
import Derived.Laws.IdiomStrings
import Derived.Test.YtgmifemhkjdblaaGreatDoorRows
import Derived.JoinedOf
import Derived.RowKit
import Derived.ProofKit
import Derived.Test.YtgmifemhkjdblaaGreatDoorKia
import Derived.ChangeSame
import Derived.Carry
import Derived.OpenShut
import Derived.ChangeSlices
import Derived.WideShapes
import Derived.ChangeArms
import Derived.Lib.LaidTab
import Derived.Stop.LaidErr
import Derived.MakeChecks
namespace Go.Lg
section
variable {P:Program} {f:Fr} {w:World} {d:Option Nat} {ty:Nat} {ps:String} {af:Array Edge} {gd:Option (Nat×Bool)}
theorem Qba {t t' e bys:Nat}{z:Value}[h:Sl P t e 1 bys z] [he:Ik P e .u8] [hd:St P t'] {x:Operand}{b T n cap:Nat}(hB:QS w.heap b T [.int .u8 (n:Int)]) (hn:n<256) (hx:ev f x=.slice (some ⟨b,0,none⟩) 1 cap) :
  (execOp (ev f) ⟨d,.convert t t' x,ty,ps,af,gd⟩).run P w=.ok (.value (.string ⟨#[UInt8.ofNat n]⟩)) w:=by
 refine yx hx ?_
 refine run_convert_bytes_back (P:=P) w t t' e ⟨b,0,none⟩ cap [UInt8.ofNat n] h.u he.u hd.u (λj hj=>?_)
 have hj0:j=0:=by simp at hj;omega
 subst hj0
 rw[Xo]
 have h1:(⟨b,0,none⟩:Addr).add 0=⟨b,0,none⟩:=rfl
 rw[h1,hB.cell]
 have h2:(UInt8.ofNat n).toNat=n:=by simp[UInt8.toNat_ofNat'];omega
 simp[h2]
end
end Go.Lg
namespace Go.Proofs.YtgmifemhkjdblaaGreatDoor
open Go.Lg
theorem JU {N b:Nat}{w w':World}{v:Value}{l:List IV}(h:∀L:LN,(∀c∈L,c<N)→YU L w.heap v l) (hb:b<N) (hs:Step [b] w w'):∀L:LN,(∀c∈L,c<N)→YU L w'.heap v l:=λL hL =>
 ((h (b::L) (λc hc=>(List.mem_cons.1 hc).elim (λe=>by omega) (hL c))).st (hs.mono (by simp))).up (λc hc=>.inl (List.mem_cons_of_mem _ hc))
theorem Vo {N b:Nat}{w w':World}{v:Value}{l:List KA}(h:∀L:LN,(∀c∈L,c<N)→JK L w.heap v l) (hb:b<N) (hs:Step [b] w w'):∀L:LN,(∀c∈L,c<N)→JK L w'.heap v l:=λL hL =>
 ((h (b::L) (λc hc=>(List.mem_cons.1 hc).elim (λe=>by omega) (hL c))).st (hs.mono (by simp))).up (λc hc=>.inl (List.mem_cons_of_mem _ hc))
theorem Qg1 {N b:Nat}{w w':World}{v:Value}{l:List XV}(h:∀L:LN,(∀c∈L,c<N)→Ux L w.heap v l) (hb:b<N) (hs:Step [b] w w'):∀L:LN,(∀c∈L,c<N)→Ux L w'.heap v l:=λL hL =>
 ((h (b::L) (λc hc=>(List.mem_cons.1 hc).elim (λe=>by omega) (hL c))).st (hs.mono (by simp))).up (λc hc=>.inl (List.mem_cons_of_mem _ hc))
theorem QfY (e:KA):∀u∈Zo e,u.oneCell'=true:=by
 intro y hy
 simp only[Zo,List.mem_cons,List.not_mem_nil,or_false] at hy
 rcases hy with rfl | rfl | rfl | rfl | rfl <;> rfl
theorem QcA {q:IV}(h1:q.p.va.oneCell'=true) (h2:q.p.vm.oneCell'=true) (h3:q.p.ve.oneCell'=true):∀u∈Zi q,u.oneCell'=true:=by
 intro y hy
 simp only[Zi,List.mem_cons,List.not_mem_nil,or_false] at hy
 rcases hy with rfl | rfl | rfl | rfl | rfl
 ·rfl
 ·exact h1
 ·rfl
 ·exact h2
 ·exact h3
theorem Qaa {base N:Nat}{av:LN}{H:Array Obj}{q:IV}(h:∀L:LN,(∀b∈L,b<N)→Zm L H q.p.va q.p.vm q.p.ve q.p.a) (hb:base≤N) (hav:∀b∈av,b<N):∀t∈QhZ q,ZQ base av H t.1 t.2.1 t.2.2.1 t.2.2.2:=by
 intro t ht
 simp only[List.mem_cons,List.not_mem_nil,or_false] at ht
 rcases ht with rfl | rfl | rfl
 ·exact ZQ.of_lt (λL hL=>(h L hL).al) hb hav
 ·exact ZQ.of_lt (λL hL=>(h L hL).mr) hb hav
 ·exact ZQ.of_lt (λL hL=>(h L hL).ed) hb hav
theorem Zw.full {L:LN}{H:Array Obj}{v:Value}{n sz:Nat}{cs:LV}(h:Zw L H v n sz cs) (hn:0<n):∃a cap,v=.slice (some a) n cap∧At L H a cs:=by
 rcases h.2.2 with ⟨_,h2⟩ | ⟨a,cap,h1,_,h3⟩
 ·omega
 ·exact ⟨a,cap,h1,h3⟩
structure qT (base:Nat) (w:World) (vc va:Value) (co:List IV) (al:LI):Prop where
 c:w.ownsRow base 100 5 vc co.length (co.flatMap Zi)
 a:Qt 3 base w va al
 dj:Dj vc va
 each:∀q∈co,∀t∈QhZ q,ZQ base (ob vc++ob va) w.heap t.1 t.2.1 t.2.2.1 t.2.2.2
section
variable {base:Nat} {w w':World} {vc va vc' va':Value} {co:List IV} {al:LI}
theorem qT.nil:qT base w (nS) (nS) [] []:=⟨QP _ _ _ _,QP _ _ _ _,Dj.nil _,λq hq=>by cases hq⟩
theorem qT.ext (h:qT base w vc va co al) (hs:Step [] w w'):qT base w' vc va co al:=⟨Qu h.c hs,Qu h.a hs,h.dj,λq hq t ht=>(h.each q hq t ht).ext hs⟩
theorem qT.low {X:LN}(h:qT base w vc va co al) (hs:Step X w w') (hX:∀b∈X,b<base):qT base w' vc va co al :=
 ⟨Qm h.c hs (λb hb hm=>by have:=(Qq h.c b hb).1;have:=hX b hm;omega),Qm h.a hs (λb hb hm=>by have:=(Qq h.a b hb).1;have:=hX b hm;omega),h.dj,λq hq t ht=>(h.each q hq t ht).low hs hX⟩
theorem qT.avlt (h:qT base w vc va co al):∀b∈ob vc++ob va,b<w.heap.size:=λb hb=>(List.mem_append.1 hb).elim (Q0 h.c b) (Q0 h.a b)
theorem qT.setC {q:IV}(h:qT base w vc va co al) (hq:∀t∈QhZ q,ZQ base (ob vc++ob va) w.heap t.1 t.2.1 t.2.2.1 t.2.2.2) (ho:w'.ownsRow base 100 5 vc' (co.length+1) (co.flatMap Zi++Zi q))
  (hs:Step (ob vc) w w') (hn:∀b∈ob vc',b∈ob vc∨w.heap.size≤b):qT base w' vc' va (co++[q]) al:=by
 have hs2:Step (ob vc++ob va) w w':=hs.mono (λb hb=>List.mem_append.2 (.inl hb))
 have hn2:∀b∈ob vc'++ob va,b∈ob vc++ob va∨w.heap.size≤b:=λb hb=>by
  rcases List.mem_append.1 hb with hb | hb
  ·exact (hn b hb).imp (λh=>List.mem_append.2 (.inl h)) id
  ·exact .inl (List.mem_append.2 (.inr hb))
 refine ⟨?_,Qm h.a hs (λb hb hbc=>h.dj b hbc hb),λb hb hba=>?_,λd hd t ht=>?_⟩
 ·rw[List.length_append,List.flatMap_append];simpa using ho
 ·rcases hn b hb with h1 | h1
  ·exact h.dj b h1 hba
  ·have:=Q0 h.a b hba;omega
 ·rcases List.mem_append.1 hd with hd | hd
  ·exact (h.each d hd t ht).app hs2 hn2
  ·simp only[List.mem_singleton] at hd;subst hd
   exact (hq t ht).app hs2 hn2
theorem qT.setA {al':LI}(h:qT base w vc va co al) (ho:Qt 3 base w' va' al') (hs:Step (ob va) w w') (hn:∀b∈ob va',b∈ob va∨w.heap.size≤b):qT base w' vc va' co al':=by
 have hs2:Step (ob vc++ob va) w w':=hs.mono (λb hb=>List.mem_append.2 (.inr hb))
 have hn2:∀b∈ob vc++ob va',b∈ob vc++ob va∨w.heap.size≤b:=λb hb=>by
  rcases List.mem_append.1 hb with hb | hb
  ·exact .inl (List.mem_append.2 (.inl hb))
  ·exact (hn b hb).imp (λh=>List.mem_append.2 (.inr h)) id
 refine ⟨Qm h.c hs (λb hb hba=>h.dj b hb hba),ho,λb hb hba=>?_,λd hd t ht=>(h.each d hd t ht).app hs2 hn2⟩
 rcases hn b hba with h1 | h1
 ·exact h.dj b hb h1
 ·have:=Q0 h.c b hb;omega
theorem qT.itms {L:LN}(h:qT base w vc va co al) (hn:co.length≤1099511627776) (hm:∀q∈co,Uj q.nm) (hL:∀b∈L,b<base):YU L w.heap vc co :=
 ⟨QV h.c hn (λb hb hbL=>by have:=(Qq h.c b hb).1;have:=hL b hbL;omega),λq hq=>⟨h.each q hq (q.p.va,q.p.a.al.length,1,q.p.a.al.map (.int .i64)) (by simp) L (λb hb=>.inl (hL b hb)),h.each q hq (q.p.vm,q.p.a.mr.length,1,q.p.a.mr.map (.int .i64)) (by simp) L (λb hb=>.inl (hL b hb)),h.each q hq (q.p.ve,q.p.a.ed.length,3,q.p.a.ed.flatMap QC) (by simp) L (λb hb=>.inl (hL b hb))⟩,hm⟩
end
abbrev PtV:={r:LN // r.length=28∧∀n∈r,n<256}
abbrev Ye (r:PtV):LV:=bys r.1
theorem yz (r:PtV):(Ye r).length=28:=by show (bys r.1).length=28;unfold bys;rw[List.length_map,r.2.1]
structure LnV where
 ns:LN
 ct:Nat
 vr:Value
 rs:List PtV
 x0:Nat
 x1:Nat
 cl:Nat
abbrev YP (l:LnV):LV:=bys l.ns++[.int .u8 (l.ct:Int),l.vr,.int .u8 (l.x0:Int),.int .u8 (l.x1:Int),.int .u8 (l.cl:Int)]
structure LnA (L:LN) (H:Array Obj) (l:LnV):Prop where
 n:l.ns.length=81
 b:∀n∈l.ns,n<256
 ct:l.ct<256
 x0:l.x0<256
 x1:l.x1<256
 cl:l.cl<256
 r:Zw L H l.vr l.rs.length 28 (l.rs.flatMap Ye)
theorem Yq (ns:LN):(bys ns).length=ns.length:=by rw[bys,List.length_map]
theorem Qfi {l:LnV}(h:l.ns.length=81):(YP l).length=86:=by rw[YP,List.length_append,Yq,h];rfl
theorem jZ {l:LnV}(h:l.ns.length=81) (j:Nat):(YP l)[81+j]?=([.int .u8 (l.ct:Int),l.vr,.int .u8 (l.x0:Int),.int .u8 (l.x1:Int),.int .u8 (l.cl:Int)]:LV)[j]?:=by
 rw[YP,List.getElem?_append_right (by rw[Yq];omega),Yq,h,Nat.add_sub_cancel_left]
def grN (ns:LN) (o:Nat):LN:=(ns.drop o).take 27
theorem QjL {ns:LN}{o:Nat}(h:o+27≤ns.length):(grN ns o).length=27:=by unfold grN;simp;omega
theorem Qk4 {ns:LN}{o:Nat}(h:∀n∈ns,n<256):∀n∈grN ns o,n<256:=QiA h o 27
theorem Qk1 {l:LnV}{o:Nat}(j:Nat) (u:Value) (h:(bys (grN l.ns o))[j]?=some u):(YP l)[o+j]?=some u:=by
 have h1:=Qiz (ns:=l.ns) (o:=o) (n:=27) j u h
 have h2:=(List.getElem?_eq_some_iff.1 h1).1
 rw[YP,List.getElem?_append_left h2]
 exact h1
theorem QaB (ns:LN) (n:Nat):(bys ns).set 0 (.int .u8 (n:Int))=bys (ns.set 0 n):=by
 unfold bys;rw[List.map_set]
theorem Qca {ns:LN}{n:Nat}(h:∀m∈ns,m<256) (hn:n<256):∀m∈ns.set 0 n,m<256:=λm hm=>by
 rcases List.mem_or_eq_of_mem_set hm with h1 | rfl
 ·exact h m h1
 ·exact hn
theorem jF {ns:LN}{n:Nat}(h:0<ns.length):(ns.set 0 n).getD 0 0=n:=by simp[List.getD,h]
structure GdA (a:QM):Prop where
 ok:Q2 a
 p:0<a.st
 s:a.st≤3
 c:∃a0:QM,Q2 a0∧0<a0.st∧a=Jg a0
theorem Qgm {a:QM}(ho:Q2 a) (h:0<a.st):0<(Jg a).st:=by
 have hf:=(U8 ho).1
 show 0<((found a).length:Int)
 have h0:(0:Int)∈found a:=by
  have key:∀(f i:Nat) (out:LI),(0:Int)∈out→(0:Int)∈fdL a f i out:=by
   intro f
   induction f with
   | zero=>intro i out h;exact h
   | succ f ih =>
    intro i out h
    rw[fdL]
    split
    ·exact ih _ _ (yV _ _ _ h)
    ·exact h
  refine key _ _ _ ?_
  unfold fd0;rw[if_pos h];simp
 have:=List.length_pos_of_mem h0
 omega
theorem GdA.of {a a0:QM}{n:Nat}(h0:Q2 a0) (h1:0<a0.st) (h2:a0.st≤((1+n % 5:Nat):Int)) (h3:a=Jg a0) (hn:n<3):GdA a:=by
 have h4:=QcR h0
 subst h3
 exact ⟨h4.1,Qgm h0 h1,by have:=h4.2.2;omega,a0,h0,h1,rfl⟩
def Qko (N:Nat) (w:World) (p:AV):Prop:=(∀L:LN,(∀b∈L,b<N)→Zm L w.heap p.va p.vm p.ve p.a)∧GdA p.a
def Qgs (p:AV):Value:=.agg #[p.va,.int .i64 p.a.st,p.vm,p.ve]
def mkP (N:Nat) (c:Nat) (nm:ByteArray) (i:Nat) (v:Value) (w:World):Prop :=
 if i=5 then ∃b,v=.slice (some ⟨b,0,none⟩) 1 1∧QS w.heap b 5 [.int .u8 (c:Int)]
 else if i=6 then v=.string ⟨#[UInt8.ofNat c]⟩
 else if i=7 then v=.string nm
 else ∃p:AV,v=Qgs p∧Qko N w p
theorem Qcp {N c:Nat}{nm:ByteArray}:∀i v w w',mkP N c nm i v w→Step [] w w'→mkP N c nm i v w':=by
 intro i v w w' h hs
 unfold mkP at h ⊢
 by_cases h5:i=5
 ·rw[if_pos h5] at h ⊢
  obtain ⟨b,e,hB⟩:=h
  exact ⟨b,e,hB.ext hs⟩
 rw[if_neg h5] at h ⊢
 by_cases h6:i=6
 ·rw[if_pos h6] at h ⊢;exact h
 rw[if_neg h6] at h ⊢
 by_cases h7:i=7
 ·rw[if_pos h7] at h ⊢;exact h
 rw[if_neg h7] at h ⊢
 obtain ⟨p,e,hA,hG⟩:=h
 exact ⟨p,e,λL hL=>(hA L hL).ext hs,hG⟩
def al5 (i:Nat):LI:=([0,1,2,3,4]:LI).take (2*i - 1)
def Uf (i:Nat):LI:=match i with | 0=>[0] | 1=>[1,2] | _=>[3,4]
theorem Qgu:∀{i:Nat},i<3→al5 (i+1)=al5 i++Uf i
 | 0,_=>rfl
 | 1,_=>rfl
 | 2,_=>rfl
 | i+3,h=>by omega
theorem Qc1 (i:Nat):Yt (al5 i):=List.Pairwise.sublist (List.take_sublist _ _) (by decide)
theorem Qkg (i:Nat):∀e∈al5 i,0≤e∧e<32:=λe he=>by
 have h:=List.mem_of_mem_take he
 simp only[List.mem_cons,List.not_mem_nil,or_false] at h
 omega
theorem Qc0 (i:Nat):(al5 i).length≤5:=by unfold al5;simp;omega
theorem Qey:∀(i:Nat),Yt (Uf i)
 | 0=>by decide
 | 1=>by decide
 | _+2=>show Yt [3,4] by decide
theorem Qhj:∀(i:Nat),∀e∈Uf i,0≤e∧e<32
 | 0=>by decide
 | 1=>by decide
 | _+2=>show ∀e∈([3,4]:LI),0≤e∧e<32 by decide
theorem Qex:∀(i:Nat),0<(Uf i).length∧(Uf i).length≤2
 | 0=>by decide
 | 1=>by decide
 | _+2=>show 0<([3,4]:LI).length∧([3,4]:LI).length≤2 by decide
structure Sml (k:ZB):Prop where
 c:k.co.length≤3
 r:k.rq.length≤2
 co:∀q∈k.co,GdA q.a
 rq:∀q∈k.rq,GdA q.a
end Go.Proofs.YtgmifemhkjdblaaGreatDoor
namespace Go.Lg
open Go.RowKit
section
variable {P:Program} {n:Nat} {f:Fr} {w:World} {all:List Oper} {C J:World→Prop} {K:Fr→World→Prop}
theorem QaI {α:Type}{D:List (Nat×Nat)}{dp:Nat→LN}{opn:LN}{rest:List (Nat×Bool)}{Φ:Nat→Value→World→Prop}{S:α→List (Nat×Value)}{I:α→World→Prop}{f1:Fr}(hs:Region.noSelect all.toArray=true) (hop:V4 all D opn=true)
  (hJC:∀w,J w→C w) (hCs:∀w w',J w→Step [] w w'→J w') (stab:∀i v w w',Φ i v w→Step [] w w'→Φ i v w')
  (hconv:∀(g:Fr) w,Fa (λi=>Φ i (sl (QK all i).dst g) w) opn→(∀i∈opn,∀j∈opn,i≠j→∀b∈ow (sl (QK all i).dst g),b∉ow (sl (QK all j).dst g))→∃z,Yy g (S z)∧I z w)
  (spec:Fa (λi=>∀g w,J w→Fa (λj=>Φ j (sl (QK all j).dst (mix D f1 g)) w) (dp i)→XO P (QK all i) (mix D f1 g) w (λf' w'=>Step [] w w'∧Φ i (sl (QK all i).dst f') w'∧∀b∈ow (sl (QK all i).dst f'),w.heap.size≤b∧b<w'.heap.size)) opn)
  (fin:∀z g w,J w→I z w→XP P all C K rest (KE (S z) (mix D f1 g)) w) :
  ∀(k:Nat) (ls:Array Bool) (f:Fr) (w:World),ls.size=all.length→J w→XS all.toArray dp opn rest k ls=true→(∀t,YT D t=false→f t=f1 t)→(∀i∈opn,ls.getD i false=true→Φ i (sl (QK all i).dst f) w) →
   (∀i∈opn,ls.getD i false=true→(∀b∈ow (sl (QK all i).dst f),b<w.heap.size)∧∀j∈opn,ls.getD j false=true→i≠j→∀b∈ow (sl (QK all i).dst f),b∉ow (sl (QK all j).dst f))→XA P all C K (k+rest.length) ls f w
 | 0,ls,f,w,hsz,hC,hp,hf,hphi,hdj=>by
  simp only[XS,Bool.and_eq_true,List.all_eq_true] at hp
  obtain ⟨z,h1,h2⟩:=hconv f w (Fa.of λi hi=>hphi i hi (hp.2 i hi)) (λi hi j hj hij=>(hdj i hi (hp.2 i hi)).2 j hj (hp.2 j hj) hij)
  have h3:=fin z f w hC h2
  rw[YO hf,Yc h1] at h3
  rw[Nat.zero_add]
  exact Zt hs rest ls f w hsz (.inl (hJC _ hC)) hp.1 h3
 | k+1,ls,f,w,hsz,hC,hp,hf,hphi,hdj=>by
  simp only[XS,Bool.and_eq_true,List.all_eq_true,List.contains_iff_mem] at hp
  obtain ⟨hne,hp⟩:=hp
  rw[Nat.add_right_comm]
  refine YA (λh0=>(by rw[h0] at hne;cases hne)) ?_
  intro i hi o ho
  obtain ⟨⟨hio,hdp⟩,hgo⟩:=hp i hi
  obtain ⟨hg,d,hd,hdD⟩:=(ZW hop).1 i hio
  have hdis:=(ZW hop).2
  have hsp:=Fa.all spec i hio f w hC
  rw[YO hf] at hsp
  have hsp:=hsp (Fa.of λj hj=>hphi j (hdp j hj).1 (hdp j hj).2)
  have hoi:=Za ho
  rw[hoi] at hg hd hsp
  rw[Xx hg,cond_true]
  refine hsp.mono λv w' hx=>?_
  have hC':=hCs w w' hC hx.1
  have hz:=hx.1.size
  have old:∀j∈opn,j≠i→sl (QK all j).dst (QU f o.dst v)=sl (QK all j).dst f:=λj hj hij=>by
   obtain ⟨_,dj,hdj',_⟩:=(ZW hop).1 j hj
   have hne:o.dst≠some dj:=λe=>hdis j hj i hio hij (by rw[hdj',hoi];exact e.symm)
   rw[hdj']
   exact ZN hne v
  have lsj:∀j,j≠i→(ls.setIfInBounds i true).getD j false=true→ls.getD j false=true:=λj hij h=>by rw[getD_set_ne false (Ne.symm hij)] at h;exact h
  refine ⟨.inr (.inr (hJC _ hC')),QaI hs hop hJC hCs stab hconv spec fin k _ _ _ (by simpa using hsz) hC' hgo (λt ht=>?_) (λj hj hlj=>?_) (λj hj hlj=>⟨λb hb=>?_,λk hk hlk hjk b hb hbk=>?_⟩)⟩
  ·rw[ZN (by rw[hd];intro e;cases e;rw[hdD] at ht;cases ht)];exact hf t ht
  ·by_cases hij:j=i
   ·subst hij
    have h2:=hx.2.1
    rw[hoi];exact h2
   ·rw[old j hj hij]
    exact stab _ _ _ _ (hphi j hj (lsj j hij hlj)) hx.1
  ·by_cases hij:j=i
   ·subst hij
    rw[hoi] at hb
    exact (hx.2.2 b hb).2
   ·rw[old j hj hij] at hb
    have:=(hdj j hj (lsj j hij hlj)).1 b hb
    omega
  ·by_cases hij:j=i
   ·subst hij
    have hki:k≠j:=Ne.symm hjk
    rw[old k hk hki] at hbk
    rw[hoi] at hb
    have h1:=(hdj k hk (lsj k hki hlk)).1 b hbk
    have h2:=(hx.2.2 b hb).1
    omega
   ·rw[old j hj hij] at hb
    have h1:=(hdj j hj (lsj j hij hlj)).1 b hb
    by_cases hki:k=i
    ·subst hki
     rw[hoi] at hbk
     have h2:=(hx.2.2 b hbk).1
     omega
    ·rw[old k hk hki] at hbk
     exact (hdj j hj (lsj j hij hlj)).2 k hk (lsj k hki hlk) hjk b hb hbk
theorem QaL {α:Type}{Q:Exit→Fr→World→Prop}{id:Nat}(C J:World→Prop) (pre:List (Nat×Bool)) (dp:Nat→LN) (opn:LN) (rest:List (Nat×Bool)) (D:List (Nat×Nat)) (Φ:Nat→Value→World→Prop) (S:α→List (Nat×Value)) (I:α→World→Prop)
  (hm:P.follows .mixedOrders=true) (hn:YW n all=true) (hp:QcK all dp pre opn rest D=true) (hC:J { w with drawn:=w.drawn+1 }) (hJC:∀w,J w→C w) (hCs:∀w w',J w→Step [] w w'→J w') (stab:∀i v w w',Φ i v w→Step [] w w'→Φ i v w')
  (hconv:∀(g:Fr) w,Fa (λi=>Φ i (sl (QK all i).dst g) w) opn→(∀i∈opn,∀j∈opn,i≠j→∀b∈ow (sl (QK all i).dst g),b∉ow (sl (QK all j).dst g))→∃z,Yy g (S z)∧I z w)
  (h:XP P all C (λf1 _=>Fa (λi=>∀g w,J w→Fa (λj=>Φ j (sl (QK all j).dst (mix D f1 g)) w) (dp i)→XO P (QK all i) (mix D f1 g) w (λf' w'=>Step [] w w'∧Φ i (sl (QK all i).dst f') w'∧∀b∈ow (sl (QK all i).dst f'),w.heap.size≤b∧b<w'.heap.size)) opn ∧
   ∀z g w,J w→I z w→XP P all C (λf w=>Q .normal f w) rest (KE (S z) (mix D f1 g)) w) pre f { w with drawn:=w.drawn+1 }):W P n (.region id all.toArray true) Q f w:=by
 simp only[QcK,Bool.and_eq_true,beq_iff_eq,List.all_eq_true,Bool.not_eq_true'] at hp
 obtain ⟨⟨⟨⟨⟨hs,hl⟩,hq⟩,hop⟩,hgo⟩,hun⟩:=hp
 refine YF C hm hn ?_
 rw[←hl]
 have hsz:(Array.replicate all.length false).size=all.length:=by simp
 have h1:=ZI (K:=λf w=>Q .normal f w) (m:=opn.length+rest.length) hs pre (Array.replicate all.length false) f _ (hJC _ hC) hq (λf1 hB=>QaI (P:=P) (C:=C) hs hop hJC hCs stab hconv hB.1 hB.2 opn.length (Zr pre (Array.replicate all.length false)) f1 _ (by rw[ZG];exact hsz) hC hgo (λ_ _=>rfl) (λi hi ht=>by rw[hun i hi] at ht;cases ht) (λi hi ht=>by rw[hun i hi] at ht;cases ht)) h
 rw[hl] at h1 ⊢
 exact h1
end
end Go.Lg
namespace Go.Proofs.YtgmifemhkjdblaaGreatDoor
open Go.Proofs.Tryz
open Go.Lg
instance:Ay prog 26 3 25 27:=⟨by kernel_rfl,by kernel_rfl⟩
instance:Ay prog 28 2 5 1:=⟨by kernel_rfl,by kernel_rfl⟩
abbrev z27:LV:=List.replicate 27 (.int .u8 0)
theorem Qhv (p:Int×Int):∀u∈Q9 p,u.oneCell'=true:=by
 intro y hy
 simp only[Q9,List.mem_cons,List.not_mem_nil,or_false] at hy
 rcases hy with rfl | rfl <;> rfl
set_option maxHeartbeats 16000000 in
theorem Qdr {w:World}{l:LnV}(h:LnA [] w.heap l) :
  QG prog 10 [.agg (YP l).toArray] w λr w'=>Step [] w w'∧∃k,QiV w.heap.size w'.heap r k∧Sml k:=by
 have hln:=Qfi h.n
 have g81:=jZ h.n 0
 have g82:=jZ h.n 1
 have g83:=jZ h.n 2
 have g84:=jZ h.n 3
 have g85:=jZ h.n 4
 have hct:=h.ct
 have hcl:=h.cl
 have hx0:=h.x0
 have hx1:=h.x1
 have hrl:=h.r.le
 refine Zc (1+l.ct % 3) λn hn=>?_
 have hn3:1≤n∧n≤3:=by omega
 refine QG.of_W func10 rfl ntmps10 results10 (by simp) ?_
 refine Qc<|xl rfl<|QQ (us:=YP l) rfl λb1 w1 hs1 hb1 hB1=>xl rfl<|Qr (us:=YN) rfl λb2 w2 hs2 hb2 hB2=>xe ?_
 refine Qc<|xl rfl<|Qr (us:=YN) rfl λb3 w3 hs3 hb3 hB3=>xe ?_
 have hs03:=(hs1.trans hs2).trans hs3
 have hs13:=hs2.trans hs3
 have hz1:=hs1.size
 have hz2:=hs2.size
 have hz3:=hs3.size
 have hl1:=hB1.lt
 have hl2:=hB2.lt
 have hl3:=hB3.lt
 have hB13:=hB1.ext hs13
 have hB23:=hB2.ext hs3
 have n13:b1∉[b3]:=by simp only[List.mem_singleton];omega
 have n23:b2∉[b3]:=by simp only[List.mem_singleton];omega
 have hR3:Zw [b3] w3.heap l.vr l.rs.length 28 (l.rs.flatMap Ye):=(h.r.up (L':=[b3]) (λb hb=>.inr (by simp only[List.mem_singleton] at hb;omega))).ext hs03
 refine QW (α:=Value×List KA) [(4,4),(15,35)] (λ_=>[]) (λz w'=>Step [b3] w3 w'∧QS w'.heap b3 38 [z.1,Zf,Zf,Zf,Zf]∧w'.ownsRow w3.heap.size 97 5 z.1 z.2.length (z.2.flatMap Zo)∧z.2.length=5∧∀e∈z.2,Uj e.nm) (by rfl) ?_ ?_
 ·refine Qc<|Qf<|Qh<|QA (α:=Nat×Value×List KA) [(4,4),(15,35)] (λz=>[(4,.int .i64 z.1)]) (λz w'=>z.1≤5∧Step [b3] w3 w'∧QS w'.heap b3 38 [z.2.1,Zf,Zf,Zf,Zf]∧w'.ownsRow w3.heap.size 97 5 z.2.1 z.2.2.length (z.2.2.flatMap Zo)∧z.2.2.length=z.1∧∀e∈z.2.2,Uj e.nm) (λz=>5 - z.1) (by rfl) (0,Zf,[]) ⟨rfl,trivial⟩
   ⟨Nat.zero_le _,Step.refl _ _,hB3,QP _ _ _ _,rfl,λe he=>by cases he⟩ ?_
  rintro ⟨k,v,ev⟩ g w4 ⟨hk,hs4,hB4,ho4,hevl,hnm⟩
  simp only[] at hk hB4 ho4 hevl hnm
  have hz4:=hs4.size
  refine Qg<|Qc<|Qb<|x (QB rfl rfl)<|xe ?_
  refine QD rfl (λh16=>?_) (λh16=>?_)
  ·refine Qz ?_
   have hke:k=5:=by have h17:¬(k:Int)<5:=h16;omega
   exact ⟨(v,ev),trivial,hs4,hB4,ho4,by simp only[];omega,hnm⟩
  have hlt:k<5:=by have h17:(k:Int)<5:=h16;omega
  refine Qi ?_
  have hn3v:b3∉ob v:=QX ho4 hl3
  have hn1v:b1∉ob v:=QX ho4 (by omega)
  have hB14:=hB13.step hs4 n13
  have hdv:l.cl / 2 ^ k<256:=Nat.lt_of_le_of_lt (Nat.div_le_self _ _) hcl
  have hd4:Step [] w4 { w4 with drawn:=w4.drawn+1 }:=Step.drew _ _
  refine Qg<|Qh<|QT (Step (ob v) w4) [(0,true),(1,true),(2,true),(3,true),(4,true),(7,true),(8,true),(9,true),(10,true),(11,true),(12,true),(5,false),(6,false),(13,true),(14,false),(15,false),(16,true),(17,false)] mixed (by rfl) (by kernel_rfl) (Step.drew _ _) ?_
  refine p (λ_=>Qa rfl)<|pq (λ_ hc=>Qd (hB4.step hc hn3v) rfl rfl)<|p (λ_=>Qo)<|p (λ_=>YX (k':=.u8) rfl ⟨by omega,by omega⟩)<|p (λ_=>Qy rfl rfl ⟨by omega,by omega⟩) <|
   p (λ_=>Qa rfl)<|pq (λ_ hc=>Qd (hB14.step hc hn1v) rfl g85)<|p (λ_=>Qo)<|p (λ_=>UN (n:=k) rfl rfl (by show k≤8;omega))<|p (λ_=>Qbf (a:=l.cl / 2 ^ k) (b:=1) (congrArg (Value.int .u8) (Uo l.cl k)) rfl hdv (by decide)) <|
   p (λ_=>Zn rfl rfl)<|pk<|QH (us:=[[.int .u8 ((97:Int)+(k:Int))]]) rfl rfl (by decide) (by simp) ⟨rfl,rfl,trivial⟩ λb24 w5 hs5 hb24 hB24=>⟨(hd4.trans hs5).any,?_⟩
  have e97:((97:Int)+(k:Int))=((97+k:Nat):Int):=by omega
  have hB24':QS w5.heap b24 5 [.int .u8 ((97+k:Nat):Int)]:=by rw[←e97];exact hB24
  refine pk<|xv (Qba (n:=97+k) hB24' (by omega) rfl) ⟨(hd4.trans hs5).any,?_⟩
  refine Zc (KA.mk ⟨#[UInt8.ofNat (97+k)]⟩ (decide (((l.cl / 2 ^ k &&& 1:Nat):Int)=1)) false false 0) λe he=>?_
  refine p (λ_=>QN ⟨rfl,rfl,trivial⟩)<|pk<|QH (us:=[Zo (KA.mk ⟨#[UInt8.ofNat (97+k)]⟩ (decide (((l.cl / 2 ^ k &&& 1:Nat):Int)=1)) false false 0)]) rfl rfl (by decide) (show 1*5≤1000000 by omega) ⟨rfl,rfl,trivial⟩ λb33 w6 hs6 hb33 hB33=>?_
  rw[he] at hB33
  have hs46:=(hd4.trans hs5).trans hs6
  have hz46:=hs46.size
  refine ⟨hs46.any,?_⟩
  refine pk<|Q5 (news:=Zo e) (L:=[]) (Qu ho4 hs46) rfl rfl rfl (hB33.at (by simp)) (QfY e) (by omega) (by omega) λv7 w7 ho7 hs7 hn7=>⟨(hs46.any (L:=ob v)).trans' hs7,?_⟩
  have hone:=QO ho7
  refine p (λ_=>Qa rfl)<|pkl (hl:=by kernel_rfl)<|QF ((hB4.ext hs46).step hs7 hn3v) rfl rfl (by simp) hone λw8 hs8 hB8=>pe ?_
  have hge:=Qq ho4
  have hge7:∀b∈ob v7,w3.heap.size≤b:=λb hb=>(Qq ho7 b hb).1
  refine Qx<|Qb<|x (Qy rfl rfl ⟨by omega,by omega⟩)<|Qf<|⟨(k+1,v7,ev++[e]),by simp only[];omega,⟨rfl,trivial⟩,hlt,((hs4.trans hs46).then hs7 (λb hb=>.inr (hge b hb).1)).trans' hs8,hB8,?_,by simp[hevl],λd hd=>?_⟩
  ·have h9:=Qm ho7 hs8 (λb hb=>by have:=hge7 b hb;simp only[List.mem_singleton];omega)
   simp only[List.length_append,List.flatMap_append]
   simpa using h9
  ·rcases List.mem_append.1 hd with hd | hd
   ·exact hnm d hd
   ·rw[List.mem_singleton.1 hd,←he];exact Xm (by simp)
 rintro ⟨ve,ev⟩ g4 w4 ⟨hs4,hB4,ho4,hevl,hnm⟩
 simp only[] at hB4 ho4 hevl hnm
 have hz4:=hs4.size
 have FE4:∀L:LN,(∀b∈L,b<w3.heap.size)→JK L w4.heap ve ev:=λL hL=>⟨QV ho4 (by omega) (λb hb hbL=>by have:=(Qq ho4 b hb).1;have:=hL b hbL;omega),hnm⟩
 refine Qc<|xl rfl<|QH (us:=[[.int .i64 0]]) rfl rfl (by decide) (by simp) ⟨rfl,rfl,trivial⟩ λb36 w5 hs5 hb36 hB36=>xl rfl<|QH (us:=[[.int .i64 1],[.int .i64 2]]) rfl rfl (by decide) (by simp) ⟨rfl,rfl,rfl,rfl,trivial⟩ λb37 w6 hs6 hb37 hB37 =>
  xl rfl<|QH (us:=[[.int .i64 3],[.int .i64 4]]) rfl rfl (by decide) (by simp) ⟨rfl,rfl,rfl,rfl,trivial⟩ λb38 w7 hs7 hb38 hB38=>xl rfl<|QH (us:=[[.slice (some ⟨b36,0,none⟩) 1 1],[.slice (some ⟨b37,0,none⟩) 2 2],[.slice (some ⟨b38,0,none⟩) 2 2]]) rfl rfl (by decide) (by simp) ⟨rfl,rfl,rfl,rfl,rfl,rfl,trivial⟩ λb39 w8 hs8 hb39 hB39 =>
  Qf<|Qc<|Qf ?_
 have hz5:=hs5.size
 have hz6:=hs6.size
 have hz7:=hs7.size
 have hz8:=hs8.size
 have hs48:=((hs5.trans hs6).trans hs7).trans hs8
 have hs38:=hs4.trans hs48
 have hT8:∃tl:List TV,tl.length=3∧(∀i (h:i<tl.length),∃tv,tl[i]'h=(tv,Uf i))∧∀L:LN,(∀b∈L,b<w4.heap.size∨w8.heap.size≤b)→XD L w8.heap (.slice (some ⟨b39,0,none⟩) 3 3) tl:=by
  have k36:=hB36.lt
  have k37:=hB37.lt
  have k38:=hB38.lt
  have k39:=hB39.lt
  refine ⟨[(.slice (some ⟨b36,0,none⟩) 1 1,Uf 0),(.slice (some ⟨b37,0,none⟩) 2 2,Uf 1),(.slice (some ⟨b38,0,none⟩) 2 2,Uf 2)],rfl,λi hi=>?_,λL hL=>?_⟩
  ·have h3:i=0∨i=1∨i=2:=by have:i<3:=hi;omega
   rcases h3 with rfl | rfl | rfl
   ·exact ⟨_,rfl⟩
   ·exact ⟨_,rfl⟩
   ·exact ⟨_,rfl⟩
  have nL:∀{b:Nat},w4.heap.size≤b→b<w8.heap.size→b∉L:=λh1 h2 hm=>by have:=hL _ hm;omega
  refine ⟨hB39.arr (nL (by omega) k39) (n:=3) (cap:=3) (sz:=1) rfl (by omega) (Nat.le_refl _),λq hq=>?_⟩
  simp only[List.mem_cons,List.not_mem_nil,or_false] at hq
  rcases hq with rfl | rfl | rfl
  ·exact (((hB36.ext hs6).ext hs7).ext hs8).arr (nL (by omega) (by omega)) (n:=1) (cap:=1) (sz:=1) rfl (by omega) (Nat.le_refl _)
  ·exact ((hB37.ext hs7).ext hs8).arr (nL (by omega) (by omega)) (n:=2) (cap:=2) (sz:=1) rfl (by omega) (Nat.le_refl _)
  ·exact (hB38.ext hs8).arr (nL (by omega) (by omega)) (n:=2) (cap:=2) (sz:=1) rfl (by omega) (Nat.le_refl _)
 obtain ⟨tl,htl3,htlq,hT8⟩:=hT8
 refine QW (α:=Value×Value×List IV) [(6,8),(40,80)] (λz=>[(6,z.2.1)]) (λz w'=>Step [b3] w8 w'∧QS w'.heap b3 38 [ve,z.1,Zf,Zf,Zf]∧qT w8.heap.size w' z.1 z.2.1 z.2.2 (al5 n)∧z.2.2.length=n∧∀q∈z.2.2,Uj q.nm∧GdA q.p.a) (by rfl) ?_ ?_
 ·refine Qc<|Qf<|Qh<|QA (α:=Nat×Value×Value×List IV) [(6,8),(40,80)] (λz=>[(6,z.2.2.1),(7,.int .i64 z.1)]) (λz w'=>z.1≤n∧Step [b3] w8 w'∧QS w'.heap b3 38 [ve,z.2.1,Zf,Zf,Zf]∧qT w8.heap.size w' z.2.1 z.2.2.1 z.2.2.2 (al5 z.1)∧z.2.2.2.length=z.1∧∀q∈z.2.2.2,Uj q.nm∧GdA q.p.a) (λz=>n - z.1) (by rfl) (0,Zf,Zf,[]) ⟨rfl,rfl,trivial⟩
   ⟨Nat.zero_le _,Step.refl _ _,hB4.ext hs48,qT.nil,rfl,λq hq=>by cases hq⟩ ?_
  rintro ⟨i,vc,va,co⟩ g w9 ⟨hi,hs9,hB9,hM9,hcol,hgd⟩
  simp only[] at hi hB9 hM9 hcol hgd
  have hz9:=hs9.size
  have hs39:Step [b3] w3 w9:=hs38.trans' hs9
  have hB19:=hB13.step hs39 n13
  have g81':(YP l)[81]?=some (.int .u8 (l.ct:Int)):=g81
  refine Qg<|Qc<|Qb<|x (Qa rfl)<|x (Qd hB19 rfl g81')<|x (UO (a:=(l.ct:Int)) (b:=3) rfl rfl (by omega) (by omega))<|x (YX (k':=.i64) rfl ⟨by omega,by omega⟩)<|x (Qy rfl rfl ⟨by omega,by omega⟩)<|x (QB rfl rfl) <|
   xe ?_
  refine QD rfl (λh46=>?_) (λh46=>?_)
  ·refine Qz ?_
   have h47:¬(i:Int)<1+(l.ct:Int) % 3:=h46
   have hie:i=n:=by omega
   rw[hie] at hM9 hcol
   exact ⟨(vc,va,co),⟨rfl,trivial⟩,hs9,hB9,hM9,hcol,hgd⟩
  have h47:(i:Int)<1+(l.ct:Int) % 3:=h46
  have hlt:i<n:=by omega
  refine Qi ?_
  have hgl:(grN l.ns (0+0+i*27)).length=27:=QjL (by have:=h.n;omega)
  have hglt:=Qk4 (o:=0+0+i*27) h.b
  have hgs:=λj u=>Qk1 (l:=l) (o:=0+0+i*27) j u
  refine Zc (grN l.ns (0+0+i*27)) λgr hgr=>?_
  rw[hgr] at hgl hglt hgs
  have q0:=VX (ns:=gr) (j:=0) (by omega)
  have q0l:=Kf hglt 0
  refine Zc (gr.getD 0 0) λs0 hs0=>?_
  rw[hs0] at q0 q0l
  refine Qg<|Qh<|Qc<|Qb<|x (Qa rfl)<|x (YM (i:=i) rfl rfl (by omega))<|x (Qdj (us:=bys gr) hB19 rfl (by rw[Yq];exact hgl) hgs)<|xl rfl<|Qr (us:=z27) rfl λb8 w10 hs10 hb8 hB8=>xl rfl<|Ql (us:=bys gr) hB8 rfl rfl (by rw[Yq];exact hgl) rfl (qz gr) λw11 hs11 hB811 =>
   xe ?_
  have hs911:Step [] w9 w11:=hs10.then1 hs11 hb8
  refine Qc<|x (Qa rfl)<|x (Qd hB811 rfl q0)<|x (UO (a:=(s0:Int)) (b:=3) rfl rfl (by omega) (by omega))<|x (Qa rfl)<|xl rfl<|QF (u:=.int .u8 ((s0 % 3:Nat):Int)) hB811 rfl (congrArg (Value.int .u8) (by omega:(s0:Int) % 3=((s0 % 3:Nat):Int))) (by rw[Yq];omega) rfl λw12 hs12 hB812 =>
   xe ?_
  rw[QaB] at hB812
  have hl8:=hB8.lt
  have hs912:Step [] w9 w12:=hs911.then1 hs12 hb8
  have hz912:=hs912.size
  have hz10:=hs10.size
  have hz11:=hs11.size
  have hB912:=hB9.ext hs912
  have hM12:=hM9.ext hs912
  have hn3v:b3∉ob vc:=QX hM12.c (by omega)
  have hn8v:b8∉ob vc:=λhm=>by have:=Q0 hM9.c b8 hm;omega
  have hl12:(gr.set 0 (s0 % 3)).length=27:=by rw[List.length_set];exact hgl
  have hlt12:=Qca (n:=s0 % 3) hglt (by omega)
  have hg012:=jF (ns:=gr) (n:=s0 % 3) (by omega)
  refine Zc (gr.set 0 (s0 % 3)) λgr2 hgr2=>?_
  rw[hgr2] at hB812 hl12 hlt12 hg012
  have hT12:XD (b3::(ob vc++ob va)) w12.heap (.slice (some ⟨b39,0,none⟩) 3 3) tl:=by
   have h1:=hT8 (b3::(ob vc++ob va)) (λb hb=>by
    rcases List.mem_cons.1 hb with rfl | hb
    ·exact .inl (by omega)
    ·rcases List.mem_append.1 hb with hb | hb
     ·exact .inr (Qq hM9.c b hb).1
     ·exact .inr (Qq hM9.a b hb).1)
   exact (h1.st (hs9.mono (by simp))).ext hs912
  have hti:i<tl.length:=by omega
  obtain ⟨tv,htv⟩:=htlq i hti
  have htm:=List.getElem_mem hti
  rw[htv] at htm
  have hsI:=Qex i
  have hu8:(48:Int)+(i:Int)=((48+i:Nat):Int):=by omega
  refine QW (α:=Value×List IV) [(57,74)] (λ_=>[]) (λz w'=>Step (b3::ob vc) w12 w'∧QS w'.heap b3 38 [ve,z.1,Zf,Zf,Zf]∧qT w8.heap.size w' z.1 va z.2 (al5 i)∧z.2.length=i+1∧∀q∈z.2,Uj q.nm∧GdA q.p.a) (by rfl) ?_ ?_
  ·refine Zc (⟨#[109]⟩++⟨#[UInt8.ofNat (48+i)]⟩:ByteArray) λnm hnm=>?_
   have hnmB:Uj nm:=by rw[←hnm];show (ByteArray.size _)≤_;rw[ByteArray.size_append];show 1+1≤_;omega
   refine QaL (α:=AV) (Step (ob vc) w12) (Step [] w12) [(0,true),(1,true),(2,true),(3,true),(4,true),(8,true),(9,true),(10,true),(11,true),(12,true)] (λi=>if i=6 then [5] else if i=7 then [6] else []) [5,6,7,13] [(14,true),(15,false),(16,false),(17,true),(18,false)] [(62,64),(70,70)] (mkP w12.heap.size (48+i) nm)
    (λz=>[(64,.string nm),(70,Qgs z)]) (λz w'=>Qko w12.heap.size w' z) mixed (by rfl) (by kernel_rfl) (Step.drew _ _) (λ_ h=>h.any) (λ_ _ h1 h2=>h1.trans h2) Qcp ?_ ?_
   ·rintro g w' ⟨_,_,h7,⟨q,e,hA⟩,_⟩ hdj
    exact ⟨q,⟨h7,e,trivial⟩,hA⟩
   refine p (λ_=>Qa rfl)<|pq (λ_ hc=>Qd (hB912.step hc hn3v) rfl rfl)<|p (λ_=>Qo)<|p (λ_=>YX (k':=.u8) rfl ⟨by omega,by omega⟩)<|p (λ_=>Qy rfl rfl ⟨by omega,by omega⟩) <|
    p (λ_=>Qo)<|p (λ_=>Qo)<|Go.Lg.pig (g:=Z7) (i:=i) rfl (λ_=>rfl) hT12.arr rfl rfl hti λa67 h67=>?_
   rw[htv] at h67
   refine pq (λ_ hc=>Qw (h67.step hc (λb hb=>by simp[hb])) rfl)<|pq (λ_ hc=>Qn (hB812.step hc hn8v) rfl (by rw[Yq];exact hl12))<|pe ⟨⟨?_,?_,?_,?_,trivial⟩,?_⟩
   ·intro g w' hc _
    exact QH (us:=[[.int .u8 ((48:Int)+(i:Int))]]) rfl rfl (by decide) (by simp) ⟨rfl,rfl,trivial⟩ λb w13 hs13' hb hB=>⟨hs13',⟨b,rfl,by rw[←hu8];exact hB⟩,λc hc'=>by rw[List.mem_singleton.1 (show c∈[b] from hc')];exact ⟨hb,hB.lt⟩⟩
   ·rintro g w' hc ⟨⟨b,e,hB⟩,_⟩
    exact xv (Qba (n:=48+i) hB (by omega) e) ⟨Step.refl _ _,rfl,λc hc'=>by cases hc'⟩
   ·rintro g w' hc ⟨e,_⟩
    exact xv (Jl (a:=⟨#[109]⟩) (b:=⟨#[UInt8.ofNat (48+i)]⟩) rfl e (by show 1+1≤1000000000;omega)) ⟨Step.refl _ _,congrArg Value.string hnm,λc hc'=>by cases hc'⟩
   ·intro g w' hc _
    have hz:=hc.size
    have hi1:QL (b3::(ob vc++ob va)) w'.heap tv (Uf i):=(hT12.each _ htm).ext hc
    refine xf<|(zE (ns:=gr2) hi1 (Qhj i) (Qey i) hl12 hlt12).mono ?_
    rintro r w13 ⟨hs13',a,⟨xa,xm,xe',rfl,hA⟩,hok,h5,hal,hcan⟩
    obtain ⟨a0,k1,k2,k3,k4⟩:=hcan (by omega)
    rw[hg012] at k3
    exact ⟨hs13',⟨⟨xa,xm,xe',a⟩,rfl,λL hL=>hA L (λb hb=>by have:=hL b hb;omega),GdA.of k1 k2 k3 k4 (by omega)⟩,λc hc'=>by cases hc'⟩
   rintro q g w13 hc13 ⟨hA13,hG13⟩
   have hz13:=hc13.size
   have hA0:=hA13 [] (by simp)
   refine p (λ_=>Zx [(0,[.string nm]),(1,[q.va,.int .i64 q.a.st,q.vm,q.ve])] ⟨rfl,rfl,rfl,rfl,trivial⟩)<|pk<|QH (us:=[Zi ⟨nm,q⟩]) rfl rfl (by decide) (show 1*5≤1000000 by omega) ⟨rfl,rfl,trivial⟩ λb72 w14 hs14 hb72 hB72=>⟨(hc13.trans hs14).any,?_⟩
   have hc14:=hc13.trans hs14
   have hz14:=hs14.size
   have hM14:=hM12.ext hc14
   refine pk<|Q5 (news:=Zi ⟨nm,q⟩) (L:=[]) hM14.c rfl rfl rfl (hB72.at (by simp)) (QcA hA0.al.one hA0.mr.one hA0.ed.one) (by omega) (by omega) λv15 w15 ho15 hs15 hn15=>⟨(hc14.any (L:=ob vc)).trans' hs15,?_⟩
   have hM15:=hM14.setC (Qaa (q:=⟨nm,q⟩) (N:=w12.heap.size) (λL hL=>(hA13 L hL).ext hs14) (by omega) hM12.avlt) ho15 hs15 hn15
   refine p (λ_=>Qa rfl)<|pkl (hl:=by kernel_rfl)<|QF ((hB912.ext hc14).step hs15 hn3v) rfl rfl (by simp) (QO ho15) λw16 hs16 hB16=>pe ?_
   refine ⟨(v15,co++[⟨nm,q⟩]),trivial,((hc14.any (L:=b3::ob vc)).trans' (hs15.mono (λb hb=>List.mem_cons_of_mem _ hb))).trans' (hs16.mono (by simp)),hB16,hM15.low hs16 (λb hb=>by rw[List.mem_singleton.1 hb];omega),by simp only[List.length_append,List.length_singleton];omega,λd hd=>?_⟩
   rcases List.mem_append.1 hd with hd | hd
   ·exact hgd d hd
   ·rw[List.mem_singleton.1 hd];exact ⟨hnmB,hG13⟩
  rintro ⟨vc2,co2⟩ g16 w16 ⟨hs16,hB16,hM16,hcol16,hgd16⟩
  simp only[] at hB16 hM16 hcol16 hgd16
  have hz16:=hs16.size
  have hgeC:=Qq hM9.c
  have hgeA:=Qq hM9.a
  have hs816:Step [b3] w8 w16:=(hs9.trans hs912).then hs16 (λb hb=>by
   rcases List.mem_cons.1 hb with rfl | hb
   ·exact .inl (by simp)
   ·exact .inr (hgeC b hb).1)
  have hT16:=hT12.st (hs16.mono (L':=b3::(ob vc++ob va)) (λb hb=>by
   rcases List.mem_cons.1 hb with rfl | hb
   ·simp
   ·simp[hb]))
  have hIt:QL (b3::(ob vc++ob va)) w16.heap tv (Uf i):=hT16.each _ htm
  obtain ⟨ta,tc,hte,hta⟩:=Zw.full hIt hsI.1
  have hal5:=Qc0 i
  refine Qx<|Qb<|Qb<|Qb<|Go.Lg.xig (g:=Z7) (i:=i) (λ_=>rfl) hT16.arr rfl rfl hti λa78 h78=>?_
  rw[htv] at h78
  refine x (Qw h78 rfl)<|xl rfl<|Q5 (news:=(Uf i).map (.int .i64)) hM16.a rfl (show Go.Lg.ev _ _=_ from hte) (by simp) hta (by simp[Value.oneCell']) (by omega) (by omega) λv17 w17 ho17 hs17 hn17 =>
   Qf ?_
  have ho17':Qt 3 w8.heap.size w17 v17 (al5 (i+1)):=by
   rw[Qgu (by omega)]
   unfold Qt
   rw[List.length_append,List.map_append]
   exact ho17
  have hM17:=hM16.setA ho17' hs17 hn17
  refine Qx<|Qb<|x (Qy rfl rfl ⟨by omega,by omega⟩)<|Qf ?_
  exact ⟨(i+1,vc2,v17,co2),by simp only[];omega,⟨rfl,rfl,trivial⟩,hlt,hs816.then hs17 (λb hb=>.inr (hgeA b hb).1),hB16.step hs17 (QX hM16.a (by omega)),hM17,hcol16,hgd16⟩
 rintro ⟨vc,va,co⟩ g9 w9 ⟨hs9,hB9,hM9,hcol9,hgd9⟩
 simp only[] at hB9 hM9 hcol9 hgd9
 have hz9:=hs9.size
 have hs39:Step [b3] w3 w9:=hs38.trans' hs9
 have FE9:=Vo (λL hL=>(FE4 L hL).ext hs48) hl3 hs9
 have FI9:∀L:LN,(∀b∈L,b<w3.heap.size)→YU L w9.heap vc co:=λL hL=>hM9.itms (by omega) (λq hq=>(hgd9 q hq).1) (λb hb=>by have:=hL b hb;omega)
 have hal5:=Qc0 n
 refine QW (α:=Value×List IV) [(9,11),(81,128)] (λ_=>[]) (λz w'=>Step [b3] w9 w'∧QS w'.heap b3 38 [ve,vc,z.1,Zf,Zf]∧IvP w9.heap.size w' z.1 z.2∧z.2.length≤2∧∀q∈z.2,Uj q.nm∧GdA q.p.a) (by rfl) ?_ ?_
 ·refine Qc<|Qf<|Qh<|QA (α:=Nat×Value×List IV) [(9,11),(81,128)] (λz=>[(9,.int .i64 z.1)]) (λz w'=>z.1≤2∧Step [b3] w9 w'∧QS w'.heap b3 38 [ve,vc,z.2.1,Zf,Zf]∧IvP w9.heap.size w' z.2.1 z.2.2∧z.2.2.length≤z.1∧∀q∈z.2.2,Uj q.nm∧GdA q.p.a) (λz=>2 - z.1) (by rfl) (0,Zf,[]) ⟨rfl,trivial⟩
   ⟨Nat.zero_le _,Step.refl _ _,hB9,Xj.nil,Nat.le_refl _,λq hq=>by cases hq⟩ ?_
  rintro ⟨i,vr,rq⟩ g w10 ⟨hi,hs10,hB10,hM10,hrl10,hgd10⟩
  simp only[] at hi hB10 hM10 hrl10 hgd10
  have hz10:=hs10.size
  have hs310:Step [b3] w3 w10:=hs39.trans' hs10
  have hB110:=hB13.step hs310 n13
  have hR10:=hR3.st hs310
  have g82':(YP l)[82]?=some l.vr:=g82
  refine Qg<|QW (α:=Unit) [(81,89)] (λz=>[(89,.bool (decide (i<l.rs.length∧i<2)))]) (λz w'=>w'=w10) (by rfl) ?_ ?_
  ·refine Qx<|Qb<|x (Qa rfl)<|x (Qd hB110 rfl g82')<|x (Qs hR10 rfl)<|xb (QB rfl rfl) (λh85=>?_) (λh85=>?_)
   ·refine Qb<|Qb<|x (QB rfl rfl)<|x (Qp rfl)<|xe ?_
    refine ⟨(),⟨congrArg Value.bool ?_,trivial⟩,rfl⟩
    exact decide_eq_decide.2 ⟨λe=>⟨by omega,by omega⟩,λe=>by omega⟩
   refine Qb<|xs rfl<|xs rfl<|x (Qp rfl)<|xe ?_
   exact ⟨(),⟨congrArg Value.bool (decide_eq_false (λe=>h85 (by omega))).symm,trivial⟩,rfl⟩
  rintro _ g11 w11 rfl
  refine QD rfl (λh89=>?_) (λh89=>?_)
  ·refine Qz ?_
   exact ⟨(vr,rq),trivial,hs10,hB10,hM10,by simp only[];omega,hgd10⟩
  have hir:i<l.rs.length:=h89.1
  have hi2:i<2:=h89.2
  refine Qi<|Qg<|Qh<|Qc<|x (Qa rfl)<|x (Qd hB110 rfl g82')<|Qb<|Go.Lg.xig (g:=Ye) (i:=i) yz hR10 rfl rfl hir λa95 h95=>?_
  refine Zc (l.rs[i]'hir) λpr hpr=>?_
  rw[hpr] at h95
  have hpl:(pr.1.drop 1).length=27:=by rw[List.length_drop,pr.2.1]
  have hplt:∀n∈pr.1.drop 1,n<256:=λn hn=>pr.2.2 n (List.mem_of_mem_drop hn)
  have h95':At [b3] w11.heap (a95.add 1) (bys (pr.1.drop 1)):=by
   have h1:=h95.from 1
   rw[show (Ye pr).drop 1=bys (pr.1.drop 1) by simp[Ye,bys]] at h1
   exact h1
  have hp0:=VX (ns:=pr.1) (j:=0) (by rw[pr.2.1];omega)
  have hp0l:=Kf pr.2.2 0
  refine Zc (pr.1.getD 0 0) λm0 hm0=>?_
  rw[hm0] at hp0 hp0l
  refine Zc (pr.1.drop 1) λgr hgr=>?_
  rw[hgr] at hpl hplt h95'
  have q0:=VX (ns:=gr) (j:=0) (by omega)
  have q0l:=Kf hplt 0
  refine Zc (gr.getD 0 0) λs0 hs0=>?_
  rw[hs0] at q0 q0l
  refine x (Zd rfl)<|x (QJ (us:=bys gr) h95' rfl (by rw[Yq];exact hpl))<|xl rfl<|Qr (us:=z27) rfl λb10 w12 hs12 hb10 hB10'=>xl rfl<|Ql (us:=bys gr) hB10' rfl rfl (by rw[Yq];exact hpl) rfl (qz gr) λw13 hs13' hB1013 =>
   xe ?_
  have hs1113:Step [] w11 w13:=hs12.then1 hs13' hb10
  refine Qc<|x (Qa rfl)<|x (Qd hB1013 rfl q0)<|x (UO (a:=(s0:Int)) (b:=3) rfl rfl (by omega) (by omega))<|x (Qa rfl)<|xl rfl<|QF (u:=.int .u8 ((s0 % 3:Nat):Int)) hB1013 rfl (congrArg (Value.int .u8) (by omega:(s0:Int) % 3=((s0 % 3:Nat):Int))) (by rw[Yq];omega) rfl λw14 hs14 hB1014 =>
   xe ?_
  rw[QaB] at hB1014
  have hl10:=hB10'.lt
  have hs1114:Step [] w11 w14:=hs1113.then1 hs14 hb10
  have hz12:=hs12.size
  have hz13':=hs13'.size
  have hz1114:=hs1114.size
  have hl12:(gr.set 0 (s0 % 3)).length=27:=by rw[List.length_set];exact hpl
  have hlt12:=Qca (n:=s0 % 3) hplt (by omega)
  have hg012:=jF (ns:=gr) (n:=s0 % 3) (by omega)
  refine Zc (gr.set 0 (s0 % 3)) λgr2 hgr2=>?_
  rw[hgr2] at hB1014 hl12 hlt12 hg012
  have hva11:Qt 3 w8.heap.size w11 va (al5 n):=Qm hM9.a hs10 (λb hb hm=>by rw[List.mem_singleton.1 hm] at hb;exact QX hM9.a (by omega) hb)
  refine Qc<|x (Qa rfl)<|x (Qd (hB110.ext hs1114) rfl g82')<|Qb<|Go.Lg.xig (g:=Ye) (i:=i) yz (hR10.ext hs1114) rfl rfl hir λa105 h105=>?_
  rw[hpr] at h105
  refine x (Zd rfl)<|x (Qw (h105.fld 0 _ hp0) rfl)<|xl rfl<|xf<|(Qbs m0 hp0l _).mono ?_
  rintro v15 w15 ⟨hs15,ho15⟩
  have hsk:=Xs m0 5
  have hva15:QL [] w15.heap va (al5 n):=(Qt.ints (L:=[]) (Qu hva11 (hs1114.trans hs15)) (by omega) (by simp))
  refine Qb<|xl rfl<|xf<|(je (Qt.ints (L:=[]) ho15 (by omega) (by simp)) hva15 (by omega)).mono ?_
  rintro v16 w16 ⟨hs16,ho16⟩
  have hmi:=yF (· && ·) _ (setK m0 5) (al5 n) (Nat.le_refl _) (jE m0 5) (Qc1 n)
  have hml:=Vd (· && ·) (setK m0 5) (al5 n)
  have hmb:∀e∈mrg (· && ·) (setK m0 5) (al5 n),0≤e∧e<32:=λe he=>by
   have h1:=((Us (keep:=(· && ·)) (jE m0 5) (Qc1 n)) e).1 he
   rcases h1.1 with h2 | h2
   ·have:=Qhi m0 5 e h2;omega
   ·exact Qkg n e h2
  refine Zc (mrg (· && ·) (setK m0 5) (al5 n)) λst hst=>?_
  rw[hst] at ho16 hmi hml hmb
  refine Qf ?_
  have hs1416:=hs15.trans hs16
  have hs1116:=hs1114.trans hs1416
  have hz1416:=hs1416.size
  have hz15:=hs15.size
  have hz16:=hs16.size
  have hI16:=Qt.ints (L:=[]) ho16 (by omega) (by simp)
  refine Qc<|Qb<|x (Qs hI16 rfl)<|x (ZL rfl rfl)<|xe ?_
  refine QD rfl (λh113=>?_) (λh113=>?_)
  ·refine Qi<|Qx<|Qb<|x (Qy rfl rfl ⟨by omega,by omega⟩)<|Qf ?_
   exact ⟨(i+1,vr,rq),by simp only[];omega,⟨rfl,trivial⟩,by simp only[];omega,hs10.trans hs1116,hB10.ext hs1116,hM10.ext hs1116,by simp only[];omega,hgd10⟩
  have hn3v:b3∉ob vr:=QX hM10.own (by omega)
  have hn10v:b10∉ob vr:=λhm=>by have:=Q0 hM10.own b10 hm;omega
  have hge10:=Qq hM10.own
  have hu8:(48:Int)+(i:Int)=((48+i:Nat):Int):=by omega
  have hB316:=hB10.ext hs1116
  have hB1016:=hB1014.ext hs1416
  refine Zc (⟨#[114]⟩++⟨#[UInt8.ofNat (48+i)]⟩:ByteArray) λnm hnm=>?_
  have hnmB:Uj nm:=by rw[←hnm];show (ByteArray.size _)≤_;rw[ByteArray.size_append];show 1+1≤_;omega
  have hR16:=hM10.ext hs1116
  refine QaL (α:=AV) (Step (ob vr) w16) (Step [] w16) [(0,true),(1,true),(2,true),(3,true),(4,true),(8,true),(9,true)] (λi=>if i=6 then [5] else if i=7 then [6] else []) [5,6,7,10] [(11,true),(12,false),(13,false),(14,true),(15,false)] [(119,121),(124,124)] (mkP w16.heap.size (48+i) nm)
   (λz=>[(121,.string nm),(124,Qgs z)]) (λz w'=>Qko w16.heap.size w' z) mixed (by rfl) (by kernel_rfl) (Step.drew _ _) (λ_ h=>h.any) (λ_ _ h1 h2=>h1.trans h2) Qcp ?_ ?_
  ·rintro g w' ⟨_,_,h7,⟨q,e,hA⟩,_⟩ hdj
   exact ⟨q,⟨h7,e,trivial⟩,hA⟩
  refine p (λ_=>Qa rfl)<|pq (λ_ hc=>Qd (hB316.step hc hn3v) rfl rfl)<|p (λ_=>Qo)<|p (λ_=>YX (k':=.u8) rfl ⟨by omega,by omega⟩)<|p (λ_=>Qy rfl rfl ⟨by omega,by omega⟩) <|
   p (λ_=>Qo)<|pq (λ_ hc=>Qn (hB1016.step hc hn10v) rfl (by rw[Yq];exact hl12))<|pe ⟨⟨?_,?_,?_,?_,trivial⟩,?_⟩
  ·intro g w' hc _
   exact QH (us:=[[.int .u8 ((48:Int)+(i:Int))]]) rfl rfl (by decide) (by simp) ⟨rfl,rfl,trivial⟩ λb w17 hs17 hb hB=>⟨hs17,⟨b,rfl,by rw[←hu8];exact hB⟩,λc hc'=>by rw[List.mem_singleton.1 (show c∈[b] from hc')];exact ⟨hb,hB.lt⟩⟩
  ·rintro g w' hc ⟨⟨b,e,hB⟩,_⟩
   exact xv (Qba (n:=48+i) hB (by omega) e) ⟨Step.refl _ _,rfl,λc hc'=>by cases hc'⟩
  ·rintro g w' hc ⟨e,_⟩
   exact xv (Jl (a:=⟨#[114]⟩) (b:=⟨#[UInt8.ofNat (48+i)]⟩) rfl e (by show 1+1≤1000000000;omega)) ⟨Step.refl _ _,congrArg Value.string hnm,λc hc'=>by cases hc'⟩
  ·intro g w' hc _
   have hz:=hc.size
   refine xf<|(zE (ns:=gr2) (hI16.ext hc) hmb hmi hl12 hlt12).mono ?_
   rintro r w17 ⟨hs17,a,⟨xa,xm,xe',rfl,hA⟩,hok,h5,hal,hcan⟩
   obtain ⟨a0,k1,k2,k3,k4⟩:=hcan (by omega)
   rw[hg012] at k3
   exact ⟨hs17,⟨⟨xa,xm,xe',a⟩,rfl,λL hL=>hA L (λb hb=>by have:=hL b hb;omega),GdA.of k1 k2 k3 k4 (by omega)⟩,λc hc'=>by cases hc'⟩
  rintro q g w17 hc17 ⟨hA17,hG17⟩
  have hz17:=hc17.size
  have hA0:=hA17 [] (by simp)
  refine p (λ_=>Zx [(0,[.string nm]),(1,[q.va,.int .i64 q.a.st,q.vm,q.ve])] ⟨rfl,rfl,rfl,rfl,trivial⟩)<|pk<|QH (us:=[Zi ⟨nm,q⟩]) rfl rfl (by decide) (show 1*5≤1000000 by omega) ⟨rfl,rfl,trivial⟩ λb126 w18 hs18 hb126 hB126=>⟨(hc17.trans hs18).any,?_⟩
  have hc18:=hc17.trans hs18
  have hz18:=hs18.size
  have hR18:=hR16.ext hc18
  refine pk<|Q5 (news:=Zi ⟨nm,q⟩) (L:=[]) hR18.own rfl rfl rfl (hB126.at (by simp)) (QcA hA0.al.one hA0.mr.one hA0.ed.one) (by omega) (by omega) λv19 w19 ho19 hs19 hn19=>⟨(hc18.any (L:=ob vr)).trans' hs19,?_⟩
  have hR19:=hR18.app3 (q:=⟨nm,q⟩) (Qaa (q:=⟨nm,q⟩) (N:=w16.heap.size) (λL hL=>(hA17 L hL).ext hs18) (by omega) (Q0 hR16.own)) ho19 hs19 hn19
  refine p (λ_=>Qa rfl)<|pkl (hl:=by kernel_rfl)<|QF ((hB316.ext hc18).step hs19 hn3v) rfl rfl (by simp) (QO ho19) λw20 hs20 hB20=>pe ?_
  refine Qx<|Qb<|x (Qy rfl rfl ⟨by omega,by omega⟩)<|Qf<|⟨(i+1,v19,rq++[⟨nm,q⟩]),by simp only[];omega,⟨rfl,trivial⟩,by simp only[];omega,(((hs10.trans hs1116).trans hc18).then hs19 (λb hb=>.inr (hge10 b hb).1)).trans' hs20,hB20,hR19.low hs20 (λb hb=>by rw[List.mem_singleton.1 hb];omega),by simp only[List.length_append,List.length_singleton];omega,λd hd=>?_⟩
  rcases List.mem_append.1 hd with hd | hd
  ·exact hgd10 d hd
  ·rw[List.mem_singleton.1 hd];exact ⟨hnmB,hG17⟩
 rintro ⟨vr,rq⟩ g10 w10 ⟨hs10,hB10,hM10,hrl10,hgd10⟩
 simp only[] at hB10 hM10 hrl10 hgd10
 have hz10:=hs10.size
 have hs310:Step [b3] w3 w10:=hs39.trans' hs10
 have hB110:=hB13.step hs310 n13
 have FE10:=Vo FE9 hl3 hs10
 have FI10:=JU FI9 hl3 hs10
 have FR10:∀L:LN,(∀b∈L,b<w3.heap.size)→YU L w10.heap vr rq:=λL hL=>hM10.itms (by omega) (λq hq=>(hgd10 q hq).1) (λb hb=>by have:=hL b hb;omega)
 refine QW (α:=Value×List XV) [(12,14),(129,169)] (λ_=>[]) (λz w'=>Step [b3] w10 w'∧QS w'.heap b3 38 [ve,vc,vr,z.1,Zf]∧∀L:LN,(∀b∈L,b<w3.heap.size)→Ux L w'.heap z.1 z.2) (by rfl) ?_ ?_
 ·refine Qc<|x (Qa rfl)<|x (Qd hB10 rfl rfl)<|x (Qs (FI10 [] (by simp)).arr rfl)<|Qf<|Qc<|Qb<|x (ZL rfl rfl)<|xe ?_
  refine QD rfl (λh133=>?_) (λh133=>?_)
  ·refine Qi ?_
   exact ⟨(Zf,[]),trivial,Step.refl _ _,hB10,λL hL=>⟨Zw.nil _ _ 2,λq hq=>(by cases hq),λq hq=>(by cases hq)⟩⟩
  have hco2:2≤co.length:=by have h134:(1:Int)<(co.length:Int):=h133;omega
  refine Qc<|x (QN ⟨rfl,trivial⟩)<|xl rfl<|Qr (us:=[.string .empty,Zf]) rfl λb13 w11 hs11 hb13 hB11=>xl rfl<|Ql (us:=[.string ⟨#[120]⟩,Zf]) hB11 rfl rfl rfl rfl ⟨rfl,rfl,trivial⟩ λw12 hs12 hB1312 =>
   xe ?_
  have hs1012:Step [] w10 w12:=hs11.then1 hs12 hb13
  have hz1012:=hs1012.size
  have hl13:=hB1312.lt
  have n313:b3∉[b13]:=by simp only[List.mem_singleton];omega
  have n113:b1∉[b13]:=by simp only[List.mem_singleton];omega
  refine QW (α:=Value×List (Int×Int)) [(14,14),(135,158)] (λ_=>[]) (λz w'=>Step [b13] w12 w'∧QS w'.heap b13 107 [.string ⟨#[120]⟩,z.1]∧w'.ownsRow w12.heap.size 109 2 z.1 z.2.length (z.2.flatMap Q9)∧z.2.length≤2) (by rfl) ?_ ?_
  ·refine Qc<|Qf<|Qh<|QA (α:=Nat×Value×List (Int×Int)) [(14,14),(135,158)] (λz=>[(14,.int .i64 z.1)]) (λz w'=>z.1≤2∧Step [b13] w12 w'∧QS w'.heap b13 107 [.string ⟨#[120]⟩,z.2.1]∧w'.ownsRow w12.heap.size 109 2 z.2.1 z.2.2.length (z.2.2.flatMap Q9)∧z.2.2.length=z.1) (λz=>2 - z.1) (by rfl) (0,Zf,[]) ⟨rfl,trivial⟩
    ⟨Nat.zero_le _,Step.refl _ _,hB1312,QP _ _ _ _,rfl⟩ ?_
   rintro ⟨i,vl,ls⟩ g w13 ⟨hi,hs13',hB1313,ho13,hll⟩
   simp only[] at hi hB1313 ho13 hll
   have hz13:=hs13'.size
   refine Qg<|Qc<|Qb<|x (QB rfl rfl)<|xe ?_
   refine QD rfl (λh136=>?_) (λh136=>?_)
   ·refine Qz ?_
    exact ⟨(vl,ls),trivial,hs13',hB1313,ho13,by simp only[];omega⟩
   have hlt:i<2:=by have h137:(i:Int)<2:=h136;omega
   refine Qi ?_
   have hgeL:=Qq ho13
   have hn13v:b13∉ob vl:=QX ho13 hl13
   have hn3v:b3∉ob vl:=QX ho13 (by omega)
   have hn1v:b1∉ob vl:=QX ho13 (by omega)
   have hB313:=(hB10.ext hs1012).step hs13' n313
   have hB113:=(hB110.ext hs1012).step hs13' n113
   have hgx:∃xi:Nat,xi<256∧(YP l)[0+83+i*1]?=some (.int .u8 (xi:Int)):=by
    have h3:i=0∨i=1:=by omega
    rcases h3 with rfl | rfl
    ·exact ⟨l.x0,hx0,g83⟩
    ·exact ⟨l.x1,hx1,g84⟩
   obtain ⟨xi,hxi,hgx⟩:=hgx
   have hic:i<co.length:=by omega
   have hI13:YU (ob vl) w13.heap vc co:=by
    have h1:YU (b13::ob vl) w12.heap vc co:=((FI10 [] (by simp)).up (L':=b13::ob vl) (λb hb=>by
     rcases List.mem_cons.1 hb with rfl | hb
     ·exact .inr (by have:=hs11.size;omega)
     ·exact .inr (by have:=(hgeL b hb).1;omega))).ext hs1012
    exact (h1.st (hs13'.mono (by simp))).up (λb hb=>.inl (List.mem_cons_of_mem _ hb))
   have hqm:=List.getElem_mem hic
   refine Zc (co[i]'hic) λq hq=>?_
   rw[hq] at hqm
   have hpos:=(hgd9 q hqm).2.p
   have hd13:Step [] w13 { w13 with drawn:=w13.drawn+1 }:=Step.drew _ _
   have hmod:0≤(xi:Int) % q.p.a.st:=Int.emod_nonneg _ (by omega)
   refine Qg<|Qh<|QT (Step (ob vl) w13) [(0,true),(1,true),(2,true),(3,true),(4,true),(5,true),(6,true),(7,true),(8,true),(9,true),(10,true),(11,true),(12,true),(13,true),(14,true),(15,true),(16,true),(17,false),(18,false),(19,true),(20,false)] mixed (by rfl) (by kernel_rfl) (Step.drew _ _) ?_
   refine p (λ_=>Qa rfl)<|pq (λ_ hc=>Qd (hB1313.step hc hn13v) rfl rfl)<|p (λ_=>Qo)<|p (λ_=>Qo)<|p (λ_=>Qa rfl) <|
    p (λ_=>YM (i:=i) rfl rfl hlt)<|pq (λ_ hc=>Qd (hB113.step hc hn1v) rfl hgx)<|p (λ_=>YX (k':=.i64) rfl ⟨by omega,by omega⟩)<|p (λ_=>Qa rfl)<|pq (λ_ hc=>Qd (hB313.step hc hn3v) rfl rfl) <|
    p (λ_=>Qo)<|Go.Lg.pig (g:=Zi) (i:=i) rfl Xb hI13.arr rfl rfl hic λa150 h150=>?_
   rw[hq] at h150
   refine p (λ_=>Zd rfl)<|p (λ_=>Zd rfl)<|pq (λ_ hc=>Qw (((h150.from 1).fld 1 (.int .i64 q.p.a.st) rfl).st hc) rfl) <|
    p (λ_=>UO (a:=(xi:Int)) (b:=q.p.a.st) rfl rfl (by omega) hpos)<|p (λ_=>QN ⟨rfl,rfl,trivial⟩)<|pk<|QH (us:=[Q9 ((i:Int),(xi:Int) % q.p.a.st)]) rfl rfl (by decide) (show 1*2≤1000000 by omega) ⟨rfl,rfl,trivial⟩ λb156 w14 hs14 hb156 hB156=>?_
   have hs1314:=hd13.trans hs14
   have hz1314:=hs1314.size
   refine ⟨hs1314.any,?_⟩
   refine pk<|Q5 (news:=Q9 ((i:Int),(xi:Int) % q.p.a.st)) (L:=[]) (Qu ho13 hs1314) rfl rfl rfl (hB156.at (by simp)) (Qhv _) (by omega) (by omega) λv15 w15 ho15 hs15 hn15=>⟨(hs1314.any (L:=ob vl)).trans' hs15,?_⟩
   have hge15:∀b∈ob v15,w12.heap.size≤b:=λb hb=>(Qq ho15 b hb).1
   refine p (λ_=>Qa rfl)<|pkl (hl:=by kernel_rfl)<|QF ((hB1313.ext hs1314).step hs15 hn13v) rfl rfl (by simp) (QO ho15) λw16 hs16 hB16=>pe ?_
   refine Qx<|Qb<|x (Qy rfl rfl ⟨by omega,by omega⟩)<|Qf<|⟨(i+1,v15,ls++[((i:Int),(xi:Int) % q.p.a.st)]),by simp only[];omega,⟨rfl,trivial⟩,hlt,((hs13'.trans hs1314).then hs15 (λb hb=>.inr (hgeL b hb).1)).trans' hs16,hB16,?_,by simp[hll]⟩
   have h9:=Qm ho15 hs16 (λb hb=>by have:=hge15 b hb;simp only[List.mem_singleton];omega)
   simp only[List.length_append,List.flatMap_append]
   simpa using h9
  rintro ⟨vl,ls⟩ g13 w13 ⟨hs13',hB1313,ho13,hll⟩
  simp only[] at hB1313 ho13 hll
  have hz13:=hs13'.size
  have hs1013:Step [] w10 w13:=hs1012.then1 hs13' hb13
  have hB313:=hB10.ext hs1013
  have hB113:=hB110.ext hs1013
  have hxx:=QO ho13
  refine Qc<|x (Qa rfl)<|x (YM (i:=0) rfl rfl (by decide))<|x (Qd hB113 rfl g83)<|x (UO (a:=(l.x0:Int)) (b:=4) rfl rfl (by omega) (by omega))<|x (Q4 rfl rfl)<|xe ?_
  refine QD rfl (λh163=>?_) (λh163=>?_)
  ·refine Qi ?_
   exact ⟨(Zf,[]),trivial,hs1013.any,hB313,λL hL=>⟨Zw.nil _ _ 2,λq hq=>(by cases hq),λq hq=>(by cases hq)⟩⟩
  refine Qx<|x (Qa rfl)<|x (Qd hB313 rfl rfl)<|x (Qn hB1313 rfl rfl)<|xl rfl<|QH (us:=[Zy ⟨⟨#[120]⟩,vl,ls⟩]) rfl rfl (by decide) (show 1*2≤1000000 by omega) ⟨rfl,rfl,trivial⟩ λb167 w14 hs14 hb167 hB167=>?_
  have hz14:=hs14.size
  refine xl rfl<|Q5 (base:=w13.heap.size) (news:=Zy ⟨⟨#[120]⟩,vl,ls⟩) (L:=[]) (v:=Zf) (QP _ _ _ _) rfl rfl rfl (hB167.at (by simp)) (yf hxx) (by omega) (by omega) λv15 w15 ho15 hs15 hn15=>?_
  have hs1415:Step [] w14 w15:=hs15
  have hs1015:=(hs1013.trans hs14).trans hs1415
  refine x (Qa rfl)<|xl rfl<|QF (hB10.ext hs1015) rfl rfl (by simp) (QO ho15) λw16 hs16 hB16=>xe ?_
  refine ⟨(v15,[⟨⟨#[120]⟩,vl,ls⟩]),trivial,(hs1015.any (L:=[b3])).trans' hs16,hB16,λL hL=>?_⟩
  have hL2:∀b∈b3::L,b<w3.heap.size:=λb hb=>by
   rcases List.mem_cons.1 hb with rfl | hb
   ·exact hl3
   ·exact hL b hb
  have h1:Ux (b3::L) w15.heap v15 [⟨⟨#[120]⟩,vl,ls⟩]:=by
   refine ⟨QV (n:=1) ho15 (by omega) (λb hb hbL=>by have:=(Qq ho15 b hb).1;have:=hL2 b hbL;omega),λq hq=>?_,λq hq=>?_⟩
   ·rw[List.mem_singleton.1 hq]
    exact ((QV (L:=b3::L) ho13 (by omega) (λb hb hbL=>by have:=(Qq ho13 b hb).1;have:=hL2 b hbL;omega)).ext hs14).ext hs1415
   ·rw[List.mem_singleton.1 hq];exact Xm (by decide)
  exact (h1.st (hs16.mono (by simp))).up (λb hb=>.inl (List.mem_cons_of_mem _ hb))
 rintro ⟨vx,qx⟩ g11 w11 ⟨hs11,hB11,FX11⟩
 simp only[] at hB11 FX11
 have FE11:=Vo FE10 hl3 hs11
 have FI11:=JU FI10 hl3 hs11
 have FR11:=JU FR10 hl3 hs11
 have hs311:Step [b3] w3 w11:=hs310.trans' hs11
 have hB211:=hB23.step hs311 n23
 refine Qc<|x (Qn hB11 rfl rfl)<|xl rfl<|Ql (us:=[ve,vc,vr,vx,Zf]) hB211 rfl rfl rfl rfl ⟨(FE11 [] (by simp)).arr.one,(FI11 [] (by simp)).arr.one,(FR11 [] (by simp)).arr.one,(FX11 [] (by simp)).arr.one,rfl,trivial⟩ λw12 hs12 hB12=>xe ?_
 have hl2':b2<w3.heap.size:=by omega
 have FE12:=Vo FE11 hl2' hs12
 have FI12:=JU FI11 hl2' hs12
 have FR12:=JU FR11 hl2' hs12
 have FX12:=Qg1 FX11 hl2' hs12
 have hs012:Step [] w w12:=(hs03.then1 hs311 (by omega)).then1 hs12 (by omega)
 refine Qk ⟨[.agg [ve,vc,vr,vx,Zf].toArray],⟨⟨_,rfl,Qv rfl (hB12.at (L:=[]) (by simp)).cells⟩,trivial⟩,hs012,⟨ev,co.map IV.it,rq.map IV.it,qx.map XV.x,[]⟩,⟨⟨ve,vc,vr,vx,Zf,ev,co,rq,qx,[]⟩,rfl,rfl,λL hL=>?_⟩,?_⟩
 ·have hL3:∀b∈L,b<w3.heap.size:=λb hb=>by have:=hL b hb;have:=hs03.size;omega
  exact ⟨FE12 L hL3,FI12 L hL3,FR12 L hL3,FX12 L hL3,⟨Zw.nil _ _ 3,λq hq=>(by cases hq),λq hq=>(by cases hq)⟩⟩
 ·refine ⟨by simp only[List.length_map];omega,by simp only[List.length_map];omega,λq hq=>?_,λq hq=>?_⟩
  ·obtain ⟨q',hq',rfl⟩:=List.mem_map.1 hq
   exact (hgd9 q' hq').2
  ·obtain ⟨q',hq',rfl⟩:=List.mem_map.1 hq
   exact (hgd10 q' hq').2
end Go.Proofs.YtgmifemhkjdblaaGreatDoor
namespace Go.Lg
section
variable {P:Program} {ops:List Oper} {K:Fr→World→Prop} {f:Fr} {w:World} {d:Option Nat} {ty:Nat} {ps:String} {af:Array Edge} {gd:Option (Nat×Bool)} {l:List Oper} {t t':Nat} {x y:Operand} {k:IntKind} {a b:Int}
theorem VK (hx:ev f x=.int k a) (hy:ev f y=.int k b) (h:a=b):(execOp (ev f) ⟨d,.binOp .eql t x y t',ty,ps,af,gd⟩).run P w=.ok (.value (.bool true)) w:=by
 rw[Zn hx hy,decide_eq_true h]
theorem QeL (hx:ev f x=.int k a) (hy:ev f y=.int k b) (h:a=b):(execOp (ev f) ⟨d,.binOp .neq t x y t',ty,ps,af,gd⟩).run P w=.ok (.value (.bool false)) w:=by
 rw[Q4 hx hy,decide_eq_false (λe=>e h)]
end
end Go.Lg
namespace Go.Proofs.YtgmifemhkjdblaaGreatDoor
open Go.Lg
structure LwV where
 ns:LN
 ct:Nat
 ad:Option Addr
 n:Nat
 cp:Nat
 x0:Nat
 x1:Nat
 cl:Nat
abbrev Jp (l:LwV):LV:=bys l.ns++[.int .u8 (l.ct:Int),.slice l.ad l.n l.cp,.int .u8 (l.x0:Int),.int .u8 (l.x1:Int),.int .u8 (l.cl:Int)]
structure LwA (w:World) (l:LwV):Prop where
 n:l.ns.length=81
 b:∀n∈l.ns,n<256
 ct:l.ct<256
 x0:l.x0<256
 x1:l.x1<256
 cl:l.cl<256
 r:l.n≤3→∃rs:List PtV,rs.length=l.n∧Zw [] w.heap (.slice l.ad l.n l.cp) l.n 28 (rs.flatMap Ye)
def LwV.ln (l:LwV) (rs:List PtV):LnV:=⟨l.ns,l.ct,.slice l.ad l.n l.cp,rs,l.x0,l.x1,l.cl⟩
theorem LwA.ln {w w':World}{l:LwV}(h:LwA w l) (hs:Step [] w w') (hn:l.n≤3):∃rs,LnA [] w'.heap (l.ln rs):=by
 obtain ⟨rs,h1,h2⟩:=h.r hn
 exact ⟨rs,h.n,h.b,h.ct,h.x0,h.x1,h.cl,by show Zw _ _ _ rs.length 28 _;rw[h1];exact h2.ext hs⟩
theorem Qk0 {l:LwV}(h:l.ns.length=81):(Jp l)[82]?=some (.slice l.ad l.n l.cp):=by
 show (Jp l)[81+1]?=_
 rw[Jp,List.getElem?_append_right (by rw[Yq];omega),Yq,h,Nat.add_sub_cancel_left];rfl
open Go.Proofs.Tryz
abbrev Xu:LV:=[nS,.int .i64 0,nS,nS]
theorem KY {w:World}{vl:Value}{ps:List AV}(h:YG [] w.heap vl ps) (ho:∀p∈ps,Q2 p.a) (hkb:Kb w 4096) :
  QG prog 67 [vl] w λr w'=>Step [] w w'∧∃va,r=.tuple #[va,.int .i64 (XG (ps.map (·.a)))]∧(XG (ps.map (·.a))≠0→va=zA)∧(XG (ps.map (·.a))=0→YV w.heap.size w'.heap va (syA (ps.map (·.a)))):=by
 refine QG.of_W func67 rfl ntmps67 results67 (by simp) ?_
 refine Qc<|xl rfl<|Qr (us:=Xu) rfl λb2 w1 hs1 hb2 hB2=>Qf<|Qc<|Qb<|xl rfl<|xf<|(VA (km:=4096) (h.ext hs1) (hkb.ext hs1) (by decide) (Ur ho)).mono ?_
 rintro r2 w2 ⟨hs2,vA,vt,c,rfl,hR⟩
 have hc:=hR.e
 have hg:=hR.good
 have hb:=hR.bad
 obtain ⟨a,xa,xm,xe',qs,rfl,hones,hvt1,_⟩:=hR.shape
 have hz1:=hs1.size
 have hz2:=hs2.size
 have hl2:=hB2.lt
 refine Qb<|x (Qj rfl rfl)<|x (Qj rfl rfl)<|x (Qj rfl rfl)<|xl rfl<|Qr (us:=Xu) rfl λb4 w3 hs3 hb4 hB4=>xl rfl<|Ql (us:=[xa,.int .i64 a.st,xm,xe']) hB4 rfl rfl rfl rfl hones λw4 hs4 hB44 =>
  x Qe<|Qf ?_
 have hs24:Step [] w2 w4:=hs3.then1 hs4 hb4
 have hs14:=hs2.trans hs24
 refine Qc<|x (Qn hB44 rfl rfl)<|Qb<|xl rfl<|Ql (us:=[xa,.int .i64 a.st,xm,xe']) (hB2.ext hs14) rfl rfl rfl rfl hones λw5 hs5 hB25=>Qf<|Qk ⟨[.agg [xa,.int .i64 a.st,xm,xe'].toArray,.int .i64 c],⟨⟨_,rfl,Qv rfl (hB25.at (L:=[]) (by simp)).cells⟩,rfl,trivial⟩,(hs1.trans hs14).then1 hs5 hb2,.agg #[xa,.int .i64 a.st,xm,xe'],?_,λh0=>?_,λh0=>?_⟩
 ·show Value.tuple _=Value.tuple _
  rw[hc]
 ·exact (hb (by rw[hc];exact h0)).1
 ·have h1:=(hg (by rw[hc];exact h0)).1
  exact (Z4 (h1.ext hs24) hl2 hs5).mono hz1
theorem Uc {w:World}{c:CL}(h:ZH [] w.heap c) (hkb:Kb w 4096) :
  QG prog 21 [c.val] w λr w'=>Step [] w w'∧∃va,r=.tuple #[va,.int .i64 (Y9 c.cel)]∧(Y9 c.cel≠0→va=zA)∧(Y9 c.cel=0→YV w.heap.size w'.heap va (YI c.cel)):=by
 have htg:=Qea c.cel
 refine QG.of_W func21 rfl ntmps21 results21 (by simp) ?_
 refine Qc<|xl rfl<|QQ (us:=c.cells) rfl λb1 w1 hs1 hb1 hB1=>xl rfl<|Qr (us:=Xu) rfl λb2 w2 hs2 hb2 hB2=>Qf ?_
 have hs02:=hs1.trans hs2
 have hz02:=hs02.size
 have hz1:=hs1.size
 have hl2:=hB2.lt
 refine Qc<|x (Qn (hB1.ext hs2) rfl rfl)<|xl rfl<|xf<|(J0 (h.ext hs02) (hkb.ext hs02)).mono ?_
 rintro r3 w3 ⟨hs3,vl,rfl,hbad,hgood⟩
 refine Qb<|x (Qj rfl rfl)<|x (Qj rfl rfl)<|x Qe<|Qf ?_
 have hs03:=hs02.trans hs3
 have hz3:=hs3.size
 refine Qg<|Qc<|Qb<|x (Q4 rfl rfl)<|xe ?_
 refine Q3 rfl (λh12=>?_) (λh12=>?_)
 ·rw[if_pos h12] at htg
  refine Qc<|x (QN trivial)<|Qb<|xl rfl<|Ql (us:=Xu) (hB2.ext hs3) rfl rfl rfl rfl ⟨rfl,rfl,rfl,rfl,trivial⟩ λw4 hs4 hB24=>Qf<|Qk ⟨[.agg Xu.toArray,.int .i64 (K5 c.cel)],⟨⟨_,rfl,Qv rfl (hB24.at (L:=[]) (by simp)).cells⟩,rfl,trivial⟩,hs03.then1 hs4 (by omega),zA,?_,λ_=>rfl,λh0=>absurd h0 (by rw[htg];exact h12)⟩
  show Value.tuple _=Value.tuple _
  rw[htg];rfl
 rw[if_neg h12] at htg
 have hsv:=Decidable.not_not.1 h12
 obtain ⟨hv1,ps,hps,hpA⟩:=hgood hsv
 have hok:∀p∈ps,Q2 p.a:=λp hp=>UB hsv p.a (by rw[←hps];exact List.mem_map_of_mem hp)
 have hC:=KY (hpA [] (by simp)) hok (hkb.ext hs03)
 rw[hps,←htg] at hC
 refine Qi<|Qc<|Qb<|xl rfl<|xf<|hC.mono ?_
 rintro r5 w5 ⟨hs5,va,rfl,hb5,hg5⟩
 have hus:∃us,va=.agg us.toArray∧us.length=4∧ZD us:=by
  by_cases h0:Y9 c.cel=0
  ·exact YH (hg5 h0)
  ·exact ⟨Xu,hb5 h0,rfl,rfl,rfl,rfl,rfl,trivial⟩
 obtain ⟨us,hva,husl,huso⟩:=hus
 refine x (Qj rfl rfl)<|x (Qj rfl rfl)<|xl rfl<|Ql (us:=us) (hB2.ext (hs3.trans hs5)) rfl (show Go.Lg.ev _ _=_ from hva) husl rfl huso λw6 hs6 hB26=>Qf<|Qk ⟨[.agg us.toArray,.int .i64 (Y9 c.cel)],⟨⟨_,rfl,Qv husl (hB26.at (L:=[]) (by simp)).cells⟩,rfl,trivial⟩,(hs03.trans hs5).then1 hs6 (by omega),va,?_,hb5,λh0=>?_⟩
 ·show Value.tuple _=Value.tuple _
  rw[hva]
 ·exact (Z4 (hg5 h0) (by omega) hs6).mono (by omega)
end Go.Proofs.YtgmifemhkjdblaaGreatDoor
namespace Go.Lg
section
variable {P:Program} {ops:List Oper} {K:Fr→World→Prop} {f:Fr} {w:World} {d:Option Nat} {ty:Nat} {ps:String} {af:Array Edge} {gd:Option (Nat×Bool)} {t t':Nat} {x y:Operand} {k:IntKind} {a b:Int}
end
end Go.Lg
namespace Go.Proofs.YtgmifemhkjdblaaGreatDoor
open Go.Lg
section
variable {aa:List QM} {P:LI→Prop} {B:Nat}
structure SyB (P:LI→Prop) (s:Sy):Prop where
 nd:s.tup.Nodup
 p:∀t∈s.tup,P t
theorem Qjl (hB:B≤4096) (hcnt:∀l:List (LI),l.Nodup→(∀t∈l,P t)→l.length≤B) {i:Nat}{t:LI}{v:Int}{z:Sy}(hz:SyB P z) (hst:∀u,Zu v aa t=some u→P u) :
  ∃z',syE aa i t z v=some z'∧SyB P z':=by
 unfold syE
 cases hs:Zu v aa t with
 | none=>exact ⟨z,rfl,hz⟩
 | some u =>
  simp only[]
  by_cases hu:u∈z.tup
  ·rw[if_pos hu];exact ⟨_,rfl,hz.nd,hz.p⟩
  ·have hnd:(z.tup++[u]).Nodup:=Jn hz.nd hu
   have hp:∀t∈z.tup++[u],P t:=λt ht=>by
    rcases List.mem_append.1 ht with ht | ht
    ·exact hz.p t ht
    ·rw[List.mem_singleton.1 ht];exact hst u hs
   have hc:=hcnt _ hnd hp
   rw[List.length_append,List.length_singleton] at hc
   rw[if_neg hu,if_neg (by omega)]
   exact ⟨_,rfl,hnd,hp⟩
theorem Qb3 (hB:B≤4096) (hcnt:∀l:List (LI),l.Nodup→(∀t∈l,P t)→l.length≤B) {i:Nat}{t:LI}:∀(vs:LI) (z:Sy),SyB P z→(∀v∈vs,∀u,Zu v aa t=some u→P u)→∃z',KH aa i t vs z=some z'∧SyB P z'
 | [],z,hz,_=>⟨z,rfl,hz⟩
 | v::vs,z,hz,hst=>by
  obtain ⟨s1,h1,h2⟩:=Qjl (i:=i) hB hcnt hz (hst v List.mem_cons_self)
  obtain ⟨s2,h3,h4⟩:=Qb3 hB hcnt vs s1 h2 (λw hw=>hst w (List.mem_cons_of_mem _ hw))
  exact ⟨s2,by rw[KH,h1];exact h3,h4⟩
theorem Qed (hB:B≤4096) (hcnt:∀l:List (LI),l.Nodup→(∀t∈l,P t)→l.length≤B) (hst:∀t,P t→∀v∈evs aa,∀u,Zu v aa t=some u→P u):∀(f i:Nat) (z:Sy),SyB P z→∃z',jr aa f i z=some z'
 | 0,_,z,_=>⟨z,rfl⟩
 | f+1,i,z,hz=>by
  rw[jr]
  split
  ·rename_i hi
   have hv:P (V3 z i):=hz.p _ (by unfold V3;simp[List.getD,hi])
   have hmk:(ZA aa i (V3 z i) z).tup=z.tup:=by unfold ZA;split <;> rfl
   obtain ⟨s1,h1,h2⟩:=Qb3 (i:=i) hB hcnt (evs aa) (ZA aa i (V3 z i) z) ⟨by rw[hmk];exact hz.nd,by rw[hmk];exact hz.p⟩ (hst _ hv)
   obtain ⟨s2,h3⟩:=Qed hB hcnt hst f (i+1) s1 h2
   exact ⟨s2,by rw[h1];exact h3⟩
  ·exact ⟨z,rfl⟩
theorem Qg3 (hB:B≤4096) (hcnt:∀l:List (LI),l.Nodup→(∀t∈l,P t)→l.length≤B) (h0:(∀a∈aa,a.st≠0)→P (List.replicate aa.length 0)) (hst:∀t,P t→∀v∈evs aa,∀u,Zu v aa t=some u→P u) :
  ∃z,sync aa=some z:=by
 unfold sync
 split
 ·exact ⟨_,rfl⟩
 ·rename_i hz
  have h1:P (List.replicate aa.length 0):=h0 (λa ha e=>hz ⟨a,ha,e⟩)
  obtain ⟨z,h2⟩:=Qed hB hcnt hst 4096 0 (Ue aa) ⟨by simp[Ue],λt ht=>by simp[Ue] at ht;subst ht;exact h1⟩
  exact ⟨_,by rw[h2];rfl⟩
end
theorem qu {o:LI}{i j:Nat}{v:Int}(h:i<o.length):cget (o.set i v) j=if j=i then v else cget o j:=by
 by_cases e:j=i
 ·rw[if_pos e,e];unfold cget;simp[List.getD,h]
 ·rw[if_neg e];unfold cget;simp[List.getD,List.getElem?_set_ne (Ne.symm e)]
theorem Qfy {es:List Ed}{e:Ed}{s:Nat}(he:e∈es) (h:e.2.2=(s:Int)):e.1∈Zz es s:=by
 unfold Zz
 exact List.mem_map.2 ⟨e,List.mem_filter.2 ⟨he,decide_eq_true h⟩,rfl⟩
structure BwF (n:Nat) (s:Int) (ps:LI) (z z':LI×LI):Prop where
 ok:qQ n z'.1 z'.2
 cnt:neg z'.1+z'.2.length=neg z.1+z.2.length
 s0:QaN z'.1 z'.2
 ss:0≤cget z'.1 s.toNat
 a:∀p∈ps,0≤cget z'.1 p.toNat
 m:∀i,0≤cget z.1 i→0≤cget z'.1 i
 c:∀i:Nat,0≤cget z'.1 i→0≤cget z.1 i∨(i:Int)∈z'.2
 q:∀x∈z.2,x∈z'.2
theorem Qlh {n:Nat}{s p:Int}{z:LI×LI}(h:qQ n z.1 z.2) (hss:0≤cget z.1 s.toNat) (hp:0≤p∧p<(n:Int)) :
  0≤cget (KZ s z p).1 p.toNat∧(∀i,0≤cget z.1 i→0≤cget (KZ s z p).1 i)∧(∀i:Nat,0≤cget (KZ s z p).1 i→0≤cget z.1 i∨(i:Int)∈(KZ s z p).2)∧∀x∈z.2,x∈(KZ s z p).2:=by
 have hpl:p.toNat<z.1.length:=by have:=h.len;omega
 unfold KZ
 by_cases hc:cget z.1 p.toNat<0
 ·rw[if_pos hc]
  refine ⟨?_,λi hi=>?_,λi hi=>?_,λx hx=>List.mem_append_left _ hx⟩
  ·show 0≤cget (z.1.set p.toNat _) p.toNat
   rw[qu hpl,if_pos rfl];omega
  ·show 0≤cget (z.1.set p.toNat _) i
   rw[qu hpl];split <;> omega
  ·have hi':0≤cget (z.1.set p.toNat (cget z.1 s.toNat+1)) i:=hi
   rw[qu hpl] at hi'
   by_cases e:i=p.toNat
   ·refine .inr (List.mem_append_right _ ?_)
    rw[List.mem_singleton];omega
   ·rw[if_neg e] at hi';exact .inl hi'
 ·rw[if_neg hc]
  exact ⟨by omega,λi h=>h,λi h=>.inl h,λx h=>h⟩
theorem bwF {n:Nat}{s:Int}(hs:0≤s∧s<(n:Int)):∀(ps:LI) (z:LI×LI),qQ n z.1 z.2→QaN z.1 z.2→0≤cget z.1 s.toNat→(∀p∈ps,0≤p∧p<(n:Int))→BwF n s ps z (ps.foldl (KZ s) z)
 | [],z,h,h0,hss,_=>⟨h,rfl,h0,hss,(λp hp=>(by cases hp)),λi h=>h,λi h=>.inl h,λx h=>h⟩
 | p::ps,z,h,h0,hss,hps=>by
  have hp:=hps p List.mem_cons_self
  have h1:=QbG h hs hss hp
  have h2:=qA h hss hp h0
  have h3:=Qlh h hss hp
  have ih:=bwF hs ps (KZ s z p) h1.1 h2 h1.2.2 (λq hq=>hps q (List.mem_cons_of_mem _ hq))
  refine ⟨ih.ok,ih.cnt.trans h1.2.1,ih.s0,ih.ss,λq hq=>?_,λi hi=>ih.m i (h3.2.1 i hi),λi hi=>?_,λx hx=>ih.q x (h3.2.2.2 x hx)⟩
  ·rcases List.mem_cons.1 hq with rfl | hq
   ·exact ih.m _ h3.1
   ·exact ih.a q hq
  ·rcases ih.c i hi with h4 | h4
   ·rcases h3.2.2.1 i h4 with h5 | h5
    ·exact .inl h5
    ·exact .inr (ih.q _ h5)
   ·exact .inr h4
theorem QcV {n:Nat}{es:List Ed}(hes:∀e∈es,0≤e.1∧e.1<(n:Int)∧0≤e.2.2∧e.2.2<(n:Int)):∀(f:Nat) (o q:LI),qQ n o q→QaN o q→neg o+q.length≤f→(∀e∈es,0≤cget o e.2.2.toNat→0≤cget o e.1.toNat∨e.2.2∈q) →
  (∀e∈es,0≤cget (bwL es f o q) e.2.2.toNat→0≤cget (bwL es f o q) e.1.toNat)∧∀i,0≤cget o i→0≤cget (bwL es f o q) i
 | 0,o,q,_,_,hf,hcl=>by
  have hq:q=[]:=List.eq_nil_of_length_eq_zero (by omega)
  subst hq
  exact ⟨λe he h=>(hcl e he h).resolve_right (by simp),λi h=>h⟩
 | f+1,o,[],_,_,_,hcl=>⟨λe he h=>(hcl e he h).resolve_right (by simp),λi h=>h⟩
 | f+1,o,s::q,hok,h0,hf,hcl=>by
  have hs:=hok.q s List.mem_cons_self
  have hF:=bwF hs (Zz es s.toNat) (o,q) ⟨hok.len,λx hx=>hok.q x (List.mem_cons_of_mem _ hx),hok.le⟩ (λx hx=>h0 x (List.mem_cons_of_mem _ hx)) (h0 s List.mem_cons_self) (λp hp=>by
   obtain ⟨e,he,h1,_⟩:=Jc hp
   have:=hes e he;omega)
  have hc:=hF.cnt
  simp only[List.length_cons] at hf hc
  have ih:=QcV hes f _ _ hF.ok hF.s0 (by omega) (λe he hx=>?_)
  ·rw[bwL]
   exact ⟨ih.1,λi hi=>ih.2 i (hF.m i hi)⟩
  ·have hee:=hes e he
   by_cases e1:e.2.2=s
   ·exact .inl (hF.a _ (Qfy he (by rw[e1];omega)))
   ·rcases hF.c _ hx with h1 | h1
    ·rcases hcl e he h1 with h2 | h2
     ·exact .inl (hF.m _ h2)
     ·rcases List.mem_cons.1 h2 with h3 | h3
      ·exact absurd h3 e1
      ·exact .inr (hF.q _ h3)
    ·rw[show ((e.2.2.toNat:Nat):Int)=e.2.2 by omega] at h1
     exact .inr h1
theorem QiC {a:QM}(ho:Q2 a) {n:Nat}(hn:a.st=(n:Int)):(∀e∈a.ed,0≤cget (bwd n a.ed a.mr) e.2.2.toNat→0≤cget (bwd n a.ed a.mr) e.1.toNat)∧∀x∈a.mr,0≤cget (bwd n a.ed a.mr) x.toNat:=by
 have hb:∀x∈a.mr,0≤x∧x<(n:Int):=λx hx=>by have:=ho.mr x hx;omega
 have hng:=yE (Kk n a.mr)
 rw[YS] at hng
 have h:=QcV (es:=a.ed) (λe he=>by have:=ho.ed e he;omega) (n+a.mr.length) (Kk n a.mr) a.mr (QbH hb) (λx hx=>by rw[Uw (hb x hx) hx];exact Int.le_refl _) (by omega) (λe he hx=>.inr ?_)
 ·exact ⟨h.1,λx hx=>h.2 _ (by rw[Uw (hb x hx) hx];exact Int.le_refl _)⟩
 ·have hee:=ho.ed e he
  have hl:e.2.2.toNat<(Kk n a.mr).length:=by rw[YS];omega
  rw[←Zg hl] at hx
  have e1:((e.2.2.toNat:Nat):Int)=e.2.2:=by omega
  simp only[Kk,List.getElem_map,List.getElem_range,e1] at hx
  split at hx
  ·assumption
  ·omega
theorem jK {a:QM}{ul:LI}:∀(f:Nat) (lf:Lf),Ks lf<f→(nxs a ul (Ui a ul f lf)).length=0
 | 0,_,h=>by omega
 | f+1,lf,h=>by
  by_cases h1:(nxs a ul lf).length=0
  ·rw[Ui,if_pos h1];exact h1
  ·rw[zt h1]
   have:=jR h1
   exact jK f _ (by omega)
theorem QeF (a:QM) (ul:LI):(nxs a ul (QeG a [] ul)).length=0:=by
 refine jK _ _ ?_
 have h:=QcO (lf0 a.st.toNat [])
 have:(lf0 a.st.toNat []).length=a.st.toNat:=by simp[lf0]
 omega
theorem QcX {lf:Lf}:∀(l:LI) (i k:Nat),k<l.length→lf.getD (i+k) false=true→cget l k<0→((i+k:Nat):Int)∈Ju lf i l
 | [],_,k,h,_,_=>by simp at h
 | d::l,i,0,_,h1,h2=>by
  have h3:d<0:=h2
  rw[Ju,if_pos ⟨by simpa using h1,h3⟩]
  simp
 | d::l,i,k+1,h,h1,h2=>by
  have h3:=QcX l (i+1) k (by simpa using h) (by rw[show i+1+k=i+(k+1) by omega];exact h1) h2
  rw[show i+1+k=i+(k+1) by omega] at h3
  rw[Ju]
  split
  ·exact List.mem_cons_of_mem _ h3
  ·exact h3
structure DsQ (a:QM) (lf:Lf) (z:LI×LI):Prop where
 q:∀k,(h:k<z.2.length)→lft lf (z.2[k]'h)=true∧(z.2[k]'h∈a.mr∨∃j,∃hj:j<z.2.length,j<k∧∃v,(z.2[k]'h,v,z.2[j]'hj)∈a.ed)
 r:∀i:Nat,0≤cget z.1 i→i<z.1.length→(i:Int)∈z.2
theorem DsQ.add {a:QM}{lf:Lf}{z:LI×LI}{x y:Int}{i:Nat}(h:DsQ a lf z) (hi:i<z.2.length) (hx:z.2[i]'hi=x) (hy:0≤y) (he:∃v,(y,v,x)∈a.ed) :
  DsQ a lf (Uk lf x z y)∧∃hi':i<(Uk lf x z y).2.length,(Uk lf x z y).2[i]'hi'=x:=by
 unfold Uk
 by_cases hc:lft lf y=true∧cget z.1 y.toNat<0
 ·rw[if_pos hc]
  refine ⟨⟨λk hk=>?_,λj hj hjl=>?_⟩,by simp;omega,by simp only[];rw[List.getElem_append_left hi];exact hx⟩
  ·simp only[List.length_append,List.length_singleton] at hk
   by_cases e:k=z.2.length
   ·subst e
    simp only[List.getElem_append_right (Nat.le_refl _),Nat.sub_self,List.getElem_cons_zero]
    refine ⟨hc.1,.inr ⟨i,by simp;omega,hi,?_⟩⟩
    obtain ⟨v,hv⟩:=he
    exact ⟨v,by rw[List.getElem_append_left hi,hx];exact hv⟩
   ·have hk2:k<z.2.length:=by omega
    simp only[List.getElem_append_left hk2]
    obtain ⟨h1,h2⟩:=h.q k hk2
    refine ⟨h1,h2.imp id ?_⟩
    rintro ⟨j,hj,hjk,v,hv⟩
    exact ⟨j,by simp;omega,hjk,v,by rw[List.getElem_append_left hj];exact hv⟩
  ·simp only[List.length_set] at hjl
   by_cases e:j=y.toNat
   ·refine List.mem_append_right _ ?_
    rw[List.mem_singleton];omega
   ·refine List.mem_append_left _ (h.r j ?_ hjl)
    have hj':0≤cget (z.1.set y.toNat (cget z.1 x.toNat+1)) j:=hj
    unfold cget at hj' ⊢
    rw[List.getD_eq_getElem?_getD,List.getElem?_set_ne (Ne.symm e),←List.getD_eq_getElem?_getD] at hj'
    exact hj'
 ·rw[if_neg hc];exact ⟨h,hi,hx⟩
theorem DsQ.adds {a:QM}{lf:Lf}{x:Int}{i:Nat}:∀(ys:LI) (z:LI×LI),DsQ a lf z→(hi:i<z.2.length)→z.2[i]'hi=x→(∀y∈ys,0≤y∧∃v,(y,v,x)∈a.ed)→DsQ a lf (ys.foldl (Uk lf x) z)
 | [],_,h,_,_,_=>h
 | y::ys,z,h,hi,hx,hy=>by
  have h1:=h.add hi hx (hy y List.mem_cons_self).1 (hy y List.mem_cons_self).2
  obtain ⟨h2,hi',hx'⟩:=h1
  exact DsQ.adds ys _ h2 hi' hx' (λq hq=>hy q (List.mem_cons_of_mem _ hq))
theorem Qi9 {a:QM}(ho:Q2 a) {lf:Lf}:∀(f i:Nat) (z:LI×LI),DsQ a lf z→(∀x∈z.2,0≤x)→DsQ a lf (dsL a.ed lf f i z)
 | 0,_,z,h,_=>h
 | f+1,i,z,h,h0=>by
  rw[dsL]
  split
  ·rename_i hi
   have hx:z.2[i]'hi=cget z.2 i:=Zg hi
   have hx0:=h0 _ (List.getElem_mem hi)
   rw[hx] at hx0
   refine Qi9 ho f (i+1) _ (h.adds (i:=i) _ _ hi hx (λy hy=>?_)) (λx hx2=>?_)
   ·obtain ⟨e,he,h1,h2⟩:=Jc hy
    have hee:=ho.ed e he
    rw[show (((cget z.2 i).toNat:Nat):Int)=cget z.2 i by omega] at h2
    exact ⟨by omega,e.2.1,by rw[←h1,←h2];exact he⟩
   ·have key:∀(ys:LI) (z:LI×LI),(∀y∈ys,0≤y)→(∀x∈z.2,0≤x)→∀x∈(ys.foldl (Uk lf (cget z.2 i)) z).2,0≤x:=by
     intro ys z
     generalize cget z.2 i=x0
     intro hy hz
     have k2:∀(ys:LI) (z:LI×LI),(∀y∈ys,0≤y)→(∀x∈z.2,0≤x)→∀x∈(ys.foldl (Uk lf x0) z).2,0≤x:=by
      intro ys
      induction ys with
      | nil=>intro z _ hz;exact hz
      | cons y ys ih =>
       intro z hy hz
       rw[List.foldl_cons]
       refine ih _ (λq hq=>hy q (List.mem_cons_of_mem _ hq)) (λx hx=>?_)
       unfold Uk at hx
       split at hx
       ·rcases List.mem_append.1 hx with hx | hx
        ·exact hz x hx
        ·rw[List.mem_singleton.1 hx];exact hy y List.mem_cons_self
       ·exact hz x hx
     exact k2 ys z hy hz
    exact key _ z (λy hy=>by
     obtain ⟨e,he,h1,_⟩:=Jc hy
     have:=(ho.ed e he).1;omega) h0 x hx2
  ·exact h
theorem Qk9 {a:QM}(ho:Q2 a) (lf:Lf):DsQ a lf (ds0 a lf)∧∀x∈(ds0 a lf).2,0≤x:=by
 rw[Qbv (λx hx=>(ho.mr x hx).1)]
 refine ⟨⟨λk hk=>?_,λi hi hil=>?_⟩,λx hx=>(ho.mr x (List.mem_filter.1 hx).1).1⟩
 ·have:=List.mem_filter.1 (List.getElem_mem hk)
  exact ⟨this.2,.inl this.1⟩
 ·simp only[] at hi hil
  rw[←Zg hil] at hi
  rw[YS] at hil
  simp only[Kk,List.getElem_map,List.getElem_range] at hi
  split at hi
  ·assumption
  ·omega
theorem Vj {ord:LI}{x:Int}(h:x∈ord):Zq ord ((ord.idxOf x:Nat):Int)=x:=by
 have hl:=List.idxOf_lt_length_of_mem h
 unfold Zq
 simp[List.getD,hl]
section
variable {A:QM} {lf:Lf} {ord:LI}
def PrT (lf:Lf) (ord:LI) (t:LI):Prop:=∃j:Nat,j<ord.length∧t=[Zq ord j,(j:Int)]∧lft lf (Zq ord j)=true
theorem zq (ho:Q2 A) {s v p:Int}(h:(s,v,p)∈A.ed):eget (rstr A lf).ed s v=if lft lf p=true then some p else none:=by
 by_cases hl:lft lf p=true
 ·rw[if_pos hl]
  exact Ki (J8 ho lf).edi (List.mem_filter.2 ⟨h,hl⟩)
 ·rw[if_neg hl]
  refine Jf λe he hk=>hl ?_
  have h1:=List.mem_filter.1 he
  have h2:=Ki ho.edi h
  have h3:eget A.ed e.1 e.2.1=some e.2.2:=Ki ho.edi (s:=e.1) (v:=e.2.1) (t:=e.2.2) h1.1
  rw[hk.1,hk.2,h2] at h3
  rw[Option.some.inj h3];exact h1.2
theorem Qb7 (ho:Q2 A) (hc:CnP (rstr A lf) ord) {j:Nat}(hj:j<ord.length) {v p:Int}(h:(Zq ord j,v,p)∈A.ed) (hl:lft lf p=true) :
  Zu v [A,YL (rstr A lf)] [Zq ord j,(j:Int)]=some [p,((ord.idxOf p:Nat):Int)]∧p∈ord:=by
 have hv:v∈A.al:=(ho.ed _ h).2.2.1
 have hB:v∈(YL (rstr A lf)).al:=by rw[hc.al];exact hv
 have h1:=hc.step hj v
 rw[zq ho h,if_pos hl] at h1
 refine ⟨Qg8 hv (Ki ho.edi h) hB h1,?_⟩
 refine hc.cl j hj (Zq ord j,v,p) ?_
 unfold ZF
 exact List.mem_filter.2 ⟨List.mem_filter.2 ⟨h,hl⟩,decide_eq_true rfl⟩
theorem Qjo (ho:Q2 A) (hc:CnP (rstr A lf) ord) {j:Nat}(hj:j<ord.length) {v:Int}(hv:v∈A.al) {u:LI}(hu:Zu v [A,YL (rstr A lf)] [Zq ord j,(j:Int)]=some u):PrT lf ord u:=by
 have hB:v∈(YL (rstr A lf)).al:=by rw[hc.al];exact hv
 cases hg:eget A.ed (Zq ord j) v with
 | none=>rw[Qha hv hg] at hu;cases hu
 | some p =>
  have hm:=Vp hg
  by_cases hl:lft lf p=true
  ·have h1:=Qb7 ho hc hj hm hl
   rw[h1.1] at hu
   cases hu
   exact ⟨ord.idxOf p,List.idxOf_lt_length_of_mem h1.2,by rw[Vj h1.2],by rw[Vj h1.2];exact hl⟩
  ·have h1:=hc.step hj v
   rw[zq ho hm,if_neg hl] at h1
   rw[Qg9 hv hg hB h1] at hu
   cases hu
end
theorem QbZ {aa:List QM}{C:QM}{Q:List (LI)}(hs:SyP aa C Q) (hO:Q2 C) (hpar:Par Q.length C.ed) {P:LI→Prop}(h0:0<Q.length→P (List.replicate aa.length 0)) (hst:∀t,P t→∀v∈evs aa,∀u,Zu v aa t=some u→P u) :
  ∀(n j:Nat),j<n→j<Q.length→P (Q.getD j [])
 | 0,j,h,_=>by omega
 | n+1,j,h,hj=>by
  by_cases hj0:j=0
  ·subst hj0;rw[hs.hd hj];exact h0 hj
  ·obtain ⟨e,he,e2,e1⟩:=hpar j (by omega) hj
   have hee:=hO.ed e he
   have hi:e.1.toNat<Q.length:=by omega
   have ih:=QbZ hs hO hpar h0 hst n e.1.toNat (by omega) hi
   have hg:eget C.ed e.1 e.2.1=some e.2.2:=Ki hO.edi (s:=e.1) (v:=e.2.1) (t:=e.2.2) he
   have hst':=hs.step hi e.2.1
   rw[show ((e.1.toNat:Nat):Int)=e.1 by omega,hg,e2] at hst'
   by_cases hv:e.2.1∈evs aa
   ·rw[if_pos hv] at hst'
    cases hu:Zu e.2.1 aa (Q.getD e.1.toNat []) with
    | none=>rw[hu] at hst';cases hst'
    | some u =>
     rw[hu] at hst'
     have h2:(j:Int)=(Q.idxOf u:Int):=Option.some.inj hst'
     have h3:=(hs.to hi hv hu).2
     rw[show Q.idxOf u=j by omega] at h3
     rw[h3]
     exact hst _ ih _ hv u hu
   ·rw[if_neg hv] at hst';cases hst'
theorem Qhz {a:QM}{ul:LI}{lf:Lf}(h:(nxs a ul lf).length=0):(Ju lf 0 (dsts a lf)).length=0:=by
 unfold nxs at h
 by_cases h1:(lost a ul lf).length≠0
 ·rw[if_pos h1,List.length_map] at h;exact absurd h h1
 ·rw[if_neg h1] at h;exact h
theorem Qiw {A:QM}(ho:Q2 A) (ul:LI):∃C Q,sync [A,JG A [] ul]=some (C,Q)∧JB [A,JG A [] ul]=0∧Q2 C∧((cor C).length:Int)=C.st:=by
 have hfix:=Qhz (QeF A ul)
 have hsyn:JG A [] ul=JH A (QeG A [] ul):=rfl
 rw[hsyn]
 generalize hlf:QeG A [] ul=lf at *
 have hOB:Q2 (JH A lf):=VG ho lf
 have ho2:∀a∈[A,JH A lf],Q2 a:=λa ha=>by
  simp only[List.mem_cons,List.not_mem_nil,or_false] at ha
  rcases ha with rfl | rfl
  ·exact ho
  ·exact hOB
 have hck:JB [A,JH A lf]=0:=by
  unfold JB
  rw[if_neg (by simp)]
  exact (Vv _).2 ho2
 by_cases hz:A.st=0∨lft lf 0=false
 ·have hB:JH A lf=⟨A.al,0,[],[]⟩:=by unfold JH;rw[if_pos hz]
  have hs:sync [A,JH A lf]=some (⟨evs [A,JH A lf],0,[],[]⟩,[]):=by
   unfold sync
   rw[if_pos ⟨JH A lf,by simp,by rw[hB]⟩]
  exact ⟨_,_,hs,hck,(Xk ho2 hs).1.okay ho2,rfl⟩
 have hz1:A.st≠0:=λe=>hz (.inl e)
 have hz2:lft lf 0=true:=by
  cases h:lft lf 0 with
  | true=>rfl
  | false=>exact absurd (.inr h) hz
 have hB:JH A lf=YL (rstr A lf):=by unfold JH;rw[if_neg hz]
 rw[hB] at ho2 hck ⊢
 have hOR:=J8 ho lf
 have st0:=ho.st0
 have hR0:0<(rstr A lf).st:=by show 0<A.st;omega
 obtain ⟨ord,hc⟩:=zY hOR hR0
 have hst1:=ho.st1
 have hol:ord.length≤4096:=pig 4096 ord hc.nd (λx hx=>by have:=hc.bd x hx;have h2:x<A.st:=this.2;omega)
 have hev:∀v∈evs [A,YL (rstr A lf)],v∈A.al:=λv hv=>by
  obtain ⟨a,ha,hx⟩:=(Uu ho2 v).1 hv
  simp only[List.mem_cons,List.not_mem_nil,or_false] at ha
  rcases ha with rfl | rfl
  ·exact hx
  ·rw[hc.al] at hx;exact hx
 have hp0:PrT lf ord (List.replicate [A,YL (rstr A lf)].length 0):=⟨0,hc.hd.2,by
  have h1:=hc.hd.1
  show [0,0]=[Zq ord ((0:Nat):Int),((0:Nat):Int)]
  rw[show Zq ord ((0:Nat):Int)=0 from h1];rfl,by rw[show Zq ord ((0:Nat):Int)=0 from hc.hd.1];exact hz2⟩
 have hpst:∀t,PrT lf ord t→∀v∈evs [A,YL (rstr A lf)],∀u,Zu v [A,YL (rstr A lf)] t=some u→PrT lf ord u:=by
  rintro t ⟨j,hj,rfl,_⟩ v hv u hu
  exact Qjo ho hc hj (hev v hv) hu
 obtain ⟨⟨C,Q⟩,hs⟩:=Qg3 (P:=PrT lf ord) hol (λl hn hp=>by
  have h1:(l.map λt=>Zq t 1).Nodup:=by
   unfold List.Nodup
   rw[List.pairwise_map]
   refine List.Pairwise.imp_of_mem (λ{x y} hx hy hne e=>hne ?_) hn
   obtain ⟨i,_,rfl,_⟩:=hp x hx
   obtain ⟨k,_,rfl,_⟩:=hp y hy
   have e':(i:Int)=(k:Int):=e
   have:i=k:=by omega
   rw[this]
  have h2:=pig ord.length _ h1 (λu hu=>by
   obtain ⟨t,ht,rfl⟩:=List.mem_map.1 hu
   obtain ⟨i,hi,rfl,_⟩:=hp t ht
   show 0≤(i:Int)∧(i:Int)<_
   omega)
  rw[List.length_map] at h2
  exact h2) (λ_=>hp0) hpst
 have hsP:=(Xk ho2 hs).1
 have hOC:=hsP.okay ho2
 refine ⟨C,Q,hs,hck,hOC,?_⟩
 have hall:=λj (hj:j<Q.length)=>QbZ hsP hOC (Qeb hs) (λ_=>hp0) hpst (j+1) j (by omega) hj
 have hCst:=hsP.st
 have hbw:=QiC hOC (n:=Q.length) hCst
 obtain ⟨hq0,hq1⟩:=Qk9 ho lf
 have hq:=Qi9 ho (lf:=lf) A.st.toNat 0 (ds0 A lf) hq0 hq1
 have hds:dsts A lf=(dsL A.ed lf A.st.toNat 0 (ds0 A lf)).1:=rfl
 refine Zc (dsL A.ed lf A.st.toNat 0 (ds0 A lf)) λz hze=>?_
 rw[hze] at hq hds
 have hgo:∀(m k:Nat),k<m→(hk:k<z.2.length)→∀i,i<Q.length→∀j:Nat,j<ord.length→Zq ord j=z.2[k]'hk→Q.getD i []=[Zq ord j,(j:Int)]→0≤cget (bwd Q.length C.ed C.mr) i:=by
  intro m
  induction m with
  | zero=>intro k h;omega
  | succ m ih =>
   intro k hkm hk i hi j hj hjk hQi
   obtain ⟨hl,hor⟩:=hq.q k hk
   rcases hor with hm | ⟨j',hj',hjk',v,hv⟩
   ·have hmk:(i:Int)∈C.mr:=by
     rw[hsP.mk2]
     refine List.mem_map.2 ⟨i,List.mem_filter.2 ⟨by rw[List.mem_range'_1];omega,?_⟩,rfl⟩
     rw[hQi]
     have hb:(j:Int)∈(YL (rstr A lf)).mr:=by
      rw[hc.mk2]
      refine List.mem_map.2 ⟨j,List.mem_filter.2 ⟨by rw[List.mem_range'_1];omega,decide_eq_true ?_⟩,rfl⟩
      show Zq ord j∈A.mr
      rw[hjk];exact hm
     have ha:Zq ord j∈A.mr:=by rw[hjk];exact hm
     simp[Xd,ha,hb]
    have:=hbw.2 _ hmk
    simpa using this
   ·have hlx:=(hq.q j' hj').1
    rw[←hjk] at hv
    obtain ⟨h1,h2⟩:=Qb7 ho hc hj hv hlx
    have hve:v∈evs [A,YL (rstr A lf)]:=(Uu ho2 v).2 ⟨A,by simp,(ho.ed _ hv).2.2.1⟩
    rw[←hQi] at h1
    have h3:=hsP.to hi hve h1
    have h4:=hsP.step hi v
    rw[if_pos hve,h1] at h4
    have h5:=Vp h4
    have h6:=ih j' (by omega) hj' _ h3.1 (ord.idxOf (z.2[j']'hj')) (List.idxOf_lt_length_of_mem h2) (Vj h2) (by rw[h3.2,Vj h2])
    have h7:=hbw.1 _ h5
    simp only[Int.toNat_natCast] at h7
    exact h7 h6
 have hbl:∀i,i<Q.length→0≤cget (bwd Q.length C.ed C.mr) i:=by
  intro i hi
  obtain ⟨j,hj,hQi,hl⟩:=hall i hi
  have hb:=hc.bd (Zq ord j) (by
   unfold Zq
   simp only[Int.toNat_natCast,List.getD_eq_getElem?_getD,List.getElem?_eq_getElem hj,Option.getD_some]
   exact List.getElem_mem hj)
  have hb1:Zq ord j<A.st:=hb.2
  have hdl:(dsts A lf).length=A.st.toNat:=by
   have key:∀(f i:Nat) (z:LI×LI),(dsL A.ed lf f i z).1.length=z.1.length:=by
    intro f
    induction f with
    | zero=>intro i z;rfl
    | succ f ih =>
     intro i z
     rw[dsL]
     split
     ·rw[ih]
      have k2:∀(x:Int) (ys:LI) (z:LI×LI),(ys.foldl (Uk lf x) z).1.length=z.1.length:=by
       intro x ys
       induction ys with
       | nil=>intro z;rfl
       | cons y ys ih2 =>
        intro z
        rw[List.foldl_cons,ih2]
        unfold Uk
        split
        ·simp
        ·rfl
      exact k2 _ _ _
     ·rfl
   unfold dsts
   rw[key,Qbv (λx hx=>(ho.mr x hx).1)]
   exact YS _ _
  have hd0:0≤cget (dsts A lf) (Zq ord j).toNat:=by
   refine Decidable.byContradiction λhn=>?_
   have:=QcX (lf:=lf) (dsts A lf) 0 (Zq ord j).toNat (by rw[hdl];omega) (by rw[Nat.zero_add];exact hl) (by omega)
   have:=List.length_pos_of_mem this
   omega
  have hzl:z.1.length=A.st.toNat:=by rw[←hds];exact hdl
  rw[hds] at hd0
  have hm:=hq.r _ hd0 (by omega)
  rw[show (((Zq ord j).toNat:Nat):Int)=Zq ord j by omega] at hm
  obtain ⟨k,hk,hke⟩:=List.getElem_of_mem hm
  exact hgo (k+1) k (by omega) hk i hi j hj hke.symm hQi
 have hcor:cor C=KM (bwd Q.length C.ed C.mr) Q.length:=by unfold cor;rw[show C.st.toNat=Q.length by omega]
 rw[hcor]
 unfold KM
 rw[List.length_map,List.filter_eq_self.2 (λi hi=>decide_eq_true (hbl i (List.mem_range.1 hi))),List.length_range]
 omega
theorem Qcy {α:Type}(q:α→Bool):∀(l:List α) (i:Nat),(∀x∈ixs q i l,(i:Int)≤x∧x<(i:Int)+l.length)∧Yt (ixs q i l)
 | [],i=>⟨λx h=>(by cases h),List.Pairwise.nil⟩
 | e::l,i=>by
  obtain ⟨h1,h2⟩:=Qcy q l (i+1)
  rw[ixs]
  split
  ·refine ⟨λx hx=>?_,List.pairwise_cons.2 ⟨λx hx=>by have:=h1 x hx;omega,h2⟩⟩
   rcases List.mem_cons.1 hx with rfl | hx
   ·exact ⟨Int.le_refl _,by simp only[List.length_cons];omega⟩
   ·have:=h1 x hx;simp only[List.length_cons];omega
  ·exact ⟨λx hx=>by have:=h1 x hx;simp only[List.length_cons];omega,h2⟩
theorem QcQ {c:ZB}(h:Y9 c=0):KG (YI c) [] (unc c.ev)=0:=by
 have hok:=(Jk h).2
 have hcl:=ZP (Vw h)
 have hi:=Qcy (λe:KA=>!e.co) c.ev 0
 have hl:=hcl.ev
 unfold KG
 rw[if_neg (by simp[(Zs _).2 hok]),if_neg (by simp[YK])]
 exact QbA (λx hx=>by have:=hi.1 x hx;omega) hi.2
open Go.Proofs.Tryz
theorem y8 {c:ZB}(h:Y9 c=0):XG [YI c,VC c]=0∧Q2 (VC c)∧Q2 (ccA c)∧((cor (ccA c)).length:Int)=(ccA c).st:=by
 have ho:=(Jk h).2
 obtain ⟨C,Q,h1,h2,h3,h4⟩:=Qiw ho (unc c.ev)
 have h5:sync [YI c,VC c]=some (C,Q):=h1
 have h6:JB [YI c,VC c]=0:=h2
 have h7:ccA c=C:=by unfold ccA syA;rw[h5]
 refine ⟨?_,VG ho _,by rw[h7];exact h3,by rw[h7];exact h4⟩
 unfold XG
 rw[if_neg (by simpa using h6),h5]
def RA (N:Nat) (H:Array Obj) (v:Value) (e:Int) (a:QM):Prop:=(e≠0→v=zA)∧(e=0→YV N H v a)
theorem RA.shape {N:Nat}{H:Array Obj}{v:Value}{e:Int}{a:QM}(h:RA N H v e a):∃us,v=.agg us.toArray∧us.length=4∧ZD us:=by
 by_cases h0:e=0
 ·exact YH (h.2 h0)
 ·exact ⟨Xu,h.1 h0,rfl,rfl,rfl,rfl,rfl,trivial⟩
theorem JX {w:World}{t:TmV}{c:CL}(ht:qI [] w.heap t) (hc:ZH [] w.heap c) (hA:t.A=YI c.cel) (h0:Y9 c.cel=0) :
  QG prog 71 [.agg (XK t).toArray,c.val] w λr w'=>Step [] w w'∧∃va,r=.tuple #[va,.int .i64 0]∧YV w.heap.size w'.heap va (VC c.cel):=by
 have hcl:=ZP (Vw h0)
 have hse:KG t.A [] (unc c.cel.ev)=0:=by rw[hA];exact QcQ h0
 have hS:JG t.A [] (unc c.cel.ev)=VC c.cel:=by rw[hA];rfl
 refine QG.of_W func71 rfl ntmps71 results71 (by simp) ?_
 refine Qc<|xl rfl<|QQ (us:=XK t) rfl λb2 w1 hs1 hb2 hB2=>xl rfl<|QQ (us:=c.cells) rfl λb3 w2 hs2 hb3 hB3=>xl rfl<|Qr (us:=Xu) rfl λb4 w3 hs3 hb4 hB4=>Qf ?_
 have hs03:=(hs1.trans hs2).trans hs3
 have hz1:=hs1.size
 have hz2:=hs2.size
 have hl4:=hB4.lt
 refine Qc<|x (Qa rfl)<|x (Qd (hB3.ext hs3) rfl rfl)<|xl rfl<|xf<|(V0 (hc.ev.ext hs03)).mono ?_
 rintro r4 w4 ⟨hs4,vu,rfl,hU⟩
 rw[if_pos (show Jt c.ev=0 from hcl.e0)] at hU
 have hU:Qt 3 w3.heap.size w4 vu (unc c.cel.ev):=hU
 have hz4:=hs4.size
 have hul:(unc c.cel.ev).length≤1099511627776:=Nat.le_trans (Kd _ c.cel.ev 0) hc.ev.arr.le
 have hs04:=hs03.trans hs4
 have hD:=Ky (ht.a.ext hs04) (XW [] w4.heap) (Qt.ints (L:=[]) hU hul (by simp))
 rw[hse,hS,if_pos rfl] at hD
 refine Qb<|x (Qj rfl rfl)<|x (Qj rfl rfl)<|x Qe<|Qf<|Qg<|Qc<|Qb<|x (QeL rfl rfl hcl.e0)<|xe ?_
 refine Yr rfl<|Qi<|Qc<|x (Qa rfl)<|x (Zv (us:=[t.va,.int .i64 t.A.st,t.vm,t.ve]) (hB2.ext ((hs2.trans hs3).trans hs4)) rfl rfl rfl)<|Qb<|xl rfl<|xf<|hD.mono ?_
 rintro r6 w6 ⟨hs6,c0,c1,c2,c3,sa,sm,se,o,rfl,hones,_,hgood⟩
 have hS6:=hgood rfl [] (by simp)
 refine Qb<|x (Qj rfl rfl)<|x (Qj rfl rfl)<|xl rfl<|Qr (us:=Y5 (nS) (nS) (nS) 0) rfl λb8 w7 hs7 hb8 hB8 =>
  xl rfl<|Ql (us:=[c0,c1,c2,c3,sa,.int .i64 (VC c.cel).st,sm,se,o]) hB8 rfl rfl rfl rfl ⟨hones.1,hones.2.1,hones.2.2.1,hones.2.2.2.1,hS6.al.one,rfl,hS6.mr.one,hS6.ed.one,hones.2.2.2.2.2.2.2.1,trivial⟩ λw8 hs8 hB88 =>
  Qf ?_
 have hs68:Step [] w6 w8:=hs7.then1 hs8 hb8
 refine Qc<|x (Qa rfl)<|x (Zv (us:=[sa,.int .i64 (VC c.cel).st,sm,se]) hB88 rfl rfl rfl)<|Qb<|xl rfl<|Ql (us:=[sa,.int .i64 (VC c.cel).st,sm,se]) (hB4.ext ((hs4.trans hs6).trans hs68)) rfl rfl rfl rfl ⟨hS6.al.one,rfl,hS6.mr.one,hS6.ed.one,trivial⟩ λw9 hs9 hB49=>x Qe <|
  xe ?_
 refine Qk ⟨[.agg [sa,.int .i64 (VC c.cel).st,sm,se].toArray,.int .i64 0],⟨⟨_,rfl,Qv rfl (hB49.at (L:=[]) (by simp)).cells⟩,rfl,trivial⟩,((hs04.trans hs6).trans hs68).then1 hs9 (by omega),_,rfl,?_⟩
 have hF:YV w4.heap.size w6.heap (.agg #[sa,.int .i64 (VC c.cel).st,sm,se]) (VC c.cel):=⟨sa,sm,se,rfl,λL hL=>hgood rfl L hL⟩
 exact (Z4 (hF.ext hs68) (by omega) hs9).mono (by have:=hs03.size;omega)
theorem qO {w:World}{c:CL}(hc:ZH [] w.heap c) (hkb:Kb w 4096) :
  QG prog 23 [c.val] w λr w'=>Step [] w w'∧∃va,r=.tuple #[va,.int .i64 (Y9 c.cel)]∧RA w.heap.size w'.heap va (Y9 c.cel) (VC c.cel):=by
 refine QG.of_W func23 rfl ntmps23 results23 (by simp) ?_
 refine Qc<|xl rfl<|QQ (us:=c.cells) rfl λb1 w1 hs1 hb1 hB1=>xl rfl<|Qr (us:=Xu) rfl λb2 w2 hs2 hb2 hB2=>Qf ?_
 have hs02:=hs1.trans hs2
 have hz1:=hs1.size
 have hl2:=hB2.lt
 refine Qc<|x (Qn (hB1.ext hs2) rfl rfl)<|xl rfl<|xf<|(Jb (hc.ext hs02) (hkb.ext hs02)).mono ?_
 rintro r3 w3 ⟨hs3,us,rfl,hul,huo,hgood⟩
 refine Qb<|x (Qj rfl rfl)<|x (Qj rfl rfl)<|xl rfl<|Qr (us:=qZ) rfl λb4 w4 hs4 hb4 hB4=>xl rfl<|Ql (us:=us) hB4 rfl rfl hul rfl huo λw5 hs5 hB45 =>
  Qf ?_
 have hs35:Step [] w3 w5:=hs4.then1 hs5 hb4
 have hs05:=(hs02.trans hs3).trans hs35
 have hz3:=hs3.size
 have hz35:=hs35.size
 refine Qg<|Qc<|Qb<|x (Q4 rfl rfl)<|xe ?_
 refine Q3 rfl (λh12=>?_) (λh12=>?_)
 ·refine Qc<|x (QN trivial)<|Qb<|xl rfl<|Ql (us:=Xu) (hB2.ext (hs3.trans hs35)) rfl rfl rfl rfl ⟨rfl,rfl,rfl,rfl,trivial⟩ λw6 hs6 hB26=>Qf ?_
  exact Qk ⟨[.agg Xu.toArray,.int .i64 (Y9 c.cel)],⟨⟨_,rfl,Qv rfl (hB26.at (L:=[]) (by simp)).cells⟩,rfl,trivial⟩,hs05.then1 hs6 (by omega),_,rfl,λ_=>rfl,λh=>absurd h h12⟩
 have htg:Y9 c.cel=0:=Decidable.not_not.1 h12
 obtain ⟨t,rfl,htok,htm⟩:=hgood htg
 refine Qi<|Qc<|x (Qn hB45 rfl rfl)<|x (Qn (hB1.ext ((hs2.trans hs3).trans hs35)) rfl rfl)<|xl rfl<|xf<|(JX ((htm [] (by simp)).ext hs35) (hc.ext hs05) htok.A htg).mono ?_
 rintro r7 w7 ⟨hs7,va,rfl,hva⟩
 obtain ⟨us,hv,husl,huso⟩:=YH hva
 refine x (Qj rfl rfl)<|x (Qj rfl rfl)<|xl rfl<|Ql (us:=us) (hB2.ext ((hs3.trans hs35).trans hs7)) rfl (show Go.Lg.ev _ _=_ from hv) husl rfl huso λw8 hs8 hB28=>Qf<|Qk ⟨[.agg us.toArray,.int .i64 0],⟨⟨_,rfl,Qv husl (hB28.at (L:=[]) (by simp)).cells⟩,rfl,trivial⟩,(hs05.trans hs7).then1 hs8 (by omega),va,?_,λh=>absurd htg h,λ_=>?_⟩
 ·show Value.tuple _=Value.tuple _
  rw[hv,htg]
 ·exact (Z4 hva (by omega) hs8).mono (by have:=hs05.size;omega)
theorem Qi6 {w:World}{va vm ve va' vm' ve':Value}{a a':QM}{b:Nat}(hB:QS w.heap b 50 ([Q7 ⟨va,vm,ve,a⟩,Q7 ⟨va',vm',ve',a'⟩]:List (LV)).flatten) (h:Zm [] w.heap va vm ve a) (h':Zm [] w.heap va' vm' ve' a') :
  YG [] w.heap (.slice (some ⟨b,0,none⟩) 2 2) [⟨va,vm,ve,a⟩,⟨va',vm',ve',a'⟩] :=
 ⟨hB.arr (by simp) rfl (by omega) (Nat.le_refl 2),λp hp=>by
  rcases List.mem_cons.1 hp with rfl | hp
  ·exact h
  ·rw[List.mem_singleton.1 hp];exact h'⟩
theorem Qi2 {va vm ve va' vm' ve':Value}{a a':QM}(h:Q2 a) (h':Q2 a'):∀p∈[(⟨va,vm,ve,a⟩:AV),⟨va',vm',ve',a'⟩],Q2 p.a:=λp hp=>by
 rcases List.mem_cons.1 hp with rfl | hp
 ·exact h
 ·rw[List.mem_singleton.1 hp];exact h'
theorem qP {w:World}{c:CL}(hc:ZH [] w.heap c) (hkb:Kb w 4096) :
  QG prog 24 [c.val] w λr w'=>Step [] w w'∧∃va,r=.tuple #[va,.int .i64 (Y9 c.cel)]∧RA w.heap.size w'.heap va (Y9 c.cel) (ccA c.cel):=by
 refine QG.of_W func24 rfl ntmps24 results24 (by simp) ?_
 refine Qc<|xl rfl<|QQ (us:=c.cells) rfl λb1 w1 hs1 hb1 hB1=>xl rfl<|Qr (us:=Xu) rfl λb2 w2 hs2 hb2 hB2=>Qf ?_
 have hs02:=hs1.trans hs2
 have hz1:=hs1.size
 have hl2:=hB2.lt
 refine Qc<|x (Qn (hB1.ext hs2) rfl rfl)<|xl rfl<|xf<|(Jb (hc.ext hs02) (hkb.ext hs02)).mono ?_
 rintro r3 w3 ⟨hs3,us,rfl,hul,huo,hgood⟩
 refine Qb<|x (Qj rfl rfl)<|x (Qj rfl rfl)<|xl rfl<|Qr (us:=qZ) rfl λb4 w4 hs4 hb4 hB4=>xl rfl<|Ql (us:=us) hB4 rfl rfl hul rfl huo λw5 hs5 hB45 =>
  Qf ?_
 have hs35:Step [] w3 w5:=hs4.then1 hs5 hb4
 have hs05:=(hs02.trans hs3).trans hs35
 have hz3:=hs3.size
 have hz35:=hs35.size
 refine Qg<|Qc<|Qb<|x (Q4 rfl rfl)<|xe ?_
 refine Q3 rfl (λh13=>?_) (λh13=>?_)
 ·refine Qc<|x (QN trivial)<|Qb<|xl rfl<|Ql (us:=Xu) (hB2.ext (hs3.trans hs35)) rfl rfl rfl rfl ⟨rfl,rfl,rfl,rfl,trivial⟩ λw6 hs6 hB26=>Qf ?_
  exact Qk ⟨[.agg Xu.toArray,.int .i64 (Y9 c.cel)],⟨⟨_,rfl,Qv rfl (hB26.at (L:=[]) (by simp)).cells⟩,rfl,trivial⟩,hs05.then1 hs6 (by omega),_,rfl,λ_=>rfl,λh=>absurd h h13⟩
 have htg:Y9 c.cel=0:=Decidable.not_not.1 h13
 obtain ⟨t,rfl,htok,htm⟩:=hgood htg
 have hcc:=y8 htg
 have htA:=(Jk htg).2
 have hT5:=(htm [] (by simp)).ext hs35
 refine Qi<|Qc<|x (Qn hB45 rfl rfl)<|x (Qn (hB1.ext ((hs2.trans hs3).trans hs35)) rfl rfl)<|xl rfl<|xf<|(JX hT5 (hc.ext hs05) htok.A htg).mono ?_
 rintro r7 w7 ⟨hs7,_,rfl,va,vm,ve,rfl,hva⟩
 have hA7:=hva [] (by simp)
 refine Qb<|x (Qj rfl rfl)<|x (Qj rfl rfl)<|xl rfl<|Qr (us:=Xu) rfl λb6 w8 hs8 hb6 hB6=>xl rfl<|Ql (us:=[va,.int .i64 (VC c.cel).st,vm,ve]) hB6 rfl rfl rfl rfl ⟨hA7.al.one,rfl,hA7.mr.one,hA7.ed.one,trivial⟩ λw9 hs9 hB69 =>
  Qf ?_
 have hs79:Step [] w7 w9:=hs8.then1 hs9 hb6
 have hs59:=hs7.trans hs79
 refine Qg<|Qc<|Qb<|x (QeL rfl rfl rfl)<|xe ?_
 refine Yr rfl<|Qi ?_
 have hpr:=Qi2 (va:=t.va) (vm:=t.vm) (ve:=t.ve) (va':=va) (vm':=vm) (ve':=ve) (a:=t.A) (by rw[htok.A];exact htA) hcc.2.1
 refine Qc<|x (Qa rfl)<|x (Zv (us:=[t.va,.int .i64 t.A.st,t.vm,t.ve]) (hB45.ext hs59) rfl rfl rfl)<|x (Qn hB69 rfl rfl)<|xl rfl<|QH (us:=[Q7 ⟨t.va,t.vm,t.ve,t.A⟩,Q7 ⟨va,vm,ve,VC c.cel⟩]) rfl rfl (by decide) (by exact (by decide:2*4≤1000000)) ⟨rfl,rfl,rfl,rfl,trivial⟩ λb29 w11 hs11 hb29 hB29=>?_
 have hs511:=hs59.trans hs11
 have hs011:=hs05.trans hs511
 have hC:=KY (Qi6 hB29 (hT5.a.ext hs511) (hA7.ext (hs79.trans hs11))) hpr (hkb.ext hs011)
 simp only[List.map_cons,List.map_nil,htok.A] at hC
 rw[hcc.1] at hC
 refine xl rfl<|xf<|hC.mono ?_
 rintro r12 w12 ⟨hs12,vc,rfl,_,hgood12⟩
 have hvc:=hgood12 rfl
 obtain ⟨us,hv,husl,huso⟩:=YH hvc
 have hz511:=hs511.size
 refine x (Qj rfl rfl)<|x (Qj rfl rfl)<|xl rfl<|Ql (us:=us) (hB2.ext ((hs3.trans hs35).trans (hs511.trans hs12))) rfl (show Go.Lg.ev _ _=_ from hv) husl rfl huso λw13 hs13 hB213=>Qf<|Qk ⟨[.agg us.toArray,.int .i64 0],⟨⟨_,rfl,Qv husl (hB213.at (L:=[]) (by simp)).cells⟩,rfl,trivial⟩,(hs011.trans hs12).then1 hs13 (by omega),vc,?_,λh=>absurd htg h,λ_=>?_⟩
 ·show Value.tuple _=Value.tuple _
  rw[hv,htg]
 ·exact (Z4 hvc (by omega) hs13).mono (by have:=hs011.size;omega)
theorem Qgq {H:Array Obj}{b t:Nat}{us us':LV}{v:Value}(hB:QS H b t us) (h:v=.agg us.toArray) (h':v=.agg us'.toArray):QS H b t us':=by
 have h1:Value.agg us.toArray=.agg us'.toArray:=h.symm.trans h'
 have h2:us=us':=by
  have h3:=Value.agg.inj h1
  simpa using congrArg Array.toList h3
 rw[←h2];exact hB
set_option maxHeartbeats 4000000 in
theorem q6 {w:World}{c:CL}(hc:ZH [] w.heap c) (hkb:Kb w 4096) (h0:Y9 c.cel=0) :
  QG prog 25 [c.val] w λr w'=>Step [] w w'∧∃va vb,r=.tuple #[va,vb]∧YV w.heap.size w'.heap va (VC c.cel)∧YV w.heap.size w'.heap vb (ccA c.cel):=by
 have hcl:=ZP (Vw h0)
 have hse:KG (YI c.cel) [] (unc c.cel.ev)=0:=QcQ h0
 have hS:JG (YI c.cel) [] (unc c.cel.ev)=VC c.cel:=rfl
 have hcc:=y8 h0
 have htA:=(Jk h0).2
 refine QG.of_W func25 rfl ntmps25 results25 (by simp) ?_
 refine Qc<|xl rfl<|QQ (us:=c.cells) rfl λb1 w1 hs1 hb1 hB1=>xl rfl<|Qr (us:=Xu) rfl λb2 w2 hs2 hb2 hB2=>xl rfl<|Qr (us:=Xu) rfl λb3 w3 hs3 hb3 hB3=>xe ?_
 have hs03:=(hs1.trans hs2).trans hs3
 have hz1:=hs1.size
 have hz2:=hs2.size
 have hl2:=hB2.lt
 have hl3:=hB3.lt
 refine Qc<|x (Qn (hB1.ext (hs2.trans hs3)) rfl rfl)<|xl rfl<|xf<|(Uc (hc.ext hs03) (hkb.ext hs03)).mono ?_
 rintro r4 w4 ⟨hs4,vT,rfl,_,hgT⟩
 have hvT:=hgT h0
 obtain ⟨ta,tm,te,rfl,hT⟩:=hvT
 have hT4:=hT [] (by simp)
 refine Qb<|x (Qj rfl rfl)<|x (Qj rfl rfl)<|xl rfl<|Qr (us:=Xu) rfl λb4 w5 hs5 hb4 hB4=>xl rfl<|Ql (us:=[ta,.int .i64 (YI c.cel).st,tm,te]) hB4 rfl rfl rfl rfl ⟨hT4.al.one,rfl,hT4.mr.one,hT4.ed.one,trivial⟩ λw6 hs6 hB46 =>
  Qf ?_
 have hs46:Step [] w4 w6:=hs5.then1 hs6 hb4
 have hs36:=hs4.trans hs46
 have hs06:=hs03.trans hs36
 refine Qc<|x (Qa rfl)<|x (Qd (hB1.ext ((hs2.trans hs3).trans hs36)) rfl rfl)<|xl rfl<|xf<|(V0 (hc.ev.ext hs06)).mono ?_
 rintro r7 w7 ⟨hs7,vu,rfl,hU⟩
 rw[if_pos (show Jt c.ev=0 from hcl.e0)] at hU
 have hU:Qt 3 w6.heap.size w7 vu (unc c.cel.ev):=hU
 have hul:(unc c.cel.ev).length≤1099511627776:=Nat.le_trans (Kd _ c.cel.ev 0) hc.ev.arr.le
 have hs67:=hs46.trans hs7
 have hD:=Ky (hT4.ext hs67) (XW [] w7.heap) (Qt.ints (L:=[]) hU hul (by simp))
 rw[hse,hS,if_pos rfl] at hD
 refine Qb<|x (Qj rfl rfl)<|x (Qj rfl rfl)<|x Qe<|Qf<|Qc<|x (Qn (hB46.ext hs7) rfl rfl)<|Qb<|xl rfl<|xf<|hD.mono ?_
 rintro r8 w8 ⟨hs8,c0,c1,c2,c3,sa,sm,se,o,rfl,hones,_,hgood⟩
 have hS8:=hgood rfl [] (by simp)
 refine Qb<|x (Qj rfl rfl)<|x (Qj rfl rfl)<|xl rfl<|Qr (us:=Y5 (nS) (nS) (nS) 0) rfl λb8 w9 hs9 hb8 hB8 =>
  xl rfl<|Ql (us:=[c0,c1,c2,c3,sa,.int .i64 (VC c.cel).st,sm,se,o]) hB8 rfl rfl rfl rfl ⟨hones.1,hones.2.1,hones.2.2.1,hones.2.2.2.1,hS8.al.one,rfl,hS8.mr.one,hS8.ed.one,hones.2.2.2.2.2.2.2.1,trivial⟩ λw10 hs10 hB810 =>
  Qf ?_
 have hs810:Step [] w8 w10:=hs9.then1 hs10 hb8
 have hs710:=hs8.trans hs810
 have hs610:=hs7.trans hs710
 have hpr:=Qi2 (va:=ta) (vm:=tm) (ve:=te) (va':=sa) (vm':=sm) (ve':=se) htA hcc.2.1
 refine Qc<|x (Qn (hB46.ext hs610) rfl rfl)<|x (Qa rfl)<|x (Zv (us:=[sa,.int .i64 (VC c.cel).st,sm,se]) hB810 rfl rfl rfl)<|xl rfl<|QH (us:=[Q7 ⟨ta,tm,te,YI c.cel⟩,Q7 ⟨sa,sm,se,VC c.cel⟩]) rfl rfl (by decide) (by exact (by decide:2*4≤1000000)) ⟨rfl,rfl,rfl,rfl,trivial⟩ λb31 w11 hs11 hb31 hB31=>?_
 have hs011:=(hs06.trans hs610).trans hs11
 have hC:=KY (Qi6 hB31 (((hT4.ext hs46).ext hs610).ext hs11) (hS8.ext (hs810.trans hs11))) hpr (hkb.ext hs011)
 simp only[List.map_cons,List.map_nil] at hC
 rw[hcc.1] at hC
 refine xl rfl<|xf<|hC.mono ?_
 rintro r12 w12 ⟨hs12,vc,rfl,_,hgood12⟩
 have hvc:YV w11.heap.size w12.heap vc (ccA c.cel):=hgood12 rfl
 obtain ⟨xa,xm,xe',rfl,hX⟩:=hvc
 have hX12:=hX [] (by simp)
 have hs412:=((hs46.trans hs610).trans hs11).trans hs12
 have hs1012:=hs11.trans hs12
 refine Qb<|x (Qj rfl rfl)<|x (Qj rfl rfl)<|xl rfl<|Ql (us:=[xa,.int .i64 (ccA c.cel).st,xm,xe']) (hB3.ext (hs4.trans hs412)) rfl rfl rfl rfl ⟨hX12.al.one,rfl,hX12.mr.one,hX12.ed.one,trivial⟩ λw13 hs13 hB313=>xe ?_
 have hz36:=hs36.size
 have hz610:=hs610.size
 have hz810:=hs810.size
 have hz7:=hs7.size
 have hz67:=hs67.size
 have hz8:=hs8.size
 have hz4:=hs4.size
 have hz03:=hs03.size
 have hb83:b8∉[b3]:=by simp only[List.mem_singleton];omega
 have hb23:b2∉[b3]:=by simp only[List.mem_singleton];omega
 have hb32:b3∉[b2]:=by simp only[List.mem_singleton];omega
 have hB813:=(hB810.ext hs1012).step hs13 hb83
 have hB213:=((hB2.ext hs3).ext (hs4.trans hs412)).step hs13 hb23
 refine Qg<|QT (Step [b2] w13) [(0,true),(1,true),(2,true),(3,false),(4,false)] mixed (by rfl) (by kernel_rfl) (Step.drew _ _) ?_
 refine p (λ_=>Qa rfl)<|pq (λ_ hc=>Zv (us:=[sa,.int .i64 (VC c.cel).st,sm,se]) (hB813.step hc (by simp only[List.mem_singleton];omega)) rfl rfl rfl)<|pq (λ_ hc=>Qn (hB313.step hc hb32) rfl rfl) <|
  pk<|Ql (us:=[sa,.int .i64 (VC c.cel).st,sm,se]) (hB213.ext (Step.drew _ _)) rfl rfl rfl rfl ⟨hS8.al.one,rfl,hS8.mr.one,hS8.ed.one,trivial⟩ λw14 hs14 hB214=>⟨((Step.drew _ _).any).trans' hs14,?_⟩
 have hs1314:Step [b2] w13 w14:=((Step.drew _ _).any).trans' hs14
 refine pkl (hl:=by kernel_rfl)<|Ql (us:=[xa,.int .i64 (ccA c.cel).st,xm,xe']) (hB313.step hs1314 hb32) rfl rfl rfl rfl ⟨hX12.al.one,rfl,hX12.mr.one,hX12.ed.one,trivial⟩ λw15 hs15 hB315=>pe ?_
 refine Qk ⟨[.agg [sa,.int .i64 (VC c.cel).st,sm,se].toArray,.agg [xa,.int .i64 (ccA c.cel).st,xm,xe'].toArray],⟨⟨_,rfl,Qv rfl ((hB214.step hs15 hb23).at (L:=[]) (by simp)).cells⟩,⟨_,rfl,Qv rfl (hB315.at (L:=[]) (by simp)).cells⟩,trivial⟩,(((hs011.trans hs12).then1 hs13 (by omega)).then1 hs1314 (by omega)).then1 hs15 (by omega),_,_,rfl,?_,?_⟩
 ·have hF:YV w7.heap.size w8.heap (.agg #[sa,.int .i64 (VC c.cel).st,sm,se]) (VC c.cel):=⟨sa,sm,se,rfl,λL hL=>hgood rfl L hL⟩
  exact (Z4 (Z4 (Z4 (hF.ext (hs810.trans hs1012)) (by omega) hs13) (by omega) hs1314) (by omega) hs15).mono (by omega)
 ·have hF:YV w11.heap.size w12.heap (.agg #[xa,.int .i64 (ccA c.cel).st,xm,xe']) (ccA c.cel):=⟨xa,xm,xe',rfl,hX⟩
  have hz011:=hs011.size
  have hz6:=hs06.size
  have hz11:=hs11.size
  exact (Z4 (Z4 (Z4 hF (by omega) hs13) (by omega) hs1314) (by omega) hs15).mono (by omega)
set_option maxRecDepth 100000 in
set_option maxHeartbeats 8000000 in
theorem Vf {w:World}{l:LwV}(hl:LwA w l) (hkb:Kb w 4096) :
  QG prog 5 [.agg (Jp l).toArray] w λr w'=>r=.bool true∧Step [] w w':=by
 have g82:=Qk0 hl.n
 refine QG.of_W func5 rfl ntmps5 results5 (by simp) ?_
 refine Qc<|xl rfl<|QQ (us:=Jp l) rfl λb1 w1 hs1 hb1 hB1=>Qf<|Qg<|QW (α:=Bool) [(14,21)] (λz=>[(21,.bool z)]) (λz w'=>Step [] w1 w'∧(z=false→l.n≤3)) (by rfl) ?_ ?_
 ·refine Qx<|xl rfl<|xf<|(U0 (hkb.ext hs1)).mono ?_
  rintro r2 w2 ⟨rfl,hs2⟩
  refine x (Zp rfl)<|Qb<|x (Qa rfl)<|x (Qd (hB1.ext hs2) rfl g82)<|x (QeO rfl)<|x (ZL rfl rfl)<|x (Qp rfl)<|xe ?_
  refine ⟨decide ((3:Int)<(l.n:Int)),⟨rfl,trivial⟩,hs2,λh=>?_⟩
  have:=of_decide_eq_false h
  omega
 rintro z g w2 ⟨hs2,hz⟩
 have hs02:=hs1.trans hs2
 refine QY rfl (λh21=>?_) (λh21=>?_)
 ·refine Qc<|xl rfl<|xf<|(U0 (hkb.ext hs02)).mono ?_
  rintro r3 w3 ⟨rfl,hs3⟩
  refine Qf ?_
  exact Qk ⟨[_],⟨rfl,trivial⟩,rfl,hs02.trans hs3⟩
 refine Qi<|Exists.elim (hl.ln hs02 (hz h21)) λrs hln=>?_
 refine Qc<|x (Qn (hB1.ext hs2) rfl (Qfi (l:=l.ln rs) hl.n))<|xl rfl<|xf<|(Qdr hln).mono ?_
 rintro r3 w3 ⟨hs3,_,⟨c,rfl,rfl,hC⟩,hsml⟩
 have hC3:=hC [] (by simp)
 refine xl rfl<|Qr (us:=YN) rfl λb3 w4 hs4 hb3 hB3=>xl rfl<|Ql (us:=c.cells) hB3 rfl rfl rfl rfl ⟨hC3.ev.arr.one,hC3.co.arr.one,hC3.rq.arr.one,hC3.ex.arr.one,hC3.cs.arr.one,trivial⟩ λw5 hs5 hB35=>xe ?_
 have hs35:Step [] w3 w5:=hs4.then1 hs5 hb3
 have hs05:=(hs02.trans hs3).trans hs35
 have hC5:=hC3.ext hs35
 have hkb5:=hkb.ext hs05
 refine Qc<|x (Qn hB35 rfl rfl)<|xl rfl<|xf<|(qO hC5 hkb5).mono ?_
 rintro r6 w6 ⟨hs6,v6,rfl,hR6⟩
 refine Exists.elim hR6.shape λus6 hu6=>?_
 have hu61:=hu6.1
 refine Qb<|x (Qj rfl rfl)<|x (Qj rfl rfl)<|xl rfl<|Qr (us:=Xu) rfl λb4 w7 hs7 hb4 hB4=>xl rfl<|Ql (us:=us6) hB4 rfl (show Go.Lg.ev _ _=_ from hu61) hu6.2.1 rfl hu6.2.2 λw8 hs8 hB48 =>
  Qf ?_
 have hs68:Step [] w6 w8:=hs7.then1 hs8 hb4
 have hs58:=hs6.trans hs68
 refine Qc<|x (Qn (hB35.ext hs58) rfl rfl)<|xl rfl<|xf<|(qP (hC5.ext hs58) (hkb5.ext hs58)).mono ?_
 rintro r9 w9 ⟨hs9,v9,rfl,hR9⟩
 refine Exists.elim hR9.shape λus9 hu9=>?_
 have hu91:=hu9.1
 refine Qb<|x (Qj rfl rfl)<|x (Qj rfl rfl)<|xl rfl<|Qr (us:=Xu) rfl λb6 w10 hs10 hb6 hB6=>xl rfl<|Ql (us:=us9) hB6 rfl (show Go.Lg.ev _ _=_ from hu91) hu9.2.1 rfl hu9.2.2 λw11 hs11 hB611 =>
  Qf ?_
 have hs911:Step [] w9 w11:=hs10.then1 hs11 hb6
 have hs811:=hs9.trans hs911
 have hs511:=hs58.trans hs811
 refine Qg<|Qc<|x (Qn (hB35.ext hs511) rfl rfl)<|xl rfl<|xf<|(Uc (hC5.ext hs511) (hkb5.ext hs511)).mono ?_
 rintro r12 w12 ⟨hs12,va,rfl,hR12⟩
 have hR12':RA w11.heap.size w12.heap va (Y9 c.cel) (YI c.cel):=hR12
 refine Exists.elim hR12'.shape λus12 hu12=>?_
 have hu121:=hu12.1
 refine Qb<|x (Qj rfl rfl)<|x (Qj rfl rfl)<|xl rfl<|Qr (us:=Xu) rfl λb8 w13 hs13 hb8 hB8=>xl rfl<|Ql (us:=us12) hB8 rfl (show Go.Lg.ev _ _=_ from hu121) hu12.2.1 rfl hu12.2.2 λw14 hs14 hB814 =>
  Qf ?_
 have hs1214:Step [] w12 w14:=hs13.then1 hs14 hb8
 have hs1114:=hs12.trans hs1214
 have hs514:=hs511.trans hs1114
 refine Qc<|Qb<|x (Q4 rfl rfl)<|xe ?_
 refine Q3 rfl (λh41=>?_) (λh41=>?_)
 ·refine QW (α:=Unit) [(2,2),(42,49)] (λ_=>[(2,.bool true)]) (λ_ w'=>w'=w14) (by rfl) ?_ ?_
  ·refine Qx<|Qb<|Qb<|x (VK rfl rfl rfl)<|Qb<|Qb<|Qb<|x (VK rfl rfl rfl)<|x (Qp rfl)<|Qf ?_
   exact ⟨(),⟨rfl,trivial⟩,rfl⟩
  rintro _ g15 w15 rfl
  exact Qk ⟨[.bool true],⟨rfl,trivial⟩,rfl,hs05.trans hs514⟩
 have htg:Y9 c.cel=0:=Decidable.not_not.1 h41
 have hcc:=y8 htg
 have hok:=hcc.2.2.1
 refine Exists.elim (hR6.2 htg) λxa q1=>Exists.elim q1 λxm q1=>Exists.elim q1 λxe' q1=>?_
 refine Exists.elim (hR9.2 htg) λya q2=>Exists.elim q2 λym q2=>Exists.elim q2 λye q2=>?_
 have hX6:=q1.2 [] (by simp)
 have hY9:=q2.2 [] (by simp)
 have hB48':=Qgq hB48 hu61 q1.1
 have hB611':=Qgq hB611 hu91 q2.1
 refine Qi<|Qc<|x (Qn (hB35.ext hs514) rfl rfl)<|xl rfl<|xf<|(q6 (hC5.ext hs514) (hkb5.ext hs514) htg).mono ?_
 rintro r18 w18 ⟨hs18,vp,vq,rfl,hpq⟩
 refine Exists.elim hpq.1 λpa q3=>Exists.elim q3 λpm q3=>Exists.elim q3 λpe' q3=>?_
 refine Exists.elim hpq.2 λsa q4=>Exists.elim q4 λsm q4=>Exists.elim q4 λse q4=>?_
 have q31:=q3.1
 have q41:=q4.1
 have hP18:=q3.2 [] (by simp)
 have hS18:=q4.2 [] (by simp)
 refine Qb<|x (Qj rfl rfl)<|x (Qj rfl rfl)<|xl rfl<|Qr (us:=Xu) rfl λb10 w19 hs19 hb10 hB10=>xl rfl<|Qr (us:=Xu) rfl λb11 w20 hs20 hb11 hB11 =>
  xl rfl<|Ql (us:=[pa,.int .i64 (VC c.cel).st,pm,pe']) (hB10.ext hs20) rfl (show Go.Lg.ev _ _=_ from q31) rfl rfl ⟨hP18.al.one,rfl,hP18.mr.one,hP18.ed.one,trivial⟩ λw21 hs21 hB1021=>?_
 have hl10:=hB10.lt
 have hb1011:b11∉[b10]:=by simp only[List.mem_singleton];omega
 refine xl rfl<|Ql (us:=[sa,.int .i64 (ccA c.cel).st,sm,se]) (hB11.step hs21 hb1011) rfl (show Go.Lg.ev _ _=_ from q41) rfl rfl ⟨hS18.al.one,rfl,hS18.mr.one,hS18.ed.one,trivial⟩ λw22 hs22 hB1122 =>
  xe ?_
 have hb1110:b10∉[b11]:=by simp only[List.mem_singleton];omega
 have hB1022:=hB1021.step hs22 hb1110
 have hz19:=hs19.size
 have hs1822:Step [] w18 w22:=((hs19.trans hs20).then1 hs21 hb10).then1 hs22 (by omega)
 have hs1422:=hs18.trans hs1822
 have hs522:=hs514.trans hs1422
 have hB622:=hB611'.ext (hs1114.trans hs1422)
 have hB422:=hB48'.ext ((hs811.trans hs1114).trans hs1422)
 have hY22:=hY9.ext ((hs911.trans hs1114).trans hs1422)
 have hX22:=hX6.ext (((hs68.trans hs811).trans hs1114).trans hs1422)
 have hP22:=hP18.ext hs1822
 have hS22:=hS18.ext hs1822
 have hck:=(Zs (ccA c.cel)).2 hok
 have hCo:=J6 hY22
 rw[hck,if_pos rfl] at hCo
 refine Qc<|x (Qn hB622 rfl rfl)<|xl rfl<|xf<|hCo.mono ?_
 rintro r23 w23 ⟨hs23,vg,rfl,hG⟩
 have hst1:=hok.st1
 have hst0:=hok.st0
 have hlen:=hcc.2.2.2
 have hG':=Qt.ints (L:=[]) hG (by omega) (by simp)
 refine Qb<|x (Qj rfl rfl)<|x (Qj rfl rfl)<|x Qe<|Qf ?_
 have hE1:=qN (hX22.ext hs23) (hP22.ext hs23)
 rw[decide_eq_true ⟨rfl,rfl,rfl,rfl⟩] at hE1
 refine QW (α:=Unit) [(2,2),(60,86)] (λ_=>[(2,.bool true)]) (λ_ w'=>Step [] w23 w') (by rfl) ?_ ?_
 ·refine Qx<|Qb<|x (VK rfl rfl htg)<|Qb<|Qb<|x (VK rfl rfl htg)<|x (Qp rfl)<|Qb<|x (Qn (hB422.ext hs23) rfl rfl)<|x (Qn (hB1022.ext hs23) rfl rfl)<|xl rfl<|xf<|hE1.mono ?_
  rintro r24 w24 ⟨rfl,hs24⟩
  have hs2224:=hs23.trans hs24
  have hE2:=qN (hY22.ext hs2224) (hS22.ext hs2224)
  rw[decide_eq_true ⟨rfl,rfl,rfl,rfl⟩] at hE2
  refine x (Qp rfl)<|Qb<|x (Qn (hB622.ext hs2224) rfl rfl)<|x (Qn (hB1122.ext hs2224) rfl rfl)<|xl rfl<|xf<|hE2.mono ?_
  rintro r25 w25 ⟨rfl,hs25⟩
  have hs2325:=hs24.trans hs25
  refine x (Qp rfl)<|Qb<|Qb<|x (VK rfl rfl rfl)<|x (Qp rfl)<|Qb<|Qb<|x (Qs (hG'.ext hs2325) rfl)<|x (Qa rfl)<|x (Qd (hB622.ext (hs23.trans hs2325)) rfl rfl)<|x (VK rfl rfl hlen) <|
   x (Qp rfl)<|Qf ?_
  exact ⟨(),⟨rfl,trivial⟩,hs2325⟩
 rintro _ g26 w26 hs26
 exact Qk ⟨[.bool true],⟨rfl,trivial⟩,rfl,(hs05.trans hs522).trans (hs23.trans hs26)⟩
open Go.RowKit
theorem YE {a b:Bool}(h1:a=true) (h2:b=true):(a && b)=true:=by rw[h1,h2];rfl
theorem yO {P:Program} {f:FuncId} {fn:Func} {s:ChangeSpec} {c:OpenClaim} (h1:(c.wf (OpenSpec.ofChange s))=true) (h2:(laidOutB P)=true) (h3:(mapsRowed P)=true) (h4:(fn.params.all (P.readableRec ·))=true) (h5:(namedTie P c.named s.vars)=true) (h6:((c.stops == []))=true) (h7:((P.stops == []))=true) (h8:((c.knobs == []))=true) (h9:((P.stopKnobs == []))=true) (h10:((c.inPlace == P.inPlace f))=true) (h11:((c.unfollowed == P.unfollowed f))=true) (h12:((c.recurses == P.recurses f))=true) (h13:((c.named == P.varsNamed f))=true) (h14:((c.maps == (fn.params.toList++s.plain.varTypes P).any (P.mapsRec ·)))=true) (h15:((c.ifaces == (fn.params.toList++s.plain.varTypes P).any (P.ifacesRec ·)))=true) (h16:((c.mapsOut == P.mapsAmong fn.resultTypes.toList))=true) (h17:((c.loops == (fn.params.toList++s.plain.varTypes P).any (P.loopsFrom ·)))=true) (h18:((c.wideKeys == (fn.params.toList++s.plain.varTypes P++fn.resultTypes.toList).any (P.wideKeysFrom ·)))=true) (h19:(s.vars.all (P.varReadable ·))=true) (h20:(fn.resultTypes.all (λt=>P.readableRec t && decide (t<P.types.size)))=true) (h21:((c.ifacesOut == fn.resultTypes.toList.any (P.ifacesRec ·)))=true) (h22:((c.loopsOut == fn.resultTypes.toList.any (P.loopsFrom ·)))=true) (h23:((c.plainKeys == P.plainKeys))=true) (h24:(c.shortTexts.isNone)=true) (h25:(P.stopsHeard)=true) (h26:(P.mayEnter)=true) (h27:((c.lifted == P.liftsFinal))=true) (h28:((P.make == some c.make))=true) (h29:((c.kinds == (if c.domain.isEmpty then [] else fn.params.toList.map λt=>match P.underlying t with | some (.int k)=>some k | _=>none)))=true) (h30:((c.pinned == c.pinnedBy))=true) (h31:((c.veiled == (fn.params.toList++s.plain.varTypes P++fn.resultTypes.toList).any (P.veiledRec ·)))=true) (h32:(c.veiledFits P fn.params.toList (fn.params.toList++s.plain.varTypes P++fn.resultTypes.toList))=true):joinedFacts P f fn s c=true:=by
 unfold joinedFacts
 exact (YE (YE (YE (YE (YE (YE (YE (YE (YE (YE (YE (YE (YE (YE (YE (YE (YE (YE (YE (YE (YE (YE (YE (YE (YE (YE (YE (YE (YE (YE (YE h1 h2) h3) h4) h5) h6) h7) h8) h9) h10) h11) h12) h13) h14) h15) h16) h17) h18) h19) h20) h21) h22) h23) h24) h25) h26) h27) h28) h29) h30) h31) h32)
theorem U1:laidOutB prog=true:=by kernel_rfl
theorem Qfo:mapsRowed prog=true:=by kernel_rfl
theorem Qfq:prog.stopsHeard=true:=by kernel_rfl
theorem Qfr:prog.mayEnter=true:=by kernel_rfl
theorem Qfp:(false == prog.liftsFinal)=true:=by kernel_rfl
theorem QhR:(prog.make == some Make.cut)=true:=by kernel_rfl
theorem QhV:(Rows.modularCoordinatesRow.inPlace == prog.inPlace 5)=true:=by kernel_rfl
theorem QhU:(Rows.modularCoordinatesRow.unfollowed == prog.unfollowed 5)=true:=by kernel_rfl
theorem QhT:(Rows.modularCoordinatesRow.recurses == prog.recurses 5)=true:=by kernel_rfl
theorem QhS:(Rows.modularCoordinatesRow.named == prog.varsNamed 5)=true:=by kernel_rfl
end Go.Proofs.YtgmifemhkjdblaaGreatDoor
namespace Go.Lg
open Go.ChangeShapes Go.WideShapes Go.RowKit
section
variable {H:Type} {enc:TypeId×Value→H} {P:Program}
theorem zU (hl:laidOutB P=true) {W W':World}(hS:Step [] W W') {sp:Nat→Bool}:∀{ts:List TypeId}{vs:LV}{ds:List (DataW H)}{ps:List MemPlace},
  (ts.all λt=>P.readableRec t && decide (t<P.types.size))=true→DataW.TrodAll enc P W 0 (λ_=>true) true ts vs ds ps→(∀x∈ps,x.block<W.heap.size)→(∀x∈ps,sp x.block=true)→DataW.TrodAll enc P W' 0 sp true ts vs ds ps
 | [],vs,ds,ps,_,h,_,_=>by
  obtain ⟨rfl,rfl,rfl⟩:=trodAll_nil h
  exact trodAll_mk0
 | t::ts,vs,ds,ps,hr,h,hlt,hsp=>by
  obtain ⟨v,vs1,d,jj,a,b,rfl,rfl,rfl,h1,h2⟩:=trodAll_cons h
  simp only[List.all_cons,Bool.and_eq_true,decide_eq_true_eq] at hr
  have hb:Below W.heap.size W W':=hS.below
  refine trodAll_cons_mk (WideElems.Trod_stays hl hr.1.1 hr.1.2 h1 (λx hx=>hb.same (hlt x (List.mem_append_left _ hx))) (λx hx=>hsp x (List.mem_append_left _ hx))) ?_
  exact zU hl hS (by simpa using hr.2) h2 (λx hx=>hlt x (List.mem_append_right _ hx)) (λx hx=>hsp x (List.mem_append_right _ hx))
theorem Qfm {f:Func}{s:ChangeSpec}{apart fresh handsOn again:Bool}{W W':World}{args:Array Value}{ds gs:List (DataW H)}{before:List MemPlace}{tb:TypeId}
  (hl:laidOutB P=true) (hread:(f.params.toList.all λt=>P.readableRec t && decide (t<P.types.size))=true) (hrt:f.resultTypes=#[tb]) (htb:P.underlying tb=some .bool) (hvr:s.vars=[])
  (hfn:s.fn H (ds++gs)={ results:=[.lit (.bool true)],args:=ds })
  (hW:DataW.Whole enc P f.params.toList s.vars apart W args.toList ds gs before) (hS:Step [] W W'):s.post enc P f apart fresh handsOn again W args (.bool true) W':=by
 have hlt:=hW.lt
 have hW':=hW
 obtain ⟨p,q,hA,hV,rfl,hz,hn⟩:=hW
 rw[hvr] at hV
 obtain ⟨rfl,rfl⟩:=trodVars_none hV
 rw[List.append_nil] at *
 have hargs:∀sp:Nat→Bool,(∀x∈p,sp x.block=true)→DataW.TrodAll enc P W' 0 sp true f.params.toList args.toList ds p:=λsp hsp=>zU hl hS hread hA hlt hsp
 have hres:∀(b:Nat) (sp:Nat→Bool) (hd:Bool),DataW.TrodAll enc P W' b sp hd f.resultTypes.toList ((Value.bool true).resultList f.resultTypes.size) [.lit (.bool true)] []:=λb sp hd=>by
  rw[hrt];exact trodAll_mk1 (shut_bool htb true)
 have hb:Below W.heap.size W W':=hS.below
 have hvars:∀sp:Nat→Bool,DataW.TrodVars enc P W' sp s.vars ([]:List (DataW H)) []:=λsp=>by rw[hvr];rfl
 have hfn1:(s.fn H ds).results=[.lit (.bool true)]:=by rw[hfn]
 have hfn2:(s.fn H ds).args=ds:=by rw[hfn]
 have hfn3:(s.fn H ds).vars=[]:=by rw[hfn]
 have hok:∀(j:Nat) (t:TypeId) (r:Value),f.resultTypes[j]?=some t→((Value.bool true).resultList f.resultTypes.size)[j]?=some r→Value.okWide P W' .any 0 t r:=ok_one hrt rfl (okWide_bool_mk htb true)
 refine ⟨ds,[],p,[],p,[],hW',?_,?_,?_,?_,λ_=>⟨hok,[.lit (.bool true)]++ds,[],([]++p)++[],⟨[]++p,[],?_,?_,rfl,?_,?_⟩,?_⟩⟩
 ·rw[List.append_nil,hfn1];exact hres _ _ _
 ·rw[List.append_nil,hfn2];exact hargs _ (λx hx=>by simpa using hlt x hx)
 ·rw[List.append_nil,hfn3];exact hvars _
 ·exact World.keptBut_mono (λ_ f=>f.elim) (hb.frame (λ_=>False))
 ·exact trodAll_append (hargs _ (λ_ _=>rfl)) (hres _ _ _)
 ·exact hvars _
 ·intro b off hp
  have hp':MemPlace.cell b off∈p:=by simpa using hp
  rw[hb.frozen (p:=⟨b,off,none⟩) (hlt _ hp')]
  exact hz b off hp'
 ·intro ha
  have:=hn ha
  simpa using this
 ·intro x hx _
  simpa using hx
end
end Go.Lg
namespace Go.Proofs.YtgmifemhkjdblaaGreatDoor
open Go.ChangeShapes Go.WideShapes Go.RowKit Go.Lg
theorem QbE:∀(l:LV),(∀v∈l,∃n:Nat,v=.int .u8 (n:Int)∧n<256)→∃ns:LN,l=bys ns∧ns.length=l.length∧∀n∈ns,n<256
 | [],_=>⟨[],rfl,rfl,by simp⟩
 | v::l,h=>by
  obtain ⟨n,rfl,hn⟩:=h v List.mem_cons_self
  obtain ⟨ns,h1,h2,h3⟩:=QbE l (λv hv=>h v (List.mem_cons_of_mem _ hv))
  refine ⟨n::ns,by rw[h1];rfl,by simp[h2],λm hm=>?_⟩
  rcases List.mem_cons.1 hm with rfl | hm
  ·exact hn
  ·exact h3 m hm
theorem Qji {n:Int}(h:(Lit.int .u8 n).wf=true):∃m:Nat,n=m∧m<256:=by
 simp only[Lit.wf,Bool.and_eq_true,decide_eq_true_eq] at h
 rw[show IntKind.u8.min=0 from rfl,show IntKind.u8.max=255 from rfl] at h
 exact ⟨n.toNat,by omega,by omega⟩
open Go.Proofs.Tryz
theorem Qjs {w:World}{b:Nat}{s:TypeId×Nat}(h:w.shape? b=some s):b<w.heap.size:=by
 unfold World.shape? at h
 cases hb:w.heap[b]? with
 | none=>simp[hb] at h
 | some o=>exact (Array.getElem?_eq_some_iff.1 hb).1
theorem Qh2 {P:Program}{w:World}{base:Nat}{a:Addr}{e:TypeId}{n:Nat}(h:w.has P .any base a e n):a.block<w.heap.size:=by
 obtain ⟨_,_,row,cells,h1,_⟩:=h
 exact Qjs h1
theorem Qhg {P:Program}{w:World}{base:Nat}{t e:TypeId}{a:Addr}{n c:Nat}(ht:P.underlying t=some (.slice e)) (h:Cell.okWide P w .any base t (.slice (some a) n c)):a.block<w.heap.size:=by
 simp only[Cell.okWide,Cell.ok,ht] at h
 exact Qh2 h.2.2
theorem Qfg {α:Type}{p:Nat→α→Prop}:∀(n:Nat),(∀i,i<n→∃e,p i e)→∃l:List α,l.length=n∧∀i (h:i<l.length),p i (l[i]'h)
 | 0,_=>⟨[],rfl,λi h=>by simp at h⟩
 | n+1,h=>by
  obtain ⟨l,h1,h2⟩:=Qfg n (λi hi=>h i (by omega))
  obtain ⟨e,he⟩:=h n (by omega)
  refine ⟨l++[e],by simp[h1],λi hi=>?_⟩
  by_cases hil:i<l.length
  ·rw[List.getElem_append_left hil];exact h2 i hil
  ·have:i=n:=by simp at hi;omega
   subst this
   rw[List.getElem_append_right (by omega)]
   simpa[h1] using he
theorem UW {α:Type}{f:α→Option Value}:∀{L:List α}{l:LV},L.mapM f=some l→l.length=L.length∧∀(i:Nat) (a:α),L[i]?=some a→f a=l[i]?
 | [],l,h=>by
  simp at h
  subst h
  exact ⟨rfl,λi a h=>by simp at h⟩
 | x::L,l,h=>by
  simp only[List.mapM_cons,Option.bind_eq_bind,Option.pure_def,Option.bind_eq_some_iff] at h
  obtain ⟨v,hv,l1,h1,h2⟩:=h
  cases h2
  obtain ⟨h3,h4⟩:=UW h1
  refine ⟨by simp[h3],λi a hi=>?_⟩
  cases i with
  | zero=>simp at hi;subst hi;simpa using hv
  | succ i=>simpa using h4 i a (by simpa using hi)
def kT (P:Program) (k:IntKind):Nat→TypeId→Bool
 | 0,_=>false
 | m+1,t=>match P.underlying t with
  | some (.int k')=>k' == k
  | some (.array n e)=>kT P k m e && decide (0<P.cellsOf e) && decide (P.cellsOf t=n*P.cellsOf e)
  | some (.struct fs)=>(List.range (P.cellsOf t)).all λj=>fs.toList.any λf=>kT P k m f.type && decide (f.offset≤j∧j<f.offset+P.cellsOf f.type)
  | _=>false
theorem yZ {cs:LV}{o n j:Nat}{c:Value}(h:cs[j]?=some c) (h1:o≤j) (h2:j<o+n):c∈(cs.drop o).take n:=by
 refine List.mem_of_getElem? (i:=j - o) ?_
 rw[List.getElem?_take,if_pos (by omega),List.getElem?_drop,show o+(j - o)=j by omega]
 exact h
section
variable {H:Type} {enc:TypeId×Value→H} {P:Program} {W:World} {base b0:Nat} {sp:Nat→Bool} {held:Bool}
theorem Vh {k:IntKind}:∀(m:Nat) {t:TypeId}{cs:LV}{fuel:Nat}{x:DataW H×List MemPlace},kT P k m t=true→DataW.trod enc P W b0 sp held fuel t cs=some x→∀c∈cs,∃n,c=.int k n∧(Lit.int k n).wf=true
 | 0,_,_,_,_,h,_,_,_=>by cases h
 | m+1,t,cs,fuel,x,h,hf,c,hc=>by
  unfold kT at h
  obtain ⟨j,hj,hjc⟩:=List.getElem_of_mem hc
  have hj':cs[j]?=some c:=by rw[List.getElem?_eq_getElem hj,hjc]
  split at h
  ·rename_i k' hu
   have hk:k'=k:=by simpa using h
   subst hk
   obtain ⟨n,h1,_,h2⟩:=DataW.trod_int hu hf
   rw[h1] at hc
   exact ⟨n,List.mem_singleton.1 hc,h2⟩
  ·rename_i n e hu
   simp only[Bool.and_eq_true,decide_eq_true_eq] at h
   obtain ⟨⟨h1,h2⟩,h3⟩:=h
   obtain ⟨xs,m',_,_,hl,hxl,hx⟩:=DataW.trod_array hu hf
   have hdiv:=Nat.div_add_mod j (P.cellsOf e)
   have hmod:=Nat.mod_lt j h2
   have hi:j / P.cellsOf e<n:=by
    refine (Nat.div_lt_iff_lt_mul h2).2 ?_
    omega
   have hxi:=hx (j / P.cellsOf e) hi
   rw[List.getElem?_eq_getElem (show j / P.cellsOf e<xs.length by omega)] at hxi
   rw[Nat.mul_comm] at hdiv
   exact Vh m h1 hxi c (yZ hj' (by omega) (by omega))
  ·rename_i fs hu
   obtain ⟨xs,m',_,_,hl,hxl,hx⟩:=DataW.trod_struct hu hf
   have h1:=List.all_eq_true.1 h j (List.mem_range.2 (by omega))
   obtain ⟨f,hfm,h2⟩:=List.any_eq_true.1 h1
   simp only[Bool.and_eq_true,decide_eq_true_eq] at h2
   obtain ⟨i,hi,hif⟩:=List.getElem_of_mem hfm
   have hi2:i<fs.size:=by simpa using hi
   have hfi:fs[i]?=some f:=by rw[Array.getElem?_eq_getElem hi2,←hif];simp
   have hxi:=hx i f hfi
   rw[List.getElem?_eq_getElem (show i<xs.length by omega)] at hxi
   exact Vh m h2.1 hxi c (yZ hj' h2.2.1 h2.2.2)
  ·cases h
theorem Vn {k:IntKind}{m:Nat}{fs:Array Field}{cs:LV}{xs:List (DataW H×List MemPlace)}{m':Nat}(hxl:xs.length=fs.size)
  (hx:∀(i:Nat) (f:Field),fs[i]?=some f→DataW.trod enc P W b0 sp held m' f.type ((cs.drop f.offset).take (P.cellsOf f.type))=xs[i]?) {i j:Nat} {f:Field} {c:Value} (hf:fs[i]?=some f) (hk:kT P k m f.type=true) (h1:f.offset≤j) (h2:j<f.offset+P.cellsOf f.type) (hc:cs[j]?=some c) :
  ∃n,c=.int k n∧(Lit.int k n).wf=true:=by
 have hxi:=hx i f hf
 have hi:i<fs.size:=(Array.getElem?_eq_some_iff.1 hf).1
 rw[List.getElem?_eq_getElem (show i<xs.length by omega)] at hxi
 exact Vh m hk hxi c (yZ hc h1 h2)
theorem VF {c:Value}(h:∃n,c=.int .u8 n∧(Lit.int .u8 n).wf=true):∃n:Nat,c=.int .u8 (n:Int)∧n<256:=by
 obtain ⟨n,rfl,h1⟩:=h
 obtain ⟨m,rfl,h2⟩:=Qji h1
 exact ⟨m,rfl,h2⟩
theorem Qke {t e:TypeId}{c:Value}{fuel:Nat}{x:DataW H×List MemPlace}(ht:P.underlying t=some (.slice e)) (he:kT P .u8 5 e=true) (hc:P.cellsOf e=28)
  (hok:Cell.okWide P W .any base t c) (htr:DataW.trod enc P W b0 sp held fuel t [c]=some x):∃a n cp,c=.slice a n cp∧(n≤12→∃u:List PtV,u.length=n∧Zw [] W.heap (.slice a n cp) n 28 (u.flatMap Ye)):=by
 rcases DataW.trod_slice ht htr with ⟨hcs,_⟩ | ⟨a,len,cap,elems,rest,m,_,hcs,_,_,hl,_,hel,hread,_,_⟩
 ·simp at hcs
  subst hcs
  exact ⟨none,0,0,rfl,λ_=>⟨[],rfl,Zw.nil _ _ _⟩⟩
 ·simp at hcs
  subst hcs
  refine ⟨some a,len,cap,rfl,λh12=>?_⟩
  have each:∀i,i<len→∃d:PtV,∀r v,(Ye d)[r]?=some v→W.cell? (a.add (i*28+r))=some v:=by
   intro i hi
   have hr:=hread i hi
   rw[hc,List.getElem?_eq_getElem (show i<elems.length by omega)] at hr
   obtain ⟨cs,hcs,htd⟩:=Option.bind_eq_some_iff.1 hr
   have hall:=Vh 5 he htd
   obtain ⟨ns,h1,h2,h3⟩:=QbE cs (λv hv=>VF (hall v hv))
   unfold World.cells? at hcs
   split at hcs
   ·have hlen:cs.length=28:=by
     simpa using (UW hcs).1
    refine ⟨⟨ns,by omega,h3⟩,λr v hv=>?_⟩
    have hv':cs[r]?=some v:=by rw[h1];exact hv
    have hrl:r<28:=by have:=(List.getElem?_eq_some_iff.1 hv').1;omega
    have h4:=(UW hcs).2 r r (by simp[hrl])
    rw[Lg.Addr.add_add,hv'] at h4
    exact h4
   ·cases hcs
  obtain ⟨u,hul,hu⟩:=Qfg len each
  refine ⟨u,hul,?_⟩
  have hfl:(u.flatMap Ye).length=u.length*28:=QfI Ye 28 yz u
  refine ⟨by rw[hfl,hul],by omega,.inr ⟨a,cap,rfl,by omega,by simp,Qhg ht hok,λj v hv=>?_⟩⟩
  have hj:j<u.length*28:=by
   rw[←hfl]
   exact (List.getElem?_eq_some_iff.1 hv).1
  have hi:j / 28<u.length:=by omega
  have hat:=Jr Ye 28 yz u (j / 28) hi
  have hjr:j=j / 28*28+j % 28:=by omega
  have h3:(Ye (u[j / 28]'hi))[j % 28]?=some v:=by
   rw[←hat,List.getElem?_take,if_pos (Nat.mod_lt _ (by omega)),List.getElem?_drop,←hjr];exact hv
  rw[←Xo]
  have:=hu (j / 28) hi (j % 28) v h3
  rw[←hjr] at this
  exact this
end
theorem QkW {P:Program}{W:World}{base:Nat}{ts:List TypeId}{cs:Array Value}(h:∀(i:Nat) (v:Value),cs[i]?=some v→∃u,ts[i % ts.length]?=some u∧Cell.okWide P W .any base u v) (i:Nat) (t:TypeId) (v:Value) (hv:cs[i]?=some v) (ht:ts[i % ts.length]?=some t):Cell.okWide P W .any base t v:=by
 obtain ⟨u,hu,k⟩:=h i v hv
 rw[ht] at hu
 cases hu
 exact k
theorem QjS {H:Type}{enc:TypeId×Value→H}{P:Program}{W:World}{b0 m:Nat}{sp:Nat→Bool}{held:Bool}{fs:Array Field}{cs:LV}{xs:List (DataW H×List MemPlace)}
  (h:∀(i:Nat) (f:Field),fs[i]?=some f→DataW.trod enc P W b0 sp held m f.type ((cs.drop f.offset).take (P.cellsOf f.type))=xs[i]?) (i:Nat) {f:Field} {t o:Nat} {c:Value} (hf:fs[i]?=some f) (ht:f.type=t) (ho:f.offset=o) (hc:P.cellsOf t=1) (hcs:(cs.drop o).take 1=[c]) (hi:i<xs.length) :
  DataW.trod enc P W b0 sp held m t [c]=some (xs[i]'hi):=by
 have e:=h i f hf
 rw[ht,ho,hc,hcs] at e
 rw[e];simp[hi]
section
variable {H:Type} {enc:TypeId×Value→H} {P:Program} {W:World} {base b0:Nat} {sp:Nat→Bool} {held:Bool}
theorem QdM {v:Value}{d:DataW H}{ps:List MemPlace}{t tp te:Nat}{f0 f1 f2 f3 f4:Field}(hu:P.underlying t=some (.struct #[f0,f1,f2,f3,f4])) (hts':(P.cellTypes P.depth t).map (λts=>(ts.length,ts[82]?))=some (86,some tp)) (hc:P.cellsOf t=86)
  (h2t:f2.type=tp) (o0:f0.offset=0) (o1:f1.offset=81) (o2:f2.offset=82) (o3:f3.offset=83) (o4:f4.offset=85) (c0:P.cellsOf f0.type=81) (c1:P.cellsOf f1.type=1) (c2:P.cellsOf tp=1) (c3:P.cellsOf f3.type=2) (c4:P.cellsOf f4.type=1)
  (k0:kT P .u8 5 f0.type=true) (k1:kT P .u8 5 f1.type=true) (k3:kT P .u8 5 f3.type=true) (k4:kT P .u8 5 f4.type=true) (hup:P.underlying tp=some (.slice te)) (hke:kT P .u8 5 te=true) (hce:P.cellsOf te=28)
  (hval:Value.okWide P W .any base t v) (h:DataW.Trod enc P W b0 sp held t v d ps):∃l:LwV,v=.agg (Jp l).toArray∧LwA W l:=by
 simp only[Value.okWide,hu] at hval
 obtain ⟨cs,rfl,hsz,ts,hts,_,hcell⟩:=hval
 rw[hts] at hts'
 have hpr:=Option.some.inj hts'
 have htl:ts.length=86:=congrArg Prod.fst hpr
 have ht82:ts[82]?=some tp:=congrArg Prod.snd hpr
 rw[hc] at hsz
 obtain ⟨l⟩:=cs
 have hl:l.length=86:=hsz
 obtain ⟨fuel,hf⟩:=h
 obtain ⟨xs,m,_,_,_,hxl,hfld⟩:=DataW.trod_struct hu hf
 have hf':∀(i:Nat) (f:Field),(#[f0,f1,f2,f3,f4]:Array Field)[i]?=some f→DataW.trod enc P W b0 sp held m f.type ((l.drop f.offset).take (P.cellsOf f.type))=xs[i]?:=hfld
 have hxl5:xs.length=5:=hxl
 have g0:∀c∈l.take 81,∃n:Nat,c=.int .u8 (n:Int)∧n<256:=λc hm=>by
  obtain ⟨j,hj,hjc⟩:=List.getElem_of_mem hm
  have hj2:j<81:=by simp at hj;omega
  have hjc':l[j]?=some c:=by
   rw[List.getElem_take] at hjc
   rw[List.getElem?_eq_getElem (by omega),hjc]
  exact VF (Vn hxl hf' (i:=0) (f:=f0) rfl k0 (by omega) (by omega) hjc')
 obtain ⟨ns,e1,e2,e3⟩:=QbE _ g0
 have hnl:ns.length=81:=by rw[e2];simp;omega
 have at5:∀j,j<86→∃c,l[j]?=some c:=λj hj=>⟨l[j]'(by omega),List.getElem?_eq_getElem (by omega)⟩
 obtain ⟨x81,q81⟩:=at5 81 (by omega)
 obtain ⟨x82,q82⟩:=at5 82 (by omega)
 obtain ⟨x83,q83⟩:=at5 83 (by omega)
 obtain ⟨x84,q84⟩:=at5 84 (by omega)
 obtain ⟨x85,q85⟩:=at5 85 (by omega)
 have hld:l.drop 81=[x81,x82,x83,x84,x85]:=by
  apply List.ext_getElem?
  intro i
  rw[List.getElem?_drop]
  match i with
  | 0=>exact q81
  | 1=>exact q82
  | 2=>exact q83
  | 3=>exact q84
  | 4=>exact q85
  | i+5=>rw[List.getElem?_eq_none (by omega)];rfl
 obtain ⟨ct,rfl,hct⟩:=VF (Vn hxl hf' (i:=1) (f:=f1) rfl k1 (by omega) (by omega) q81)
 obtain ⟨y0,rfl,hy0⟩:=VF (Vn hxl hf' (i:=3) (f:=f3) rfl k3 (by omega) (by omega) q83)
 obtain ⟨y1,rfl,hy1⟩:=VF (Vn hxl hf' (i:=3) (f:=f3) rfl k3 (by omega) (by omega) q84)
 obtain ⟨cl,rfl,hcl⟩:=VF (Vn hxl hf' (i:=4) (f:=f4) rfl k4 (by omega) (by omega) q85)
 have w82:=QkW hcell 82 tp x82 (by simpa using q82) (by rw[htl];exact ht82)
 have t82:=QjS (c:=x82) hf' 2 rfl h2t o2 c2 (by rw[←List.drop_drop (i:=1) (j:=81),hld];rfl) (by omega)
 obtain ⟨a,n,cp,rfl,hP⟩:=Qke hup hke hce w82 t82
 refine ⟨⟨ns,ct,a,n,cp,y0,y1,cl⟩,?_,hnl,e3,hct,hy0,hy1,hcl,λh3=>hP (by have h4:n≤3:=h3;omega)⟩
 show Value.agg l.toArray=.agg (bys ns++_).toArray
 rw[←e1,←hld,List.take_append_drop]
end
set_option maxRecDepth 100000 in
theorem Qlk {H:Type}{enc:TypeId×Value→H}{W:World}{base b0:Nat}{sp:Nat→Bool}{held:Bool}{v:Value}{d:DataW H}{ps:List MemPlace}(hval:Value.okWide prog W .any base 30 v) (h:DataW.Trod enc prog W b0 sp held 30 v d ps) :
  ∃l:LwV,v=.agg (Jp l).toArray∧LwA W l :=
 QdM underlying30 (tp:=27) (by kernel_rfl) (by kernel_rfl) rfl rfl rfl rfl rfl rfl (by kernel_rfl) (by kernel_rfl) (by kernel_rfl) (by kernel_rfl) (by kernel_rfl) (by kernel_rfl) (by kernel_rfl) (by kernel_rfl) (by kernel_rfl) underlying27 (by kernel_rfl) (by kernel_rfl) hval h
theorem QkK {W:World}{l:List (String×DataW Unit)}{a b:String×DataW Unit}(hl:l=[a,b,("internal/strconv.uint64pow10",Lib.tabData .u64 Lib.pow10Tab)]) (h:laidMetH prog l W) (hp:(l.all λx=>x.2.handleName?.isNone)=true):Tb W:=by
 rw[Go.MakeChecks.laidMetH_plain _ _ _ hp,hl] at h
 exact Lib.tabIs_of_head (n:=20) (g:=0) (by kernel_rfl) (t:=362) (by kernel_rfl) (by kernel_rfl) (e:=331) (by kernel_rfl) (by kernel_rfl) (by kernel_rfl) h.tail.tail
end Go.Proofs.YtgmifemhkjdblaaGreatDoor
