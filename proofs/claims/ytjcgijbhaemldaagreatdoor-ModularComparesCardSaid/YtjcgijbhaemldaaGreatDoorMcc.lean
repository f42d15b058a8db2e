/- Merged out of 19 texts. -/
import Derived.Test.YtjcgijbhaemldaaGreatDoorMcb
namespace Go.Proofs.YtjcgijbhaemldaaGreatDoor
open Go.Proofs.Tryz
open Go.Lg
theorem UF (s:ByteArray)(V:Uq s)(w:World):QE prog 166 [.string s] w λr w'=>r=.bool (YD s)∧w'=w:=by
 unfold Uq at V;refine QE.of_W func166 O ntmps166 results166 (by simp) ?_;refine Qc<|Qe<|Qg<|Qc<|Qb<|x (Qce O)<|Qb<|xe<|Qh<|QA (α:=Nat) [(2,5),(8,46)] (λz=>[(8,.int .i64 z)]) (λz w'=>w'=w∧z≤s.size∧(List.range' z (s.size - z)).all (nmQ s)=(List.range' 0 s.size).all (nmQ s)) (λz=>s.size - z) (by rfl) 0 La ⟨O,Ll _,by rw[Nat.sub_zero]⟩ ?_;rintro k g U ⟨rfl,hk,E⟩
 refine Qc<|x (Qz O O)<|xe<|Qg<|QC O (λh9=>?_) (λh9=>?_)
 ·refine Qy ?_;have Y:s.size≤k:=by have ha:¬(k:Int)<(s.size:Int):=h9;omega
  rw[Qi9 Y]at E;have G:YD s=decide (0<s.size∧s.size≤32):=by unfold YD;rw[←E];simp
  rw[G];refine QX (α:=Bool) [(2,2),(47,54)] (λz=>[(2,.bool z)]) (λz w'=>w'=U∧z=decide (0<s.size∧s.size≤32)) (by rfl) ?_ ?_
  ·refine Qx<|Qb<|x (Qce O)<|xb (ZL O O) (λhb=>?_) (λhb=>?_)
   ·refine Qb<|Qb<|x (Qce O)<|x (Jv O O)<|x (Qq O)<|Qe ?_;exact⟨_,La,O,by first|exact bT (by omega)|exact bF (by omega)|exact bD (by omega)⟩
   refine Qb<|xs O<|xs O<|xs O<|x (Qq O)<|Qe ?_;exact⟨_,La,O,by first|exact bT (by omega)|exact bF (by omega)|exact bD (by omega)⟩
  rintro z g w2 ⟨rfl,rfl⟩;exact Qk ⟨[_],La,O,O⟩
 have H:k<s.size:=by have ha:(k:Int)<(s.size:Int):=h9;omega
 rw[Qf6 H,Mc]at E;refine Qi<|Qg<|Qh<|Qc<|Qb<|Qe<|Qc<|Qb<|Qb<|x (Qgi (i:=k) O O H)<|Qe ?_;have hq:nmQ s k=decide (nmP k (chr s k)):=rfl;refine Zb (chr s k) λc hc=>?_;rw[hc]at hq;refine QX (α:=Bool) [(5,5),(14,31)] (λz=>[(5,.bool z)]) (λz w'=>w'=U∧z=decide ((97≤c∧c≤122)∨(65≤c∧c≤90)∨c=95)) (by rfl) ?_ ?_
 ·rw[←hc];refine Qx<|Qb<|xb (ZN O O) (λhe=>?_) (λhe=>?_)
  ·refine Qb<|Qb<|xb (Jv O O) (λhf=>?_) (λhf=>?_)
   ·refine x (Qq O)<|Qb<|xs O<|xs O<|xs O<|xs O<|xs O<|xs O<|x (Qq O)<|Qb<|xs O<|xs O<|x (Qq O) <|
     Qe ?_
    exact⟨_,La,O,by first|exact bT (by omega)|exact bF (by omega)|exact bD (by omega)⟩
   refine x (Qq O)<|Qb<|Qb<|xb (ZN O O) (λI=>?_) (λI=>?_)
   ·refine Qb<|Qb<|xb (Jv O O) (λJ=>?_) (λJ=>?_)
    ·refine x (Qq O)<|x (Qq O)<|Qb<|xs O<|xs O<|x (Qq O)<|Qe ?_;exact⟨_,La,O,by first|exact bT (by omega)|exact bF (by omega)|exact bD (by omega)⟩
    refine x (Qq O)<|x (Qq O)<|Qb<|Qb<|x (Zl O O)<|x (Qq O)<|Qe ?_;exact⟨_,La,O,by first|exact bT (by omega)|exact bF (by omega)|exact bD (by omega)⟩
   refine Qb<|xs O<|xs O<|x (Qq O)<|x (Qq O)<|Qb<|Qb<|x (Zl O O)<|x (Qq O)<|x Qf <|
    xe ?_
   exact⟨_,La,O,by first|exact bT (by omega)|exact bF (by omega)|exact bD (by omega)⟩
  refine Qb<|xs O<|xs O<|x (Qq O)<|Qb<|Qb<|xb (ZN O O) (λI=>?_) (λI=>?_)
  ·refine Qb<|Qb<|xb (Jv O O) (λJ=>?_) (λJ=>?_)
   ·refine x (Qq O)<|x (Qq O)<|Qb<|xs O<|xs O<|x (Qq O)<|Qe ?_;exact⟨_,La,O,by first|exact bT (by omega)|exact bF (by omega)|exact bD (by omega)⟩
   refine x (Qq O)<|x (Qq O)<|Qb<|Qb<|x (Zl O O)<|x (Qq O)<|Qe ?_;exact⟨_,La,O,by first|exact bT (by omega)|exact bF (by omega)|exact bD (by omega)⟩
  refine Qb<|xs O<|xs O<|x (Qq O)<|x (Qq O)<|Qb<|Qb<|x (Zl O O)<|x (Qq O)<|x Qf <|
   xe ?_
  exact⟨_,La,O,by first|exact bT (by omega)|exact bF (by omega)|exact bD (by omega)⟩
 rintro z g w4 ⟨rfl,rfl⟩;refine QX (α:=Bool) [(32,45)] (λz=>[(45,.bool z)]) (λz w'=>w'=w4∧z=decide (¬nmP k c)) (by rfl) ?_ ?_
 ·unfold nmP;rw[←hc];refine Qx<|Qb<|xb (qG O) (λhg=>?_) (λhg=>?_)
  ·refine Qb<|Qb<|xb (Zl O O) (λhh=>?_) (λhh=>?_)
   ·refine Qb<|xs O<|xs O<|x (Qq O)<|Qb<|xs O<|xs O<|x (Qq O)<|x (Qq O)<|xe ?_;exact⟨_,La,O,by first|exact bT (by omega)|exact bF (by omega)|exact bD (by omega)⟩
   refine Qb<|Qb<|xb (Qz O O) (λhi=>?_) (λhi=>?_)
   ·refine x (Qq O)<|Qb<|xs O<|xs O<|x (Qq O)<|x (Qq O)<|xe ?_;exact⟨_,La,O,by first|exact bT (by omega)|exact bF (by omega)|exact bD (by omega)⟩
   refine x (Qq O)<|Qb<|Qb<|x (ZL O O)<|x (Qq O)<|x (Qq O)<|xe ?_;exact⟨_,La,O,by first|exact bT (by omega)|exact bF (by omega)|exact bD (by omega)⟩
  refine Qb<|xs O<|xs O<|xs O<|xs O<|xs O<|xs O<|xs O<|xs O<|xs O<|xs O<|x (Qq O)<|xe ?_;exact⟨_,La,O,by first|exact bT (by omega)|exact bF (by omega)|exact bD (by omega)⟩
 rintro z g w5 ⟨rfl,rfl⟩;refine Q4 rfl (λT=>?_) (λT=>?_)
 ·refine Qc<|Qe ?_;have G:YD s=false:=by
   unfold YD;rw[←E,hq,decide_eq_false T];rfl
  exact Qk ⟨[_],La,by rw[G];rfl,O⟩
 refine Qi ?_;have hj:nmP k c:=Lm.1 T;refine Qx<|QM O O<|Qb<|xe ?_;rw[hq,decide_eq_true hj,Bool.true_and]at E;exact⟨k+1,by omega,La,O,H,E⟩
def nmM (l:List ByteArray):List (ByteArray×Value):=l.map λs=>(s,.bool true)
theorem Qjl (l:List ByteArray)(s:ByteArray):mget (nmM l) s=if s∈l then some (.bool true)else none:=by
 induction l with
 | nil=>rfl
 | cons a l ih =>
  show(if a=s then some (Value.bool true)else mget (nmM l) s)=_
  rw[ih];by_cases h:a=s
  ·subst h;simp
  have:s≠a:=λe=>h e.symm;simp[h,this]
theorem Qdy {l:List ByteArray}{s:ByteArray}(h:s∉l):mput (nmM l) s (.bool true)=nmM (l++[s]):=by
 induction l with
 | nil=>rfl
 | cons a l ih =>
  have h1:a≠s:=λe=>h (by subst e;exact Lp);show(if a=s then(a,Value.bool true)::nmM l else(a,Value.bool true)::mput (nmM l) s (.bool true))=_
  rw[if_neg h1,ih (λhm=>h (Lk _ hm))];rfl
section
variable {P:Program}{f:Fr}{w:World}{d:Option Nat}{ty:Nat}{ps:String}{af:Array Edge}{gd:Option (Nat×Bool)}
theorem QaO {t kt et:Nat}[hm:Mp P t kt et (.bool false)][hk:Key P kt XZ]{x y:Operand}{b:Nat}{l:List ByteArray}{s:ByteArray}(h:ZI XZ w.heap b (nmM l))(hx:ev f x=.map (some b))(hy:ev f y=.string s):
  (execOp (ev f) ⟨d,.lookup t x y false,ty,ps,af,gd⟩).run P w=.ok (.value (.bool (decide (s∈l)))) w:=by
 rw[Ju h hx hy,Qjl];by_cases hs:s∈l <;> simp[hs]
end
theorem QcL {s:List ByteArray}{l:List Kc}{k:Nat}(h:k<l.length):V8 s (l.drop k)=if Xc s (l[k]'h)≠0 then Xc s (l[k]'h)else V8 (s++[(l[k]'h).nm]) (l.drop (k+1)):=by
 rw[Q9 h];rfl
theorem zi {L:LN}{w:World}{v:Value}{l:List Kc}(h:J9 L w.heap v l):QE prog 113 [v] w λr w'=>r=.int .i64 (XM l)∧Step [] w w':=by
 have hz:=h.arr.le;refine QE.of_W func113 O ntmps113 results113 (by simp) ?_;refine Qc<|Qe<|Qg<|Qc<|Qb<|x (Qr h.arr O)<|x (ZL O O)<|xe<|Q4 rfl (λh8=>?_) (λh8=>?_)
 ·refine Qc<|Qe ?_;exact Qk ⟨[_],La,by unfold XM;rw[if_pos (by have h9:(32:Int)<(l.length:Int):=h8;omega)];rfl,Step.refl _ _⟩
 have hck:XM l=V8 [] l:=by unfold XM;rw[if_neg (by have h9:¬(32:Int)<(l.length:Int):=h8;omega)]
 rw[hck];refine Qi<|Qc<|xl O<|Z0 XZ λb9 w1 hg hm ho=>Qe<|Qg<|Qc<|Qb<|x (Qr (h.arr.ext hg) O)<|Qb<|xe<|Qh<|QA (α:=Nat×List ByteArray) [(2,2),(5,5),(12,50)] (λz=>[(12,.int .i64 z.1)]) (λz w'=>z.1≤l.length∧Step [] w w'∧ZI XZ w'.heap b9 (nmM z.2)∧V8 z.2 (l.drop z.1)=V8 [] l) (λz=>l.length - z.1) (by rfl) (0,[]) La
  ⟨Ll _,hg,ho,O⟩ ?_
 rintro⟨k,sn⟩ g w2 ⟨hk,H,hh,E⟩;simp only[]at hk hh E;refine Qc<|x (Qz O O)<|xe<|Qg<|QC O (λha=>?_) (λha=>?_)
 ·refine Qy ?_;have hp:l.length≤k:=by have hq:¬(k:Int)<(l.length:Int):=ha;omega
  rw[Ls hp]at E;refine Qc<|Qe ?_;exact Qk ⟨[_],La,by rw[←E];rfl,H⟩
 have U:k<l.length:=by have hq:(k:Int)<(l.length:Int):=ha;omega
 rw[QcL U]at E;have hi:=h.nm _ (Li U);refine Qi<|Qg<|Qh<|Qc<|xig jY (h.arr.ext H) O O U λh0 hj=>?_;refine Zb (l[k]'U) λe he=>?_;rw[he]at hj E hi;refine x (QI hj O O)<|xl O<|Qu (us:=[.string .empty,.bool false,.bool false,.bool false,.int .i64 0]) O λb5 w3 hr hs G=>xl O<|Qo (us:=Zh e) G O O O O ⟨O,O,O,O,O,Z⟩ λw4 ht G =>
  xe ?_
 have I:Step [] w2 w4:=hr.then1 ht hs;have hl:=hh.ext I;refine Qg<|Qh<|Qc<|x (Qa O)<|x (Qd G O O)<|xl O<|xf<|(UF e.nm hi _).mono ?_;rintro r5 w5 ⟨rfl,rfl⟩;refine x (Zq O)<|Qe<|QY O (λhb=>?_) (λhb=>?_)
 ·have J:YD e.nm=false:=by simpa using hb
  have h1:Xc sn e=7:=by unfold Xc;rw[if_pos J]
  refine Qc<|Qe ?_;exact Qk ⟨[_],La,by rw[←E,h1];rfl,H.trans I⟩
 have J:¬YD e.nm=false:=by simpa using hb
 refine Qc<|Qb<|x (Qa O)<|x (Qd G O O)<|x (QaO hl O O)<|Qe<|Q4 O (λT=>?_) (λT=>?_)
 ·have h1:Xc sn e=8:=by unfold Xc;rw[if_neg J,if_pos T]
  refine Qc<|Qe ?_;exact Qk ⟨[_],La,by rw[←E,h1];rfl,H.trans I⟩
 refine QX (α:=Bool) [(26,34)] (λz=>[(26,.bool z)]) (λz w'=>w'=w5∧z=decide (e.fl<0∨4<e.fl)) (by rfl) ?_ ?_
 ·refine Qx<|x (Qa O)<|x (Qd G O O)<|xb (Qz O O) (λhu=>?_) (λhu=>?_)
  ·refine Qb<|xs O<|xs O<|xs O<|x (Qq O)<|Qe ?_;exact⟨_,La,O,by first|exact bT (by omega)|exact bF (by omega)|exact bD (by omega)⟩
  refine Qb<|x (Qa O)<|x (Qd G O O)<|x (ZL O O)<|x (Qq O)<|Qe ?_;exact⟨_,La,O,by first|exact bT (by omega)|exact bF (by omega)|exact bD (by omega)⟩
 rintro z g w6 ⟨rfl,rfl⟩;refine Q4 rfl (λV=>?_) (λV=>?_)
 ·have h1:Xc sn e=2:=by unfold Xc;rw[if_neg J,if_neg T,if_pos V]
  refine Qc<|Qe ?_;exact Qk ⟨[_],La,by rw[←E,h1];rfl,H.trans I⟩
 refine QX (α:=Bool) [(35,46)] (λz=>[(35,.bool z)]) (λz w'=>w'=w6∧z=decide (e.fl≠0∧(e.co || e.ob)=true)) (by rfl) ?_ ?_
 ·refine Qx<|x (Qa O)<|x (Qd G O O)<|xb (Q7 O O) (λY=>?_) (λY=>?_)
  ·refine Qb<|x (Qa O)<|xB (Qd G O O) (λhc=>?_) (λhc=>?_)
   ·refine Qb<|xs O<|xs O<|x (Qq O)<|x (Qq O)<|Qe ?_;exact⟨_,La,O,by rw[hc,decide_eq_true ⟨Y,by simp⟩]⟩
   refine Qb<|x (Qa O)<|x (Qd G O O)<|x (Qq O)<|x (Qq O)<|Qe<|⟨_,La,O,?_⟩;show e.ob=_;rw[hc];cases e.ob <;> simp[show ¬e.fl=0 from Y]
  refine Qb<|xs O<|xs O<|xs O<|xs O<|xs O<|xs O<|x (Qq O)<|Qe ?_;exact⟨_,La,O,bF (λh1=>Y h1.1)⟩
 rintro z g w7 ⟨rfl,rfl⟩;refine Q4 rfl (λhf=>?_) (λhf=>?_)
 ·have h1:Xc sn e=13:=by unfold Xc;rw[if_neg J,if_neg T,if_neg V,if_pos hf]
  refine Qc<|Qe ?_;exact Qk ⟨[_],La,by rw[←E,h1];rfl,H.trans I⟩
 have h1:Xc sn e=0:=by unfold Xc;rw[if_neg J,if_neg T,if_neg V,if_neg hf]
 rw[h1,if_neg (λh=>h rfl)]at E;refine Qi<|Qx<|Qb<|x (Qa O)<|x (Qd G O O)<|xl O<|YI (k:=e.nm) hl O O λw8 hv hw=>xe ?_;refine Qx<|QM O O<|Qb<|xe ?_;have hy:ZI XZ w8.heap b9 (nmM (sn++[e.nm])):=by rw[←Qdy T];exact hw
 exact⟨(k+1,sn++[e.nm]),by simp only[];omega,La,U,(H.trans I).then1 hv hm,hy,E⟩
theorem Qa6 {α:Type}(q:α→Bool)(x:α):∀(l:List α) (i:Nat),ixs q i (l++[x])=ixs q i l++if q x=true then[((i+l.length:Nat):Int)]else[]
 | [],i=>by simp[ixs]
 | a::l,i=>by
  have ih:=Qa6 q x l (i+1);simp only[List.cons_append,ixs,ih,List.length_cons];rw[show i+1+l.length=i+(l.length+1) by omega];split <;> simp
theorem KQ {α:Type}(q:α→Bool):∀(l:List α) (i:Nat),(ixs q i l).length≤l.length
 | [],i=>by simp[ixs]
 | a::l,i=>by
  have ih:=KQ q l (i+1);unfold ixs;split <;> simp <;> omega
theorem Qa5 {α:Type}(q:α→Bool){l:List α}{k:Nat}(h:k<l.length):ixs q 0 (l.take (k+1))=ixs q 0 (l.take k)++if q (l[k]'h)=true then[(k:Int)]else[]:=by
 rw[Le h,Qa6];simp[Nat.min_eq_left (Nat.le_of_lt h)]
theorem Qe9 {g:Nat}{fn:Func}[Fu prog g fn]{q:Kc→Bool}(hq:∀(e:Kc) (w:World),QE prog g [.agg (Zh e).toArray] w λr w'=>r=.bool (q e)∧Step [] w w'){L:LN}{w:World}{v:Value}{l:List Kc}(h:J9 L w.heap v l):
  QE prog 120 [v,.func (.func g) #[] #[]] w λr w'=>Step [] w w'∧Qt 3 w.heap.size w' r (ixs q 0 l):=by
 have hs:=h.arr.le;refine QE.of_W func120 O ntmps120 results120 (by simp) ?_;refine Qc<|Qe<|Qc<|Qe<|Qg<|Qc<|Qb<|x (Qr h.arr O)<|Qb<|xe<|Qh<|QA (α:=Nat×Value) [(5,7),(10,22)] (λz=>[(5,z.2),(10,.int .i64 z.1)]) (λz w'=>z.1≤l.length∧Step [] w w'∧Qt 3 w.heap.size w' z.2 (ixs q 0 (l.take z.1))) (λz=>l.length - z.1) (by rfl) (0,nS) ⟨O,O,Z⟩
  ⟨Ll _,Step.refl _ _,QP _ _ _ _⟩ ?_
 rintro⟨k,vo⟩ g w1 ⟨hk,E,I⟩;simp only[]at hk I;refine Qc<|x (Qz O O)<|xe<|Qg<|QC O (λT=>?_) (λT=>?_)
 ·refine Qy ?_;have hf:l.length≤k:=by have hg:¬(k:Int)<(l.length:Int):=T;omega
  rw[Ln hf]at I;refine Qc<|Qb<|Qe ?_;exact Qk ⟨[_],La,E,I⟩
 have G:k<l.length:=by have hg:(k:Int)<(l.length:Int):=T;omega
 have H:=Qa5 q G;have ht:=KQ q (l.take k) 0;have hu:(l.take k).length=k:=by simp;omega
 refine Qi<|Qg<|Qh<|Qc<|Qb<|xig jY (h.arr.ext E) O O G λhv hc=>?_;refine Zb (l[k]'G) λe he=>?_;rw[he]at hc H;refine x (QI hc O O)<|xl O<|Qu (us:=[.string .empty,.bool false,.bool false,.bool false,.int .i64 0]) O λb7 w2 hh hi U=>x Qf <|
  xl rfl<|Qo (us:=Zh e) U O O O O ⟨O,O,O,O,O,Z⟩ λw3 hj U=>xe ?_
 have hl:Step [] w1 w3:=hh.then1 hj hi;refine Qc<|Qb<|x (Qn U O O)<|xl O<|xc (first:=[]) (capt:=[]) O<|(hq e w3).mono ?_;rintro r4 w4 ⟨rfl,hm⟩;have J:=hl.trans hm;have V:=Qs I J;have hw:=(E.trans J).size;refine xe<|QY rfl (λY=>?_) (λY=>?_)
 ·rw[if_pos Y]at H;refine Qx<|Qb<|Qb<|xl O<|QF (us:=[[.int .i64 k]]) O O (by decide) (by simp) ⟨rfl,rfl,Z⟩ λhy w5 ha hz hn=>?_;have ho:=Qs V ha;have h0:=ha.size;refine xl O<|Q5 (news:=[.int .i64 k]) (L:=[]) ho O O O (hn.at (by simp)) (by simp[Value.oneCell']) (by omega) (by omega) λv6 w6 hp hr h1 =>
   Qe ?_
  have hge:=Qp V;refine Qx<|QM O O<|Qb<|xe<|⟨(k+1,v6),by simp only[];omega,⟨O,O,Z⟩,G,((E.trans J).trans ha).then hr (λb hb=>.inr (hge b hb).1),?_⟩;simp only[];rw[H];exact Qt.snoc hp
 rw[if_neg (by rw[Y];decide),LK]at H;refine Qi<|Qx<|QM O O<|Qb<|xe ?_;exact⟨(k+1,vo),by simp only[];omega,⟨O,O,Z⟩,G,E.trans J,by simp only[];rw[H];exact V⟩
theorem QcW (e:Kc)(w:World):QE prog 115 [.agg (Zh e).toArray] w λr w'=>r=.bool (!e.co)∧Step [] w w':=by
 refine QE.of_W func115 O ntmps115 results115 (by simp) ?_;refine Qc<|xl O<|QQ (us:=Zh e) O λH I E J G=>Qe<|Qc<|x (Qa O)<|x (Qd G O O)<|x (Zq O)<|Qe ?_;exact Qk ⟨[_],La,O,E⟩
theorem UD {L:LN}{w:World}{v:Value}{l:List Kc}(h:J9 L w.heap v l):QE prog 65 [v,.int .i64 2] w λr w'=>Step [] w w' ∧
  ∃vo,r=.tuple #[vo,.int .i64 (XM l)]∧Qt 3 w.heap.size w' vo (if XM l=0 then unc l else[]):=by
 refine QE.of_W func65 O ntmps65 results65 (by simp) ?_;refine Qc<|x Qf<|Qe<|Qg<|Qc<|Qb<|xl O<|xf<|(zi h).mono ?_;rintro r1 T ⟨rfl,I⟩;refine Qe<|Qc<|Qb<|x (Q7 O O)<|xe<|Q4 rfl (λG=>?_) (λG=>?_)
 ·refine Qc<|Qb<|x Qf<|Qe ?_;exact Qk ⟨[_,_],⟨O,O,Z⟩,I,_,O,by rw[if_neg G];exact QP _ _ _ _⟩
 have J:XM l=0:=Lm.1 G;refine Qi<|Qc<|xl O<|Z0 Jp λb15 w2 U E V=>xl O<|Yi (k:=1) V O O λw3 Y ha=>xl O<|Yi (k:=2) ha O O λw4 hb hc =>
  xl rfl<|Yi (k:=3) hc O O λw5 he hf=>xl O<|Yi (k:=4) hf O O λw6 hg hh=>xl O<|Yi (k:=5) hh O O λw7 hi hj=>xl O<|Yi (k:=6) hj O O λw8 hk hl =>
  Qb<|Qe ?_
 have hm:Step [] T w8:=(((((U.then1 Y E).then1 hb E).then1 he E).then1 hg E).then1 hi E).then1 hk E;refine Qc<|Qb<|Qb<|x (yt (k:=(2:Int)) hl O O O)<|Qb<|x (Qj O O)<|x (Qj O O)<|x Qf<|Qe<|Qg<|Qc<|Qb<|x (Zq O)<|xe<|ZO rfl ?_;refine Qi ?_;have H:=I.trans hm;refine Qc<|Qb<|Qb<|xl O<|xf<|(Qe9 QcW (h.ext H)).mono ?_;rintro r9 w9 ⟨hn,ho⟩
 refine x Qf<|Qe<|Qk ⟨[_,_],⟨O,O,Z⟩,H.trans hn,_,by rw[J];rfl,?_⟩;rw[if_pos J];exact Zc ho H.size
theorem Qa9 (n:Int)(w:World):QE prog 213 [.int .i64 n] w λr w'=>r=.bool (grt n)∧w'=w:=by
 refine QE.of_W func213 O ntmps213 results213 (by simp) ?_;refine Qc<|Qe<|QX (α:=Bool) [(2,8)] (λz=>[(2,.bool z)]) (λz w'=>w'=w∧z=grt n) (by rfl) ?_ ?_
 ·refine Qx<|Qb<|xb (Qz O O) (λh4=>?_) (λh4=>?_)
  ·refine Qb<|xs O<|xs O<|x (Qq O)<|Qe ?_;exact⟨_,La,O,by unfold grt;rw[decide_eq_true h4];rfl⟩
  refine Qb<|Qb<|x (ZL O O)<|x (Qq O)<|Qe ?_;exact⟨_,La,O,by unfold grt;rw[decide_eq_false h4];rfl⟩
 rintro z g E ⟨rfl,rfl⟩;exact Qk ⟨[_],La,O,O⟩
theorem QcK {sz:LI}{ls:List (Int×Int)}{k:Nat}(h:k<ls.length):Yq sz (pv (ls.map (·.1)) k) (ls.drop k)=if(ls[k]'h).1<0∨(sz.length:Int)≤(ls[k]'h).1 then 2 else if U8 (pv (ls.map (·.1)) k) (ls[k]'h).1=true then 5 else if(ls[k]'h).2<0∨cget sz (ls[k]'h).1.toNat≤(ls[k]'h).2 then 2 else Yq sz (pv (ls.map (·.1)) (k+1)) (ls.drop (k+1)):=by
 rw[Q9 h,JM (by simpa using h),Ml];rfl
theorem Ua {w:World}{vs vx vk vl:Value}{sz:LI}{ls:List (Int×Int)}{nm:ByteArray}(hS:QH [] w.heap vs sz)(hl:P2s [] w.heap vl ls):
  QE prog 177 [.agg #[vs,vx,vk],.agg #[.string nm,vl]] w λr w'=>r=.int .i64 (Jn sz ls)∧Step [] w w':=by
 have hF:=hl.le;refine QE.of_W func177 O ntmps177 results177 (by simp) ?_;refine Qc<|xl O<|QQ (us:=[vs,vx,vk]) O λb2 w1 hw hG U=>xl O<|QQ (us:=[.string nm,vl]) O λb3 w2 ho hH V=>Qe ?_;have E:=hw.trans ho
 replace U:=U.ext ho;refine Qg<|Qc<|x (Qa O)<|x (Qd V O O)<|x (Qr (hl.ext E) O)<|x (Zl O O)<|xe<|Q4 rfl (λY=>?_) (λY=>?_)
 ·refine Qc<|Qe ?_;exact Qk ⟨[_],La,by unfold Jn;rw[if_pos (by have hy:(ls.length:Int)=0:=Y;omega)];rfl,E⟩
 have hz:ls.length≠0:=by have hy:¬(ls.length:Int)=0:=Y;omega
 have h0:Jn sz ls=Yq sz none ls:=by unfold Jn;rw[if_neg hz]
 rw[h0];refine Qi<|Qg<|Qc<|x (Qa O)<|x (Qd V O O)<|x (Qr (hl.ext E) O)<|Qb<|xe<|Qh<|QA (α:=Nat) [(4,6),(14,61)] (λz=>[(14,.int .i64 z)]) (λz w'=>z≤ls.length∧Step [] w2 w'∧Yq sz (pv (ls.map (·.1)) z) (ls.drop z)=Yq sz none ls) (λz=>ls.length - z) (by rfl) 0 La
  ⟨Ll _,Step.refl _ _,O⟩ ?_
 rintro k g w3 ⟨hk,I,hck⟩;have ha:=E.trans I;have hp:=U.ext I;have h1:=V.ext I;have hq:=hl.ext ha;have hr:=hS.ext ha;refine Qc<|x (Qz O O)<|xe<|Qg<|QC O (λhb=>?_) (λhb=>?_)
 ·refine Qy ?_;have h2:ls.length≤k:=by have h3:¬(k:Int)<(ls.length:Int):=hb;omega
  rw[Ls h2]at hck;refine Qc<|Qe ?_;exact Qk ⟨[_],La,by rw[←hck];rfl,ha⟩
 have J:k<ls.length:=by have h3:(k:Int)<(ls.length:Int):=hb;omega
 rw[QcK J]at hck;refine Qi<|Qg<|Qh<|Qc<|Qb<|xig Y3 hq O O J λhI hs=>?_;refine Zb (ls[k]'J) λe he=>?_;rw[he]at hs hck;refine x (QI hs O O)<|xl O<|Qu (us:=[.int .i64 0,.int .i64 0]) O λb6 w4 h4 h5 H=>x Qf<|xl O<|Qo (us:=QU e) H O O O O ⟨O,O,Z⟩ λw5 h6 H=>xe ?_;have G:Step [] w3 w5:=h4.then1 h6 h5;have ht:=I.trans G
 refine Qh<|QX (α:=Bool) [(19,30)] (λz=>[(19,.bool z)]) (λz w'=>w'=w5∧z=decide (e.1<0∨(sz.length:Int)≤e.1)) (by rfl) ?_ ?_
 ·refine Qx<|x (Qa O)<|x (Qd H O O)<|xb (Qz O O) (λh7=>?_) (λh7=>?_)
  ·refine Qb<|xs O<|xs O<|xs O<|xs O<|xs O<|xs O<|x (Qq O)<|Qe ?_;exact⟨_,La,O,by first|exact bT (by omega)|exact bF (by omega)|exact bD (by omega)⟩
  refine Qb<|x (Qa O)<|x (Qd H O O)<|x (Qa O)<|x (Qd (hp.ext G) O O)<|x (Qr (hr.ext G) O)<|x (ZN O O) <|
   x (Qq rfl)<|Qe ?_
  exact⟨_,La,O,by first|exact bT (by omega)|exact bF (by omega)|exact bD (by omega)⟩
 rintro z g w6 ⟨rfl,rfl⟩;refine Q4 rfl (λhf=>?_) (λhf=>?_)
 ·rw[if_pos hf]at hck;refine Qc<|Qe ?_;exact Qk ⟨[_],La,by rw[←hck];rfl,E.trans ht⟩
 rw[if_neg hf]at hck;have h8:e.1=((e.1.toNat:Nat):Int):=by omega
 have h9:e.1.toNat<sz.length:=by omega
 refine QX (α:=Bool) [(31,45)] (λz=>[(31,.bool z)]) (λz w'=>Step [] w6 w'∧z=U8 (pv (ls.map (·.1)) k) e.1) (by rfl) ?_ ?_
 ·refine QV (Step [] w6) [(0,true),(1,true),(2,true),(3,true),(4,true),(5,true),(6,true),(7,true),(8,true),(9,true),(10,true),(11,true),(12,true),(13,true),(14,true)] mixed (by rfl) (by kernel_rfl) (Step.drew _ _) ?_;refine p (λ_=>Qm)<|pb (λ_=>ZL O O) (λhg=>?_) (λhg=>?_)
  ·have hh:k≠0:=by have hA:(0:Int)<(k:Int):=hg;omega
   have hk1:((k:Int) - 1)=((k - 1:Nat):Int):=by omega
   have hi:k - 1<ls.length:=by omega
   refine p (λ_=>Qm)<|p (λ_=>Qa O)<|pq (λ_ hc=>Qd (H.ext hc) O O)<|p (λ_=>Qa O)<|pq (λ_ hc=>Qd ((h1.ext G).ext hc) O O) <|
    p (λ_=>Qm)<|p (λ_=>Jf O O ⟨by omega,by omega⟩)<|Lg.pig (g:=QU) (i:=k - 1) O Y3 (hq.ext G) O (congrArg (Value.int .i64) hk1) hi λhJ hB=>p (λ_=>Zg O) <|
    pq (λ_ hc=>Qv ((hB.fld 0 _ O).ext hc) O)<|p (λ_=>Jv O O)<|p (λ_=>Qq O)<|p (λ_=>Qf)<|pe ?_
   refine⟨_,La,Step.drew _ _,?_⟩;have:pv (ls.map (·.1)) k=some (ls[k - 1]'hi).1:=by simp[pv,hh,hi]
   rw[this];rfl
  have hh:k=0:=by have hA:¬(0:Int)<(k:Int):=hg;omega
  refine p (λ_=>Qm)<|ps<|ps<|ps<|ps<|ps<|ps<|ps<|ps<|ps<|ps<|p (λ_=>Qq O)<|p (λ_=>Qf)<|pe ?_;exact⟨false,La,Step.drew _ _,by simp[pv,hh,U8]⟩
 rintro z g w7 ⟨T,rfl⟩;have hu:=ht.trans T;refine QY rfl (λhj=>?_) (λhj=>?_)
 ·rw[if_pos hj]at hck;refine Qc<|Qe ?_;exact Qk ⟨[_],La,by rw[←hck];rfl,E.trans hu⟩
 rw[if_neg (by simp[hj])]at hck;have hm:=H.ext T;refine QX (α:=Bool) [(46,60)] (λz=>[(46,.bool z)]) (λz w'=>Step [] w7 w'∧z=decide (e.2<0∨cget sz e.1.toNat≤e.2)) (by rfl) ?_ ?_
 ·refine QV (Step [] w7) [(0,true),(1,true),(2,true),(3,true),(4,true),(5,true),(6,true),(7,true),(8,true),(9,true),(10,true),(11,true),(12,true),(13,true),(14,true)] mixed (by rfl) (by kernel_rfl) (Step.drew _ _) ?_;refine p (λ_=>Qa O)<|pq (λ_ hc=>Qd (hm.ext hc) O O)<|pb (λ_=>Qz O O) (λhC=>?_) (λhC=>?_)
  ·refine p (λ_=>Qm)<|ps<|ps<|ps<|ps<|ps<|ps<|ps<|ps<|ps<|p (λ_=>Qq O)<|p (λ_=>Qf)<|pe ?_;exact⟨_,La,Step.drew _ _,by first|exact bT (by omega)|exact bF (by omega)|exact bD (by omega)⟩
  refine p (λ_=>Qm)<|p (λ_=>Qa O)<|pq (λ_ hc=>Qd (hm.ext hc) O O)<|p (λ_=>Qa O)<|pq (λ_ hc=>Qd (((hp.ext G).ext T).ext hc) O O) <|
   p (λ_=>Qa O)<|pq (λ_ hc=>Qd (hm.ext hc) O O)<|pic (i:=e.1.toNat) O ((hr.ext G).ext T) O (congrArg (Value.int .i64) h8) h9 λhK hD=>pq (λ_ hc=>Qv (hD.ext hc) O) <|
   p (λ_=>ZN O O)<|p (λ_=>Qq O)<|p (λ_=>Qf)<|pe ?_
  exact⟨_,La,Step.drew _ _,by first|exact bT (by omega)|exact bF (by omega)|exact bD (by omega)⟩
 rintro z g w8 ⟨hE,rfl⟩;have hv:=hu.trans hE;refine Q4 rfl (λhn=>?_) (λhn=>?_)
 ·rw[if_pos hn]at hck;refine Qc<|Qe ?_;exact Qk ⟨[_],La,by rw[←hck];rfl,E.trans hv⟩
 rw[if_neg hn]at hck;refine Qi<|Qx<|QM O O<|Qb<|xe ?_;exact⟨k+1,by omega,La,J,hv,hck⟩
theorem QcH {sz:LI}{ls:List (Int×Int)}{k:Nat}(h:k<ls.length):Jm sz (pv (ls.map (·.1)) k) (ls.drop k)=if(ls[k]'h).1<0∨(sz.length:Int)≤(ls[k]'h).1 then 2 else if U8 (pv (ls.map (·.1)) k) (ls[k]'h).1=true then 5 else if(ls[k]'h).2=0∨grt (ls[k]'h).2=true then 2 else Jm sz (pv (ls.map (·.1)) (k+1)) (ls.drop (k+1)):=by
 rw[Q9 h,JM (by simpa using h),Ml];rfl
theorem Vr {w:World}{vs vx vk vl:Value}{sz:LI}{ls:List (Int×Int)}{nm:ByteArray}{bd:Int}(hS:QH [] w.heap vs sz)(hl:P2s [] w.heap vl ls):
  QE prog 179 [.agg #[vs,vx,vk],.agg #[.string nm,vl,.int .i64 bd]] w λr w'=>r=.int .i64 (Xd sz ⟨nm,ls,bd⟩)∧Step [] w w':=by
 have hF:=hl.le;refine QE.of_W func179 O ntmps179 results179 (by simp) ?_;refine Qc<|xl O<|QQ (us:=[vs,vx,vk]) O λb2 w1 hz hG U=>xl O<|QQ (us:=[.string nm,vl,.int .i64 bd]) O λb3 w2 hp hH V=>Qe ?_;have E:=hz.trans hp
 replace U:=U.ext hp;refine Qg<|Qc<|x (Qa O)<|x (Qd V O O)<|x (Qr (hl.ext E) O)<|x (Zl O O)<|xe<|Q4 rfl (λY=>?_) (λY=>?_)
 ·refine Qc<|Qe ?_;exact Qk ⟨[_],La,by unfold Xd;rw[if_pos (by have h0:(ls.length:Int)=0:=Y;show ls.length=0;omega)];rfl,E⟩
 have h1:ls.length≠0:=by have h0:¬(ls.length:Int)=0:=Y;omega
 have h2:Xd sz ⟨nm,ls,bd⟩=if Jm sz none ls≠0 then Jm sz none ls else if grt bd=true then 2 else 0:=by unfold Xd;rw[if_neg h1]
 rw[h2];refine Qi<|Qg<|Qc<|x (Qa O)<|x (Qd V O O)<|x (Qr (hl.ext E) O)<|Qb<|xe<|Qh<|QA (α:=Nat) [(4,6),(14,55)] (λz=>[(14,.int .i64 z)]) (λz w'=>z≤ls.length∧Step [] w2 w'∧Jm sz (pv (ls.map (·.1)) z) (ls.drop z)=Jm sz none ls) (λz=>ls.length - z) (by rfl) 0 La
  ⟨Ll _,Step.refl _ _,O⟩ ?_
 rintro k g w3 ⟨hk,I,hck⟩;have J:=E.trans I;have h3:=U.ext I;have hq:=V.ext I;have hr:=hl.ext J;have h4:=hS.ext J;refine Qc<|x (Qz O O)<|xe<|Qg<|QC O (λha=>?_) (λha=>?_)
 ·refine Qy ?_;have h5:ls.length≤k:=by have h6:¬(k:Int)<(ls.length:Int):=ha;omega
  rw[Ls h5]at hck;have h7:Jm sz none ls=0:=hck.symm;rw[h7,if_neg (λh=>h rfl)];refine Qg<|Qc<|x (Qa O)<|x (Qd hq O O)<|xl O<|xf<|(Qa9 bd _).mono ?_;rintro r4 w4 ⟨rfl,rfl⟩;refine xe<|QY O (λhb=>?_) (λhb=>?_)
  ·rw[if_pos hb];refine Qc<|Qe ?_;exact Qk ⟨[_],La,O,J⟩
  rw[if_neg (by simp[hb])];refine Qi<|Qc<|Qe ?_;exact Qk ⟨[_],La,O,J⟩
 have T:k<ls.length:=by have h6:(k:Int)<(ls.length:Int):=ha;omega
 rw[QcH T]at hck;refine Qi<|Qg<|Qh<|Qc<|Qb<|xig Y3 hr O O T λhI hs=>?_;refine Zb (ls[k]'T) λe he=>?_;rw[he]at hs hck;refine x (QI hs O O)<|xl O<|Qu (us:=[.int .i64 0,.int .i64 0]) O λb6 w4 h8 h9 G=>x Qf<|xl O<|Qo (us:=QU e) G O O O O ⟨O,O,Z⟩ λw5 hA G=>xe ?_;have H:Step [] w3 w5:=h8.then1 hA h9;have ht:=I.trans H
 refine Qh<|QX (α:=Bool) [(19,30)] (λz=>[(19,.bool z)]) (λz w'=>w'=w5∧z=decide (e.1<0∨(sz.length:Int)≤e.1)) (by rfl) ?_ ?_
 ·refine Qx<|x (Qa O)<|x (Qd G O O)<|xb (Qz O O) (λhB=>?_) (λhB=>?_)
  ·refine Qb<|xs O<|xs O<|xs O<|xs O<|xs O<|xs O<|x (Qq O)<|Qe ?_;exact⟨_,La,O,by first|exact bT (by omega)|exact bF (by omega)|exact bD (by omega)⟩
  refine Qb<|x (Qa O)<|x (Qd G O O)<|x (Qa O)<|x (Qd (h3.ext H) O O)<|x (Qr (h4.ext H) O)<|x (ZN O O) <|
   x (Qq rfl)<|Qe ?_
  exact⟨_,La,O,by first|exact bT (by omega)|exact bF (by omega)|exact bD (by omega)⟩
 rintro z g w6 ⟨rfl,rfl⟩;refine Q4 rfl (λhf=>?_) (λhf=>?_)
 ·rw[if_pos hf]at hck;refine Qc<|Qe ?_;exact Qk ⟨[_],La,by rw[←hck,if_pos (by decide)];rfl,E.trans ht⟩
 rw[if_neg hf]at hck;have hJ:e.1=((e.1.toNat:Nat):Int):=by omega
 refine QX (α:=Bool) [(31,45)] (λz=>[(31,.bool z)]) (λz w'=>Step [] w6 w'∧z=U8 (pv (ls.map (·.1)) k) e.1) (by rfl) ?_ ?_
 ·refine QV (Step [] w6) [(0,true),(1,true),(2,true),(3,true),(4,true),(5,true),(6,true),(7,true),(8,true),(9,true),(10,true),(11,true),(12,true),(13,true),(14,true)] mixed (by rfl) (by kernel_rfl) (Step.drew _ _) ?_;refine p (λ_=>Qm)<|pb (λ_=>ZL O O) (λhh=>?_) (λhh=>?_)
  ·have hi:k≠0:=by have hC:(0:Int)<(k:Int):=hh;omega
   have hk1:((k:Int) - 1)=((k - 1:Nat):Int):=by omega
   have hj:k - 1<ls.length:=by omega
   refine p (λ_=>Qm)<|p (λ_=>Qa O)<|pq (λ_ hc=>Qd (G.ext hc) O O)<|p (λ_=>Qa O)<|pq (λ_ hc=>Qd ((hq.ext H).ext hc) O O) <|
    p (λ_=>Qm)<|p (λ_=>Jf O O ⟨by omega,by omega⟩)<|Lg.pig (g:=QU) (i:=k - 1) O Y3 (hr.ext H) O (congrArg (Value.int .i64) hk1) hj λhK hD=>p (λ_=>Zg O) <|
    pq (λ_ hc=>Qv ((hD.fld 0 _ O).ext hc) O)<|p (λ_=>Jv O O)<|p (λ_=>Qq O)<|p (λ_=>Qf)<|pe ?_
   refine⟨_,La,Step.drew _ _,?_⟩;have:pv (ls.map (·.1)) k=some (ls[k - 1]'hj).1:=by simp[pv,hi,hj]
   rw[this];rfl
  have hi:k=0:=by have hC:¬(0:Int)<(k:Int):=hh;omega
  refine p (λ_=>Qm)<|ps<|ps<|ps<|ps<|ps<|ps<|ps<|ps<|ps<|ps<|p (λ_=>Qq O)<|p (λ_=>Qf)<|pe ?_;exact⟨false,La,Step.drew _ _,by simp[pv,hi,U8]⟩
 rintro z g w7 ⟨hu,rfl⟩;have hv:=ht.trans hu;refine QY rfl (λhm=>?_) (λhm=>?_)
 ·rw[if_pos hm]at hck;refine Qc<|Qe ?_;exact Qk ⟨[_],La,by rw[←hck,if_pos (by decide)];rfl,E.trans hv⟩
 rw[if_neg (by simp[hm])]at hck;have hw:=G.ext hu;refine QX (α:=Bool) [(46,54)] (λz=>[(46,.bool z)]) (λz w'=>Step [] w7 w'∧z=decide (e.2=0∨grt e.2=true)) (by rfl) ?_ ?_
 ·refine Qx<|x (Qa O)<|x (Qd hw O O)<|xb (Zl O O) (λhn=>?_) (λhn=>?_)
  ·refine Qb<|xs O<|xs O<|xs O<|x (Qq O)<|Qe ?_;exact⟨_,La,Step.refl _ _,bT (.inl hn)⟩
  refine Qb<|x (Qa O)<|x (Qd hw O O)<|xl O<|xf<|(Qa9 e.2 _).mono ?_;rintro r9 w9 ⟨rfl,rfl⟩;refine x (Qq O)<|Qe<|⟨grt e.2,La,Step.refl _ _,?_⟩;cases hg:grt e.2 with
  | true=>exact bT (.inr O)
  | false=>exact bF (λh=>by rcases h with h|h;exact hn h;cases h)
 rintro z g w8 ⟨hE,rfl⟩;have hy:=hv.trans hE;refine Q4 rfl (λho=>?_) (λho=>?_)
 ·rw[if_pos ho]at hck;refine Qc<|Qe ?_;exact Qk ⟨[_],La,by rw[←hck,if_pos (by decide)];rfl,E.trans hy⟩
 rw[if_neg ho]at hck;refine Qi<|Qx<|QM O O<|Qb<|xe ?_;exact⟨k+1,by omega,La,T,hy,hck⟩
end Go.Proofs.YtjcgijbhaemldaaGreatDoor
namespace Go.Lg
open Go.RowKit
def QbY:Fr→LN→LV→Fr
 | f,p::ps,v::vs=>QbY (upd f p v) ps vs
 | f,_,_=>f
theorem Um {n:Nat}{ds:LN}:∀(ps:LN) (vs:LV) (a:Act) (f:Fr),YC n ds a f→(∀p∈ps,p<n) →
  YC n ds { tmps:=(ps.zip vs).foldl (λt (x:Nat×Value)=>t.setIfInBounds x.1 x.2) a.tmps,defers:=a.defers } (QbY f ps vs)
 | [],_,a,f,h,_=>by cases h;exact⟨by assumption,by assumption,by assumption⟩
 | p::ps,[],a,f,h,_=>by cases h;exact⟨by assumption,by assumption,by assumption⟩
 | p::ps,v::vs,a,f,h,hp=>by
  have h2:=h.put (dst:=some p) (λd e=>by cases e;exact hp p Lp) v;exact Um ps vs _ _ h2 (λq hq=>hp q (Lk _ hq))
def rdE {α:Type}(B:Nat)(L:LN)(I:List α→World→Prop)(X:Exit→List α→World→Prop)(xs:List α)(W:World):Exit→LN→Fr→World→Prop
 | .normal,_,_,W'=>XS B L W W'∧I xs W'
 | .ret,_,_,W'=>XS B L W W'∧X .ret xs W'
 | .exit i,_,_,W'=>XS B L W W'∧X (.exit i) xs W'
 | _,_,_,_=>False
theorem Qil {α:Type}{m:Nat}{P:Program}{n:Nat}{Q:Exit→LN→Fr→World→Prop}{ds:LN}{f:Fr}{w:World}{g:Operand}{ps:LN}{assign body:Code}(L:LN)(h1:1≤m)
  {gf:Nat} {fn:Func} [hF:Fu P gf fn] {capt:LV} (hg:ev f g=.func (.func gf) #[] capt.toArray) {encs:α→LV} {S Sp:List α→Prop} {N:Nat} (hp:∀p∈ps,p<n) (hb:∀x,(encs x).length=ps.length)
  (hc:SeqStopsK (fen none) (m - 1) P gf capt.toArray (λx=>(encs x).toArray) (Lw w.heap.size L) S Sp N w)
  (I:List α→World→Prop) (hI:∀s,Z4 w.heap.size (I s)) (X:Exit→List α→World→Prop) (hX:∀e s,Z4 w.heap.size (X e s)) (h0:I [] w) (A:Fr→α→Fr→World→Prop) (hA:∀x E,Z4 w.heap.size (A f x E))
  (J:∀l pre x W,I pre W→WG (some l) (m - 1 - 1) P n assign (Qb0 (λH E W'=>H=[]∧XS w.heap.size L W W'∧I pre W'∧A f x E W') (λ_ _ _ _=>False)) [] (QbY f ps (encs x)) W)
  (T:∀l pre x E W,I pre W→A f x E W→pre.length<N→WG (some l) (m - 1 - 1) P n body (rdE w.heap.size L I X (pre++[x]) W) [] E W)
  (he:∀D xs W,w.heap.size≤D→S xs→I xs W→W.heap[D]?=some (.deferred (some []))→Q .normal (D::ds) f W)
  (U:∀D e pre W,w.heap.size≤D→Sp pre→X e pre W→W.heap[D]?=some (.deferred (some []))→(e=.ret∨∃i,e=.exit i)→Q e (D::ds) f W):
  WG none m P n (.rangeFunc g ps.toArray assign body) Q ds f w:=by
 unfold WG at J T ⊢;intro a ha;have eg:∀args w,(callFunc gf args).run P w=.ok (.enter gf args) w:=by
  intro args w;have h1:¬fn.name = "runtime.NumGoroutine" := by simpa using hF.nm
  have h2:¬fn.body=none:=by have:=hF.b;intro e;rw[e]at this;cases this
  simp[callFunc,hF.f,h1,h2]
 have keep:∀{W W':World},XS w.heap.size L W W'→KeepsFrom w.heap.size W W':=λh=>⟨h.lw.size,λk o _ hk V=>h.other k o hk V⟩;refine wpIn_rangeFunc_ownH (F:=fen none) O h1 (gf:=gf) (lb:=capt.toArray) (by rw[ha.eval];exact hg) Z eg hc (λh k=>h.trans k)
  (λW l o o' hl V _ _=>⟨O,O,O,by simp,λk hk _=>World.putObj_heap_other (by omega)⟩) (Below.refl _ _) (λx=>by simp[hb x]) I
  (λc pre W=>match c with| .ret=>X .ret pre W| .exit i=>X (.exit i) pre W|_=>False) (Z4.own hI) (λc=>Z4.own λs=>?_) h0
  (λx G W=>∃E,YC n [] G E∧A f x E W) (λx G=>Z4.own λ_=>Z4.ex λE=>Z4.and (Z4.pure _) (hA x E)) ?_ ?_ ?_ ?_
 ·cases c <;> first|exact hX _ s|exact Z4.pure _
 ·intro l pre x W K hi hK;have hr:YC n [] { tmps:=(ps.toArray.zip (encs x).toArray).foldl (λt (p,v)=>t.setIfInBounds p v) a.tmps,defers:=[] } (QbY f ps (encs x)):=by
   have h2:YC n [] { a with defers:=[] } f:=⟨ha.size,O,ha.get⟩
   have h3:=Um ps (encs x) _ _ h2 hp;have e:(ps.toArray.zip (encs x).toArray).foldl (λt (p,v)=>t.setIfInBounds p v) a.tmps=(ps.zip (encs x)).foldl (λt (x:Nat×Value)=>t.setIfInBounds x.1 x.2) a.tmps:=by simp
   rw[e];exact h3
  refine wpIn_mono (J l pre x W hi _ hr) ?_;rintro e G W' ⟨H,E,h2,_,h3⟩;cases e with
  | normal=>obtain⟨rfl,h4,h5,h6⟩:=h3;exact hK G W' (keep h4) h4.lw h5 ⟨E,h2,h6⟩
  | exit id=>exact h3.elim
  | goto l=>exact h3.elim
  | ret=>exact h3.elim
  | panic ch=>exact h3.elim
  | outgrown=>exact h3.elim
 ·rintro l pre x G W _ _ hi ⟨E,h2,h3⟩ hf;refine wpIn_mono (T l pre x E W hi h3 hf G h2) ?_;rintro e hh W' ⟨H,hj,h4,_,h5⟩;cases e with
  | normal=>exact⟨keep h5.1,h5.1.lw,h5.2⟩
  | exit id=>exact⟨keep h5.1,h5.2⟩
  | goto l=>exact h5.elim
  | ret=>exact⟨keep h5.1,h5.2⟩
  | panic ch=>exact h5.elim
  | outgrown=>exact h5.elim
 ·intro D xs W hD hS hi hd;exact⟨D::ds,f,⟨ha.size,by rw[show coll (D::ds)={ target:=.collected D,args:=#[] }::coll ds from rfl,ha.defers],ha.get⟩,λ_ _=>rfl,he D xs W hD hS hi hd⟩
 intro D c pre W hD hS hx hd;have Y:YC n (D::ds) { a with defers:={ target:=.collected D,args:=#[] }::a.defers } f:=⟨ha.size,by rw[show coll (D::ds)={ target:=.collected D,args:=#[] }::coll ds from rfl,ha.defers],ha.get⟩
 cases c with
 | ret=>exact wpIn_ret ⟨_,f,Y,λ_ _=>O,U D .ret pre W hD hS hx hd (.inl O)⟩
 | exit i=>exact wpIn_exit ⟨_,f,Y,λ_ _=>O,U D (.exit i) pre W hD hS hx hd (.inr ⟨i,O⟩)⟩
 | _=>exact hx.elim
end Go.Lg
namespace Go.Proofs.YtjcgijbhaemldaaGreatDoor
open Go.Proofs.Tryz
open Go.Lg
theorem Qhe {α:Type}(g:α→LV)(sz:Nat)(E:∀x,(g x).length=sz):∀(l:List α) (k:Nat),(l.flatMap g).take (k*sz)=(l.take k).flatMap g
 | [],k=>by simp
 | e::l,0=>by simp
 | e::l,k+1=>by
  simp only[List.flatMap_cons,List.take_succ_cons,Nat.add_mul,Nat.one_mul];rw[MJ,Nw,E,show sz+k*sz - sz=k*sz by omega,Qhe g sz E l k,Ln (by rw[E];omega)]
theorem Qdz {gf:Nat}{fn:Func}[Fu prog gf fn]{capt:LV}{nms:List ByteArray}{s:ByteArray}(hi:Uq s){w:World}{N:Nat}
  (hj:∀(w':World) (L:LN),Step [] w w'→(∀b∈L,w.heap.size≤b)→SeqStopsK (fen none) 9 prog gf capt.toArray (λx:{ x:ByteArray // x∈nms }=>[Value.string x.1].toArray) (Lw w'.heap.size L) (λys=>ys.map (·.1)=nms) (λ_=>True) N w'):
  QE prog 176 [.string s,.func (.func gf) #[] capt.toArray] w λr w'=>r=.int .i64 (Kz nms s)∧Step [] w w':=by
 refine QE.of_G 10 func176 O ntmps176 results176 (by simp) ?_;refine Q6<|QJ (by rfl) (by rfl) ?_;refine xl rfl<|QQ (us:=[.string s]) O λb2 w1 hk hp hf=>xl O<|Qu (us:=[.int .i64 0]) O λG w2 hg hq hc=>xe ?_;have J:=hk.trans hg;have hs:=hc.lt;have hh:=hf.ext hg;have ht:=hf.lt;refine Q6<|Q6<|QJ (by rfl) (by rfl) ?_;refine x (Qd hh O O)<|xl O<|xf<|(UF s hi _).mono ?_
 rintro r3 w3 ⟨rfl,rfl⟩;refine x (Zq O)<|xe<|KJ rfl (λh8=>?_) (λh8=>?_)
 ·have V:YD s=false:=by simpa using h8
  have T:Kz nms s=7:=by unfold Kz;rw[if_pos V]
  refine Q6<|QJ (by rfl) (by rfl) ?_;refine xl O<|QB (j:=0) (u:=.int .i64 7) hc O O (by decide) O λw4 I U=>xe ?_;refine KI ⟨λ_ h=>(by cases h),Mw,[.int .i64 7],λW' H=>⟨⟨⟨_,rfl,YN (At.one ((U.ext H).at (L:=[]) (by simp)))⟩,Z⟩,by rw[T];rfl,(J.then1 I (by omega)).trans H⟩⟩
 have V:¬YD s=false:=by simpa using h8
 refine Ya<|Q6<|Q6<|QJ (by rfl) (by rfl) ?_;refine Qb<|xe<|ZP<|Qil (α:={ x:ByteArray // x∈nms }) (ps:=[10]) [G] (by omega) (capt:=capt) O (encs:=λx=>[.string x.1]) (by simp) (λ_=>rfl)
  (hj w3 [G] J (λb hb=>by simp at hb;omega))
  (λpre W=>Step [G] w3 W∧QT W.heap b2 9 [.string s]∧QT W.heap G 42 [.int .i64 0]∧∀x∈pre,x.1≠s)
  (λpre=>(Z4.step (Lt _)).and (Z4.blk.and (Z4.blk.and (Z4.pure _))))
  (λe pre W=>e=.ret∧Step [G] w3 W∧QT W.heap G 42 [.int .i64 8]∧s∈nms)
  (λe pre=>(Z4.pure _).and ((Z4.step (Lt _)).and (Z4.blk.and (Z4.pure _))))
  ⟨Step.refl _ _,hh,hc,λx hx=>by cases hx⟩
  (λf x f' W=>f'=upd (QbY f [10] [.string x.1]) 5 (.string x.1)) (λx f'=>Z4.pure _) ?_ ?_ ?_ ?_
 ·rintro l pre x W ⟨h1,h2,h3,h4⟩;refine QJ (by rfl) (by rfl) ?_;refine Lg.Qe ?_;exact⟨O,XS.refl _ _ _,⟨h1,h2,h3,h4⟩,O⟩
 ·rintro l pre x f' W ⟨h1,h2,h3,h4⟩ rfl _;refine ZP<|Q6<|QJ (by rfl) (by rfl) ?_;refine Lg.Qb<|Lg.x (Qd h2 O O)<|Lg.x (jy O O)<|xe<|Qmw O (λhe=>?_) (λhe=>?_)
  ·refine Q6<|QJ (by rfl) (by rfl) ?_;refine xl O<|QB (j:=0) (u:=.int .i64 8) h3 O O (by decide) O λw4 I U=>xe ?_;refine KI ?_;exact⟨XS.blk I h1.size h3 (.inl (by simp)),rfl,h1.trans' I,U,by rw[←he];exact x.2⟩
  refine Ya<|⟨XS.refl _ _ _,h1,h2,h3,λy hy=>?_⟩;rcases Lq.1 hy with hy|hy
  ·exact h4 y hy
  simp only[List.mem_singleton]at hy;subst hy;exact he
 ·rintro D xs W hD hl ⟨h1,h2,h3,h4⟩ Y;have T:Kz nms s=0:=by
   unfold Kz;rw[if_neg V,if_neg];intro hm;rw[←hl]at hm;obtain⟨y,hy,e⟩:=Lx.1 hm;exact h4 y hy e
  refine Q6<|QJ (by rfl) (by rfl) ?_;refine xl O<|QB (j:=0) (u:=.int .i64 0) h3 O O (by decide) O λw4 I U=>xe ?_;have ha:D≠G:=by omega
  have ho:w4.heap[D]?=some (.deferred (some [])):=by rw[I.block D (LD.1 Y).1 (by simpa using ha)];exact Y
  refine KI ⟨λE hE=>by simp only[List.mem_singleton]at hE;subst hE;exact ho,by simp,[.int .i64 0],λW' H=>?_⟩;refine⟨⟨⟨_,O,YN (At.one ((U.step H (by simpa using ha.symm)).at (L:=[]) (by simp)))⟩,Z⟩,by rw[T];rfl,?_⟩;exact((J.then h1 (λb hb=>.inr (by simp at hb;omega))).then1 I (by omega)).then H (λb hb=>.inr (by simp at hb;have:=J.size;omega))
 rintro D e pre W hD _ ⟨rfl,h1,h3,h4⟩ Y _;have T:Kz nms s=8:=by unfold Kz;rw[if_neg V,if_pos h4]
 have ha:D≠G:=by omega
 refine⟨λE hE=>by simp only[List.mem_singleton]at hE;subst hE;exact Y,by simp,[.int .i64 8],λW' H=>?_⟩;refine⟨⟨⟨_,O,YN (At.one ((h3.step H (by simpa using ha.symm)).at (L:=[]) (by simp)))⟩,Z⟩,by rw[T];rfl,?_⟩;exact(J.then h1 (λb hb=>.inr (by simp at hb;omega))).then H (λb hb=>.inr (by simp at hb;have:=J.size;omega))
end Go.Proofs.YtjcgijbhaemldaaGreatDoor
namespace Go.Lg
theorem Ja.pre3 {P:Program}{m:Nat}{ops:List Oper}{K:Fr→World→Prop}{o1 o2 o3:Oper}{l2:List Oper}{f:Fr}{w:World}(h:XL P ops (λf w=>Ja P m ops K l2 f w) [o1,o2,o3] f w):Ja P m ops K (o1::o2::o3::l2) f w:=Ja.pre [o1,o2,o3] f w h
end Go.Lg
namespace Go.Proofs.YtjcgijbhaemldaaGreatDoor
open Go.Proofs.Tryz
open Go.Lg
theorem Qhs {L:LN}{w:World}{H I i m:Nat}{vs vx vk:Value}{qs:List XV}{nms:List ByteArray}(hp:QT w.heap H 240 [vs,vx,vk])(hr:QT w.heap I 3 [.int .i64 i])(hX:qj L w.heap vx qs)(hi:i≤qs.length)(hn:nms=(qs.take i).map (·.nm)):
  SeqStopsK (fen none) m prog 175 [.pointer (some ⟨H,0,none⟩),.pointer (some ⟨I,0,none⟩)].toArray (λx:{ x:ByteArray // x∈nms }=>[Value.string x.1].toArray) (Lw w.heap.size L)
   (λE=>E.map (·.1)=nms) (λ_=>True) (nms.length+1) w:=by
 intro l J Jx W hs hJ ht hY h0;have hb:Step [] w W:=Step.of_below hs;have ab:∀{E:List { x:ByteArray // x∈nms }} {W1 W2:World},J E W1→Step [] W1 W2→J E W2:=λ{E W1 W2} hj T=>hJ E W1 W2 none hj ⟨T.os,T.tape,T.output,T.size,λk hk _=>T.block k hk (by simp)⟩ (λr e=>by cases e);have h9:=hX.arr.le;have hA:nms.length=i:=by rw[hn];simp;omega
 have key:QE prog 175 [.func (.yield l) #[] #[],.pointer (some ⟨H,0,none⟩),.pointer (some ⟨I,0,none⟩)] W (λ_ W'=>(∃E,E.map (·.1)=nms∧J E W')∨(∃pre,True∧Jx pre W')):=by
  refine QE.of_G m func175 O ntmps175 results175 (by simp) ?_;have hu:=hp.ext hb;have hv:=hr.ext hb;refine Q6<|QJ (by rfl) (by rfl) ?_;refine x (Qa O)<|x (Qd hu O O)<|x (Qd hv O O)<|QmR hX.arr O O hi λv9 hh=>x (Qr hh O)<|Qb<|xe ?_;have hw:(qs.take i).length=i:=by simp;omega
  have hS:Zv L w.heap v9 (qs.take i).length 2 ((qs.take i).flatMap Zs):=by
   rw[hw,←Qhe Zs 2 Kd];exact hh
  refine ZP<|Vy (α:=Nat×List { x:ByteArray // x∈nms }) [(5,5),(11,20)] (λz=>[(11,.int .i64 z.1)]) (λz ds W'=>ds=[]∧z.1≤i∧Step L w W'∧z.2.map (·.1)=nms.take z.1∧J z.2 W') (λz=>i - z.1) (by rfl) (0,[]) La
   ⟨O,Ll _,hb.any,O,h0⟩ ?_
  rintro⟨k,E⟩ g ds w1 ⟨rfl,hk,hl,U,hc⟩;simp only[]at hk U hc;refine Q6<|QJ (by rfl) (by rfl) ?_;refine x (Qz O O)<|xe<|Q6<|zP O (λhm=>?_) (λhm=>?_)
  ·refine JX ?_;rw[Ln (by omega)]at U;exact⟨λ_ h=>(by cases h),Mw,[],λW' G=>⟨Z,.inl ⟨E,U,ab hc G⟩⟩⟩
  refine Ya ?_;have hy:k<i:=by have hf:(k:Int)<(i:Int):=hm;omega
  have Y:k<(qs.take i).length:=by omega
  have ha:k<nms.length:=by omega
  have hg:nms.take (k+1)=nms.take k++[nms[k]'ha]:=Le ha;have hB:E.length=k:=by have:=congrArg List.length U;rw[Lh,Ly]at this;omega
  have hz:nms[k]'ha=((qs.take i)[k]'Y).nm:=by subst hn;simp
  have V:=Li ha;rw[hz]at hg V;refine Q6<|ZP<|Q6<|QJ (by rfl) (by rfl) ?_;refine xig Kd (i:=k) (hS.st hl) O O Y λhC hf=>?_;refine Zb ((qs.take i)[k]'Y) λq hq=>?_;rw[hq]at hf hg V;have h2:=(hX.each q (LR (by rw[←hq];exact Li Y))).one
  refine x (QI hf O O)<|xl O<|Qu (us:=[.string .empty,nS]) O λb5 w2 h3 h4 h5=>xl O<|Qo (us:=Zs q) h5 O O O O ⟨O,h2,Z⟩ λw3 h6 h7=>xe ?_;have ho:Step [] w1 w3:=h3.then1 h6 h4;refine Q6<|KZ (by rfl) ?_;refine Ja.pre3 ?_;refine Qb<|x (Qa O)<|x (Qd h7 O O)<|xe ?_
  refine xy (l:=l) O (hY E ⟨q.nm,V⟩ w3 (ab hc ho) (by omega)) λen W3 h8=>Or.elim h8 (λh1=>⟨.bool true,h1.1,?_⟩) (λh1=>⟨.bool false,h1.1,?_⟩)
  ·refine Ja.of_XL<|x (Zq O)<|xe<|K3 O<|Ya ?_;refine QJ (by rfl) (by rfl) ?_;refine QM O O<|Qb<|xe ?_;exact⟨(k+1,E++[⟨q.nm,V⟩]),by simp only[];omega,La,O,hy,(hl.trans ho).lw h1.2.2,by rw[hg,Lv,U];rfl,h1.2.1⟩
  refine Ja.of_XL<|x (Zq O)<|xe<|Qag O ?_;refine KI ⟨λ_ h=>(by cases h),Mw,[],λW' G=>⟨Z,.inr ⟨E++[⟨q.nm,V⟩],Z,?_⟩⟩⟩;exact ht _ W3 W' none h1.2 ⟨G.os,G.tape,G.output,G.size,λk hk _=>G.block k hk (by simp)⟩ (λr e=>by cases e)
 refine(callsIn_wide (n:=m)).2 ?_;have ea:(#[.func (.yield l) #[] #[]]++[.pointer (some ⟨H,0,none⟩),.pointer (some ⟨I,0,none⟩)].toArray:Array Value)=[.func (.yield l) #[] #[],.pointer (some ⟨H,0,none⟩),.pointer (some ⟨I,0,none⟩)].toArray:=by simp
 rw[ea];unfold QE at key;refine Calls.mono key λe w' he=>?_;cases e with
 | returned v=>exact⟨⟨v,O⟩,he⟩
 | panicked c=>exact he.elim
 | outgrown=>exact he.elim
theorem QhH {L:LN}{w:World}{H I i m:Nat}{vs vx vk:Value}{qs:List KV}{nms:List ByteArray}(hp:QT w.heap H 240 [vs,vx,vk])(hr:QT w.heap I 3 [.int .i64 i])(hX:zU L w.heap vk qs)(hi:i≤qs.length)(hn:nms=(qs.take i).map (·.nm)):
  SeqStopsK (fen none) m prog 178 [.pointer (some ⟨H,0,none⟩),.pointer (some ⟨I,0,none⟩)].toArray (λx:{ x:ByteArray // x∈nms }=>[Value.string x.1].toArray) (Lw w.heap.size L)
   (λE=>E.map (·.1)=nms) (λ_=>True) (nms.length+1) w:=by
 intro l J Jx W hs hJ ht hY h0;have hb:Step [] w W:=Step.of_below hs;have ab:∀{E:List { x:ByteArray // x∈nms }} {W1 W2:World},J E W1→Step [] W1 W2→J E W2:=λ{E W1 W2} hj T=>hJ E W1 W2 none hj ⟨T.os,T.tape,T.output,T.size,λk hk _=>T.block k hk (by simp)⟩ (λr e=>by cases e);have h9:=hX.arr.le;have hA:nms.length=i:=by rw[hn];simp;omega
 have key:QE prog 178 [.func (.yield l) #[] #[],.pointer (some ⟨H,0,none⟩),.pointer (some ⟨I,0,none⟩)] W (λ_ W'=>(∃E,E.map (·.1)=nms∧J E W')∨(∃pre,True∧Jx pre W')):=by
  refine QE.of_G m func178 O ntmps178 results178 (by simp) ?_;have hu:=hp.ext hb;have hv:=hr.ext hb;refine Q6<|QJ (by rfl) (by rfl) ?_;refine x (Qa O)<|x (Qd hu O O)<|x (Qd hv O O)<|QmR hX.arr O O hi λv9 hh=>x (Qr hh O)<|Qb<|xe ?_;have hw:(qs.take i).length=i:=by simp;omega
  have hS:Zv L w.heap v9 (qs.take i).length 3 ((qs.take i).flatMap ZD):=by
   rw[hw,←Qhe ZD 3 JQ];exact hh
  refine ZP<|Vy (α:=Nat×List { x:ByteArray // x∈nms }) [(5,5),(11,20)] (λz=>[(11,.int .i64 z.1)]) (λz ds W'=>ds=[]∧z.1≤i∧Step L w W'∧z.2.map (·.1)=nms.take z.1∧J z.2 W') (λz=>i - z.1) (by rfl) (0,[]) La
   ⟨O,Ll _,hb.any,O,h0⟩ ?_
  rintro⟨k,E⟩ g ds w1 ⟨rfl,hk,hl,U,hc⟩;simp only[]at hk U hc;refine Q6<|QJ (by rfl) (by rfl) ?_;refine x (Qz O O)<|xe<|Q6<|zP O (λhm=>?_) (λhm=>?_)
  ·refine JX ?_;rw[Ln (by omega)]at U;exact⟨λ_ h=>(by cases h),Mw,[],λW' G=>⟨Z,.inl ⟨E,U,ab hc G⟩⟩⟩
  refine Ya ?_;have hy:k<i:=by have hf:(k:Int)<(i:Int):=hm;omega
  have Y:k<(qs.take i).length:=by omega
  have ha:k<nms.length:=by omega
  have hg:nms.take (k+1)=nms.take k++[nms[k]'ha]:=Le ha;have hB:E.length=k:=by have:=congrArg List.length U;rw[Lh,Ly]at this;omega
  have hz:nms[k]'ha=((qs.take i)[k]'Y).nm:=by subst hn;simp
  have V:=Li ha;rw[hz]at hg V;refine Q6<|ZP<|Q6<|QJ (by rfl) (by rfl) ?_;refine xig JQ (i:=k) (hS.st hl) O O Y λhC hf=>?_;refine Zb ((qs.take i)[k]'Y) λq hq=>?_;rw[hq]at hf hg V;have h2:=(hX.each q (LR (by rw[←hq];exact Li Y))).one
  refine x (QI hf O O)<|xl O<|Qu (us:=[.string .empty,nS,.int .i64 0]) O λb5 w2 h3 h4 h5=>xl O<|Qo (us:=ZD q) h5 O O O O ⟨O,h2,O,Z⟩ λw3 h6 h7=>xe ?_;have ho:Step [] w1 w3:=h3.then1 h6 h4;refine Q6<|KZ (by rfl) ?_;refine Ja.pre3 ?_;refine Qb<|x (Qa O)<|x (Qd h7 O O)<|xe ?_
  refine xy (l:=l) O (hY E ⟨q.nm,V⟩ w3 (ab hc ho) (by omega)) λen W3 h8=>Or.elim h8 (λh1=>⟨.bool true,h1.1,?_⟩) (λh1=>⟨.bool false,h1.1,?_⟩)
  ·refine Ja.of_XL<|x (Zq O)<|xe<|K3 O<|Ya ?_;refine QJ (by rfl) (by rfl) ?_;refine QM O O<|Qb<|xe ?_;exact⟨(k+1,E++[⟨q.nm,V⟩]),by simp only[];omega,La,O,hy,(hl.trans ho).lw h1.2.2,by rw[hg,Lv,U];rfl,h1.2.1⟩
  refine Ja.of_XL<|x (Zq O)<|xe<|Qag O ?_;refine KI ⟨λ_ h=>(by cases h),Mw,[],λW' G=>⟨Z,.inr ⟨E++[⟨q.nm,V⟩],Z,?_⟩⟩⟩;exact ht _ W3 W' none h1.2 ⟨G.os,G.tape,G.output,G.size,λk hk _=>G.block k hk (by simp)⟩ (λr e=>by cases e)
 refine(callsIn_wide (n:=m)).2 ?_;have ea:(#[.func (.yield l) #[] #[]]++[.pointer (some ⟨H,0,none⟩),.pointer (some ⟨I,0,none⟩)].toArray:Array Value)=[.func (.yield l) #[] #[],.pointer (some ⟨H,0,none⟩),.pointer (some ⟨I,0,none⟩)].toArray:=by simp
 rw[ea];unfold QE at key;refine Calls.mono key λe w' he=>?_;cases e with
 | returned v=>exact⟨⟨v,O⟩,he⟩
 | panicked c=>exact he.elim
 | outgrown=>exact he.elim
set_option maxHeartbeats 4000000 in
theorem zg {w:World}{vs vx vk:Value}{sz:LI}{qx:List XV}{ks:List KV}(hS:QH [] w.heap vs sz)(hX:qj [] w.heap vx qx)(hK:zU [] w.heap vk ks):
  QE prog 134 [.agg #[vs,vx,vk]] w λr w'=>r=.int .i64 (YE sz (qx.map (·.x)) (ks.map (·.k)))∧Step [] w w':=by
 have hW:=hS.le;have hY:=hX.arr.le;have hZ:=hK.arr.le;refine QE.of_W func134 O ntmps134 results134 (by simp) ?_;refine Qc<|xl O<|QQ (us:=[vs,vx,vk]) O λb1 w1 G ga U=>Qe<|Qg<|Qc<|x (Qa O)<|x (Qd U O O)<|x (Qr (hS.ext G) O)<|x (ZL O O)<|xe<|Q4 rfl (λh0=>?_) (λh0=>?_)
 ·refine Qc<|Qe ?_;exact Qk ⟨[_],La,by unfold YE;rw[if_pos (by have hO:(8:Int)<(sz.length:Int):=h0;omega)];rfl,G⟩
 have hy:¬8<sz.length:=by have hO:¬(8:Int)<(sz.length:Int):=h0;omega
 refine Qi<|Qg<|Qc<|x (Qa O)<|x (Qd U O O)<|x (Qr (hS.ext G) O)<|Qb<|xe<|Qh<|QA (α:=Nat) [(2,2),(4,4),(22,32)] (λz=>[(22,.int .i64 z)]) (λz w'=>z≤sz.length∧w'=w1∧(sz.drop z).any J1=sz.any J1) (λz=>sz.length - z) (by rfl) 0 La
  ⟨Ll _,O,O⟩ ?_
 rintro k g w2 ⟨hk,rfl,ha⟩;refine Qc<|x (Qz O O)<|xe<|Qg<|QC O (λh1=>?_) (λh1=>?_)
 ·refine Qy ?_;have hj:sz.length≤k:=by have hz:¬(k:Int)<(sz.length:Int):=h1;omega
  rw[Ls hj]at ha;have h2:¬sz.any J1=true:=by rw[←ha];decide
  refine Qg<|QX (α:=Bool) [(33,42)] (λz=>[(42,.bool z)]) (λz w'=>w'=w2∧z=decide (32<qx.length∨32<ks.length)) (by rfl) ?_ ?_
  ·refine Qx<|x (Qa O)<|x (Qd U O O)<|x (Qr (hX.ext G).arr O)<|xb (ZL O O) (λhP=>?_) (λhP=>?_)
   ·refine Qb<|xs O<|xs O<|xs O<|xs O<|x (Qq O)<|xe ?_;exact⟨_,La,O,by first|exact bT (by omega)|exact bF (by omega)|exact bD (by omega)⟩
   refine Qb<|x (Qa O)<|x (Qd U O O)<|x (Qr (hK.ext G).arr O)<|x (ZL O O)<|x (Qq O)<|xe ?_;exact⟨_,La,O,by first|exact bT (by omega)|exact bF (by omega)|exact bD (by omega)⟩
  rintro z g V ⟨rfl,rfl⟩;refine Q4 O (λh3=>?_) (λh3=>?_)
  ·refine Qc<|Qe ?_;exact Qk ⟨[_],La,by unfold YE;rw[if_neg hy,if_neg h2,if_pos (by simpa using h3)];rfl,G⟩
  have hJ:¬(32<(qx.map (·.x)).length∨32<(ks.map (·.k)).length):=by simpa using h3
  have hM:Yh sz [] (qx.map (·.x))≠0→YE sz (qx.map (·.x)) (ks.map (·.k))=Yh sz [] (qx.map (·.x)):=λh=>by
   unfold YE;rw[if_neg hy,if_neg h2,if_neg hJ,if_pos h]
  have hQ:Yh sz [] (qx.map (·.x))=0→YE sz (qx.map (·.x)) (ks.map (·.k))=YT sz [] (ks.map (·.k)):=λh=>by
   unfold YE;rw[if_neg hy,if_neg h2,if_neg hJ,if_neg (by rw[h];exact λh=>h O)]
  refine Qi<|Qg<|Qc<|x (Qa O)<|x (Qd (U.ext (Step.refl [] V)) O O)<|x (Qr ((hX.ext G).ext (Step.refl [] V)).arr O)<|Qb<|xe<|Qh<|QA (α:=Nat) [(2,2),(5,9),(46,65)] (λz=>[(46,.int .i64 z)]) (λz w'=>z≤qx.length∧Step [] V w'∧Yh sz ((qx.take z).map (·.nm)) ((qx.drop z).map (·.x))=Yh sz [] (qx.map (·.x))) (λz=>qx.length - z) (by rfl) 0 La
   ⟨Ll _,(Step.refl [] V),O⟩ ?_
  rintro k g wA ⟨hk,H,hck⟩;refine Qc<|x (Qz O O)<|xe<|Qg<|QC O (λhc=>?_) (λhc=>?_)
  ·refine Qy ?_;have hj:qx.length≤k:=by have h4:¬(k:Int)<(qx.length:Int):=hc;omega
   rw[Ls hj]at hck;have hR:Yh sz [] (qx.map (·.x))=0:=hck.symm;have h5:=hQ hR;refine Qg<|Qc<|x (Qa O)<|x (Qd (U.ext H) O O)<|x (Qr ((hK.ext G).ext H).arr O)<|Qb<|xe ?_
   refine Qh<|QA (α:=Nat) [(2,2),(10,14),(69,88)] (λz=>[(69,.int .i64 z)]) (λz w'=>z≤ks.length∧Step [] V w'∧YT sz ((ks.take z).map (·.nm)) ((ks.drop z).map (·.k))=YT sz [] (ks.map (·.k))) (λz=>ks.length - z) (by rfl) 0 La
    ⟨Ll _,H,O⟩ ?_
   rintro k g wA ⟨hk,H,hck⟩;refine Qc<|x (Qz O O)<|xe<|Qg<|QC O (λhc=>?_) (λhc=>?_)
   ·refine Qy ?_;have hj:ks.length≤k:=by have h4:¬(k:Int)<(ks.length:Int):=hc;omega
    rw[Ls hj]at hck;have hT:YT sz [] (ks.map (·.k))=0:=hck.symm;refine Qc<|Qe ?_;exact Qk ⟨[_],La,by rw[h5,hT];rfl,G.trans H⟩
   have E:k<ks.length:=by have h4:(k:Int)<(ks.length:Int):=hc;omega
   have hl:(ks.take (k+1)).map (·.nm)=(ks.take k).map (·.nm)++[(ks[k]'E).nm]:=by rw[Le E,Lv];rfl
   rw[Q9 E,LT]at hck;have he:=Li E;have I:=(hK.ext G).ext H;have h6:=U.ext H;refine Qi<|Qg<|Qh<|Qc<|Qb<|xig JQ I.arr O O E λaA hA=>?_;refine Zb (ks[k]'E) λq hq=>?_;rw[hq]at hA hck hl he;have hm:=I.each q he
   refine x (QI hA O O)<|xl O<|Qu (us:=[.int .i64 0]) O λb5 V ho h7 hf=>xl O<|Qu (us:=[.string .empty,nS,.int .i64 0]) O λb6 w4 hp hU h8 =>
    xl rfl<|QB (j:=0) (u:=.int .i64 k) (hf.ext hp) O O (by decide) O λw5 hr h9=>xl O<|Qo (us:=ZD q) (h8.step hr (by have:=hf.lt;simp;omega)) O O O O ⟨O,hm.one,O,Z⟩ λw6 hs ht=>xe ?_
   have hV:b5<b6:=by have:=hf.lt;omega
   have hg:Step [] wA w6:=((ho.trans hp).then1 hr h7).then1 hs (by have:=ho.size;omega);have hB:QT w6.heap b5 3 [.int .i64 k]:=h9.step hs (by simp;omega);have hu:=h6.ext hg;have hC:=I.ext hg
   refine Qc<|x Zn<|Qe<|Qg<|Qc<|x (Qa O)<|x (Qd ht O O)<|Qb<|xl O<|xf<|(Qdz (nms:=(ks.take k).map (·.nm)) (capt:=[.pointer (some ⟨b1,0,none⟩),.pointer (some ⟨b5,0,none⟩)]) (I.nm q he) (λw' L hh hL=>QhH (hu.ext hh) (hB.ext hh) ((hC.up (λb hb=>.inr (hL b hb))).ext hh) hk O)).mono ?_;rintro r7 w7 ⟨rfl,hi⟩;refine Qe ?_;have J:=hg.trans hi;refine Qc<|Qb<|x (Q7 O O)<|xe ?_
   refine Q4 O (λY=>?_) (λY=>?_)
   ·have e1:YT sz [] (ks.map (·.k))=Kz ((ks.take k).map (·.nm)) q.nm:=by rw[←hck];exact if_pos Y
    refine Qc<|Qb<|Qe ?_;exact Qk ⟨[_],La,by rw[h5,e1];rfl,G.trans (H.trans J)⟩
   have hv:(if Xd sz q.k≠0 then Xd sz q.k else YT sz ((ks.take k).map (·.nm)++[q.nm]) ((ks.drop (k+1)).map (·.k)))=YT sz [] (ks.map (·.k)):=by rw[←hck];exact(if_neg Y).symm
   refine Qi ?_;have hD:=hu.ext hi;have hE:=ht.ext hi;refine Qc<|x (Qn hD O O)<|x (Qn hE O O)<|xl O<|xf<|(Vr (((hS.ext G).ext H).ext J) (hm.ext J)).mono ?_;rintro r8 w8 ⟨rfl,hF⟩;refine Qe ?_;have hw:=J.trans hF;refine Qc<|Qb<|x (Q7 O O)<|xe<|Q4 O (λT=>?_) (λT=>?_)
   ·have e1:YT sz [] (ks.map (·.k))=Xd sz q.k:=by rw[←hv];exact if_pos T
    have hN:Xd sz q.k≠0:=T;refine Qc<|Qb<|Qe ?_;exact Qk ⟨[_],La,by rw[h5,e1];rfl,G.trans (H.trans hw)⟩
   have hG:YT sz ((ks.take k).map (·.nm)++[q.nm]) ((ks.drop (k+1)).map (·.k))=YT sz [] (ks.map (·.k)):=by rw[←hv];exact(if_neg T).symm
   refine Qi<|Qx<|QM O O<|Qb<|xe ?_;exact⟨k+1,by omega,La,E,H.trans hw,by rw[hl];exact hG⟩
  have E:k<qx.length:=by have h4:(k:Int)<(qx.length:Int):=hc;omega
  have hl:(qx.take (k+1)).map (·.nm)=(qx.take k).map (·.nm)++[(qx[k]'E).nm]:=by rw[Le E,Lv];rfl
  rw[Q9 E,LT]at hck;have he:=Li E;have I:=(hX.ext G).ext H;have h6:=U.ext H;refine Qi<|Qg<|Qh<|Qc<|Qb<|xig Kd I.arr O O E λaA hA=>?_;refine Zb (qx[k]'E) λq hq=>?_;rw[hq]at hA hck hl he;have hm:=I.each q he;refine x (QI hA O O)<|xl O<|Qu (us:=[.int .i64 0]) O λb5 V ho h7 hf=>xl O<|Qu (us:=[.string .empty,nS]) O λb6 w4 hp hU h8 =>
   xl rfl<|QB (j:=0) (u:=.int .i64 k) (hf.ext hp) O O (by decide) O λw5 hr h9=>xl O<|Qo (us:=Zs q) (h8.step hr (by have:=hf.lt;simp;omega)) O O O O ⟨O,hm.one,Z⟩ λw6 hs ht=>xe ?_
  have hV:b5<b6:=by have:=hf.lt;omega
  have hg:Step [] wA w6:=((ho.trans hp).then1 hr h7).then1 hs (by have:=ho.size;omega);have hB:QT w6.heap b5 3 [.int .i64 k]:=h9.step hs (by simp;omega);have hu:=h6.ext hg;have hC:=I.ext hg
  refine Qc<|x Zn<|Qe<|Qg<|Qc<|x (Qa O)<|x (Qd ht O O)<|Qb<|xl O<|xf<|(Qdz (nms:=(qx.take k).map (·.nm)) (capt:=[.pointer (some ⟨b1,0,none⟩),.pointer (some ⟨b5,0,none⟩)]) (I.nm q he) (λw' L hh hL=>Qhs (hu.ext hh) (hB.ext hh) ((hC.up (λb hb=>.inr (hL b hb))).ext hh) hk O)).mono ?_;rintro r7 w7 ⟨rfl,hi⟩;refine Qe ?_;have J:=hg.trans hi;refine Qc<|Qb<|x (Q7 O O)<|xe ?_
  refine Q4 O (λY=>?_) (λY=>?_)
  ·have e1:Yh sz [] (qx.map (·.x))=Kz ((qx.take k).map (·.nm)) q.nm:=by rw[←hck];exact if_pos Y
   refine Qc<|Qb<|Qe ?_;exact Qk ⟨[_],La,by rw[hM (by rw[e1];exact Y),e1];rfl,G.trans (H.trans J)⟩
  have hv:(if Jn sz q.ls≠0 then Jn sz q.ls else Yh sz ((qx.take k).map (·.nm)++[q.nm]) ((qx.drop (k+1)).map (·.x)))=Yh sz [] (qx.map (·.x)):=by rw[←hck];exact(if_neg Y).symm
  refine Qi ?_;have hD:=hu.ext hi;have hE:=ht.ext hi;refine Qc<|x (Qn hD O O)<|x (Qn hE O O)<|xl O<|xf<|(Ua (((hS.ext G).ext H).ext J) (hm.ext J)).mono ?_;rintro r8 w8 ⟨rfl,hF⟩;refine Qe ?_;have hw:=J.trans hF;refine Qc<|Qb<|x (Q7 O O)<|xe<|Q4 O (λT=>?_) (λT=>?_)
  ·have e1:Yh sz [] (qx.map (·.x))=Jn sz q.ls:=by rw[←hv];exact if_pos T
   have hN:Jn sz q.ls≠0:=T;refine Qc<|Qb<|Qe ?_;exact Qk ⟨[_],La,by rw[hM (by rw[e1];exact hN),e1];rfl,G.trans (H.trans hw)⟩
  have hG:Yh sz ((qx.take k).map (·.nm)++[q.nm]) ((qx.drop (k+1)).map (·.x))=Yh sz [] (qx.map (·.x)):=by rw[←hv];exact(if_neg T).symm
  refine Qi<|Qx<|QM O O<|Qb<|xe ?_;exact⟨k+1,by omega,La,E,H.trans hw,by rw[hl];exact hG⟩
 have E:k<sz.length:=by have hz:(k:Int)<(sz.length:Int):=h1;omega
 rw[Q9 E,List.any_cons]at ha;refine Qi<|Qg<|Qh<|Qc<|xii (hS.ext G) O O E λgb hz=>?_;refine Zb (sz[k]'E) λn hn=>?_;rw[hn]at hz ha;refine x (Qv hz O)<|Qe<|QX (α:=Bool) [(26,31)] (λz=>[(31,.bool z)]) (λz w'=>w'=w2∧z=J1 n) (by rfl) ?_ ?_
 ·refine Qx<|Qb<|xb (Qz O O) (λhH=>?_) (λhH=>?_)
  ·refine Qb<|xs O<|xs O<|x (Qq O)<|xe ?_;exact⟨_,La,O,by unfold J1;rw[decide_eq_true hH];rfl⟩
  refine Qb<|Qb<|x (ZL O O)<|x (Qq O)<|xe ?_;exact⟨_,La,O,by unfold J1;rw[decide_eq_false hH];rfl⟩
 rintro z g V ⟨rfl,rfl⟩;refine QY rfl (λhI=>?_) (λhI=>?_)
 ·refine Qc<|Qe ?_;exact Qk ⟨[_],La,by unfold YE;rw[if_neg hy,if_pos (by rw[←ha,hI];rfl)];rfl,G⟩
 rw[hI,Bool.false_or]at ha;refine Qi<|Qx<|QM O O<|Qb<|xe ?_;exact⟨k+1,by omega,La,E,O,ha⟩
theorem ZW {α:Type}(q:α→Bool)(i:Nat)(a:α)(l:List α):fix q i (a::l)=if q a=true then(i:Int)else fix q (i+1) l:=rfl
theorem Qcx {α:Type}(q:α→Bool):∀(l:List α) (i:Nat),fix q i l=-1∨((i:Int)≤fix q i l∧fix q i l<(i:Int)+l.length)
 | [],i=>.inl O
 | a::l,i=>by
  rw[ZW];split
  ·right;simp only[List.length_cons];omega
  rcases Qcx q l (i+1)with h|h
  ·exact .inl h
  right;simp only[List.length_cons];omega
theorem jV {α:Type}(q:α→Bool):∀(l:List α) (i:Nat),decide (0≤fix q i l)=l.any q
 | [],i=>rfl
 | a::l,i=>by
  rw[ZW,List.any_cons];cases h:q a with
  | true=>rw[if_pos rfl];simp
  | false=>rw[if_neg (by decide),jV q l (i+1)];rfl
theorem zd {α:Type}(q:α→Bool)(m:List α):∀(l:List α) (i:Nat),fix q i (l++m)=if 0≤fix q i l then fix q i l else fix q (i+l.length) m
 | [],i=>by
  show fix q i m=if(0:Int)≤-1 then(-1)else fix q i m
  rw[if_neg (by decide)]
 | a::l,i=>by
  rw[Mh,ZW,ZW];by_cases h:q a=true
  ·rw[if_pos h,if_pos h,if_pos (by omega)]
  rw[if_neg h,if_neg h,zd q m l (i+1),LG];rw[show i+1+l.length=i+(l.length+1) by omega]
theorem yR {α:Type}(q:α→Bool)(d:Nat):∀(l:List α) (i:Nat),fix q (i+d) l=if 0≤fix q i l then fix q i l+d else -1
 | [],i=>rfl
 | a::l,i=>by
  rw[ZW,ZW];by_cases h:q a=true
  ·rw[if_pos h,if_pos h,if_pos (by omega)];omega
  rw[if_neg h,if_neg h,show i+d+1=(i+1)+d by omega,yR q d l (i+1)]
theorem KS {α β:Type}(q:β→Bool)(g:α→β):∀(l:List α) (i:Nat),fix q i (l.map g)=fix (λa=>q (g a)) i l
 | [],i=>rfl
 | a::l,i=>by rw[LT,ZW,ZW,KS q g l (i+1)]
theorem QeZ {α:Type}{q E:α→Bool}:∀{l:List α}{i:Nat},(∀a∈l,q a=E a)→fix q i l=fix E i l
 | [],i,_=>rfl
 | a::l,i,h=>by rw[ZW,ZW,h a Lp,QeZ (λb hb=>h b (Lk _ hb))]
theorem QlP {gp:Nat}{fn:Func}[Fu prog gp fn]{cap:LV}{q:(Int×Int)→Bool}{L:LN}{w:World}{v:Value}{l:List (Int×Int)}(h:Zv L w.heap v l.length 2 (l.flatMap QU))
  (hk:∀e∈l,∀(G:World),Step [] w G→QE prog gp ([.agg (QU e).toArray]++cap) G λr w'=>r=.bool (q e)∧Step [] G w'):
  QE prog 251 [v,.func (.func gp) #[] cap.toArray] w λr w'=>r=.int .i64 (fix q 0 l)∧Step [] w w':=by
 have hb:=h.le;refine QE.of_W func251 O ntmps251 results251 (by simp) ?_;refine Qc<|Qe<|Qg<|Qc<|Qb<|x (Qr h O)<|Qb<|xe<|Qh<|QA (α:=Nat) [(4,5),(8,18)] (λz=>[(8,.int .i64 z)]) (λz w'=>z≤l.length∧Step [] w w'∧fix q z (l.drop z)=fix q 0 l) (λz=>l.length - z) (by rfl) 0 La
  ⟨Ll _,Step.refl _ _,O⟩ ?_
 rintro k g G ⟨hk1,H,E⟩;refine Qc<|x (Qz O O)<|xe<|Qg<|QC O (λh9=>?_) (λh9=>?_)
 ·refine Qy ?_;have Y:l.length≤k:=by have ha:¬(k:Int)<(l.length:Int):=h9;omega
  rw[Ls Y]at E;refine Qc<|Qe ?_;exact Qk ⟨[_],La,by rw[←E];rfl,H⟩
 have I:k<l.length:=by have ha:(k:Int)<(l.length:Int):=h9;omega
 rw[Q9 I,ZW]at E;have T:=Li I;refine Qi<|Qg<|Qh<|Qc<|Qb<|Qe<|Qc<|Qb<|Qb<|Qb<|xig Y3 (h.ext H) O O I λhc U=>?_;refine Zb (l[k]'I) λe he=>?_;rw[he]at U E T;refine x (QI U O O)<|xl O<|xc (first:=[]) (capt:=cap) O<|(hk e T G H).mono ?_;rintro r2 w2 ⟨rfl,V⟩;refine xe<|QY rfl (λJ=>?_) (λJ=>?_)
 ·rw[if_pos J]at E;refine Qc<|Qb<|Qe ?_;exact Qk ⟨[_],La,by rw[←E];rfl,H.trans V⟩
 rw[if_neg (by rw[J];decide)]at E;refine Qi<|Qx<|QM O O<|Qb<|xe ?_;exact⟨k+1,by omega,La,I,H.trans V,E⟩
theorem Qmb {gp:Nat}{fn:Func}[Fu prog gp fn]{cap:LV}{q:(Int×Int)→Bool}{L:LN}{w:World}{v:Value}{l:List (Int×Int)}(h:Zv L w.heap v l.length 2 (l.flatMap QU))
  (hk:∀e∈l,∀(E:World),Step [] w E→QE prog gp ([.agg (QU e).toArray]++cap) E λr w'=>r=.bool (q e)∧Step [] E w'):
  QE prog 239 [v,.func (.func gp) #[] cap.toArray] w λr w'=>r=.bool (l.any q)∧Step [] w w':=by
 refine QE.of_W func239 O ntmps239 results239 (by simp) ?_;refine Qc<|Qe<|Qc<|Qb<|Qb<|xl O<|xf<|(QlP h hk).mono ?_;rintro H E ⟨rfl,G⟩;refine x (ZN O O)<|Qe ?_;exact Qk ⟨[_],La,congrArg Value.bool (jV q l 0),G⟩
theorem zq (sz:LI):∀(ls:List (Int×Int)) (pr:Option Int),Yq sz pr ls=0→(∀p∈ls,0≤p.1∧p.1<(sz.length:Int))∧Yn (ls.map (·.1))∧∀y,pr=some y→∀p∈ls,y<p.1
 | [],pr,_=>⟨λp hp=>(by cases hp),List.Pairwise.nil,λy _ p hp=>(by cases hp)⟩
 | l::ls,pr,h=>by
  unfold Yq at h;split at h
  ·cases h
  rename_i h1;split at h
  ·cases h
  rename_i h2;split at h
  ·cases h
  obtain⟨h4,h5,G⟩:=zq sz ls (some l.1) h;have E:=G l.1 O;refine⟨λp hp=>?_,LW.2 ⟨λx hx=>?_,h5⟩,λy hy p hp=>?_⟩
  ·rcases Lc.1 hp with rfl|hp
   ·omega
   exact h4 p hp
  ·obtain⟨p,hp,rfl⟩:=Lx.1 hx;exact E p hp
  subst hy;have H:¬l.1≤y:=λe=>h2 (decide_eq_true e);rcases Lc.1 hp with rfl|hp
  ·omega
  have:=E p hp;omega
theorem zo (sz:LI):∀(ls:List (Int×Int)) (pr:Option Int),Jm sz pr ls=0→(∀p∈ls,0≤p.1∧p.1<(sz.length:Int)∧-65536≤p.2∧p.2≤65536)∧Yn (ls.map (·.1))∧∀y,pr=some y→∀p∈ls,y<p.1
 | [],pr,_=>⟨λp hp=>(by cases hp),List.Pairwise.nil,λy _ p hp=>(by cases hp)⟩
 | l::ls,pr,h=>by
  unfold Jm at h;split at h
  ·cases h
  rename_i h1;split at h
  ·cases h
  rename_i h2;split at h
  ·cases h
  rename_i h3;obtain⟨h4,h5,G⟩:=zo sz ls (some l.1) h;have E:=G l.1 O;have h9:grt l.2=false:=by cases H:grt l.2 with|true=>exact absurd (.inr H) h3|false=>rfl
  unfold grt at h9;simp only[Bool.or_eq_false_iff,decide_eq_false_iff_not]at h9;refine⟨λp hp=>?_,LW.2 ⟨λx hx=>?_,h5⟩,λy hy p hp=>?_⟩
  ·rcases Lc.1 hp with rfl|hp
   ·omega
   exact h4 p hp
  ·obtain⟨p,hp,rfl⟩:=Lx.1 hx;exact E p hp
  subst hy;have I:¬l.1≤y:=λe=>h2 (decide_eq_true e);rcases Lc.1 hp with rfl|hp
  ·omega
  have:=E p hp;omega
theorem UL (sz:LI):∀(l:List Exc) (sn:List ByteArray),Yh sz sn l=0→∀x∈l,Jn sz x.ls=0
 | [],_,_,x,hx=>by cases hx
 | a::l,sn,h,x,hx=>by
  unfold Yh at h;split at h
  ·rename_i h1;exact absurd h h1
  split at h
  ·rename_i h1;exact absurd h h1
  rename_i h1;rcases Lc.1 hx with rfl|hx
  ·exact Lm.1 h1
  exact UL sz l _ h x hx
theorem UM (sz:LI):∀(l:List Jt) (sn:List ByteArray),YT sz sn l=0→∀x∈l,Xd sz x=0
 | [],_,_,x,hx=>by cases hx
 | a::l,sn,h,x,hx=>by
  unfold YT at h;split at h
  ·rename_i h1;exact absurd h h1
  split at h
  ·rename_i h1;exact absurd h h1
  rename_i h1;rcases Lc.1 hx with rfl|hx
  ·exact Lm.1 h1
  exact UM sz l _ h x hx
structure Qos (sz:LI)(ex:List Exc)(cs:List Jt):Prop where
 s8:sz.length≤8
 s:∀n∈sz,1≤n∧n≤4096
 xl:ex.length≤32
 kl:cs.length≤32
 x:∀e∈ex,∀p∈e.ls,0≤p.1∧p.1<(sz.length:Int)
 k:∀e∈cs,(∀p∈e.ts,0≤p.1∧p.1<(sz.length:Int)∧-65536≤p.2∧p.2≤65536)∧e.ts.length≤8
theorem UN {sz:LI}{ex:List Exc}{cs:List Jt}(h:YE sz ex cs=0):Qos sz ex cs:=by
 unfold YE at h;split at h
 ·cases h
 rename_i H;split at h
 ·cases h
 rename_i hs;split at h
 ·cases h
 rename_i I;split at h
 ·rename_i hx;exact absurd h hx
 rename_i hx;have E:=Lm.1 hx;refine⟨by omega,λn G=>?_,by omega,by omega,λe he p hp=>?_,λe he=>?_⟩
 ·have h1:J1 n=false:=by
   cases hb:J1 n with
   | false=>rfl
   | true=>exact absurd (M6.2 ⟨n,G,hb⟩) hs
  unfold J1 at h1;simp only[Bool.or_eq_false_iff,decide_eq_false_iff_not]at h1;omega
 ·have h1:=UL sz ex [] E e he;unfold Jn at h1;split at h1
  ·cases h1
  exact(zq sz e.ls none h1).1 p hp
 have h1:=UM sz cs [] h e he;unfold Xd at h1;split at h1
 ·cases h1
 split at h1
 ·rename_i h2;exact absurd h1 h2
 rename_i h2;obtain⟨h3,h4,_⟩:=zo sz e.ts none (Lm.1 h2);refine⟨h3,?_⟩;have:=Go.Proofs.YtjcgijbhaemldaaGreatDoor.pig sz.length (e.ts.map (·.1)) (List.Pairwise.imp (λ{a b} (h:a<b)=>(by omega:a≠b)) h4) (λx hx=>by
  obtain⟨p,hp,rfl⟩:=Lx.1 hx;exact⟨(h3 p hp).1,(h3 p hp).2.1⟩)
 rw[Lh]at this;omega
def QkF (sz t:LI):Prop:=t.length=sz.length∧∀i,i<t.length→0≤cget t i∧cget t i<cget sz i
theorem Qew (t:LI)(p:Int×Int)(l:List (Int×Int))(s:Int):(l++[p]).foldl (λs p=>s+p.2*t.getD p.1.toNat 0) s=l.foldl (λs p=>s+p.2*t.getD p.1.toNat 0) s+p.2*cget t p.1.toNat:=by
 rw[Mn];rfl
theorem Qfx {w:World}{vl vt:Value}{nm:ByteArray}{ts:List (Int×Int)}{bd:Int}{t:LI}(hl:P2s [] w.heap vl ts)(ht:QH [] w.heap vt t)
  (hg:∀p∈ts,0≤p.1∧p.1<(t.length:Int)∧-65536≤p.2∧p.2≤65536) (h8:ts.length≤8) (hh:∀i,i<t.length→0≤cget t i∧cget t i≤4096):
  QE prog 242 [.agg #[.string nm,vl,.int .i64 bd],vt] w λr w'=>r=.int .i64 (QmW t ⟨nm,ts,bd⟩)∧Step [] w w':=by
 refine QE.of_W func242 O ntmps242 results242 (by simp) ?_;refine Qc<|xl O<|QQ (us:=[.string nm,vl,.int .i64 bd]) O λb2 w1 V hv hi=>Qe<|Qc<|Qe<|Qg<|Qc<|x (Qa O)<|x (Qd hi O O)<|x (Qr (hl.ext V) O)<|Qb<|xe ?_
 refine Qh<|QA (α:=Nat×Int) [(5,5),(7,7),(11,25)] (λz=>[(5,.int .i64 z.2),(11,.int .i64 z.1)]) (λz w'=>z.1≤ts.length∧Step [] w w'∧z.2=(ts.take z.1).foldl (λs p=>s+p.2*t.getD p.1.toNat 0) 0∧-(268435456*(z.1:Int))≤z.2∧z.2≤268435456*(z.1:Int)) (λz=>ts.length - z.1) (by rfl) (0,0) ⟨O,O,Z⟩
  ⟨Ll _,V,O,by simp only[];omega,by simp only[];omega⟩ ?_
 rintro⟨k,s⟩ g w2 ⟨hk,J,G,hj,hm⟩;simp only[]at hk G hj hm;refine Qc<|x (Qz O O)<|xe<|Qg<|QC O (λT=>?_) (λT=>?_)
 ·refine Qy ?_;have hn:ts.length≤k:=by have H:¬(k:Int)<(ts.length:Int):=T;omega
  rw[Ln hn]at G;refine Qc<|Qb<|Qe ?_;exact Qk ⟨[_],La,by rw[G];rfl,J⟩
 have E:k<ts.length:=by have H:(k:Int)<(ts.length:Int):=T;omega
 have U:=hg _ (Li E);have Y:ts.take (k+1)=ts.take k++[ts[k]'E]:=Le E;refine Qi<|Qg<|Qh<|Qc<|xig Y3 (hl.ext J) O O E λhw H=>?_;refine Zb (ts[k]'E) λe he=>?_;rw[he]at H U Y;refine x (QI H O O)<|xl O<|Qu (us:=[.int .i64 0,.int .i64 0]) O λb7 w3 ho hp I=>xl O<|Qo (us:=QU e) I O O O O ⟨O,O,Z⟩ λw4 hq I=>xe ?_
 have hr:Step [] w2 w4:=ho.then1 hq hp;have ha:=J.trans hr;have hs:e.1=((e.1.toNat:Nat):Int):=by omega
 have hb:e.1.toNat<t.length:=by omega
 have hf:=hh _ hb;have hy:-268435456≤e.2*cget t e.1.toNat∧e.2*cget t e.1.toNat≤268435456:=by
  have h1:(-65536)*cget t e.1.toNat≤e.2*cget t e.1.toNat:=Int.mul_le_mul_of_nonneg_right U.2.2.1 hf.1;have h2:e.2*cget t e.1.toNat≤65536*cget t e.1.toNat:=Int.mul_le_mul_of_nonneg_right U.2.2.2 hf.1;omega
 refine Zb (e.2*cget t e.1.toNat) λpr hz=>?_;refine QV (Step [] w4) [(0,true),(1,true),(2,true),(3,true),(4,true),(5,true),(6,true),(7,true),(8,true),(9,true),(10,true)] mixed (by rfl) (by kernel_rfl) (Step.drew _ _) ?_;refine p (λ_=>Qm)<|p (λ_=>Qa O)<|pq (λ_ hc=>Qd (I.ext hc) O O)<|p (λ_=>Qm)<|p (λ_=>Qa O) <|
  pq (λ_ hc=>Qd (I.ext hc) O O)<|pic (i:=e.1.toNat) O (ht.ext ha) O (congrArg (Value.int .i64) hs) hb λh0 hu=>pq (λ_ hc=>Qv (hu.ext hc) O) <|
  p (λ_=>Qm1 O O ⟨by omega,by omega⟩)<|p (λ_=>Xa O O ⟨by omega,by omega⟩)<|p (λ_=>Qf)<|pe ?_
 refine Qx<|QM O O<|Qb<|xe<|⟨(k+1,s+e.2*cget t e.1.toNat),by simp only[];omega,⟨O,O,Z⟩,E,ha.trans (Step.drew _ _),?_,by simp only[];omega,by simp only[];omega⟩;simp only[];rw[Y,Qew,←G]
theorem Qhr {w:World}{bt:Nat}{vt:Value}{t:LI}(H:QT w.heap bt 39 [vt])(ht:QH [] w.heap vt t)(e:Int×Int)(he:0≤e.1∧e.1<(t.length:Int)):
  QE prog 240 ([.agg (QU e).toArray]++[.pointer (some ⟨bt,0,none⟩)]) w λr w'=>r=.bool (!decide (t.getD e.1.toNat 0=e.2))∧Step [] w w':=by
 refine QE.of_W func240 O ntmps240 results240 (by simp) ?_;refine Qc<|xl O<|QQ (us:=QU e) O λV I E Y G=>Qe ?_;have J:e.1=((e.1.toNat:Nat):Int):=by omega
 have T:e.1.toNat<t.length:=by omega
 refine Qg<|QV (Step [] I) [(0,true),(1,true),(2,true),(3,true),(4,true),(5,true),(6,true),(7,true),(8,true)] mixed (by rfl) (by kernel_rfl) (Step.drew _ _) ?_;refine pq (λ_ hc=>Qd ((H.ext E).ext hc) O O)<|p (λ_=>Qa O)<|pq (λ_ hc=>Qd (G.ext hc) O O)<|pic (i:=e.1.toNat) O (ht.ext E) O (congrArg (Value.int .i64) J) T λa7 U =>
  pq (λ_ hc=>Qv (U.ext hc) O)<|p (λ_=>Qa O)<|pq (λ_ hc=>Qd (G.ext hc) O O)<|p (λ_=>Q7 O O) <|
  p (λ_=>Qf)<|pe ?_
 refine Qk ⟨[_],La,?_,E.trans (Step.drew _ _)⟩;show Value.bool (decide (¬cget t e.1.toNat=e.2))=_;unfold cget;simp
theorem Qfv (t:LI)(x:Exc):(!(x.ls.any λl=>!decide (t.getD l.1.toNat 0=l.2)))=Vf t x:=by
 unfold Vf;induction x.ls with
 | nil=>rfl
 | cons a l ih=>rw[List.any_cons,Mc,←ih];cases decide (t.getD a.1.toNat 0=a.2) <;> simp
theorem Qj8 {w:World}{b:Nat}{q:XV}{vt:Value}{t:LI}(H:QT w.heap b 99 (Zs q))(hq:P2s [] w.heap q.v q.ls)(ht:QH [] w.heap vt t)(I:∀p∈q.ls,0≤p.1∧p.1<(t.length:Int)):
  QE prog 238 ([vt]++[.pointer (some ⟨b,0,none⟩)]) w λr w'=>r=.bool (Vf t q.x)∧Step [] w w':=by
 refine QE.of_W func238 O ntmps238 results238 (by simp) ?_;refine Qc<|xl O<|QQ (us:=[vt]) ht.cells λJ V E Y T=>Qe<|Qc<|x (Qa O)<|x (Qd (H.ext E) O O)<|x Zn<|xl O<|xf<|(Qmb (q:=λl=>!decide (t.getD l.1.toNat 0=l.2)) (cap:=[.pointer (some ⟨J,0,none⟩)]) (hq.ext E) (λe he U G=>Qhr (T.ext G) ((ht.ext E).ext G) e (I e he))).mono ?_;rintro r2 U ⟨rfl,G⟩;refine x (Zq O)<|Qe ?_
 exact Qk ⟨[_],La,congrArg Value.bool (Qfv t q.x),E.trans G⟩
theorem Qj7 {w:World}{b:Nat}{q:KV}{vt:Value}{t:LI}(E:QT w.heap b 153 (ZD q))(hq:P2s [] w.heap q.v q.ts)(ht:QH [] w.heap vt t)
  (H:∀p∈q.ts,0≤p.1∧p.1<(t.length:Int)∧-65536≤p.2∧p.2≤65536) (I:q.ts.length≤8) (J:∀i,i<t.length→0≤cget t i∧cget t i≤4096):
  QE prog 241 ([vt]++[.pointer (some ⟨b,0,none⟩)]) w λr w'=>r=.bool (Uj t q.k)∧Step [] w w':=by
 refine QE.of_W func241 O ntmps241 results241 (by simp) ?_;refine Qc<|Qe ?_;have hd:Step [] w { w with drawn:=w.drawn+1 }:=Step.drew _ _
 refine Qg<|QV (Step [] { w with drawn:=w.drawn+1 }) [(0,true),(1,true),(3,true),(4,true),(2,false),(5,true),(6,true)] mixed (by rfl) (by kernel_rfl) (Step.refl _ _) ?_
 refine pq (λ_ hc=>Qn ((E.ext hd).ext hc) O O)<|p (λ_=>Qm)<|p (λ_=>Qa O)<|pq (λ_ hc=>Qd ((E.ext hd).ext hc) O O)<|pk<|xf<|(Qfx (hq.ext hd) (ht.ext hd) H I J).mono ?_;rintro T U ⟨rfl,G⟩;refine⟨G,?_⟩;refine p (λ_=>ZL O O)<|p (λ_=>Qf)<|pe ?_;exact Qk ⟨[_],La,O,hd.trans G⟩
inductive Cd where
 | ex (b:Nat) (q:XV)
 | co (b:Nat) (q:KV)
def Cd.val:Cd→Value
 | .ex b _=>.func (.func 238) #[] #[.pointer (some ⟨b,0,none⟩)]
 | .co b _=>.func (.func 241) #[] #[.pointer (some ⟨b,0,none⟩)]
def Cd.src:Cd→Sum XV KV
 | .ex _ q=>.inl q
 | .co _ q=>.inr q
def Qex (t:LI):Sum XV KV→Bool
 | .inl q=>Vf t q.x
 | .inr q=>Uj t q.k
def Cd.vio (t:LI)(c:Cd):Bool:=Qex t c.src
abbrev Ub (c:Cd):LV:=[c.val]
theorem Qmd (c:Cd):(Ub c).length=1:=rfl
def CdA (H:Array Obj):Cd→Prop
 | .ex b q=>QT H b 99 (Zs q)∧P2s [] H q.v q.ls
 | .co b q=>QT H b 153 (ZD q)∧P2s [] H q.v q.ts
theorem CdA.ext {w w':World}{c:Cd}(h:CdA w.heap c)(hs:Step [] w w'):CdA w'.heap c:=by
 cases c with
 | ex b q=>exact⟨h.1.ext hs,h.2.ext hs⟩
 | co b q=>exact⟨h.1.ext hs,h.2.ext hs⟩
def Cd.rg (n:Nat):Cd→Prop
 | .ex _ q=>∀p∈q.ls,0≤p.1∧p.1<(n:Int)
 | .co _ q=>(∀p∈q.ts,0≤p.1∧p.1<(n:Int)∧-65536≤p.2∧p.2≤65536)∧q.ts.length≤8
theorem Qbf {q:XV}(w:World):QE prog 217 [.agg (Zs q).toArray] w λr w'=>Step [] w w'∧∃b,r=(Cd.ex b q).val∧w.heap.size≤b∧QT w'.heap b 99 (Zs q):=by
 refine QE.of_W func217 O ntmps217 results217 (by simp) ?_;refine Qc<|xl O<|QQ (us:=Zs q) O λE J G H I=>Qe<|Qc<|x Zn<|Qe ?_;exact Qk ⟨[_],La,G,E,O,H,I⟩
theorem Qcy {q:KV}(w:World):QE prog 218 [.agg (ZD q).toArray] w λr w'=>Step [] w w'∧∃b,r=(Cd.co b q).val∧w.heap.size≤b∧QT w'.heap b 153 (ZD q):=by
 refine QE.of_W func218 O ntmps218 results218 (by simp) ?_;refine Qc<|xl O<|QQ (us:=ZD q) O λE J G H I=>Qe<|Qc<|x Zn<|Qe ?_;exact Qk ⟨[_],La,G,E,O,H,I⟩
def CdB (H:Array Obj):Cd→Prop
 | .ex b q=>QT H b 99 (Zs q)
 | .co b q=>QT H b 153 (ZD q)
def Cd.blk:Cd→Nat
 | .ex b _=>b
 | .co b _=>b
theorem CdB.lt {H:Array Obj}{c:Cd}(h:CdB H c):c.blk<H.size:=by cases c <;> exact QT.lt h
theorem CdB.step {X:LN}{w w':World}{c:Cd}(h:CdB w.heap c)(hs:Step X w w')(E:c.blk∉X):CdB w'.heap c:=by
 cases c <;> exact QT.step h hs E
structure CdL (base:Nat)(w:World)(v:Value)(cds:List Cd):Prop where
 own:w.ownsRow base 339 1 v cds.length (cds.flatMap Ub)
 bx:∀c∈cds,CdB w.heap c∧c.blk∉ob v
theorem CdL.add {base:Nat}{w E G:World}{v H:Value}{cds:List Cd}{c:Cd}(h:CdL base w v cds)(hs:Step [] w E)(hc:CdB E.heap c)(hb:w.heap.size≤c.blk)
  (I:G.ownsRow base 339 1 H (cds.length+1) (cds.flatMap Ub++[c.val])) (J:Step (ob v) E G) (T:∀b∈ob H,b∈ob v∨E.heap.size≤b):CdL base G H (cds++[c]):=by
 have U:=Q3 h.own;have V:c.blk∉ob v:=λhm=>by have:=U _ hm;omega
 refine⟨?_,λd hd=>?_⟩
 ·rw[Lj,LC];simpa using I
 have key:CdB E.heap d∧d.blk∉ob v:=by
  rcases Lq.1 hd with hd|hd
  ·exact⟨(h.bx d hd).1.step hs (by simp),(h.bx d hd).2⟩
  simp only[List.mem_singleton]at hd;subst hd;exact⟨hc,V⟩
 refine⟨key.1.step J key.2,λhm=>?_⟩;rcases T _ hm with h1|h1
 ·exact key.2 h1
 have:=key.1.lt;omega
set_option maxHeartbeats 4000000 in
theorem QhG {w:World}{vs vx vk:Value}{qx:List XV}{ks:List KV}(hX:qj [] w.heap vx qx)(hK:zU [] w.heap vk ks)(hH:qx.length≤32)(hI:ks.length≤32):
  QE prog 187 [.agg #[vs,vx,vk]] w λr w'=>Step [] w w'∧∃cds,CdL w.heap.size w' r cds∧cds.map Cd.src=qx.map Sum.inl++ks.map Sum.inr:=by
 refine QE.of_W func187 O ntmps187 results187 (by simp) ?_;refine Qc<|xl O<|QQ (us:=[vs,vx,vk]) O λb1 J H hJ h3=>Qe ?_;have h8:=H.size;refine Qc<|Qe<|Qg<|Qc<|x (Qa O)<|x (Qd h3 O O)<|x (Qr (hX.ext H).arr O)<|Qb<|xe ?_
 refine Qh<|QA (α:=Nat×Value×List Cd) [(3,3),(5,5),(11,20)] (λz=>[(3,z.2.1),(11,.int .i64 z.1)]) (λz w'=>z.1≤qx.length∧Step [] J w'∧CdL J.heap.size w' z.2.1 z.2.2∧z.2.2.map Cd.src=(qx.take z.1).map Sum.inl) (λz=>qx.length - z.1) (by rfl) (0,nS,[]) ⟨O,O,Z⟩
  ⟨Ll _,Step.refl _ _,⟨QP _ _ _ _,λc hc=>(by cases hc)⟩,rfl⟩ ?_
 rintro⟨k,vo,cds⟩ g wA ⟨hk,I,Y,ha⟩;simp only[]at hk Y ha;have hM:cds.length=k:=by have:=congrArg List.length ha;simp at this;omega
 refine Qc<|x (Qz O O)<|xe<|Qg<|QC O (λhl=>?_) (λhl=>?_)
 ·refine Qy ?_;have h9:qx.length≤k:=by have hm:¬(k:Int)<(qx.length:Int):=hl;omega
  rw[Ln h9]at ha;refine Qg<|Qc<|x (Qa O)<|x (Qd (h3.ext I) O O)<|x (Qr ((hK.ext H).ext I).arr O)<|Qb<|xe ?_
  refine Qh<|QA (α:=Nat×Value×List Cd) [(3,3),(7,7),(24,33)] (λz=>[(3,z.2.1),(24,.int .i64 z.1)]) (λz w'=>z.1≤ks.length∧Step [] J w'∧CdL J.heap.size w' z.2.1 z.2.2∧z.2.2.map Cd.src=qx.map Sum.inl++(ks.take z.1).map Sum.inr) (λz=>ks.length - z.1) (by rfl) (0,vo,cds) ⟨O,O,Z⟩
   ⟨Ll _,I,Y,by simp only[];rw[ha];simp⟩ ?_
  rintro⟨j,vp,cdt⟩ g wB ⟨hj,he,T,hf⟩;simp only[]at hj T hf;have hN:cdt.length=qx.length+j:=by have:=congrArg List.length hf;simp at this;omega
  refine Qc<|x (Qz O O)<|xe<|Qg<|QC O (λhn=>?_) (λhn=>?_)
  ·refine Qy ?_;have hB:ks.length≤j:=by have hm:¬(j:Int)<(ks.length:Int):=hn;omega
   rw[Ln hB]at hf;refine Qc<|Qb<|Qe ?_;exact Qk ⟨[_],La,H.trans he,cdt,⟨Zc T.own h8,T.bx⟩,hf⟩
  have U:j<ks.length:=by have hm:(j:Int)<(ks.length:Int):=hn;omega
  have h4:=Li U;have h5:ks.take (j+1)=ks.take j++[ks[j]'U]:=Le U;refine Qi<|Qg<|Qh<|Qc<|xig JQ ((hK.ext H).ext he).arr O O U λaA hA=>?_;refine Zb (ks[j]'U) λq hq=>?_;rw[hq]at hA h4 h5;have ho:=((hK.ext H).ext he).each q h4
  refine x (QI hA O O)<|xl O<|Qu (us:=[.string .empty,nS,.int .i64 0]) O λb7 w4 hp hr hs=>xl O<|Qo (us:=ZD q) hs O O O O ⟨O,ho.one,O,Z⟩ λw5 ht hu=>xe ?_;have hg:Step [] wB w5:=hp.then1 ht hr;refine Qx<|Qb<|x (Qn hu O O)<|xl O<|xf<|(Qcy w5).mono ?_;rintro r6 w6 ⟨hv,E,rfl,hC,hw⟩
  refine xl O<|QF (us:=[[(Cd.co E q).val]]) O O (by decide) (by simp) ⟨rfl,rfl,Z⟩ λhD w7 hh hE hy=>?_;have G:=(hg.trans hv).trans hh;have hF:=(he.trans G).size;have hG:=hg.size;refine xl O<|Q5 (news:=[(Cd.co E q).val]) (L:=[]) (Qs T.own G) O O O (hy.at (by simp)) (by simp[Cd.val,Value.oneCell']) (by omega) (by omega) λv8 w8 hz hi h0 =>
   Qe ?_
  have hge:=Qp T.own;have h1:=T.add (c:=Cd.co E q) G (QT.ext hw hh) (by show _≤E;omega) hz hi h0;have h2:Step [] J w8:=(he.trans G).then hi (λb hb=>.inr (hge b hb).1);refine Qx<|QM O O<|Qb<|xe ?_;exact⟨(j+1,v8,cdt++[Cd.co E q]),by simp only[];omega,⟨O,O,Z⟩,U,h2,h1,by simp only[];rw[Lv,hf,h5];simp[Cd.src]⟩
 have V:k<qx.length:=by have hm:(k:Int)<(qx.length:Int):=hl;omega
 have h6:=Li V;have h7:qx.take (k+1)=qx.take k++[qx[k]'V]:=Le V;refine Qi<|Qg<|Qh<|Qc<|xig Kd ((hX.ext H).ext I).arr O O V λaA hA=>?_;refine Zb (qx[k]'V) λq hq=>?_;rw[hq]at hA h6 h7;have ho:=((hX.ext H).ext I).each q h6
 refine x (QI hA O O)<|xl O<|Qu (us:=[.string .empty,nS]) O λb7 w4 hp hr hs=>xl O<|Qo (us:=Zs q) hs O O O O ⟨O,ho.one,Z⟩ λw5 ht hu=>xe ?_;have hg:Step [] wA w5:=hp.then1 ht hr;refine Qx<|Qb<|x (Qn hu O O)<|xl O<|xf<|(Qbf w5).mono ?_;rintro r6 w6 ⟨hv,E,rfl,hC,hw⟩;refine xl rfl<|QF (us:=[[(Cd.ex E q).val]]) O O (by decide) (by simp) ⟨rfl,rfl,Z⟩ λhD w7 hh hE hy=>?_
 have G:=(hg.trans hv).trans hh;have hF:=(I.trans G).size;have hG:=hg.size;refine xl rfl<|Q5 (news:=[(Cd.ex E q).val]) (L:=[]) (Qs Y.own G) O O O (hy.at (by simp)) (by simp[Cd.val,Value.oneCell']) (by omega) (by omega) λv8 w8 hz hi h0 =>
  Qe ?_
 have hge:=Qp Y.own;have h1:=Y.add (c:=Cd.ex E q) G (QT.ext hw hh) (by show _≤E;omega) hz hi h0;have h2:Step [] J w8:=(I.trans G).then hi (λb hb=>.inr (hge b hb).1);refine Qx<|QM O O<|Qb<|xe ?_;exact⟨(k+1,v8,cds++[Cd.ex E q]),by simp only[];omega,⟨O,O,Z⟩,V,h2,h1,by simp only[];rw[Lv,ha,h7];simp[Cd.src]⟩
theorem QlQ {gp:Nat}{fn:Func}[Fu prog gp fn]{cap:LV}{q:Cd→Bool}{L:LN}{w:World}{v:Value}{l:List Cd}(h:Zv L w.heap v l.length 1 (l.flatMap Ub))
  (hk:∀e∈l,∀(G:World),Step [] w G→QE prog gp ([e.val]++cap) G λr w'=>r=.bool (q e)∧Step [] G w'):
  QE prog 215 [v,.func (.func gp) #[] cap.toArray] w λr w'=>r=.int .i64 (fix q 0 l)∧Step [] w w':=by
 have hb:=h.le;refine QE.of_W func215 O ntmps215 results215 (by simp) ?_;refine Qc<|Qe<|Qg<|Qc<|Qb<|x (Qr h O)<|Qb<|xe<|Qh<|QA (α:=Nat) [(4,5),(8,18)] (λz=>[(8,.int .i64 z)]) (λz w'=>z≤l.length∧Step [] w w'∧fix q z (l.drop z)=fix q 0 l) (λz=>l.length - z) (by rfl) 0 La
  ⟨Ll _,Step.refl _ _,O⟩ ?_
 rintro k g G ⟨hk1,H,E⟩;refine Qc<|x (Qz O O)<|xe<|Qg<|QC O (λh9=>?_) (λh9=>?_)
 ·refine Qy ?_;have Y:l.length≤k:=by have ha:¬(k:Int)<(l.length:Int):=h9;omega
  rw[Ls Y]at E;refine Qc<|Qe ?_;exact Qk ⟨[_],La,by rw[←E];rfl,H⟩
 have I:k<l.length:=by have ha:(k:Int)<(l.length:Int):=h9;omega
 rw[Q9 I,ZW]at E;have T:=Li I;refine Qi<|Qg<|Qh<|Qc<|Qb<|Qe<|Qc<|Qb<|Qb<|Qb<|xig Qmd (h.ext H) O O I λhc U=>?_;refine Zb (l[k]'I) λe he=>?_;rw[he]at U E T;refine x (Qv U O)<|xl O<|xc (first:=[]) (capt:=cap) O<|(hk e T G H).mono ?_;rintro r2 w2 ⟨rfl,V⟩;refine xe<|QY rfl (λJ=>?_) (λJ=>?_)
 ·rw[if_pos J]at E;refine Qc<|Qb<|Qe ?_;exact Qk ⟨[_],La,by rw[←E];rfl,H.trans V⟩
 rw[if_neg (by rw[J];decide)]at E;refine Qi<|Qx<|QM O O<|Qb<|xe ?_;exact⟨k+1,by omega,La,I,H.trans V,E⟩
theorem Qkk {w:World}{c:Cd}{vt:Value}{t:LI}(hc:CdA w.heap c)(ht:QH [] w.heap vt t)(E:c.rg t.length)(G:∀i,i<t.length→0≤cget t i∧cget t i≤4096):
  ∃g fn cap,c.val=.func (.func g) #[] [cap].toArray∧Fu prog g fn∧QE prog g ([vt]++[cap]) w λr w'=>r=.bool (c.vio t)∧Step [] w w':=by
 cases c with
 | ex b q=>exact⟨_,_,_,O,inferInstance,Qj8 hc.1 hc.2 ht E⟩
 | co b q=>exact⟨_,_,_,O,inferInstance,Qj7 hc.1 hc.2 ht E.1 E.2 G⟩
theorem Qft {w:World}{bt:Nat}{c:Cd}{vt:Value}{t:LI}(E:QT w.heap bt 39 [vt])(hc:CdA w.heap c)(ht:QH [] w.heap vt t)(G:c.rg t.length)(H:∀i,i<t.length→0≤cget t i∧cget t i≤4096):
  QE prog 216 ([c.val]++[.pointer (some ⟨bt,0,none⟩)]) w λr w'=>r=.bool (c.vio t)∧Step [] w w':=by
 obtain⟨gq,fn,cap,I,T,hcall⟩:=Qkk hc ht G H;rw[I];refine QE.of_W func216 O ntmps216 results216 (by simp) ?_;refine Qc<|Qe<|Qc<|Qb<|x (Qd E O O)<|xl O<|xc (g:=gq) (fn:=fn) (first:=[]) (capt:=[cap]) O<|hcall.mono ?_;rintro U V ⟨rfl,J⟩;refine Qe ?_;exact Qk ⟨[_],La,O,J⟩
theorem Qaq {L:LN}{w:World}{v vt:Value}{cds:List Cd}{t:LI}(h:Zv L w.heap v cds.length 1 (cds.flatMap Ub))(hc:∀c∈cds,CdA w.heap c)(ht:QH [] w.heap vt t)(H:∀c∈cds,c.rg t.length)(I:∀i,i<t.length→0≤cget t i∧cget t i≤4096):
  QE prog 186 [v,vt] w λr w'=>r=.int .i64 (fix (Cd.vio t) 0 cds)∧Step [] w w':=by
 refine QE.of_W func186 O ntmps186 results186 (by simp) ?_;refine Qc<|xl O<|QQ (us:=[vt]) ht.cells λJ V G Y T=>Qe<|Qc<|Qb<|x Zn<|xl O<|xf<|(QlQ (q:=Cd.vio t) (cap:=[.pointer (some ⟨J,0,none⟩)]) (h.ext G) (λc hm U E=>Qft (T.ext E) (((hc c hm).ext G).ext E) ((ht.ext G).ext E) (H c hm) I)).mono ?_;rintro r2 U ⟨rfl,E⟩;refine Qe ?_;exact Qk ⟨[_],La,O,G.trans E⟩
theorem QhN {w:World}{vs vx vk vt:Value}{sz t:LI}(hS:QH [] w.heap vs sz)(ht:QH [] w.heap vt t)(h:QkF sz t):
  QE prog 214 [.agg #[vs,vx,vk],vt] w λr w'=>r=.int .i64 0∧Step [] w w':=by
 have hc:=ht.le;have h0:=h.1;refine QE.of_W func214 O ntmps214 results214 (by simp) ?_;refine Qc<|xl O<|QQ (us:=[vs,vx,vk]) O λb2 T E he H=>Qe<|Qg<|Qc<|Qb<|x (Qr (ht.ext E) O)<|x (Qa O)<|x (Qd H O O)<|x (Qr (hS.ext E) O)<|x (Q7 O O) <|
  xe ?_
 refine QC rfl (λI=>?_) (λI=>?_)
 ·refine Qi<|Qg<|Qc<|Qb<|x (Qr (ht.ext E) O)<|Qb<|xe<|Qh<|QA (α:=Nat) [(4,6),(15,31)] (λz=>[(15,.int .i64 z)]) (λz w'=>z≤t.length∧w'=T) (λz=>t.length - z) (by rfl) 0 La ⟨Ll _,O⟩ ?_;rintro k g U ⟨hk,rfl⟩;refine Qc<|x (Qz O O)<|xe<|Qg<|QC O (λJ=>?_) (λJ=>?_)
  ·refine Qy<|Qc<|Qe ?_;exact Qk ⟨[_],La,O,E⟩
  have G:k<t.length:=by have hf:(k:Int)<(t.length:Int):=J;omega
  have hb:=h.2 k G;refine Qi<|Qg<|Qh<|Qc<|Qb<|xic (i:=k) (ht.ext E) O O G λhg V=>x (Qv V O)<|x Qf<|Qe<|QX (α:=Unit) [(20,30)] (λz=>[(30,.bool false)]) (λz w'=>w'=U) (by rfl) ?_ ?_
  ·refine Qx<|Qb<|xb (Qz O O) (λY=>by omega) (λY=>?_);refine Qb<|Qb<|x (Qa O)<|x (Qd H O O)<|Qb<|xic (i:=k) (hS.ext E) O O (by omega) λhh ha=>x (Qv ha O) <|
    x (ZN rfl O)<|x (Qq O)<|xe ?_
   exact⟨(),⟨congrArg Value.bool (decide_eq_false (by omega)),Z⟩,O⟩
  rintro _ g w3 rfl;refine ZO O ?_;refine Qi<|Qx<|QM O O<|Qb<|xe ?_;exact⟨k+1,by omega,La,G,O⟩
 exact absurd (show(t.length:Int)=(sz.length:Int) by omega) I
theorem yd {w:World}{vs vx vk vt:Value}{sz t:LI}{qx:List XV}{ks:List KV}(hS:QH [] w.heap vs sz)(T:qj [] w.heap vx qx)(U:zU [] w.heap vk ks)(ht:QH [] w.heap vt t)(hc:YE sz (qx.map (·.x)) (ks.map (·.k))=0)(h:QkF sz t):
  QE prog 185 [.agg #[vs,vx,vk],vt] w λr w'=>r=.int .i64 0∧Step [] w w':=by
 refine QE.of_W func185 O ntmps185 results185 (by simp) ?_;refine Qc<|xl O<|QQ (us:=[vs,vx,vk]) O λY w1 E ha H=>Qe<|Qg<|Qc<|x (Qn H O O)<|xl O<|xf<|(zg (hS.ext E) (T.ext E) (U.ext E)).mono ?_;rintro r2 w2 ⟨I,J⟩;rw[hc]at I;subst I;refine Qe<|Qc<|Qb<|x (Q7 O O)<|xe<|ZO rfl ?_;refine Qi ?_;have G:=E.trans J
 refine Qc<|x (Qn (H.ext J) O O)<|Qb<|xl O<|xf<|(QhN (hS.ext G) (ht.ext G) h).mono ?_;rintro r3 w3 ⟨rfl,V⟩;refine Qe ?_;exact Qk ⟨[_],La,O,G.trans V⟩
def zV (qx:List Exc)(ks:List Jt)(t:LI):Int×Int×Bool :=
 if 0≤fix (Vf t) 0 qx then(1,fix (Vf t) 0 qx,true)else if 0≤fix (Uj t) 0 ks then(2,fix (Uj t) 0 ks,true)else(0,0,false)
theorem QjV {cds:List Cd}{qx:List XV}{ks:List KV}(t:LI)(h:cds.map Cd.src=qx.map Sum.inl++ks.map Sum.inr):
  fix (Cd.vio t) 0 cds=if 0≤fix (Vf t) 0 (qx.map (·.x))then fix (Vf t) 0 (qx.map (·.x))else if 0≤fix (Uj t) 0 (ks.map (·.k))then fix (Uj t) 0 (ks.map (·.k))+qx.length else -1:=by
 have h1:fix (Cd.vio t) 0 cds=fix (Qex t) 0 (cds.map Cd.src):=(KS (Qex t) Cd.src cds 0).symm;rw[h1,h,zd,KS,Lh,yR,KS (Qex t) Sum.inr ks 0];have e1:fix (λa=>Qex t (Sum.inl a)) 0 qx=fix (Vf t) 0 (qx.map (·.x)):=(KS (Vf t) XV.x qx 0).symm;have e2:fix (λa=>Qex t (Sum.inr a)) 0 ks=fix (Uj t) 0 (ks.map (·.k)):=(KS (Uj t) KV.k ks 0).symm;rw[e1,e2]
theorem Qlg {P:Int×Int×Bool}{a b:Int}{c:Bool}(h:P=(a,b,c)):(Value.tuple #[.int .i64 a,.int .i64 b,.bool c,.int .i64 0])=.tuple #[.int .i64 P.1,.int .i64 P.2.1,.bool P.2.2,.int .i64 0]:=by rw[h]
set_option maxHeartbeats 4000000 in
theorem QbO {w:World}{vs vx vk vt:Value}{sz t:LI}{qx:List XV}{ks:List KV}(hS:QH [] w.heap vs sz)(I:qj [] w.heap vx qx)(Y:zU [] w.heap vk ks)(ht:QH [] w.heap vt t)(hc:YE sz (qx.map (·.x)) (ks.map (·.k))=0)(h:QkF sz t):
  QE prog 144 [.agg #[vs,vx,vk],vt] w λr w'=>Step [] w w'∧r=.tuple #[.int .i64 (zV (qx.map (·.x)) (ks.map (·.k)) t).1,.int .i64 (zV (qx.map (·.x)) (ks.map (·.k)) t).2.1,.bool (zV (qx.map (·.x)) (ks.map (·.k)) t).2.2,.int .i64 0]:=by
 have J:=UN hc;have hp:qx.length≤32:=by have:=J.xl;simpa using this
 have hs:ks.length≤32:=by have:=J.kl;simpa using this
 refine QE.of_W func144 O ntmps144 results144 (by simp) ?_;refine Qc<|xl O<|QQ (us:=[vs,vx,vk]) O λb2 w1 T h4 hg=>x Qf<|x Qf<|x Qf<|Qe<|Qg<|Qc<|x (Qn hg O O)<|Qb<|xl O<|xf<|(yd (hS.ext T) (I.ext T) (Y.ext T) (ht.ext T) hc h).mono ?_;rintro r2 w2 ⟨rfl,hh⟩;refine Qe<|Qc<|Qb<|x (Q7 O O)<|xe<|ZO rfl ?_;refine Qi ?_;have ha:=T.trans hh;have hj:=hg.ext hh
 refine Qc<|x (Qn hj O O)<|xl O<|xf<|(QhG (I.ext ha) (Y.ext ha) hp hs).mono ?_;rintro r3 w3 ⟨hk,cds,hL,hb⟩;have V:=ha.trans hk;have h5:cds.length=qx.length+ks.length:=by have:=congrArg List.length hb;simpa using this
 have hu:∀i,i<t.length→0≤cget t i∧cget t i≤4096:=λi hi=>by
  have h1:=h.2 i hi;have h2:i<sz.length:=by rw[←h.1];exact hi
  have h3:=J.s _ (Li h2);rw[Zm h2]at h3;omega
 have hl:∀c∈cds,c.src∈qx.map Sum.inl++ks.map Sum.inr:=λc hm=>by rw[←hb];exact LL hm
 have hv:∀c∈cds,CdA w3.heap c:=λc hm=>by
  have h1:=hl c hm;have h2:=(hL.bx c hm).1;cases c with
  | ex b q =>
   have hq:q∈qx:=by simpa[Cd.src]using h1
   exact⟨h2,(I.each q hq).ext V⟩
  | co b q =>
   have hq:q∈ks:=by simpa[Cd.src]using h1
   exact⟨h2,(Y.each q hq).ext V⟩
 have hw:∀c∈cds,c.rg t.length:=λc hm=>by
  have h1:=hl c hm;rw[h.1];cases c with
  | ex b q =>
   have hq:q∈qx:=by simpa[Cd.src]using h1
   exact J.x q.x (LL hq)
  | co b q =>
   have hq:q∈ks:=by simpa[Cd.src]using h1
   exact J.k q.k (LL hq)
 have hy:=QjV t hb;have g1:=Qcx (Vf t) (qx.map (·.x)) 0;have g2:=Qcx (Uj t) (ks.map (·.k)) 0;simp only[List.length_map]at g1 g2;refine Qb<|xl O<|xf<|(Qaq (QW (L:=[]) hL.own (by omega) (by simp)) hv (ht.ext V) hw hu).mono ?_;rintro r4 w4 ⟨rfl,hn⟩;rw[hy];have U:=V.trans hn;refine Zb (zV (qx.map (·.x)) (ks.map (·.k)) t) λP G=>?_;rw[G];unfold zV at G
 refine Zb (fix (Vf t) 0 (qx.map (·.x))) λH he=>?_;refine Zb (fix (Uj t) 0 (ks.map (·.k))) λi2 hf=>?_;rw[he,hf]at G;rw[he]at g1;rw[hf]at g2;refine Zb (if 0≤H then H else if 0≤i2 then i2+(qx.length:Int)else -1) λr E=>?_
 rw[he,hf,E];refine Qe<|Qh<|Qc<|Qb<|x (Qz O O)<|Qe<|Q4 O (λhz=>?_) (λhz=>?_)
 ·have n1:¬0≤H:=λh=>by rw[if_pos h]at E;omega
  have n2:¬0≤i2:=λh=>by rw[if_neg n1,if_pos h]at E;omega
  refine Qc<|x Qf<|x Qf<|x Qf<|Qe ?_;exact Qk ⟨[_,_,_,_],⟨O,O,O,O,Z⟩,U,Qlg (by rw[←G,if_neg n1,if_neg n2])⟩
 have ho:=(hj.ext hk).ext hn;refine Qc<|Qb<|x (Qa O)<|x (Qd ho O O)<|x (Qr (I.ext U).arr O)<|x (Qz O O)<|Qe<|Q4 O (λh0=>?_) (λh0=>?_)
 ·have p1:0≤H:=by
   refine Lm.1 λn1=>?_;by_cases h:0≤i2
   ·rw[if_neg n1,if_pos h]at E;omega
   rw[if_neg n1,if_neg h]at E;omega
  have e:r=H:=by rw[if_pos p1]at E;exact E.symm
  refine Qc<|Qb<|x Qf<|x Qf<|x Qf<|Qe ?_;exact Qk ⟨[_,_,_,_],⟨O,O,O,O,Z⟩,U,Qlg (by rw[←G,if_pos p1,e])⟩
 have n1:¬0≤H:=λh=>by rw[if_pos h]at E;omega
 have p2:0≤i2:=by
  refine Lm.1 λn2=>?_;rw[if_neg n1,if_neg n2]at E;omega
 have e:r - (qx.length:Int)=i2:=by rw[if_neg n1,if_pos p2]at E;omega
 refine Qg<|QV (Step [] w4) [(0,true),(1,true),(2,true),(3,true),(4,true),(5,true),(6,true),(7,true),(8,true)] mixed (by rfl) (by kernel_rfl) (Step.drew _ _) ?_;refine p (λ_=>Qm)<|p (λ_=>Qa O)<|pq (λ_ hc=>Qd (ho.ext hc) O O)<|p (λ_=>Qr (I.ext U).arr O) <|
  p (λ_=>Jf O O ⟨by omega,by omega⟩)<|p (λ_=>Qf)<|p (λ_=>Qf)<|p (λ_=>Qf)<|p (λ_=>Qf) <|
  pe ?_
 exact Qk ⟨[_,_,_,_],⟨O,O,O,O,Z⟩,U.trans (Step.drew _ _),Qlg (by rw[←G,if_neg n1,if_pos p2,←e])⟩
def ZY (base:Nat)(av:LN)(H:Array Obj)(v:Value)(n sz:Nat)(cs:LV):Prop:=∀L:LN,(∀b∈L,b<base∨b∈av)→Zv L H v n sz cs
theorem ZY.ext {base:Nat}{av:LN}{w w':World}{v:Value}{n sz:Nat}{cs:LV}(h:ZY base av w.heap v n sz cs)(hs:Step [] w w'):ZY base av w'.heap v n sz cs:=λL E=>(h L E).ext hs
theorem ZY.app {base:Nat}{av E:LN}{w w':World}{v:Value}{n sz:Nat}{cs:LV}(h:ZY base av w.heap v n sz cs)(hs:Step av w w')(G:∀b∈E,b∈av∨w.heap.size≤b):ZY base E w'.heap v n sz cs:=by
 intro L H;have h1:Zv (av++L.filter λb=>decide (b<base)) w.heap v n sz cs:=h _ (λb hb=>by
  rcases Lq.1 hb with hb|hb
  ·exact .inr hb
  exact .inl (by simpa using(LP.1 hb).2))
 refine h1.grow hs (λb hb=>Lq.2 (.inl hb)) λb hb=>?_;rcases H b hb with h2|h2
 ·exact .inl (Lq.2 (.inr (LP.2 ⟨hb,by simpa using h2⟩)))
 rcases G b h2 with h3|h3
 ·exact .inl (Lq.2 (.inl h3))
 exact .inr h3
theorem ZY.of_own {base N:Nat}{av:LN}{w:World}{v:Value}{e n sz:Nat}{cs:LV}(h:w.ownsRow N e sz v n cs)(E:n≤1099511627776)(hb:base≤N)(G:∀b∈av,b<N):ZY base av w.heap v n sz cs:=λL H =>
 QW h E λb hb I=>by
  have h1:=(Qp h b hb).1;rcases H b I with h2|h2
  ·omega
  have:=G b h2;omega
structure Z5 {α:Type}(g:α→LV)(sz T:Nat)(p:α→Value×Nat×Nat×LV)(base:Nat)(w:World)(v:Value)(l:List α):Prop where
 own:w.ownsRow base T sz v l.length (l.flatMap g)
 each:∀q∈l,ZY base (ob v) w.heap (p q).1 (p q).2.1 (p q).2.2.1 (p q).2.2.2
theorem Z5.nil {α:Type}{g:α→LV}{sz T:Nat}{p:α→Value×Nat×Nat×LV}{base:Nat}{w:World}:Z5 g sz T p base w (nS) []:=⟨QP _ _ _ _,λq hq=>by cases hq⟩
theorem Z5.ext {α:Type}{g:α→LV}{sz T:Nat}{p:α→Value×Nat×Nat×LV}{base:Nat}{w w':World}{v:Value}{l:List α}(h:Z5 g sz T p base w v l)(hs:Step [] w w'):Z5 g sz T p base w' v l:=⟨Qs h.own hs,λq hq=>(h.each q hq).ext hs⟩
theorem Z5.app {α:Type}{g:α→LV}{sz T:Nat}{p:α→Value×Nat×Nat×LV}{base N e:Nat}{w E G:World}{v H:Value}{l:List α}{q:α}(h:Z5 g sz T p base w v l)(hs:Step [] w E)
  (hq:E.ownsRow N e (p q).2.2.1 (p q).1 (p q).2.1 (p q).2.2.2) (U:(p q).2.1≤1099511627776) (hN:w.heap.size≤N) (hb:base≤w.heap.size)
  (V:G.ownsRow base T sz H (l.length+1) (l.flatMap g++g q)) (I:Step (ob v) E G) (J:∀b∈ob H,b∈ob v∨E.heap.size≤b):Z5 g sz T p base G H (l++[q]):=by
 have Y:=Q3 h.own;refine⟨?_,λd hd=>?_⟩
 ·rw[Lj,LC];simpa using V
 rcases Lq.1 hd with hd|hd
 ·exact((h.each d hd).ext hs).app I J
 simp only[List.mem_singleton]at hd;subst hd;exact(ZY.of_own hq U (by omega) (λb hb=>by have:=Y b hb;omega)).app I J
theorem Qio {L L':LN}{w:World}{va vm ve va' vm' ve':Value}{a b:QO}(h:Zp L w.heap va vm ve a)(h':Zp L' w.heap va' vm' ve' b):
  QE prog 211 [.agg #[va,.int .i64 a.st,vm,ve],.agg #[va',.int .i64 b.st,vm',ve']] w λr w'=>r=.bool (decide (a.st=b.st∧a.al=b.al∧a.mr=b.mr∧a.ed=b.ed))∧Step [] w w':=by
 refine QE.of_W func211 O ntmps211 results211 (by simp) ?_;refine Qc<|xl O<|QQ (us:=[va,.int .i64 a.st,vm,ve]) O λb2 w1 hf hj hg=>xl O<|QQ (us:=[va',.int .i64 b.st,vm',ve']) O λb3 w2 hb E H=>Qe ?_;have I:=hf.trans hb;have J:=hg.ext hb;refine QX (α:=Bool) [(4,30)] (λz=>[(4,.bool z)]) (λz w'=>Step [] w w'∧z=decide (a.st=b.st∧a.al=b.al∧a.mr=b.mr∧a.ed=b.ed)) (by rfl) ?_ ?_
 ·refine Qx<|x (Qa O)<|x (Qd J O O)<|x (Qa O)<|x (Qd H O O)<|xb (Zl O O) (λh9=>?_) (λh9=>?_)
  ·refine Qb<|x (Qa O)<|x (Qd J O O)<|x (Qa O)<|x (Qd H O O)<|xl O<|xf<|(KU (h.al.ext I) (h'.al.ext I)).mono ?_;rintro r3 w3 ⟨T,U⟩;have V:=I.trans U;refine Qht (decide (a.al=b.al)) (λE=>?_) (λE=>?_)
   ·rw[E]at T;subst T;refine x (Qq O)<|Qb<|x (Qa O)<|x (Qd (J.ext U) O O)<|x (Qa O)<|x (Qd (H.ext U) O O)<|xl O<|xf<|(KU (h.mr.ext V) (h'.mr.ext V)).mono ?_;rintro r4 w4 ⟨Y,hc⟩;have ha:=V.trans hc;have he:=U.trans hc;refine Qht (decide (a.mr=b.mr)) (λG=>?_) (λG=>?_)
    ·rw[G]at Y;subst Y;refine x (Qq O)<|Qb<|x (Qa O)<|x (Qd (J.ext he) O O)<|x (Qa O)<|x (Qd (H.ext he) O O)<|xl O<|xf<|(Qe2 (h.ed.ext ha) (h'.ed.ext ha)).mono ?_;rintro r5 w5 ⟨rfl,hh⟩;refine x (Qq O)<|Qe ?_;exact⟨_,La,ha.trans hh,bD ⟨λe=>⟨h9,of_decide_eq_true E,of_decide_eq_true G,e⟩,λe=>e.2.2.2⟩⟩
    rw[G]at Y;subst Y;refine x (Qq O)<|Qb<|xs O<|xs O<|xs O<|xs O<|xs O<|x (Qq O)<|Qe ?_;exact⟨_,La,ha,bF (λe=>of_decide_eq_false G e.2.2.1)⟩
   rw[E]at T;subst T;refine x (Qq O)<|Qb<|xs O<|xs O<|xs O<|xs O<|xs O<|x (Qq O)<|Qb<|xs O<|xs O<|xs O<|xs O<|xs O<|x (Qq O) <|
    Qe ?_
   exact⟨_,La,V,bF (λe=>of_decide_eq_false E e.2.1)⟩
  refine Qb<|xs O<|xs O<|xs O<|xs O<|xs O<|x (Qq O)<|Qb<|xs O<|xs O<|xs O<|xs O<|xs O<|x (Qq O) <|
   Qb<|xs rfl<|xs O<|xs O<|xs O<|xs O<|x (Qq O)<|Qe ?_
  exact⟨_,La,I,bF (λe=>h9 e.1)⟩
 rintro z g w6 ⟨hi,rfl⟩;exact Qk ⟨[_],La,O,hi⟩
theorem Qik {L:LN}{w:World}{va vm ve:Value}{a:QO}(h:Zp L w.heap va vm ve a):
  QE prog 172 [.agg #[va,.int .i64 a.st,vm,ve]] w λr w'=>r=.bool (Ku a)∧Step [] w w':=by
 refine QE.of_W func172 O ntmps172 results172 (by simp) ?_;refine Qc<|xl O<|QQ (us:=[va,.int .i64 a.st,vm,ve]) O λb1 E ha hf G=>Qe<|QX (α:=Bool) [(2,11)] (λz=>[(2,.bool z)]) (λz w'=>Step [] w w'∧z=Ku a) (by rfl) ?_ ?_
 ·refine QV (Step [] E) [(0,true),(1,false),(2,true),(3,true),(4,true),(5,true),(6,false),(7,false),(8,true),(9,true)] mixed (by rfl) (by kernel_rfl) (Step.drew _ _) ?_;have T:=ha.trans (Step.drew [] E);refine pq (λ_ hc=>Qn (G.step hc (by simp)) rfl rfl)<|pk<|xf<|(Y6 (h.ext T)).mono ?_;rintro r2 w2 ⟨rfl,U⟩;have H:=T.trans U;have I:=(Step.drew [] E).trans U
  refine⟨I,?_⟩;refine pb (λ_=>Zl O O) (λh5=>?_) (λh5=>?_)
  ·have hc:Xq a=0:=h5;refine p (λ_=>Qm)<|pq (λ_ hc=>Qn (G.step hc (by simp)) rfl rfl)<|pq (λ_ hc=>Qn (G.step hc (by simp)) rfl rfl) <|
    pk<|xf<|(j7 (h.ext H) ((Zu a).1 hc)).mono ?_
   rintro r3 w3 ⟨J,hg,hh,hi,rfl,hb⟩;have V:=H.trans J;refine⟨I.trans J,?_⟩;refine pk<|xf<|(Qio (h.ext V) (hb [] (by simp))).mono ?_;rintro r4 w4 ⟨rfl,Y⟩;refine⟨(I.trans J).trans Y,?_⟩;refine p (λ_=>Qq O)<|p (λ_=>Qf)<|pe ?_;refine⟨_,La,V.trans Y,?_⟩;unfold Ku;rw[decide_eq_true hc,Bool.true_and]
   exact bD ⟨λe=>⟨e.1.symm,e.2.1.symm,e.2.2.1.symm,e.2.2.2.symm⟩,λe=>⟨e.1.symm,e.2.1.symm,e.2.2.1.symm,e.2.2.2.symm⟩⟩
  have hc:¬Xq a=0:=h5;refine p (λ_=>Qm)<|ps<|ps<|ps<|ps<|p (λ_=>Qq O)<|p (λ_=>Qf)<|pe ?_;exact⟨_,La,H,by unfold Ku;rw[decide_eq_false hc];rfl⟩
 rintro z g w5 ⟨he,rfl⟩;exact Qk ⟨[_],La,O,he⟩
section
variable {P:Program}{f:Fr}{w:World}{d:Option Nat}{ty:Nat}{ps:String}{af:Array Edge}{gd:Option (Nat×Bool)}
theorem ZB {t sz:Nat}[Ag P t sz]{x:Operand}{b T o:Nat}{cs us:LV}(h:QT w.heap b T cs)(hx:ev f x=.pointer (some ⟨b,o,none⟩))(hl:us.length=sz)(hu:(cs.drop o).take sz=us):
  (execOp (ev f) ⟨d,.load t x,ty,ps,af,gd⟩).run P w=.ok (.value (.agg us.toArray)) w:=U3 hx hl λj v E=>by
 rw[Yu,Xg,h.cell];rw[←hu,L1]at E;split at E
 ·simpa using E
 cases E
end
theorem Qcs {L:LN}{w:World}{v:Value}{qs:List IV}(h:Y9 L w.heap v qs):
  QE prog 184 [v] w λr w'=>Step [] w w'∧w'.ownsRow w.heap.size 50 4 r (qs.map (·.p)).length ((qs.map (·.p)).flatMap Za):=by
 have ho:=h.arr.le;refine QE.of_W func184 O ntmps184 results184 (by simp) ?_;refine Qc<|Qe<|Qc<|Qe<|Qg<|Qc<|Qb<|x (Qr h.arr O)<|Qb<|xe<|Qh<|QA (α:=Nat×Value) [(3,3),(5,5),(8,17)] (λz=>[(3,z.2),(8,.int .i64 z.1)]) (λz w'=>z.1≤qs.length∧Step [] w w'∧w'.ownsRow w.heap.size 50 4 z.2 z.1 (((qs.take z.1).map (·.p)).flatMap Za)) (λz=>qs.length - z.1) (by rfl) (0,nS) ⟨O,O,Z⟩
  ⟨Ll _,Step.refl _ _,QP _ _ _ _⟩ ?_
 rintro⟨k,vo⟩ g w1 ⟨hk,H,I⟩;simp only[]at hk I;refine Qc<|x (Qz O O)<|xe<|Qg<|QC O (λh9=>?_) (λh9=>?_)
 ·refine Qy ?_;have hc:k=qs.length:=by have J:¬(k:Int)<(qs.length:Int):=h9;omega
  subst hc;rw[Ln (Lt _)]at I;refine Qc<|Qb<|Qe ?_;exact Qk ⟨[_],La,H,by rw[Lh];exact I⟩
 have E:k<qs.length:=by have J:(k:Int)<(qs.length:Int):=h9;omega
 have V:=Li E;have Y:qs.take (k+1)=qs.take k++[qs[k]'E]:=Le E;refine Qi<|Qg<|Qh<|Qc<|xig Xf (h.arr.ext H) O O E λhp J=>?_;refine Zb (qs[k]'E) λq hq=>?_;rw[hq]at J V Y;have G:=h.each q V
 refine x (QI J O O)<|xl O<|Qu (us:=[.string .empty,nS,.int .i64 0,nS,nS]) O λb5 w2 he hf T=>xl O<|Qo (us:=Zi q) T O O O O ⟨O,G.al.one,O,G.mr.one,G.ed.one,Z⟩ λw3 hg T =>
  xe ?_
 have hh:Step [] w1 w3:=he.then1 hg hf;refine Qx<|Qb<|x (Qa O)<|x (ZB (us:=Za q.p) T O O O)<|xl O<|QF (us:=[Za q.p]) O O (by decide) (by simp) ⟨rfl,rfl,Z⟩ λb15 w4 hi hr hj=>?_;have U:=hh.trans hi;have ha:=Qs I U;have hs:=(H.trans U).size;have hl:∀u∈Za q.p,u.oneCell'=true:=by
  intro u hu;simp only[List.mem_cons,List.not_mem_nil,or_false]at hu;rcases hu with rfl|rfl|rfl|rfl
  ·exact G.al.one
  ·rfl
  ·exact G.mr.one
  exact G.ed.one
 refine xl rfl<|Q5 (news:=Za q.p) (L:=[]) ha O O O (hj.at (by simp)) hl (by omega) (by omega) λv5 w5 hm hn ht=>Qe ?_;have hge:=Qp ha;refine Qx<|QM O O<|Qb<|xe<|⟨(k+1,v5),by simp only[];omega,⟨O,O,Z⟩,E,(H.trans U).then hn (λb hb=>.inr (hge b hb).1),?_⟩;simp only[];rw[Y,Lv,LC];simpa using hm
theorem Qg0 {L:LN}{w:World}{r:Value}{base e:Nat}{ps:List AV}(h:w.ownsRow base e 4 r ps.length (ps.flatMap Za))(E:ps.length≤1099511627776)(G:∀b∈L,b<base)(he:∀p∈ps,Zp L w.heap p.va p.vm p.ve p.a):YX L w.heap r ps :=
 ⟨QW h E (λb hb H=>by have:=(Qp h b hb).1;have:=G b H;omega),he⟩
theorem QgZ {w:World}{b:Nat}{n m:Int}(E:QT w.heap b 3 [.int .i64 m]):
  QE prog 173 ([.int .i64 n]++[.pointer (some ⟨b,0,none⟩)]) w λr w'=>r=.bool (decide (m≤n))∧Step [] w w':=by
 refine QE.of_W func173 O ntmps173 results173 (by simp) ?_;refine Qc<|Qe<|Qc<|Qb<|x (Qd E O O)<|x (ZN O O)<|Qe ?_;exact Qk ⟨[_],La,O,Step.refl _ _⟩
abbrev VX (n:Int):LV:=[.int .i64 n]
theorem QlR (n:Int):(VX n).length=1:=rfl
theorem Qk2:∀l:LI,l.flatMap VX=l.map (.int .i64)
 | []=>rfl
 | a::l=>by rw[LH,Qk2 l];rfl
theorem QH.fl {L:LN}{H:Array Obj}{v:Value}{l:LI}(h:QH L H v l):Zv L H v l.length 1 (l.flatMap VX):=by
 rw[Qk2 l];exact h
theorem QgX {gp:Nat}{fn:Func}[Fu prog gp fn]{cap:LV}{q:Int→Bool}{L:LN}{w:World}{v:Value}{l:LI}(h:Zv L w.heap v l.length 1 (l.flatMap VX))
  (hk:∀e∈l,∀(G:World),Step [] w G→QE prog gp ([.int .i64 e]++cap) G λr w'=>r=.bool (q e)∧Step [] G w'):
  QE prog 111 [v,.func (.func gp) #[] cap.toArray] w λr w'=>r=.int .i64 (fix q 0 l)∧Step [] w w':=by
 have hb:=h.le;refine QE.of_W func111 O ntmps111 results111 (by simp) ?_;refine Qc<|Qe<|Qg<|Qc<|Qb<|x (Qr h O)<|Qb<|xe<|Qh<|QA (α:=Nat) [(4,5),(8,18)] (λz=>[(8,.int .i64 z)]) (λz w'=>z≤l.length∧Step [] w w'∧fix q z (l.drop z)=fix q 0 l) (λz=>l.length - z) (by rfl) 0 La
  ⟨Ll _,Step.refl _ _,O⟩ ?_
 rintro k g G ⟨hk1,H,E⟩;refine Qc<|x (Qz O O)<|xe<|Qg<|QC O (λh9=>?_) (λh9=>?_)
 ·refine Qy ?_;have Y:l.length≤k:=by have ha:¬(k:Int)<(l.length:Int):=h9;omega
  rw[Ls Y]at E;refine Qc<|Qe ?_;exact Qk ⟨[_],La,by rw[←E];rfl,H⟩
 have I:k<l.length:=by have ha:(k:Int)<(l.length:Int):=h9;omega
 rw[Q9 I,ZW]at E;have T:=Li I;refine Qi<|Qg<|Qh<|Qc<|Qb<|Qe<|Qc<|Qb<|Qb<|Qb<|xig QlR (h.ext H) O O I λhc U=>?_;refine Zb (l[k]'I) λe he=>?_;rw[he]at U E T;refine x (Qv U O)<|xl O<|xc (first:=[]) (capt:=cap) O<|(hk e T G H).mono ?_;rintro r2 w2 ⟨rfl,V⟩;refine xe<|QY rfl (λJ=>?_) (λJ=>?_)
 ·rw[if_pos J]at E;refine Qc<|Qb<|Qe ?_;exact Qk ⟨[_],La,by rw[←E];rfl,H.trans V⟩
 rw[if_neg (by rw[J];decide)]at E;refine Qi<|Qx<|QM O O<|Qb<|xe ?_;exact⟨k+1,by omega,La,I,H.trans V,E⟩
theorem Qmc {gp:Nat}{fn:Func}[Fu prog gp fn]{cap:LV}{q:Int→Bool}{L:LN}{w:World}{v:Value}{l:LI}(h:Zv L w.heap v l.length 1 (l.flatMap VX))
  (hk:∀e∈l,∀(E:World),Step [] w E→QE prog gp ([.int .i64 e]++cap) E λr w'=>r=.bool (q e)∧Step [] E w'):
  QE prog 153 [v,.func (.func gp) #[] cap.toArray] w λr w'=>r=.bool (l.any q)∧Step [] w w':=by
 refine QE.of_W func153 O ntmps153 results153 (by simp) ?_;refine Qc<|Qe<|Qc<|Qb<|Qb<|xl O<|xf<|(QgX h hk).mono ?_;rintro H E ⟨rfl,G⟩;refine x (ZN O O)<|Qe ?_;exact Qk ⟨[_],La,congrArg Value.bool (jV q l 0),G⟩
theorem QdP {L L':LN}{w:World}{q:IV}{nev:Nat}{vg:Value}{amg:LI}{bm:Nat}{seen:List ByteArray}(hA:Zp L w.heap q.p.va q.p.vm q.p.ve q.p.a)(h1:Uq q.nm)(hg:QH L' w.heap vg amg)(hE:amg.length≤4096)(hm:ZI XZ w.heap bm (nmM seen))(h2:bm∈L)(h3:bm∈L'):
  QE prog 133 [.agg (Zi q).toArray,.int .i64 nev,vg,.map (some bm)] w λr w'=>r=.int .i64 (Z8 nev amg seen q.it)∧Step [bm] w w'∧(Z8 nev amg seen q.it=0→ZI XZ w'.heap bm (nmM (seen++[q.nm]))):=by
 have E:Z8 nev amg seen q.it=(if YD q.nm=false then 7 else if q.nm∈seen then 8 else if Xq q.p.a≠0 then Xq q.p.a else if Ku q.p.a=false then 6 else if q.p.a.st=0 then 12 else
  if(q.p.a.al.any λe=>decide ((nev:Int)≤e))=true then 2 else if(mns q.p.a.al amg).length≠0 then 9 else 0):=rfl
 refine Zb (Z8 nev amg seen q.it) λR hR=>?_;rw[hR]at E ⊢;refine QE.of_W func133 O ntmps133 results133 (by simp) ?_;refine Qc<|xl O<|QQ (us:=Zi q) O λb4 w1 ht hF h4=>xl O<|QQ (us:=[.int .i64 nev]) O λb5 w2 U hG h5=>Qe ?_;have V:=ht.trans U;have Y:=h4.ext U;refine Qg<|Qh<|Qc<|x (Qa O)<|x (Qd Y O O)<|xl O<|xf<|(UF q.nm h1 w2).mono ?_;rintro r3 w3 ⟨rfl,rfl⟩
 refine x (Zq O)<|Qe<|QY O (λhi=>?_) (λhi=>?_)
 ·have G:YD q.nm=false:=by simpa using hi
  rw[if_pos G]at E;subst E;refine Qc<|Qe ?_;exact Qk ⟨[_],La,O,V.any,λe=>absurd e (by decide)⟩
 have G:¬YD q.nm=false:=by simpa using hi
 rw[if_neg G]at E;have hu:=hm.ext V;refine Qc<|Qb<|x (Qa O)<|x (Qd Y O O)<|x (QaO hu O O)<|Qe<|Q4 O (λha=>?_) (λha=>?_)
 ·rw[if_pos ha]at E;subst E;refine Qc<|Qe ?_;exact Qk ⟨[_],La,O,V.any,λe=>absurd e (by decide)⟩
 rw[if_neg ha]at E;refine Qi ?_;have hH:=hm.lt;refine Qc<|Qb<|x (Qa O)<|x (Qd Y O O)<|xl O<|YI (k:=q.nm) hu O O λw4 hj hv=>xe ?_;rw[show ev _ _=Value.bool true from rfl,Qdy ha]at hv;have H:Step [bm] w w4:=V.any.trans' hj;have hI:=ht.size;have hc:=Y.step hj (by simp;omega);have h6:=h5.step hj (by simp;omega)
 have hf:Zp L w4.heap q.p.va q.p.vm q.p.ve q.p.a:=hA.st (H.mono (λb hb=>by simp at hb;subst hb;exact h2));have h7:QH L' w4.heap vg amg:=hg.st (H.mono (λb hb=>by simp at hb;subst hb;exact h3));refine Qg<|Qc<|x (Qa O)<|x (ZB (us:=Za q.p) hc O O O)<|xl O<|xf<|(Y6 hf).mono ?_;rintro r5 w5 ⟨rfl,hh⟩;refine Qe<|Qc<|Qb<|x (Q7 O O)<|xe<|Q4 rfl (λI=>?_) (λI=>?_)
 ·rw[if_pos I]at E;subst E;refine Qc<|Qb<|Qe ?_;exact Qk ⟨[_],La,O,H.trans hh,λe=>absurd e I⟩
 rw[if_neg I]at E;have h8:=(Zu q.p.a).1 (Lm.1 I);refine Qi<|Qg<|Qh<|Qc<|x (Qa O)<|x (ZB (us:=Za q.p) (hc.ext hh) O O O)<|xl O<|xf<|(Qik (hf.ext hh)).mono ?_;rintro r6 w6 ⟨rfl,h9⟩;have J:=hh.trans h9;have hw:=H.trans J;have hy:=hc.ext J;refine x (Zq O)<|Qe<|QY O (λhk=>?_) (λhk=>?_)
 ·have G:Ku q.p.a=false:=by simpa using hk
  rw[if_pos G]at E;subst E;refine Qc<|Qe ?_;exact Qk ⟨[_],La,O,hw,λe=>absurd e (by decide)⟩
 have G:¬Ku q.p.a=false:=by simpa using hk
 rw[if_neg G]at E;refine Qc<|x (Qa O)<|x (Qa O)<|x (Qd hy O O)<|x (Zl O O)<|Qe<|Q4 O (λhl=>?_) (λhl=>?_)
 ·have ho:q.p.a.st=0:=hl;rw[if_pos ho]at E;subst E;refine Qc<|Qe ?_;exact Qk ⟨[_],La,O,hw,λe=>absurd e (by decide)⟩
 have ho:¬q.p.a.st=0:=hl;rw[if_neg ho]at E;refine Qc<|x (Qa O)<|x (Qa O)<|x (Qd hy O O)<|x Zn<|xl O<|xf<|(Qmc (q:=λe=>decide ((nev:Int)≤e)) (cap:=[.pointer (some ⟨b5,0,none⟩)]) (QH.fl (hf.al.ext J)) (λe he w2 U=>QgZ ((h6.ext J).ext U))).mono ?_;rintro r7 w7 ⟨rfl,hB⟩;have T:=J.trans hB;have hC:=H.trans T;refine Qe<|QY O (λhp=>?_) (λhp=>?_)
 ·rw[if_pos hp]at E;subst E;refine Qc<|Qe ?_;exact Qk ⟨[_],La,O,hC,λe=>absurd e (by decide)⟩
 rw[if_neg (by rw[hp];decide)]at E;have hJ:=h8.al_le;refine Qc<|x (Qa O)<|x (Qa O)<|x (Qd (hc.ext T) O O)<|Qb<|xl O<|xf<|(Qfh (hf.al.ext T) (h7.ext T) (by omega)).mono ?_;rintro r8 w8 ⟨hD,rfl⟩;have hz:=T.trans hD;have h0:=H.trans hz;refine x (qG O)<|Qe<|Q4 O (λhq=>?_) (λhq=>?_)
 ·have hs:(mns q.p.a.al amg).length≠0:=λe=>hq (Lr e);rw[if_pos hs]at E;subst E;refine Qc<|Qe ?_;exact Qk ⟨[_],La,O,h0,λe=>absurd e (by decide)⟩
 have hs:¬(mns q.p.a.al amg).length≠0:=λe=>hq (λh=>e (by rw[show mns q.p.a.al amg=[] from h];rfl));rw[if_neg hs]at E;subst E;refine Qi<|Qc<|Qe ?_;exact Qk ⟨[_],La,O,h0,λ_=>hv.ext hz⟩
theorem Qe8 {L:LN}{w:World}{v:Value}{l:List (Int×Int)}(h:P2s L w.heap v l):
  QE prog 180 [v] w λr w'=>Step [] w w'∧w'.ownsRow w.heap.size 101 2 r l.length (l.flatMap QU):=by
 have Y:=h.le;refine QE.of_W func180 O ntmps180 results180 (by simp) ?_;refine Qc<|Qe ?_;obtain⟨ao,cap,E⟩:=h.shape;refine Qg<|Qc<|Qb<|x (VN (show ev _ _=_ from E) O)<|xe<|QY rfl (λh4=>?_) (λh4=>?_)
 ·refine Qc<|Qe<|Qk ⟨[nS],La,Step.refl _ _,?_⟩;rcases h.2.2 with⟨h1,h2⟩|⟨a,c,h1,_⟩
  ·have:l=[]:=Lr h2;subst this;exact QP _ _ _ _
  rw[h1]at E;cases E;cases h4
 rcases h.2.2 with⟨h1,h2⟩|⟨a,c,h1,h2,h3⟩
 ·rw[h1]at E;injection E with e1;subst e1;cases h4
 refine Qi<|Qc ?_;have J:∀u∈l.flatMap QU,u.oneCell'=true:=by
  intro u hu;obtain⟨p,_,hp⟩:=ME.1 hu;simp only[List.mem_cons,List.not_mem_nil,or_false]at hp;rcases hp with rfl|rfl <;> rfl
 refine xl rfl<|Up λb5 w1 G H I=>Qb<|xl O<|Q5 (base:=w.heap.size) (I.own (n:=0) (sz:=2) O (by omega) H) O (show ev _ _=_ from h1) h.1 (h3.ext G) J (by omega) (by have:=I.lt;omega) λT w2 U V ha=>Qe<|Qk ⟨[T],La,G.then1 V H,?_⟩;simpa[tup]using U
theorem Qe7 {L:LN}{w:World}{v:Value}{l:List (Int×Int)}(h:P2s L w.heap v l):
  QE prog 181 [v] w λr w'=>Step [] w w'∧w'.ownsRow w.heap.size 155 2 r l.length (l.flatMap QU):=by
 have Y:=h.le;refine QE.of_W func181 O ntmps181 results181 (by simp) ?_;refine Qc<|Qe ?_;obtain⟨ao,cap,E⟩:=h.shape;refine Qg<|Qc<|Qb<|x (VN (show ev _ _=_ from E) O)<|xe<|QY rfl (λh4=>?_) (λh4=>?_)
 ·refine Qc<|Qe<|Qk ⟨[nS],La,Step.refl _ _,?_⟩;rcases h.2.2 with⟨h1,h2⟩|⟨a,c,h1,_⟩
  ·have:l=[]:=Lr h2;subst this;exact QP _ _ _ _
  rw[h1]at E;cases E;cases h4
 rcases h.2.2 with⟨h1,h2⟩|⟨a,c,h1,h2,h3⟩
 ·rw[h1]at E;injection E with e1;subst e1;cases h4
 refine Qi<|Qc ?_;have J:∀u∈l.flatMap QU,u.oneCell'=true:=by
  intro u hu;obtain⟨p,_,hp⟩:=ME.1 hu;simp only[List.mem_cons,List.not_mem_nil,or_false]at hp;rcases hp with rfl|rfl <;> rfl
 refine xl rfl<|Up λb5 w1 G H I=>Qb<|xl O<|Q5 (base:=w.heap.size) (I.own (n:=0) (sz:=2) O (by omega) H) O (show ev _ _=_ from h1) h.1 (h3.ext G) J (by omega) (by have:=I.lt;omega) λT w2 U V ha=>Qe<|Qk ⟨[T],La,G.then1 V H,?_⟩;simpa[tup]using U
theorem ZY.low {base:Nat}{av X:LN}{w w':World}{v:Value}{n sz:Nat}{cs:LV}(h:ZY base av w.heap v n sz cs)(hs:Step X w w')(E:∀b∈X,b<base):ZY base av w'.heap v n sz cs:=by
 intro L G;have h1:Zv (X++L) w.heap v n sz cs:=h _ (λb hb=>by
  rcases Lq.1 hb with hb|hb
  ·exact .inl (E b hb)
  exact G b hb)
 exact(h1.step hs (λb hb=>Lq.2 (.inl hb))).up (λb hb=>.inl (Lq.2 (.inr hb)))
theorem Z5.low {α:Type}{g:α→LV}{sz T:Nat}{p:α→Value×Nat×Nat×LV}{base:Nat}{X:LN}{w w':World}{v:Value}{l:List α}(h:Z5 g sz T p base w v l)(hs:Step X w w')(E:∀b∈X,b<base):Z5 g sz T p base w' v l :=
 ⟨Ql h.own hs (λb hb hm=>by have:=(Qp h.own b hb).1;have:=E b hm;omega),λq hq=>(h.each q hq).low hs E⟩
theorem Z5.arr {α:Type}{g:α→LV}{sz T:Nat}{p:α→Value×Nat×Nat×LV}{base:Nat}{w:World}{v:Value}{l:List α}{L:LN}(h:Z5 g sz T p base w v l)(E:l.length≤1099511627776)(G:∀b∈L,b<base):Zv L w.heap v l.length sz (l.flatMap g):=
 QW h.own E (λb hb H=>by have:=(Qp h.own b hb).1;have:=G b H;omega)
abbrev xvP (q:XV):Value×Nat×Nat×LV:=(q.v,q.ls.length,2,q.ls.flatMap QU)
abbrev kvP (q:KV):Value×Nat×Nat×LV:=(q.v,q.ts.length,2,q.ts.flatMap QU)
abbrev XvN (base:Nat)(w:World)(v:Value)(l:List XV):Prop:=Z5 Zs 2 99 xvP base w v l
abbrev KvN (base:Nat)(w:World)(v:Value)(l:List KV):Prop:=Z5 ZD 3 153 kvP base w v l
theorem XvN.xcs {base:Nat}{w:World}{v:Value}{l:List XV}{qs:List XV}{L:LN}(h:XvN base w v l)(he:l.map (·.x)=qs.map (·.x))(hq:∀q∈qs,Uq q.nm)(H:l.length≤1099511627776)(E:∀b∈L,b<base):qj L w.heap v l:=by
 refine⟨h.arr H E,λq hq=>h.each q hq L (λb hb=>.inl (E b hb)),λq hm=>?_⟩;have h1:q.x∈qs.map (·.x):=by rw[←he];exact LL hm
 obtain⟨G,I,e⟩:=Lx.1 h1;have h2:=hq G I;have h3:G.nm=q.nm:=congrArg Exc.nm e;rw[h3]at h2;exact h2
theorem KvN.kcs {base:Nat}{w:World}{v:Value}{l:List KV}{qs:List KV}{L:LN}(h:KvN base w v l)(he:l.map (·.k)=qs.map (·.k))(hq:∀q∈qs,Uq q.nm)(H:l.length≤1099511627776)(E:∀b∈L,b<base):zU L w.heap v l:=by
 refine⟨h.arr H E,λq hq=>h.each q hq L (λb hb=>.inl (E b hb)),λq hm=>?_⟩;have h1:q.k∈qs.map (·.k):=by rw[←he];exact LL hm
 obtain⟨G,I,e⟩:=Lx.1 h1;have h2:=hq G I;have h3:G.nm=q.nm:=congrArg Jt.nm e;rw[h3]at h2;exact h2
theorem QK {w:World}{base e sz n:Nat}{v:Value}{cs:LV}(h:w.ownsRow base e sz v n cs):v.oneCell'=true:=by
 rcases h.2 with⟨h1,_⟩|⟨g,cap,cur,h1,_⟩ <;> subst h1 <;> rfl
theorem Zo {w:World}{base e sz n:Nat}{v:Value}{cs:LV}(h:w.ownsRow base e sz v n cs):v.cells=[v].toArray:=by
 rcases h.2 with⟨h1,_⟩|⟨g,cap,cur,h1,_⟩ <;> subst h1 <;> rfl
theorem U1 {q:XV}(h:q.v.oneCell'=true):∀u∈Zs q,u.oneCell'=true:=by
 intro u hu;simp only[List.mem_cons,List.not_mem_nil,or_false]at hu;rcases hu with rfl|rfl
 ·rfl
 exact h
theorem QdL {q:KV}(h:q.v.oneCell'=true):∀u∈ZD q,u.oneCell'=true:=by
 intro u hu;simp only[List.mem_cons,List.not_mem_nil,or_false]at hu;rcases hu with rfl|rfl|rfl
 ·rfl
 ·exact h
 rfl
def Qor (N:Nat)(w:World)(r:Value)(sz:LI)(ex:List Exc)(cs:List Jt):Prop:=∃vs vx vk qx ks,r=.agg #[vs,vx,vk]∧qx.map (·.x)=ex∧ks.map (·.k)=cs∧∀L:LN,(∀b∈L,b<N)→QH L w.heap vs sz∧qj L w.heap vx qx∧zU L w.heap vk ks
set_option maxHeartbeats 4000000 in
theorem ja {L:LN}{w:World}{c:CL}(h:ZJ L w.heap c):
  QE prog 135 [c.val] w λr w'=>Step [] w w'∧Qor w.heap.size w' r (szs c.cel.co) c.cel.ex c.cel.cs:=by
 have m5:=h.co.arr.le;have m6:=h.ex.arr.le;have m7:=h.cs.arr.le;refine QE.of_W func135 O ntmps135 results135 (by simp) ?_;refine Qc<|xl O<|QQ (us:=c.cells) O λb1 w1 hY m8 hZ=>xl O<|Qu (us:=[nS,nS,nS]) O λb2 w2 ga m9 gb=>xe ?_;have pa:=hY.size;have pc:=hZ.lt;have pd:=gb.lt
 refine Qc<|x (QN Z)<|xl O<|Qu (us:=[nS,nS,nS]) O λE w3 g7 g8 h2=>xl O<|Qo (us:=[nS,nS,nS]) h2 O O O O ⟨O,O,O,Z⟩ λw4 g9 h2 =>
  xe ?_
 have pf:=h2.lt;have V:Step [] w2 w4:=g7.then1 g9 g8;have gc:Step [] w w4:=(hY.trans ga).trans V;have ge:=(hZ.ext ga).ext V;have ka:=gb.ext V;have h4:=h.ext gc;have pg:b1<E:=by omega
 have ph:b2<E:=by omega
 have kb:w.heap.size≤E:=by omega
 have hH:∀{wa wb:World},Step [E] wa wb→Step [] w wa→Step [] w wb:=λha hb=>hb.then1 ha kb;refine Qg<|Qc<|x (Qa O)<|x (Qd ge O O)<|x (Qr h4.co.arr O)<|Qb<|xe ?_
 refine Qh<|QA (α:=Nat×Value) [(5,5),(14,26)] (λz=>[(14,.int .i64 z.1)]) (λz w'=>z.1≤c.co.length∧Step [E] w4 w'∧QT w'.heap E 240 [z.2,nS,nS]∧Qt 3 w4.heap.size w' z.2 ((c.co.take z.1).map (·.p.a.st))) (λz=>c.co.length - z.1) (by rfl) (0,nS) La
  ⟨Ll _,Step.refl _ _,h2,QP _ _ _ _⟩ ?_
 rintro⟨k,vs⟩ g w5 ⟨hk,ht,h3,H⟩;simp only[]at hk h3 H;have gg:=hH ht gc;have h5:=h.ext gg;have gh:=ge.step ht (by simp;omega);have kc:=ka.step ht (by simp;omega);have pj:=ht.size;refine Qc<|x (Qz O O)<|xe<|Qg<|QC O (λhI=>?_) (λhI=>?_)
 ·refine Qy ?_;have ke:c.co.length≤k:=by have J:¬(k:Int)<(c.co.length:Int):=hI;omega
  rw[Ln ke]at H;refine Qg<|Qc<|x (Qa O)<|x (Qd gh O O)<|x (Qr h5.ex.arr O)<|Qb<|xe<|Qh<|QA (α:=Nat×Value×List XV) [(7,7),(30,45)] (λz=>[(30,.int .i64 z.1)]) (λz w'=>z.1≤c.ex.length∧Step [E] w5 w'∧QT w'.heap E 240 [vs,z.2.1,nS]∧XvN w5.heap.size w' z.2.1 z.2.2∧z.2.2.map (·.x)=(c.ex.take z.1).map (·.x)) (λz=>c.ex.length - z.1) (by rfl) (0,nS,[]) La
   ⟨Ll _,Step.refl _ _,h3,Z5.nil,O⟩ ?_
  rintro⟨j,vx,qx⟩ g w6 ⟨hj,Y,hJ,hf,hg⟩;simp only[]at hj hJ hf hg;have gi:=hH Y gg;have h6:=h.ext gi;have kf:=gh.step Y (by simp;omega);have kg:=kc.step Y (by simp;omega);have pn:=Y.size;have po:qx.length=j:=by have:=congrArg List.length hg;simp at this;omega
  refine Qc<|x (Qz O O)<|xe<|Qg<|QC O (λhK=>?_) (λhK=>?_)
  ·refine Qy ?_;have kh:c.ex.length≤j:=by have J:¬(j:Int)<(c.ex.length:Int):=hK;omega
   rw[Ln kh]at hg;refine Qg<|Qc<|x (Qa O)<|x (Qd kf O O)<|x (Qr h6.cs.arr O)<|Qb<|xe<|Qh<|QA (α:=Nat×Value×List KV) [(9,9),(49,66)] (λz=>[(49,.int .i64 z.1)]) (λz w'=>z.1≤c.cs.length∧Step [E] w6 w'∧QT w'.heap E 240 [vs,vx,z.2.1]∧KvN w6.heap.size w' z.2.1 z.2.2∧z.2.2.map (·.k)=(c.cs.take z.1).map (·.k)) (λz=>c.cs.length - z.1) (by rfl) (0,nS,[]) La
    ⟨Ll _,Step.refl _ _,hJ,Z5.nil,O⟩ ?_
   rintro⟨i,vk,ks⟩ g w7 ⟨hi,hh,hM,hn,ho⟩;simp only[]at hi hM hn ho;have gj:=hH hh gi;have h7:=h.ext gj;have ki:=kg.step hh (by simp;omega);have pp:=hh.size;have pt:ks.length=i:=by have:=congrArg List.length ho;simp at this;omega
   refine Qc<|x (Qz O O)<|xe<|Qg<|QC O (λhN=>?_) (λhN=>?_)
   ·refine Qy ?_;have kj:c.cs.length≤i:=by have J:¬(i:Int)<(c.cs.length:Int):=hN;omega
    rw[Ln kj]at ho;have kk:ZH [vs,vx,vk]:=⟨QK H,QK hf.own,QK hn.own,Z⟩;refine Qc<|x (Qn hM O O)<|xl O<|Qo (us:=[vs,vx,vk]) ki O O O O kk λw8 h8 kn=>xe ?_;refine Qk ⟨[.agg #[vs,vx,vk]],⟨⟨_,O,Qw O (kn.at (L:=[]) (by simp)).cells⟩,Z⟩,gj.then1 h8 (by omega),?_⟩
    have ko:=Ql ((Ql H Y (λb hb hm=>by have:=(Qp H b hb).1;simp at hm;omega))) hh (λb hb hm=>by have:=(Qp H b hb).1;simp at hm;omega);have kp:=Ql ko h8 (λb hb hm=>by have:=(Qp H b hb).1;simp at hm;omega);have kq:=(Z5.low hf hh (by simp;omega)).low h8 (by simp;omega);have kr:=Z5.low hn h8 (by simp;omega)
    refine⟨vs,vx,vk,qx,ks,O,hg,ho,λL hL=>⟨?_,XvN.xcs kq hg h.ex.nm (by omega) (λb hb=>by have:=hL b hb;omega),KvN.kcs kr ho h.cs.nm (by omega) (λb hb=>by have:=hL b hb;omega)⟩⟩;have he:szs c.cel.co=c.co.map (·.p.a.st):=by show((c.co.map IV.it).map _)=_;rw[MG];rfl
    rw[he];exact Qt.ints kp (by rw[Lh];omega) (λb hb=>by have:=hL b hb;omega)
   have hp:i<c.cs.length:=by have J:(i:Int)<(c.cs.length:Int):=hN;omega
   have gk:=Li hp;have gl:c.cs.take (i+1)=c.cs.take i++[c.cs[i]'hp]:=Le hp;refine Qi<|Qg<|Qh<|Qc<|xig JQ h7.cs.arr O O hp λpu gm=>?_;refine Zb (c.cs[i]'hp) λq hq=>?_;rw[hq]at gm gk gl;have G:=h7.cs.each q gk
   refine x (QI gm O O)<|xl O<|Qu (us:=[.string .empty,nS,.int .i64 0]) O λb9 w9 kt ku hu=>xl O<|Qo (us:=ZD q) hu O O O O ⟨O,G.one,O,Z⟩ λT kv hu =>
    xe ?_
   have h9:Step [] w7 T:=kt.then1 kv ku;have gn:=hM.ext h9;have hO:=Qp hn.own;have I:E∉ob vk:=λhm=>by have:=(hO E hm).1;omega
   have hP:b9∉ob vk:=λhm=>by have:=(hO b9 hm).2;omega
   refine QV (Step (ob vk) T) [(0,true),(1,true),(2,true),(3,true),(4,true),(5,true),(7,true),(8,true),(6,false),(9,true),(10,false),(11,false),(12,true),(13,false)] mixed (by rfl) (by kernel_rfl) (Step.drew _ _) ?_;have kw:=h9.trans (Step.drew [] T);refine p (λ_=>Qa O)<|pq (λ_ hc=>Qd (gn.step hc I) O O)<|p (λ_=>Qa O)<|pq (λ_ hc=>Qd (hu.step hc hP) O O) <|
    p (λ_=>Qa O)<|pq (λ_ hc=>Qd (hu.step hc hP) O O)<|p (λ_=>Qa O)<|pq (λ_ hc=>Qd (hu.step hc hP) O O) <|
    pk<|xf<|(Qe7 (G.ext kw)).mono ?_
   rintro hv pw ⟨kx,hQ⟩;have hw:=(Step.drew [] T).trans kx;refine⟨hw.any,?_⟩;refine p (λ_=>QN ⟨O,Zo hQ,O,Z⟩)<|pk<|QF (us:=[ZD ⟨q.nm,hv,q.ts,q.bd⟩]) O O (by decide) (by simp) ⟨rfl,rfl,Z⟩ λpz p0 hy p4 kz=>⟨(hw.trans hy).any,?_⟩;have hA:=(h9.trans hw).trans hy;have hR:T.heap.size=({ T with drawn:=T.drawn+1 }:World).heap.size:=rfl
   have p5:=h9.size;have p6:=hA.size;refine pk<|Q5 (news:=ZD ⟨q.nm,hv,q.ts,q.bd⟩) (L:=[]) (Qs hn.own hA) O O O (kz.at (by simp)) (QdL (q:=⟨q.nm,hv,q.ts,q.bd⟩) (QK hQ)) (by omega) (by omega) λhS go gq hB k0=>⟨((hw.trans hy).any (L:=ob vk)).trans' hB,?_⟩
   have k4:KvN w6.heap.size go hS (ks++[⟨q.nm,hv,q.ts,q.bd⟩]):=Z5.app hn hA (Qs hQ hy) G.le (by rw[←hR];omega) (by omega) gq hB k0;have k5:=(gn.step ((hw.trans hy).any (L:=ob vk)) I).step hB I;refine p (λ_=>Qa O)<|pkl (hl:=by kernel_rfl)<|QB (j:=2) (u:=hS) k5 O O (by simp) (QK gq) λp7 gr k6=>pe ?_
   have k7:Step [E] w6 go:=(hh.trans hA).then hB (λb hb=>.inr (hO b hb).1);refine Qx<|QM O O<|Qb<|xe<|⟨(i+1,hS,ks++[⟨q.nm,hv,q.ts,q.bd⟩]),by simp only[];omega,La,hp,?_,k6,Z5.low k4 gr (by simp;omega),?_⟩
   ·exact k7.trans' gr
   simp only[];rw[Lv,ho,gl,Lv];rfl
  have hr:j<c.ex.length:=by have J:(j:Int)<(c.ex.length:Int):=hK;omega
  have gs:=Li hr;have gt:c.ex.take (j+1)=c.ex.take j++[c.ex[j]'hr]:=Le hr;refine Qi<|Qg<|Qh<|Qc<|xig Kd h6.ex.arr O O hr λp8 gu=>?_;refine Zb (c.ex[j]'hr) λq hq=>?_;rw[hq]at gu gs gt;have G:=h6.ex.each q gs
  refine x (QI gu O O)<|xl O<|Qu (us:=[.string .empty,nS]) O λb7 p9 k8 k9 hC=>xl O<|Qo (us:=Zs q) hC O O O O ⟨O,G.one,Z⟩ λU ma hC =>
   xe ?_
  have hD:Step [] w6 U:=k8.then1 ma k9;have gv:=hJ.ext hD;have hT:=Qp hf.own;have I:E∉ob vx:=λhm=>by have:=(hT E hm).1;omega
  have gx:b7∉ob vx:=λhm=>by have:=(hT b7 hm).2;omega
  refine QV (Step (ob vx) U) [(0,true),(1,true),(2,true),(3,true),(4,true),(5,true),(6,false),(7,true),(8,false),(9,false),(10,true),(11,false)] mixed (by rfl) (by kernel_rfl) (Step.drew _ _) ?_;have mc:=hD.trans (Step.drew [] U);refine p (λ_=>Qa O)<|pq (λ_ hc=>Qd (gv.step hc I) O O)<|p (λ_=>Qa O)<|pq (λ_ hc=>Qd (hC.step hc gx) O O) <|
   p (λ_=>Qa O)<|pq (λ_ hc=>Qd (hC.step hc gx) O O)<|pk<|xf<|(Qe8 (G.ext mc)).mono ?_
  rintro hz qc ⟨mf,hU⟩;have h0:=(Step.drew [] U).trans mf;refine⟨h0.any,?_⟩;refine p (λ_=>QN ⟨O,Zo hU,Z⟩)<|pk<|QF (us:=[Zs ⟨q.nm,hz,q.ls⟩]) O O (by decide) (by simp) ⟨rfl,rfl,Z⟩ λqf ql h1 qo mg=>⟨(h0.trans h1).any,?_⟩;have hE:=(hD.trans h0).trans h1;have hR:U.heap.size=({ U with drawn:=U.drawn+1 }:World).heap.size:=rfl
  have qr:=hD.size;have q0:=hE.size;refine pk<|Q5 (news:=Zs ⟨q.nm,hz,q.ls⟩) (L:=[]) (Qs hf.own hE) O O O (mg.at (by simp)) (U1 (q:=⟨q.nm,hz,q.ls⟩) (QK hU)) (by omega) (by omega) λhV gy gz hF mh=>⟨((h0.trans h1).any (L:=ob vx)).trans' hF,?_⟩
  have mj:XvN w5.heap.size gy hV (qx++[⟨q.nm,hz,q.ls⟩]):=Z5.app hf hE (Qs hU h1) G.le (by rw[←hR];omega) (by omega) gz hF mh;have mo:=(gv.step ((h0.trans h1).any (L:=ob vx)) I).step hF I;have mq:Step [E] w5 gy:=(Y.trans hE).then hF (λb hb=>.inr (hT b hb).1)
  refine p (λ_=>Qa O)<|pkl (hl:=by kernel_rfl)<|QB (j:=1) (u:=hV) mo O O (by simp) (QK gz) λq4 g0 ms=>pe ?_;refine Qx<|QM O O<|Qb<|xe<|⟨(j+1,hV,qx++[⟨q.nm,hz,q.ls⟩]),by simp only[];omega,La,hr,?_,ms,Z5.low mj g0 (by simp;omega),?_⟩
  ·exact mq.trans' g0
  simp only[];rw[Lv,hg,gt,Lv];rfl
 have hs:k<c.co.length:=by have J:(k:Int)<(c.co.length:Int):=hI;omega
 have g1:=Li hs;have g2:c.co.take (k+1)=c.co.take k++[c.co[k]'hs]:=Le hs;have q5:((c.co.take k).map (·.p.a.st)).length=k:=by simp;omega
 refine Qi<|Qg<|Qh<|Qc<|xig Xf h5.co.arr O O hs λq9 J=>?_;refine Zb (c.co[k]'hs) λq hq=>?_;rw[hq]at J g1 g2;have G:=h5.co.each q g1;refine x (QI J O O)<|xl O<|Qu (us:=[.string .empty,nS,.int .i64 0,nS,nS]) O λb5 j1 mt mu hW=>xl O<|Qo (us:=Zi q) hW O O O O ⟨O,G.al.one,O,G.mr.one,G.ed.one,Z⟩ λmv mw hW =>
  xe ?_
 have g3:Step [] w5 mv:=mt.then1 mw mu;have mx:=h3.ext g3;refine Qx<|x (Qa O)<|x (Qd mx O O)<|x (Qa O)<|x (Qa O)<|x (Qd hW O O)<|xl O<|QF (us:=[[.int .i64 q.p.a.st]]) O O (by decide) (by simp) ⟨rfl,rfl,Z⟩ λj2 j3 my j4 mz=>?_;have hG:=g3.trans my;have za:=hG.size;have g4:=Qp H;have I:E∉ob vs:=λhm=>by have:=(g4 E hm).1;omega
 refine xl rfl<|Q5 (news:=[.int .i64 q.p.a.st]) (L:=[]) (Qs H hG) O O O (mz.at (by simp)) (by simp[Value.oneCell']) (by omega) (by omega) λg5 m0 hX V zb=>?_;have m1:=(h3.ext hG).step V I;have m2:Step [E] w4 m0:=(ht.trans hG).then V (λb hb=>.inr (g4 b hb).1);refine x (Qa O)<|xl O<|QB (j:=0) (u:=g5) m1 O O (by simp) (QK hX) λzv g6 m3 =>
  xe ?_
 have m4:=Ql hX g6 (λb hb hm=>by have:=(Qp hX b hb).1;simp at hm;omega);refine Qx<|QM O O<|Qb<|xe<|⟨(k+1,g5),by simp only[];omega,La,hs,m2.trans' g6,m3,?_⟩;simp only[];rw[g2,Lv];exact Qt.snoc (n:=q.p.a.st) m4
theorem Qfy (n:Nat):Ka (n+1)=Ka n++[(n:Int)]:=by unfold Ka;rw[ND,Lv];rfl
theorem jj (n:Nat):(Ka n).length=n:=by unfold Ka;simp
theorem Jj {k:Nat}{l:List IV}(h:k<l.length):(l.drop k).map (·.it)=(l[k]'h).it::(l.drop (k+1)).map (·.it):=by rw[Q9 h];rfl
theorem zr {n:Nat}{u:LI}{s:List ByteArray}{x:XC}(h:Z8 n u s x=0):Q2 x.a:=by
 unfold Z8 at h;split at h
 ·cases h
 split at h
 ·cases h
 split at h
 ·rename_i h1 h2;exact absurd h h2
 rename_i h1;exact(Zu _).1 (Lm.1 h1)
theorem Vq {n:Nat}{al:LI}{s:List ByteArray}{u:LI}{x:XC}{l:List XC}:Yc n al s u (x::l)=if Z8 n al s x≠0 then(Z8 n al s x,s,u)else Yc n al (s++[x.nm]) (mrg (· || ·) u x.a.al) l:=rfl
theorem zp {n:Nat}{u:LI}{s:List ByteArray}{x:XC}{l:List XC}:JG n u s (x::l)=if Z8 n u s x≠0 then Z8 n u s x else JG n u (s++[x.nm]) l:=rfl
set_option maxHeartbeats 4000000 in
theorem Xi {L:LN}{w:World}{c:CL}(h:ZJ L w.heap c):
  QE prog 75 [c.val] w λr w'=>r=.int .i64 (Zk c.cel)∧Step [] w w':=by
 have ke:=h.co.arr.le;have kf:=h.rq.arr.le;have E:Zk c.cel=(if XM c.ev≠0 then XM c.ev else if c.co.length=0 then 12 else if 8<c.co.length∨12<c.co.length+c.rq.length then 3 else
  if(Yc c.ev.length (Ka c.ev.length) [] [] (c.co.map (·.it))).1≠0 then(Yc c.ev.length (Ka c.ev.length) [] [] (c.co.map (·.it))).1 else
  if JG c.ev.length (Yc c.ev.length (Ka c.ev.length) [] [] (c.co.map (·.it))).2.2 (Yc c.ev.length (Ka c.ev.length) [] [] (c.co.map (·.it))).2.1 (c.rq.map (·.it))≠0 then JG c.ev.length (Yc c.ev.length (Ka c.ev.length) [] [] (c.co.map (·.it))).2.2 (Yc c.ev.length (Ka c.ev.length) [] [] (c.co.map (·.it))).2.1 (c.rq.map (·.it))else
  YE (szs c.cel.co) c.cel.ex c.cel.cs):=by
  unfold Zk;rw[show c.cel.co.length=c.co.length from Lh ..,show c.cel.rq.length=c.rq.length from Lh ..];rfl
 refine Zb (Zk c.cel) λR hR=>?_;rw[hR]at E ⊢;refine Zb (Yc c.ev.length (Ka c.ev.length) [] [] (c.co.map (·.it))) λCO h7=>?_;rw[h7]at E;refine QE.of_W func75 O ntmps75 results75 (by simp) ?_;refine Qc<|xl O<|QQ (us:=c.cells) O λb1 w1 h8 kg h9=>Qe<|Qg<|Qc<|x (Qa O)<|x (Qd h9 O O)<|xl O<|xf<|(zi (h.ev.ext h8)).mono ?_;rintro r2 w2 ⟨rfl,hA⟩;refine Qe ?_;have ha:=h8.trans hA
 have hm:=h9.ext hA;have h2:=h.ext ha;refine Qc<|Qb<|x (Q7 O O)<|xe<|Q4 rfl (λho=>?_) (λho=>?_)
 ·rw[if_pos ho]at E;subst E;refine Qc<|Qb<|Qe ?_;exact Qk ⟨[_],La,O,ha⟩
 rw[if_neg ho]at E;have kh:c.ev.length≤32:=by
  refine Lm.1 λhn=>?_;apply ho;unfold XM;rw[if_pos (by omega)];decide
 refine Qi<|Qg<|Qc<|x (Qa O)<|x (Qd hm O O)<|x (Qr h2.co.arr O)<|Qe<|Qh<|Qc<|Qb<|x (Zl O O)<|Qe<|Q4 O (λhv=>?_) (λhv=>?_)
 ·have hw:c.co.length=0:=by have hY:(c.co.length:Int)=0:=hv;omega
  rw[if_pos hw]at E;subst E;refine Qc<|Qe ?_;exact Qk ⟨[_],La,O,ha⟩
 have hw:¬c.co.length=0:=by have hY:¬(c.co.length:Int)=0:=hv;omega
 rw[if_neg hw]at E;refine QX (α:=Bool) [(27,37)] (λz=>[(27,.bool z)]) (λz w'=>w'=w2∧z=decide (8<c.co.length∨12<c.co.length+c.rq.length)) (by rfl) ?_ ?_
 ·refine Qx<|Qb<|xb (ZL O O) (λhZ=>?_) (λhZ=>?_)
  ·refine Qb<|xs O<|xs O<|xs O<|xs O<|xs O<|xs O<|x (Qq O)<|Qe ?_;exact⟨_,La,O,bT (.inl (by omega))⟩
  refine Qb<|Qb<|x (Qa O)<|x (Qd hm O O)<|x (Qr h2.rq.arr O)<|x (Xa O O ⟨by omega,by omega⟩) <|
   x (ZL rfl O)<|x (Qq O)<|Qe ?_
  exact⟨_,La,O,bD (by omega)⟩
 rintro z g w3 ⟨rfl,rfl⟩;refine Q4 rfl (λhy=>?_) (λhy=>?_)
 ·rw[if_pos hy]at E;subst E;refine Qc<|Qe ?_;exact Qk ⟨[_],La,O,ha⟩
 rw[if_neg hy]at E;refine Qi<|Qc<|xl O<|Z0 XZ λbm w4 hB ki hC=>Qe ?_;have kj:=hC.lt;have kk:=hm.lt;have hD:=ha.trans hB;have hE:=hm.ext hB;have hG:b1≠bm:=by omega
 have hge:w.heap.size≤bm:=by omega
 have hM:ZJ [bm] w.heap c:=h.up (λb hb=>.inr (by simp at hb;omega));have hH:=hM.ext hD;refine Qc<|x Qf<|Qe<|Qg<|Qc<|x (Qa O)<|x (Qd hE O O)<|x (Qr hH.ev.arr O)<|Qb<|xe<|Qh<|QA (α:=Nat×Value) [(6,6),(8,8),(42,49)] (λz=>[(6,z.2),(42,.int .i64 z.1)]) (λz w'=>z.1≤c.ev.length∧Step [] w4 w'∧Qt 3 w4.heap.size w' z.2 (Ka z.1)) (λz=>c.ev.length - z.1) (by rfl) (0,nS) ⟨O,O,Z⟩
  ⟨Ll _,Step.refl _ _,QP _ _ _ _⟩ ?_
 rintro⟨k,vg⟩ g w5 ⟨hk,hc,hp⟩;simp only[]at hk hp;have kn:=jj k;refine Qc<|x (Qz O O)<|xe<|Qg<|QC O (λhz=>?_) (λhz=>?_)
 ·refine Qy ?_;have he:k=c.ev.length:=by have hf:¬(k:Int)<(c.ev.length:Int):=hz;omega
  subst he;have ga:QH [bm] w5.heap vg (Ka c.ev.length):=Qt.ints hp (by omega) (by simp;omega);have gb:=hC.ext hc;have hI:=hE.ext hc;have hJ:=hH.ext hc;have gc:=hD.trans hc;refine Qg<|Qc<|x (Qa O)<|x (Qd hI O O)<|x (Qr hJ.co.arr O)<|Qb<|xe ?_
  refine Qh<|QA (α:=Nat×Value×List ByteArray×LI) [(2,2),(7,7),(10,11),(53,72)] (λz=>[(7,z.2.1),(53,.int .i64 z.1)]) (λz w'=>z.1≤c.co.length∧Step [bm] w5 w'∧ZI XZ w'.heap bm (nmM z.2.2.1)∧QH [bm] w'.heap z.2.1 z.2.2.2∧z.2.2.2.length≤32*z.1∧Yc c.ev.length (Ka c.ev.length) z.2.2.1 z.2.2.2 ((c.co.drop z.1).map (·.it))=CO) (λz=>c.co.length - z.1) (by rfl) (0,nS,[],[]) ⟨O,O,Z⟩
   ⟨Ll _,Step.refl _ _,gb,Zv.nil _ _ _,by simp,h7⟩ ?_
  rintro⟨k,vu,sn,u⟩ g w6 ⟨hk,hg,hs,h0,ge,H⟩;simp only[]at hk hs h0 ge H;have hK:Step [] w w6:=gc.then1 hg hge;have h1:=hI.step hg (by simpa using hG);have U:=hJ.st hg;refine Qc<|x (Qz O O)<|xe<|Qg<|QC O (λh3=>?_) (λh3=>?_)
  ·refine Qy ?_;have he:k=c.co.length:=by have hf:¬(k:Int)<(c.co.length:Int):=h3;omega
   subst he;rw[Ls (Lt _)]at H;have gg:CO=(0,sn,u):=H.symm;subst gg;rw[if_neg (by simp)]at E;simp only[]at E;refine Zb (JG c.ev.length u sn (c.rq.map (·.it))) λRQ hL=>?_;rw[hL]at E;refine Qg<|Qc<|x (Qa O)<|x (Qd h1 O O)<|x (Qr U.rq.arr O)<|Qb<|xe ?_
   refine Qh<|QA (α:=Nat×List ByteArray) [(2,2),(13,14),(76,90)] (λz=>[(76,.int .i64 z.1)]) (λz w'=>z.1≤c.rq.length∧Step [bm] w6 w'∧ZI XZ w'.heap bm (nmM z.2)∧JG c.ev.length u z.2 ((c.rq.drop z.1).map (·.it))=RQ) (λz=>c.rq.length - z.1) (by rfl) (0,sn) La
    ⟨Ll _,Step.refl _ _,hs,hL⟩ ?_
   rintro⟨k,sm⟩ g w7 ⟨hk,hh,hN,I⟩;simp only[]at hk hN I;have hO:Step [] w w7:=hK.then1 hh hge;have hP:=h1.step hh (by simpa using hG);have hi:=U.st hh;have gh:=h0.st hh;refine Qc<|x (Qz O O)<|xe<|Qg<|QC O (λh4=>?_) (λh4=>?_)
   ·refine Qy ?_;have he:c.rq.length≤k:=by have hf:¬(k:Int)<(c.rq.length:Int):=h4;omega
    rw[Ls he]at I;have gi:RQ=0:=I.symm;rw[if_neg (by rw[gi];decide)]at E;refine Qc<|x (Qn hP O O)<|xl O<|xf<|(ja hi).mono ?_;rintro r8 w8 ⟨gj,vs,vx,vk,qx,ks,rfl,gk,gl,hF⟩;obtain⟨gm,gn,go⟩:=hF [] (by simp);refine xl O<|xf<|(zg gm gn go).mono ?_;rintro r9 w9 ⟨rfl,gq⟩;rw[gk,gl,←E];refine Qe ?_;exact Qk ⟨[_],La,O,(hO.trans gj).trans gq⟩
   have G:k<c.rq.length:=by have hf:(k:Int)<(c.rq.length:Int):=h4;omega
   have T:=Li G;rw[Jj G,zp]at I;refine Qi<|Qg<|Qh<|Qc<|xig Xf hi.rq.arr O O G λko hQ=>?_;refine Zb (c.rq[k]'G) λq hq=>?_;rw[hq]at hQ T I;have J:=hi.rq.each q T
   refine x (QI hQ O O)<|xl O<|Qu (us:=[.string .empty,nS,.int .i64 0,nS,nS]) O λkp kq gr gs h5=>xl O<|Qo (us:=Zi q) h5 O O O O ⟨O,J.al.one,O,J.mr.one,J.ed.one,Z⟩ λgt gu h5 =>
    xe ?_
   have V:Step [] w7 gt:=gr.then1 gu gs;refine Qc<|x (Qn h5 O O)<|x (Qa O)<|x (Qd (hP.ext V) O O)<|x (Qr (hi.ev.ext V).arr O)<|Qb<|Qb<|xl O<|xf<|(QdP (J.ext V) (hi.rq.nm q T) (gh.ext V) (by omega) (hN.ext V) (by simp) (by simp)).mono ?_;rintro kr kt ⟨rfl,hS,gv⟩;refine Qe<|Qc<|Qb<|x (Q7 O O)<|xe<|Q4 O (λhj=>?_) (λhj=>?_)
   ·rw[if_pos hj]at I;rw[if_pos (by rw[←I];exact hj)]at E;refine Qc<|Qb<|Qe ?_;exact Qk ⟨[_],La,by rw[E,←I];rfl,(hO.trans V).then1 hS hge⟩
   rw[if_neg hj]at I;refine Qi<|Qx<|QM O O<|Qb<|xe ?_;exact⟨(k+1,sm++[q.nm]),by simp only[];omega,La,G,(hh.trans V).trans' hS,gv (Lm.1 hj),I⟩
  have G:k<c.co.length:=by have hf:(k:Int)<(c.co.length:Int):=h3;omega
  have T:=Li G;rw[Jj G,Vq]at H;refine Qi<|Qg<|Qh<|Qc<|xig Xf U.co.arr O O G λku hT=>?_;refine Zb (c.co[k]'G) λq hq=>?_;rw[hq]at hT T H;have J:=U.co.each q T;have gx:=ga.st hg
  refine x (QI hT O O)<|xl O<|Qu (us:=[.string .empty,nS,.int .i64 0,nS,nS]) O λb10 kv gy gz ht=>xl O<|Qo (us:=Zi q) ht O O O O ⟨O,J.al.one,O,J.mr.one,J.ed.one,Z⟩ λg0 g1 ht =>
   xe ?_
  have Y:Step [] w6 g0:=gy.then1 g1 gz;have kw:=hs.lt;refine Qg<|Qc<|x (Qn ht O O)<|x (Qa O)<|x (Qd (h1.ext Y) O O)<|x (Qr (U.ev.ext Y).arr O)<|Qb<|Qb<|xl O<|xf<|(QdP (J.ext Y) (U.co.nm q T) (gx.ext Y) (by omega) (hs.ext Y) (by simp) (by simp)).mono ?_;rintro kx g2 ⟨rfl,h6,g3⟩;refine Qe<|Qc<|Qb<|x (Q7 O O)<|xe ?_
  refine Q4 O (λhl=>?_) (λhl=>?_)
  ·rw[if_pos hl]at H;rw[if_pos (by rw[←H];exact hl)]at E;refine Qc<|Qb<|Qe ?_;exact Qk ⟨[_],La,by rw[E,←H];rfl,(hK.trans Y).then1 h6 hge⟩
  rw[if_neg hl]at H;have hU:Z8 c.ev.length (Ka c.ev.length) sn q.it=0:=Lm.1 hl;have g4:=(zr hU).al_le;have kz:q.p.a.al.length≤32:=g4;refine Qi ?_;have hu:Step [bm] w6 g2:=Y.any.trans' h6;have g5:=h0.st hu;have k0:=hu.size
  refine Qx<|Qb<|x (Qa O)<|x (Qa O)<|x (Qd (ht.step h6 (by simp;omega)) O O)<|xl O<|xf<|(zK g5 (U.st hu |>.co.each q T |>.al) (by omega)).mono ?_;rintro g6 k4 ⟨hV,g7⟩;refine Qe ?_;have k5:=VS (· || ·) u q.p.a.al;refine Qx<|QM O O<|Qb<|xe ?_
  exact⟨(k+1,g6,sn++[q.nm],mrg (· || ·) u q.p.a.al),by simp only[];omega,⟨O,O,Z⟩,G,(hg.trans' hu).trans hV,(g3 hU).ext hV,Qt.ints g7 (by show(mrg _ _ _).length≤_;omega) (by simp;omega),by simp only[];omega,H⟩
 have G:k<c.ev.length:=by have hf:(k:Int)<(c.ev.length:Int):=hz;omega
 refine Qi<|Qg<|Qh<|Qc<|Qb<|Qe<|Qx<|Qb<|Qb<|xl O<|QF (us:=[[.int .i64 k]]) O O (by decide) (by simp) ⟨rfl,rfl,Z⟩ λk6 k7 hW k8 g8=>?_;have hX:=hc.trans hW;have k9:=hX.size;have g9:=Qp hp;refine xl rfl<|Q5 (news:=[.int .i64 k]) (L:=[]) (Qs hp hW) O O O (g8.at (by simp)) (by simp[Value.oneCell']) (by omega) (by omega) λka ma kb kc mc =>
  Qe<|Qx<|QM O O<|Qb<|xe ?_
 refine⟨(k+1,ka),by simp only[];omega,⟨O,O,Z⟩,G,hX.then kc (λb hb=>.inr (g9 b hb).1),?_⟩;simp only[];rw[Qfy];exact Qt.snoc (n:=(k:Int)) kb
end Go.Proofs.YtjcgijbhaemldaaGreatDoor
namespace Go.Lg
theorem Qn6 {P:Program}{ops:List Oper}{K:Fr→World→Prop}{f:Fr}{w:World}{d:Option Nat}{ty:Nat}{ps:String}{af:Array Edge}{gd:Option (Nat×Bool)}{C:World→Prop}{pl:List (Nat×Bool)}{E:Nat}
  {t e sz bys:Nat} {z:Value} {x G I:Operand} {L:LN} {v:Value} {n:Nat} {cs:LV} {H:Array Obj} {k k':IntKind} {hi:Nat} [h:Sl P t e sz bys z]
  (J:QL ops E=⟨d,.slice t x none (some G) (some I),ty,ps,af,gd⟩) (T:Zv L H v n sz cs) (hx:ev f x=v) (U:ev f G=.int k hi) (hm:ev f I=.int k' hi) (h1:hi≤n)
  (V:∀v',Zv L H v' hi sz (cs.take (hi*sz))→XP P ops C K pl (QZ f d v') w)
  (Y:Z6 ops f (QL ops E)=true:=by rfl):XP P ops C K ((E,true)::pl) f w:=by
 obtain⟨v',h3,h4⟩:=Qgd (P:=P) (d:=d) (ty:=ty) (ps:=ps) (af:=af) (gd:=gd) (t:=t) T hx U hm h1;exact Lg.p (λw'=>by rw[J];exact h4 w') (by rw[J];exact V v' h3) Y
end Go.Lg
namespace Go.Proofs.YtjcgijbhaemldaaGreatDoor
open Go.Proofs.Tryz
open Go.Lg
structure Qip (c:ZA):Prop where
 ev:c.ev.length≤32
 c0:c.co.length≠0
 c8:c.co.length≤8
 cr:c.co.length+c.rq.length≤12
 co:∀x∈c.co,Q2 x.a
 rq:∀x∈c.rq,Q2 x.a
 ce:∀x∈c.co,∀e∈x.a.al,e<(c.ev.length:Int)
 re:∀x∈c.rq,∀e∈x.a.al,e<(c.ev.length:Int)
 cd:YE (szs c.co) c.ex c.cs=0
 e0:XM c.ev=0
theorem Qbv {n:Nat}{u:LI}{s:List ByteArray}{x:XC}(h:Z8 n u s x=0):∀e∈x.a.al,e<(n:Int):=by
 unfold Z8 at h;split at h
 ·cases h
 split at h
 ·cases h
 split at h
 ·rename_i h1 h2;exact absurd h h2
 split at h
 ·cases h
 split at h
 ·cases h
 split at h
 ·cases h
 rename_i h1;intro e he;refine Lm.1 λE=>h1 ?_;rw[M6];exact⟨e,he,decide_eq_true (by omega)⟩
theorem Qby {n:Nat}{al:LI}:∀{l:List XC}{s:List ByteArray}{u:LI},(Yc n al s u l).1=0→∀x∈l,Q2 x.a∧∀e∈x.a.al,e<(n:Int)
 | [],_,_,_,x,hx=>by cases hx
 | y::l,s,u,h,x,hx=>by
  rw[Vq]at h;by_cases h1:Z8 n al s y≠0
  ·rw[if_pos h1]at h;exact absurd h h1
  rw[if_neg h1]at h;have h2:Z8 n al s y=0:=Lm.1 h1;rcases Lc.1 hx with rfl|hx
  ·exact⟨zr h2,Qbv h2⟩
  exact Qby h x hx
theorem Qbu {n:Nat}{u:LI}:∀{l:List XC}{s:List ByteArray},JG n u s l=0→∀x∈l,Q2 x.a∧∀e∈x.a.al,e<(n:Int)
 | [],_,_,x,hx=>by cases hx
 | y::l,s,h,x,hx=>by
  rw[zp]at h;by_cases h1:Z8 n u s y≠0
  ·rw[if_pos h1]at h;exact absurd h h1
  rw[if_neg h1]at h;have h2:Z8 n u s y=0:=Lm.1 h1;rcases Lc.1 hx with rfl|hx
  ·exact⟨zr h2,Qbv h2⟩
  exact Qbu h x hx
theorem ZX {c:ZA}(h:Zk c=0):Qip c:=by
 unfold Zk at h;by_cases h1:XM c.ev≠0
 ·rw[if_pos h1]at h;exact absurd h h1
 rw[if_neg h1]at h;by_cases h2:c.co.length=0
 ·rw[if_pos h2]at h;cases h
 rw[if_neg h2]at h;by_cases h3:8<c.co.length∨12<c.co.length+c.rq.length
 ·rw[if_pos h3]at h;cases h
 rw[if_neg h3]at h;by_cases h4:(Yc c.ev.length (Ka c.ev.length) [] [] c.co).1≠0
 ·rw[if_pos h4]at h;exact absurd h h4
 rw[if_neg h4]at h;by_cases h5:JG c.ev.length (Yc c.ev.length (Ka c.ev.length) [] [] c.co).2.2 (Yc c.ev.length (Ka c.ev.length) [] [] c.co).2.1 c.rq≠0
 ·rw[if_pos h5]at h;exact absurd h h5
 rw[if_neg h5]at h;have a4:=Qby (Lm.1 h4);have E:=Qbu (Lm.1 h5);have G:c.ev.length≤32:=by
  refine Lm.1 λH=>?_;apply h1;unfold XM;rw[if_pos (by omega)];decide
 exact⟨G,h2,by omega,by omega,λx hx=>(a4 x hx).1,λx hx=>(E x hx).1,λx hx=>(a4 x hx).2,λx hx=>(E x hx).2,h,Lm.1 h1⟩
theorem Yk.e {N:Nat}{H:Array Obj}{aa:List QO}{va vt:Value}{c:Int}(h:Yk N H aa va vt c):c=X8 aa:=by
 unfold Yk at h;unfold X8;by_cases h1:JJ aa≠0
 ·rw[if_pos h1]at h ⊢;exact h.1
 rw[if_neg h1]at h ⊢;cases hs:sync aa with
 | none=>rw[hs]at h;exact h.1
 | some z=>rw[hs]at h;exact h.1
theorem Yk.bad {N:Nat}{H:Array Obj}{aa:List QO}{va vt:Value}{c:Int}(h:Yk N H aa va vt c)(hc:c≠0):va=zA∧vt=Q0:=by
 unfold Yk at h;by_cases h1:JJ aa≠0
 ·rw[if_pos h1]at h;exact h.2
 rw[if_neg h1]at h;cases hs:sync aa with
 | none=>rw[hs]at h;exact h.2
 | some z=>rw[hs]at h;exact absurd h.1 hc
theorem Yk.good {N:Nat}{H:Array Obj}{aa:List QO}{va vt:Value}{c:Int}(h:Yk N H aa va vt c)(hc:c=0):Y2 N H va (syA aa)∧QcU N H vt (syQ aa)∧sync aa=some (syA aa,syQ aa)∧JJ aa=0:=by
 unfold Yk at h;unfold syA syQ;by_cases h1:JJ aa≠0
 ·rw[if_pos h1]at h;exact absurd (h.1.symm.trans hc) h1
 rw[if_neg h1]at h;cases hs:sync aa with
 | none=>rw[hs]at h;rw[h.1]at hc;cases hc
 | some z=>rw[hs]at h;exact⟨h.2.1,h.2.2,O,Lm.1 h1⟩
theorem Yk.st1 {N b:Nat}{w w':World}{aa:List QO}{va vt:Value}{c:Int}(h:Yk N w.heap aa va vt c)(hb:b<N)(hs:Step [b] w w'):Yk N w'.heap aa va vt c:=by
 unfold Yk at *;split
 ·rename_i h1;rw[if_pos h1]at h;exact h
 rename_i h1;rw[if_neg h1]at h;cases hq:sync aa with
 | none=>rw[hq]at h;exact h
 | some z=>rw[hq]at h;exact⟨h.1,Yl h.2.1 hb hs,Qib h.2.2 hb hs⟩
theorem Yk.mono {N M:Nat}{H:Array Obj}{aa:List QO}{va vt:Value}{c:Int}(h:Yk N H aa va vt c)(E:M≤N):Yk M H aa va vt c:=by
 unfold Yk at *;split
 ·rename_i h1;rw[if_pos h1]at h;exact h
 rename_i h1;rw[if_neg h1]at h;cases hq:sync aa with
 | none=>rw[hq]at h;exact h
 | some z=>rw[hq]at h;exact⟨h.1,h.2.1.mono E,h.2.2.mono E⟩
theorem QiZ (c:ZA):Y1 c=if Zk c≠0 then Zk c else if X8 (auts c.co)≠0 then X8 (auts c.co)else X8 (auts c.co++auts c.rq):=by
 unfold Y1;split
 ·rfl
 have e:X8 (auts c.co)=if JJ (auts c.co)≠0 then JJ (auts c.co)else match sync (auts c.co)with|none=>3|some _=>0:=rfl
 by_cases h1:JJ (auts c.co)≠0
 ·rw[if_pos h1]at e;rw[if_pos h1,e,if_pos h1]
 rw[if_neg h1]at e;rw[if_neg h1];cases hs:sync (auts c.co)with
 | none=>rw[hs]at e;simp only[]at e;rw[e];rfl
 | some z=>rw[hs]at e;simp only[]at e;rw[e];rfl
theorem Qem (c:CL):(c.co.map (·.p)).map (·.a)=auts c.cel.co:=by unfold auts;show _=(c.co.map IV.it).map _;rw[MG,MG];rfl
theorem Qky (c:CL):(c.rq.map (·.p)).map (·.a)=auts c.cel.rq:=by unfold auts;show _=(c.rq.map IV.it).map _;rw[MG,MG];rfl
theorem U6 {ps:List AV}(h:∀p∈ps,Q2 p.a):∀p∈ps,p.a.st≤4096:=λp hp=>(h p hp).st1
def jg (N:Nat)(H:Array Obj)(c:ZA)(va vt:Value)(e:Int):Prop:=if Zk c≠0 then e=Zk c∧va=zA∧vt=Q0 else Yk N H (auts c.co) va vt e
theorem Qif {L:LN}{w:World}{c:CL}(h:ZJ L w.heap c)(hf:Kb w 4096):
  QE prog 183 [c.val] w λr w'=>Step [] w w'∧∃va vt e,r=.tuple #[va,vt,.int .i64 e]∧jg w.heap.size w'.heap c.cel va vt e:=by
 refine QE.of_W func183 O ntmps183 results183 (by simp) ?_;refine Qc<|xl O<|QQ (us:=c.cells) O λb1 w1 U ht hg=>xl O<|Qu (us:=[nS,.int .i64 0,nS,nS]) O λb2 w2 V hu I=>x Qf<|Qe ?_;have Y:=U.trans V;have hv:=U.size;have ha:=hg.ext V;refine Qg<|Qc<|x (Qn ha O O)<|xl O<|xf<|(Xi (h.ext Y)).mono ?_;rintro r3 w3 ⟨rfl,E⟩;refine Qe ?_;have J:=Y.trans E
 have hw:=I.lt;refine Qc<|Qb<|x (Q7 O O)<|xe<|Q4 rfl (λh9=>?_) (λh9=>?_)
 ·refine Qc<|x (QN Z)<|Qb<|xl O<|Qo (us:=[nS,.int .i64 0,nS,nS]) (I.ext E) O O O O ⟨O,O,O,O,Z⟩ λw4 hh hi=>x Qf<|Qe ?_;exact Qk ⟨[zA,Q0,.int .i64 (Zk c.cel)],⟨⟨_,O,Qw O (hi.at (L:=[]) (by simp)).cells⟩,rfl,rfl,Z⟩,J.then1 hh (by omega),zA,Q0,_,rfl,by unfold jg;rw[if_pos h9];exact⟨O,O,O⟩⟩
 have hj:=ZX (Lm.1 h9);refine Qi<|Qc ?_;have h3:=h.ext J;refine x (Qa O)<|x (Qd (ha.ext E) O O)<|xl O<|xf<|(Qcs h3.co).mono ?_;rintro r5 w5 ⟨T,hk⟩;have H:=J.trans T;have hl:∀p∈c.co.map (·.p),Q2 p.a:=λp hp=>by
  obtain⟨q,hq,rfl⟩:=Lx.1 hp;exact hj.co q.it (LL hq)
 have hy:=h.co.arr.le;have hm:YX [] w5.heap r5 (c.co.map (·.p)):=Qg0 hk (by rw[Lh];omega) (by simp) (λp hp=>by
  obtain⟨q,hq,rfl⟩:=Lx.1 hp;exact(((h.co.each q hq).up (L':=[]) (by simp)).ext H))
 refine xl rfl<|xf<|(Ue (km:=4096) hm (hf.ext H) (by decide) (U6 hl)).mono ?_;rintro r6 w6 ⟨hb,va,vt,e,rfl,hR⟩;rw[Qem]at hR;have hn:=H.trans hb;have ho:=H.size;have hr:∃us,va=.agg us.toArray∧us.length=4∧ZH us:=by
  by_cases he:e=0
  ·exact Xk (hR.good he).1
  exact⟨[nS,.int .i64 0,nS,nS],(hR.bad he).1,O,O,O,O,O,Z⟩
 refine Exists.elim hr λus G=>?_;refine x (Qj O O)<|x (Qj O O)<|x (Qj O O)<|xl O<|Qo (us:=us) ((I.ext E).ext (T.trans hb)) O G.1 G.2.1 O G.2.2 λw7 hc hs =>
  x Qf<|Qe<|Qk ⟨[.agg us.toArray,vt,.int .i64 e],⟨⟨_,O,Qw G.2.1 (hs.at (L:=[]) (by simp)).cells⟩,rfl,rfl,Z⟩,hn.then1 hc (by omega),va,vt,e,by rw[G.1];rfl,?_⟩
 unfold jg;rw[if_neg h9];exact(hR.st1 (by have:=T.size;have:=E.size;omega) hc).mono ho
theorem Qef {L:LN}{w:World}{v:Value}{l:LI}{m:Int}(h:QH L w.heap v l)(J:Kb w m)(hb:∀n∈l,0≤n∧n<m)(hl:l.length≤1000000):
  QE prog 143 [v] w λr w'=>r=.string ⟨(X9 l).toArray⟩∧Step [] w w':=by
 refine QE.of_W func143 O ntmps143 results143 (by simp) ?_;refine Qc<|Qe<|Qc<|xl O<|Qu (us:=[.pointer none,nS]) O λH w1 ha T hc=>xe ?_;refine Qg<|Qc<|Qb<|x (Qr h O)<|Qb<|xe ?_
 refine Qh<|QA (α:=Nat×Value) [(5,5),(8,16)] (λz=>[(8,.int .i64 z.1)]) (λz w'=>z.1≤l.length∧Step [] w w'∧(z.2=.pointer none∨z.2=me H)∧Bl z.2 H (X9 (l.take z.1)) w'∧(X9 (l.take z.1)).length≤8*z.1) (λz=>l.length - z.1) (by rfl) (0,.pointer none) La
  ⟨Ll _,ha,.inl O,⟨_,hc,QP _ _ _ _⟩,Lt _⟩ ?_
 rintro⟨k,p⟩ g w2 ⟨hk,E,hp,G,he⟩;simp only[]at hk hp G he;refine Qc<|x (Qz O O)<|xe<|Qg<|QC O (λh9=>?_) (λh9=>?_)
 ·refine Qy<|Qc ?_;rw[Ln (by omega)]at G;refine xl O<|xf<|(yj E T hp G).mono ?_;rintro r3 w3 ⟨rfl,hf⟩;refine Qe ?_;exact Qk ⟨[.string ⟨(X9 l).toArray⟩],La,O,hf⟩
 have I:k<l.length:=by omega
 have hm:=hb l[k] (Li I);obtain⟨q,hq⟩:∃q:Nat,l[k]=q:=⟨l[k].toNat,by omega⟩;have hg:l[k].toNat=q:=by omega
 have hn:=Uz 7 q (by have:=J.le;omega);have U:X9 (l.take (k+1))=X9 (l.take k)++(Lib.decDigits q++[32]):=by
  rw[Le I];unfold X9;rw[LC,List.flatMap_singleton,hg]
 refine Qi<|Qg<|Qh<|Qc<|xii (h.ext E) O O I λho hh=>x (Qv hh O)<|Qe<|Qx<|Qb<|xl O<|xf ?_;refine(show QE _ _ [.int .i64 l[k]] _ _ by rw[hq];exact(QdO q (by omega) w2 (J.ext E))).mono ?_;rintro r4 w4 ⟨rfl,V⟩;have hi:(⟨(Lib.decDigits q).toArray⟩:ByteArray).size+(⟨#[32]⟩:ByteArray).size≤1000000000:=by show(Lib.decDigits q).toArray.size+1≤_;simp;omega
 refine x (Yx O O hi)<|xl O<|xf<|(Kf (E.trans V) T hp (G.ext V) ((⟨(Lib.decDigits q).toArray⟩:ByteArray)++(⟨#[32]⟩:ByteArray)) (by rw[ByteArray.size_append];show _+((Lib.decDigits q).toArray.size+1)≤_;simp;omega)).mono ?_;rintro r5 w5 ⟨hj,Y⟩;refine xe<|Qx<|QM O O<|Qb<|xe<|⟨(k+1,me H),by simp only[];omega,La,by simp only[];omega,hj,.inr O,?_,?_⟩
 ·simp only[];rw[U];have e:((⟨(Lib.decDigits q).toArray⟩++⟨#[32]⟩:ByteArray)).data.toList=Lib.decDigits q++[32]:=by rw[ByteArray.data_append];simp
  rw[e]at Y;exact Y
 simp only[];rw[U];simp;omega
structure Sty where
 c:CL
 p:AV
 vq:Value
 qs:List TV
 s:AV
 vt:Value
 ts:List TV
 vs:Value
 vx:Value
 vk:Value
 qx:List XV
 ks:List KV
 bm:Nat
 mm:List (ByteArray×Value)
abbrev Sty.cells (q:Sty):LV:=[q.c.ve,q.c.vc,q.c.vr,q.c.vx,q.c.vk,q.p.va,.int .i64 q.p.a.st,q.p.vm,q.p.ve,q.vq,q.s.va,.int .i64 q.s.a.st,q.s.vm,q.s.ve,q.vt,q.vs,q.vx,q.vk,.map (some q.bm)]
structure KD (L:LN)(b:Nat)(H:Array Obj)(q:Sty):Prop where
 B:QT H b 259 q.cells
 bL:b∉L
 c:ZJ L H q.c
 p:Zp L H q.p.va q.p.vm q.p.ve q.p.a
 s:Zp L H q.s.va q.s.vm q.s.ve q.s.a
 qs:X6 L H q.vq q.qs
 ts:X6 L H q.vt q.ts
 k1:QH L H q.vs (szs q.c.cel.co)
 k2:qj L H q.vx q.qx
 k3:zU L H q.vk q.ks
 mL:q.bm∉L
 m:ZI XZ H q.bm q.mm
theorem KD.ext {L:LN}{b:Nat}{w w':World}{q:Sty}(h:KD L b w.heap q)(hs:Step [] w w'):KD L b w'.heap q:=⟨h.B.ext hs,h.bL,h.c.ext hs,h.p.ext hs,h.s.ext hs,h.qs.ext hs,h.ts.ext hs,h.k1.ext hs,h.k2.ext hs,h.k3.ext hs,h.mL,h.m.ext hs⟩
theorem KD.st {L:LN}{b:Nat}{w w':World}{q:Sty}(h:KD L b w.heap q)(hs:Step L w w'):KD L b w'.heap q:=⟨h.B.step hs h.bL,h.bL,h.c.st hs,h.p.st hs,h.s.st hs,h.qs.st hs,h.ts.st hs,h.k1.st hs,h.k2.st hs,h.k3.st hs,h.mL,h.m.step hs h.mL⟩
theorem KD.up {L L':LN}{b:Nat}{H:Array Obj}{q:Sty}(h:KD L b H q)(E:∀b∈L',b∈L∨H.size≤b):KD L' b H q :=
 ⟨h.B,λhm=>by rcases E _ hm with h1|h1;exact h.bL h1;have:=h.B.lt;omega,h.c.up E,h.p.up E,h.s.up E,h.qs.up E,h.ts.up E,h.k1.up E,h.k2.up E,h.k3.up E,λhm=>by rcases E _ hm with h1|h1;exact h.mL h1;have:=h.m.lt;omega,h.m⟩
structure Qol (q:Sty):Prop where
 ok:Zk q.c.cel=0
 p:sync (auts q.c.cel.co)=some (q.p.a,q.qs.map (·.2))
 s:sync (auts q.c.cel.co++auts q.c.cel.rq)=some (q.s.a,q.ts.map (·.2))
 ex:q.qx.map (·.x)=q.c.cel.ex
 cs:q.ks.map (·.k)=q.c.cel.cs
 m:UE q.c.co.length q.mm (q.qs.map (·.2))
theorem Xr {l:List XC}(h:∀x∈l,Q2 x.a):∀a∈auts l,Q2 a:=λa ha=>by
 obtain⟨x,hx,rfl⟩:=Lx.1 ha;exact h x hx
def stp (a:QO)(s v:Int):Int×Bool×Int:=if cks a s≠0 then(0,false,cks a s)else if v∉a.al then(0,false,9)else if 0≤nxt a.ed s v then(nxt a.ed s v,true,0)else(0,false,0)
theorem Qh7 {L:LN}{w:World}{va vm ve:Value}{a:QO}(h:Zp L w.heap va vm ve a)(s v:Int):
  QE prog 219 [.agg #[va,.int .i64 a.st,vm,ve],.int .i64 s,.int .i64 v] w λr w'=>r=.tuple #[.int .i64 (stp a s v).1,.bool (stp a s v).2.1,.int .i64 (stp a s v).2.2]∧Step [] w w':=by
 have E:stp a s v=(if cks a s≠0 then(0,false,cks a s)else if v∉a.al then(0,false,9)else if 0≤nxt a.ed s v then(nxt a.ed s v,true,0)else(0,false,0)):=rfl
 refine Zb (stp a s v) λR hR=>?_;rw[hR]at E ⊢;refine QE.of_W func219 O ntmps219 results219 (by simp) ?_;refine Qc<|xl O<|QQ (us:=[va,.int .i64 a.st,vm,ve]) O λb3 w1 Y hb I=>x Qf<|x Qf<|Qe<|Qg<|Qc<|x (Qn I O O)<|Qb<|xl O<|xf<|(Jq (h.ext Y) s).mono ?_;rintro r2 w2 ⟨rfl,J⟩;refine Qe ?_;have G:=Y.trans J;refine Qc<|Qb<|x (Q7 O O)<|xe<|Q4 rfl (λH=>?_) (λH=>?_)
 ·rw[if_pos H]at E;subst E;refine Qc<|Qb<|x Qf<|x Qf<|Qe ?_;exact Qk ⟨[_,_,_],⟨O,O,O,Z⟩,O,G⟩
 rw[if_neg H]at E;refine Qi<|Qg<|Qc<|x (Qa O)<|x (Qd (I.ext J) O O)<|Qb<|xl O<|xf<|(Yb (h.al.ext G) v).mono ?_;rintro r3 w3 ⟨rfl,rfl⟩;refine x (qG O)<|xe<|Q4 rfl (λT=>?_) (λT=>?_)
 ·rw[if_pos T]at E;subst E;refine Qc<|x Qf<|x Qf<|Qe ?_;exact Qk ⟨[_,_,_],⟨O,O,O,Z⟩,O,G⟩
 rw[if_neg T]at E;refine Qi ?_;have hc:cks a s=0:=Lm.1 H;have hck:Xq a=0:=by
  unfold cks at hc;refine Lm.1 λU=>?_;rw[if_pos U]at hc;exact U hc
 have hsr:0≤s∧s<a.st:=by
  unfold cks at hc;rw[if_neg (by rw[hck];decide)]at hc;refine Lm.1 λU=>?_;rw[if_pos (by omega)]at hc;cases hc
 refine Qg<|Qc<|x (Qn (I.ext J) O O)<|Qb<|Qb<|xl O<|xf<|(QbH (h.ed.ext G) ((Zu a).1 hck) s v hsr.1 hsr.2).mono ?_;rintro r4 w4 ⟨rfl,ha⟩;refine Qe<|Qc<|Qb<|x (ZN O O)<|xe<|Q4 rfl (λV=>?_) (λV=>?_)
 ·rw[if_pos V]at E;subst E;refine Qc<|Qb<|x Qf<|x Qf<|Qe ?_;exact Qk ⟨[_,_,_],⟨O,O,O,Z⟩,O,G.trans ha⟩
 rw[if_neg V]at E;subst E;refine Qi<|Qc<|x Qf<|x Qf<|Qe ?_;exact Qk ⟨[_,_,_],⟨O,O,O,Z⟩,O,G.trans ha⟩
theorem Qgv (es:List Ed)(s v:Int):nxt es s v=(eget es s v).getD (-1):=by
 induction es with
 | nil=>rfl
 | cons e es ih =>
  rw[nxt,eget];by_cases h:e.1=s∧e.2.1=v
  ·rw[if_pos h,if_pos h];rfl
  rw[if_neg h,if_neg h];exact ih
theorem Qlj {a:QO}(h:Q2 a){s v:Int}(G:0≤s)(h1:s<a.st)(E:v∈a.al):(stp a s v).2.1=(eget a.ed s v).isSome:=by
 have hc:cks a s=0:=by unfold cks;rw[if_neg (by rw[(Zu a).2 h];decide),if_neg (by omega)]
 unfold stp;rw[if_neg (by rw[hc];decide),if_neg (by simpa using E),Qgv];cases he:eget a.ed s v with
 | none=>rfl
 | some t =>
  have:=(h.ed _ (V5 he)).2.2.2.1;rw[Option.getD_some,if_pos (by simpa using this)];rfl
theorem QfU {L L':LN}{w:World}{b:Nat}{q:Sty}{vt:Value}{t:LI}(hS:KD L b w.heap q)(ht:QH L' w.heap vt t)(H:q.c.co.length≤t.length):
  QE prog 142 [.pointer (some ⟨b,0,none⟩),vt] w λr w'=>Step [] w w'∧∃E G,r=.tuple #[E,G]∧QH L' w'.heap E (t.take q.c.co.length)∧QH L' w'.heap G (t.drop q.c.co.length):=by
 refine QE.of_W func142 O ntmps142 results142 (by simp) ?_;refine Qc<|x Qf<|Qe<|Qc<|Qb<|x (QG O)<|x (Qa O)<|x (Qa O)<|x (Qd hS.B O O)<|x (Qr hS.c.co.arr O)<|Qe<|Qg<|QV (Step [] w) [(0,true),(1,true),(2,true),(3,true),(4,true),(5,true),(6,true),(7,true),(8,true)] mixed (by rfl) (by kernel_rfl) (Step.drew _ _) ?_
 refine p (λ_=>Qm)<|p (λ_=>Qm)<|p (λ_=>Qm)<|Qn6 (hi:=q.c.co.length) O ht O O O H λE h1=>p (λ_=>Qm)<|p (λ_=>Qm)<|Qlu (lo:=q.c.co.length) O ht O O H λG h2 =>
  p (λ_=>Qf)<|p (λ_=>Qf)<|pe ?_
 refine Qk ⟨[_,_],⟨O,O,Z⟩,Step.drew _ _,E,G,O,?_,?_⟩
 ·rw[Nat.mul_one,←List.map_take]at h1;have e:(t.take q.c.co.length).length=q.c.co.length:=by rw[Ly];omega
  unfold QH;rw[e];exact h1
 exact QH.drop h2
theorem Qf7 {v:Int}{i:Nat}{y:XC}{l:List XC}{s:Int}{ss:LI}:rfr v i (y::l) (s::ss)=if v∈y.a.al∧(eget y.a.ed s v).isSome=false then(i:Int)else rfr v (i+1) l ss:=rfl
set_option maxHeartbeats 1000000 in
theorem Qca {L L':LN}{w:World}{b:Nat}{q:Sty}{vr:Value}{rs:LI}{v:Int}(hS:KD L b w.heap q)(hr:QH L' w.heap vr rs)(ho:∀x∈q.c.rq,Q2 x.p.a)(hv:Vt (auts q.c.cel.rq) rs):
  QE prog 189 [.pointer (some ⟨b,0,none⟩),vr,.int .i64 v] w λr w'=>r=.int .i64 (rfr v 0 q.c.cel.rq rs)∧Step [] w w':=by
 have h4:=hS.c.rq.arr.le;have h5:rs.length=q.c.rq.length:=by rw[hv.1];unfold auts;show((q.c.rq.map IV.it).map _).length=_;simp
 refine Zb (rfr v 0 q.c.cel.rq rs) λR hR=>?_;rw[hR];refine QE.of_W func189 O ntmps189 results189 (by simp) ?_;refine Qc<|Qe<|Qg<|Qc<|Qb<|x (QG O)<|x (Qa O)<|x (Qa O)<|x (Qd hS.B O O)<|x (Qr hS.c.rq.arr O)<|Qb<|xe ?_
 refine Qh<|QA (α:=Nat) [(6,11),(18,44)] (λz=>[(18,.int .i64 z)]) (λz w'=>z≤q.c.rq.length∧Step [] w w'∧rfr v z ((q.c.rq.drop z).map (·.it)) (rs.drop z)=R) (λz=>q.c.rq.length - z) (by rfl) 0 La
  ⟨Ll _,Step.refl _ _,hR⟩ ?_
 rintro k g w1 ⟨hk,I,E⟩;refine Qc<|x (Qz O O)<|xe<|Qg<|QC O (λY=>?_) (λY=>?_)
 ·refine Qy ?_;have hp:q.c.rq.length≤k:=by have hq:¬(k:Int)<(q.c.rq.length:Int):=Y;omega
  rw[Ls hp]at E;have hs:R=-1:=E.symm;refine Qc<|Qe ?_;exact Qk ⟨[_],La,by rw[hs];rfl,I⟩
 have G:k<q.c.rq.length:=by have hq:(k:Int)<(q.c.rq.length:Int):=Y;omega
 have H:k<rs.length:=by omega
 have ha:=Li G;rw[Jj G,Q9 H,Qf7]at E;have J:∀hz:k<(auts q.c.cel.rq).length,0≤rs[k]'H∧rs[k]'H<((auts q.c.cel.rq)[k]'hz).st:=λhz=>hv.2 k H hz;have hg:k<(auts q.c.cel.rq).length:=by unfold auts;show k<((q.c.rq.map IV.it).map _).length;simpa using G
 have J:=J hg;have ht:(auts q.c.cel.rq)[k]'hg=(q.c.rq[k]'G).p.a:=by unfold auts;show((q.c.rq.map IV.it).map _)[k]'_=_;simp[IV.it]
 rw[ht,Zm H]at J;rw[Zm H]at E;refine Qi<|Qg<|Qh<|Qc<|Qb<|xig Xf (hS.c.rq.arr.ext I) O O G λh6 hh=>?_;refine Zb (q.c.rq[k]'G) λy hy=>?_;rw[hy]at hh ha E J;have T:=(hS.c.rq.each y ha).ext I;have hi:=ho y ha;refine x (QI hh O O)<|xl O<|Qu (us:=[.string .empty,nS,.int .i64 0,nS,nS]) O λb8 w2 hu hw V=>x Qf <|
  xl rfl<|Qo (us:=Zi y) V O O O O ⟨O,T.al.one,O,T.mr.one,T.ed.one,Z⟩ λw3 h0 V=>xe ?_
 have U:Step [] w1 w3:=hu.then1 h0 hw;refine Qg<|Qc<|x (Qa O)<|x (Qa O)<|x (Qd V O O)<|Qb<|xl O<|xf<|(YK (T.al.ext U) hi.ali v).mono ?_;rintro r4 w4 ⟨rfl,rfl⟩;refine x (qG O)<|xe<|Q4 rfl (λhb=>?_) (λhb=>?_)
 ·rw[if_neg (λe=>hb e.1)]at E;refine Qy<|Qx<|QM O O<|Qb<|xe ?_;exact⟨k+1,by omega,La,G,I.trans U,E⟩
 have hj:v∈y.p.a.al:=Lm.1 hb;have hl:=Qlj hi J.1 J.2 hj;refine Qi ?_;have h1:=(hr.ext I).ext U;refine Qg<|QV (Step [] w4) [(0,true),(1,true),(2,true),(3,true),(4,true),(5,true),(6,true),(7,false),(8,true),(9,true),(10,true),(11,true),(12,true),(13,true),(14,true)] mixed (by rfl) (by kernel_rfl) (Step.drew _ _) ?_
 refine p (λ_=>Qa O)<|pq (λ_ hc=>ZB (us:=Za y.p) (V.step hc (by simp)) rfl rfl rfl)<|p (λ_=>Qm)<|p (λ_=>Qm)<|pic (i:=k) rfl h1 rfl rfl H λh7 h2 =>
  pq (λ_ hc=>Qv (h2.ext hc) O)<|p (λ_=>Qm)<|pk<|xf<|(Qh7 ((T.ext U).ext (Step.drew _ _)) (cget rs k) v).mono ?_
 rintro r5 w5 ⟨rfl,h3⟩;have hm:=(Step.drew [] w4).trans h3;refine⟨hm,?_⟩;refine p (λ_=>Qm)<|p (λ_=>Qj O O)<|p (λ_=>Qj O O)<|p (λ_=>Qj O O)<|p (λ_=>Qf) <|
  p (λ_=>Qf)<|p (λ_=>Qf)<|pe ?_
 have hn:=(I.trans U).trans hm;refine Qc<|Qb<|x (Zq O)<|xe<|QY rfl (λhe=>?_) (λhe=>?_)
 ·have hf:(eget y.p.a.ed (cget rs k) v).isSome=false:=by rw[←hl];simpa using he
  rw[if_pos ⟨hj,hf⟩]at E;refine Qc<|Qb<|Qe ?_;exact Qk ⟨[_],La,by rw[←E];rfl,hn⟩
 have hf:¬(eget y.p.a.ed (cget rs k) v).isSome=false:=by rw[←hl];simpa using he
 rw[if_neg (λe=>hf e.2)]at E;refine Qi<|Qx<|QM O O<|Qb<|xe ?_;exact⟨k+1,by omega,La,G,hn,E⟩
end Go.Proofs.YtjcgijbhaemldaaGreatDoor
namespace Go.Lg
open Go.RowKit
def Jt (L:LN)(W W':World):Prop:=∀(k:Nat) (o:Obj),k∉L→W.heap[k]?=some o→o.isCells=true→W'.heap[k]?=some o
theorem Jt.refl (L:LN)(W:World):Jt L W W:=λ_ _ _ h _=>h
theorem Jt.trans {L:LN}{A B C:World}(h:Jt L A B)(k:Jt L B C):Jt L A C:=λi o E G hc=>k i o E (h i o E G hc) hc
theorem At.cst {L:LN}{W W':World}{a:Addr}{us:LV}(h:At L W.heap a us)(hc:Jt L W W')(G:W.heap.size≤W'.heap.size):At L W'.heap a us:=by
 refine⟨h.out,λu hu=>L4 (h.lt u hu) G,λj u hu=>?_⟩;have h1:=h.cell j u hu;unfold cel at h1 ⊢;rw[Z9]at h1 ⊢;cases E:W.heap[a.block]? with
 | none=>rw[E]at h1;cases h1
 | some o =>
  rw[E]at h1;cases o with
  | cells c t m=>rw[hc a.block _ (h.out u (Md hu)) E rfl];exact h1
  | _=>cases h1
theorem Zv.cst {L:LN}{W W':World}{v:Value}{n sz:Nat}{cs:LV}(h:Zv L W.heap v n sz cs)(hc:Jt L W W')(E:W.heap.size≤W'.heap.size):Zv L W'.heap v n sz cs :=
 ⟨h.1,h.2.1,h.2.2.imp id λ⟨a,cap,h1,h2,h3⟩=>⟨a,cap,h1,h2,h3.cst hc E⟩⟩
structure LwC (B:Nat)(L:LN)(W W':World):Prop where
 lw:Lw B L W W'
 cst:Jt L W W'
theorem LwC.trans {B:Nat}{L:LN}{E w w':World}(h:LwC B L E w)(k:LwC B L w w'):LwC B L E w':=⟨h.lw.trans k.lw,h.cst.trans k.cst⟩
def rdC {α:Type}(B:Nat)(L:LN)(I:List α→World→Prop)(X:Exit→List α→World→Prop)(xs:List α)(W:World):Exit→LN→Fr→World→Prop
 | .normal,_,_,W'=>XS B L W W'∧Jt L W W'∧I xs W'
 | .ret,_,_,W'=>XS B L W W'∧X .ret xs W'
 | .exit i,_,_,W'=>XS B L W W'∧X (.exit i) xs W'
 | _,_,_,_=>False
theorem Qim {α:Type}{m:Nat}{P:Program}{n:Nat}{Q:Exit→LN→Fr→World→Prop}{ds:LN}{f:Fr}{w:World}{g:Operand}{ps:LN}{assign body:Code}(L:LN)(h1:1≤m)
  {gf:Nat} {fn:Func} [hF:Fu P gf fn] {capt:LV} (hg:ev f g=.func (.func gf) #[] capt.toArray) {encs:α→LV} {S Sp:List α→Prop} {N:Nat} (hp:∀p∈ps,p<n) (hb:∀x,(encs x).length=ps.length)
  (he:SeqStopsK (fen none) (m - 1) P gf capt.toArray (λx=>(encs x).toArray) (LwC w.heap.size L) S Sp N w)
  (I:List α→World→Prop) (hI:∀s,Z4 w.heap.size (I s)) (X:Exit→List α→World→Prop) (hX:∀e s,Z4 w.heap.size (X e s)) (h0:I [] w) (A:Fr→α→Fr→World→Prop) (hA:∀x E,Z4 w.heap.size (A f x E))
  (T:∀l pre x W,I pre W→WG (some l) (m - 1 - 1) P n assign (Qb0 (λH E W'=>H=[]∧XS w.heap.size L W W'∧Jt L W W'∧I pre W'∧A f x E W') (λ_ _ _ _=>False)) [] (QbY f ps (encs x)) W)
  (U:∀l pre x E W,I pre W→A f x E W→pre.length<N→WG (some l) (m - 1 - 1) P n body (rdC w.heap.size L I X (pre++[x]) W) [] E W)
  (hf:∀D xs W,w.heap.size≤D→S xs→I xs W→W.heap[D]?=some (.deferred (some []))→Q .normal (D::ds) f W)
  (V:∀D e pre W,w.heap.size≤D→Sp pre→X e pre W→W.heap[D]?=some (.deferred (some []))→(e=.ret∨∃i,e=.exit i)→Q e (D::ds) f W):
  WG none m P n (.rangeFunc g ps.toArray assign body) Q ds f w:=by
 unfold WG at T U ⊢;intro a ha;have eg:∀args w,(callFunc gf args).run P w=.ok (.enter gf args) w:=by
  intro args w;have h1:¬fn.name = "runtime.NumGoroutine" := by simpa using hF.nm
  have h2:¬fn.body=none:=by have:=hF.b;intro e;rw[e]at this;cases this
  simp[callFunc,hF.f,h1,h2]
 have keep:∀{W W':World},XS w.heap.size L W W'→KeepsFrom w.heap.size W W':=λh=>⟨h.lw.size,λk o _ hk J=>h.other k o hk J⟩;refine wpIn_rangeFunc_ownH (F:=fen none) O h1 (gf:=gf) (lb:=capt.toArray) (by rw[ha.eval];exact hg) Z eg he (λh k=>h.trans k)
  (λW l o o' hl J hh _=>⟨⟨O,O,O,by simp,λk hk _=>World.putObj_heap_other (by omega)⟩,λk o2 _ hk hc=>by
   have hj:k≠l:=λe=>by subst e;rw[J]at hk;cases hk;rw[hh]at hc;cases hc
   rw[World.putObj_heap_other hj];exact hk⟩) (Below.refl _ _) (λx=>by simp[hb x]) I
  (λc pre W=>match c with| .ret=>X .ret pre W| .exit i=>X (.exit i) pre W|_=>False) (Z4.own hI) (λc=>Z4.own λs=>?_) h0
  (λx G W=>∃E,YC n [] G E∧A f x E W) (λx G=>Z4.own λ_=>Z4.ex λE=>Z4.and (Z4.pure _) (hA x E)) ?_ ?_ ?_ ?_
 ·cases c <;> first|exact hX _ s|exact Z4.pure _
 ·intro l pre x W K hi hK;have hr:YC n [] { tmps:=(ps.toArray.zip (encs x).toArray).foldl (λt (p,v)=>t.setIfInBounds p v) a.tmps,defers:=[] } (QbY f ps (encs x)):=by
   have h2:YC n [] { a with defers:=[] } f:=⟨ha.size,O,ha.get⟩
   have h3:=Um ps (encs x) _ _ h2 hp;have e:(ps.toArray.zip (encs x).toArray).foldl (λt (p,v)=>t.setIfInBounds p v) a.tmps=(ps.zip (encs x)).foldl (λt (x:Nat×Value)=>t.setIfInBounds x.1 x.2) a.tmps:=by simp
   rw[e];exact h3
  refine wpIn_mono (T l pre x W hi _ hr) ?_;rintro e G W' ⟨H,E,h2,_,h3⟩;cases e with
  | normal=>obtain⟨rfl,h4,hm,h5,h6⟩:=h3;exact hK G W' (keep h4) ⟨h4.lw,hm⟩ h5 ⟨E,h2,h6⟩
  | exit id=>exact h3.elim
  | goto l=>exact h3.elim
  | ret=>exact h3.elim
  | panic ch=>exact h3.elim
  | outgrown=>exact h3.elim
 ·rintro l pre x G W _ _ hi ⟨E,h2,h3⟩ hn;refine wpIn_mono (U l pre x E W hi h3 hn G h2) ?_;rintro e hq W' ⟨H,hs,h4,_,h5⟩;cases e with
  | normal=>exact⟨keep h5.1,⟨h5.1.lw,h5.2.1⟩,h5.2.2⟩
  | exit id=>exact⟨keep h5.1,h5.2⟩
  | goto l=>exact h5.elim
  | ret=>exact⟨keep h5.1,h5.2⟩
  | panic ch=>exact h5.elim
  | outgrown=>exact h5.elim
 ·intro D xs W hD hS hi hd;exact⟨D::ds,f,⟨ha.size,by rw[show coll (D::ds)={ target:=.collected D,args:=#[] }::coll ds from rfl,ha.defers],ha.get⟩,λ_ _=>rfl,hf D xs W hD hS hi hd⟩
 intro D c pre W hD hS hx hd;have Y:YC n (D::ds) { a with defers:={ target:=.collected D,args:=#[] }::a.defers } f:=⟨ha.size,by rw[show coll (D::ds)={ target:=.collected D,args:=#[] }::coll ds from rfl,ha.defers],ha.get⟩
 cases c with
 | ret=>exact wpIn_ret ⟨_,f,Y,λ_ _=>O,V D .ret pre W hD hS hx hd (.inl O)⟩
 | exit i=>exact wpIn_exit ⟨_,f,Y,λ_ _=>O,V D (.exit i) pre W hD hS hx hd (.inr ⟨i,O⟩)⟩
 | _=>exact hx.elim
theorem xy2 {m:Nat}{P:Program}{ops:List Oper}{rest:List Oper}{f:Fr}{w:World}{K:Fr→World→Prop}{d:Option Nat}{ty:Nat}{ps:String}{af:Array Edge}{gd:Option (Nat×Bool)}{x y z:Operand}{at_:Array Nat}{l:Nat}{R:Ending→World→Prop}
  (hx:ev f x=.func (.yield l) #[] #[]) (hy:YieldAt (fen none) (m - 1) P l #[ev f y,ev f z] w R) (E:∀e w',R e w'→∃v,e=.returned v∧Ja P m ops K rest (QZ f d v) w')
  (G:Z6 ops f ⟨d,.call ⟨.value x,[y,z].toArray,at_⟩,ty,ps,af,gd⟩=true:=by rfl):
  Ja P m ops K (⟨d,.call ⟨.value x,[y,z].toArray,at_⟩,ty,ps,af,gd⟩::rest) f w:=by
 obtain⟨fn,tmps,assign,body,h1,h2⟩:=hy;have H:(execOp (ev f) ⟨d,.call ⟨.value x,[y,z].toArray,at_⟩,ty,ps,af,gd⟩).run P w=.ok (.round l fn tmps assign body) w:=by
  simp[execOp,resolve,hx,Deferred.ofValue,invoke,h1]
 unfold Ja;rw[G];simp only[XOY,H,upY,cond_true];exact h2.mono λe w' h=>by obtain⟨v,rfl,hk⟩:=E e w' h;exact hk
end Go.Lg
namespace Go.Proofs.YtjcgijbhaemldaaGreatDoor
open Go.Proofs.Tryz
open Go.Lg
def wrf (rq:List XC)(rs:LI):LI→List (Int×Int)
 | []=>[]
 | v::l=>if 0≤rfr v 0 rq rs then(v,rfr v 0 rq rs)::wrf rq rs l else wrf rq rs l
theorem Qao (rq:List XC)(rs:LI)(v:Int):∀l,wrf rq rs (l++[v])=wrf rq rs l++if 0≤rfr v 0 rq rs then[(v,rfr v 0 rq rs)]else[]
 | []=>by simp only[List.nil_append,wrf]
 | a::l=>by
  simp only[List.cons_append,wrf,Qao rq rs v l];by_cases h:0≤rfr a 0 rq rs
  ·rw[if_pos h,if_pos h];rfl
  rw[if_neg h,if_neg h]
theorem Vd (rq:List XC)(rs:LI)(b:LI):∀a,wrf rq rs (a++b)=wrf rq rs a++wrf rq rs b
 | []=>rfl
 | x::a=>by
  simp only[List.cons_append,wrf,Vd rq rs b a];by_cases h:0≤rfr x 0 rq rs
  ·rw[if_pos h,if_pos h];rfl
  rw[if_neg h,if_neg h]
theorem QiL (rq:List XC)(rs:LI)(l:LI)(k:Nat):(wrf rq rs (l.take k)).length≤(wrf rq rs l).length:=by
 have h:=Vd rq rs (l.drop k) (l.take k);rw[Mu]at h;rw[h,Lj];omega
theorem Qfr {rq:List XC}{rs:LI}{l:LI}{k:Nat}(h:k<l.length):wrf rq rs (l.take (k+1))=wrf rq rs (l.take k)++if 0≤rfr (cget l k) 0 rq rs then[(cget l k,rfr (cget l k) 0 rq rs)]else[]:=by
 rw[Le h,Qao,Zm h]
theorem ji {rq:List XC}{rs:LI}{x:Int×Int}:∀{l:LI},x∈wrf rq rs l↔x.1∈l∧0≤x.2∧x.2=rfr x.1 0 rq rs
 | []=>by simp[wrf]
 | v::l=>by
  rw[wrf];have ih:=ji (rq:=rq) (rs:=rs) (x:=x) (l:=l);by_cases h:0≤rfr v 0 rq rs
  ·rw[if_pos h,Lc,ih,Lc];constructor
   ·rintro(rfl|⟨h1,h2⟩)
    ·exact⟨.inl O,h,O⟩
    exact⟨.inr h1,h2⟩
   rintro⟨h1|h1,h2,h3⟩
   ·exact .inl (by rw[←h1];exact Prod.ext_iff.2 ⟨O,h3⟩)
   exact .inr ⟨h1,h2,h3⟩
  rw[if_neg h,ih,Lc];constructor
  ·rintro⟨h1,h2⟩;exact⟨.inr h1,h2⟩
  rintro⟨h1|h1,h2,h3⟩
  ·exact absurd (by rw[←h1,←h3];exact h2) h
  exact⟨h1,h2,h3⟩
theorem QaH {w:World}{b:Nat}{st:Int}{vr:Value}(J:vr.cells=[vr].toArray):
  QE prog 145 [.pointer (some ⟨b,0,none⟩),.int .i64 st,vr] w λr w'=>Step [] w w'∧∃b1 b2 E,r=.func (.func 188) #[] #[.pointer (some ⟨b1,0,none⟩),.pointer (some ⟨b2,0,none⟩),.pointer (some ⟨E,0,none⟩)] ∧
   w.heap.size≤b1∧w.heap.size≤b2∧w.heap.size≤E∧QT w'.heap b1 255 [.pointer (some ⟨b,0,none⟩)]∧QT w'.heap b2 3 [.int .i64 st]∧QT w'.heap E 39 [vr]:=by
 refine QE.of_W func145 O ntmps145 results145 (by simp) ?_;refine Qc<|xl O<|QQ (us:=[.pointer (some ⟨b,0,none⟩)]) O λE w1 I T U=>xl O<|QQ (us:=[.int .i64 st]) O λV w2 G hb Y=>xl O<|QQ (us:=[vr]) J λb5 w3 H hc ha=>x Qf <|
  xe ?_
 have he:=I.size;have hf:=G.size;refine Qc<|x Zn<|Qe ?_;exact Qk ⟨[_],La,(I.trans G).trans H,E,V,b5,O,T,by omega,by omega,(U.ext G).ext H,Y.ext H,ha⟩
set_option maxHeartbeats 4000000 in
theorem ju {L:LN}{w:World}{I b2 T b m:Nat}{q:Sty}{vr:Value}{rs es:LI}{st:Int}{fl:List (Int×Int)}(ht:QT w.heap I 255 [.pointer (some ⟨b,0,none⟩)])(h6:QT w.heap b2 3 [.int .i64 st])(h7:QT w.heap T 39 [vr])
  (h8:I∉L) (hA:T∉L) (hB:∀x∈L,x<w.heap.size) (hS:KD L b w.heap q) (hr:QH L w.heap vr rs) (hC:∀x∈q.c.rq,Q2 x.p.a) (hv:Vt (auts q.c.cel.rq) rs) (hc:cks q.p.a st=0) (hu:enb q.p.a st=es) (hh:wrf q.c.cel.rq rs es=fl):
  SeqStopsK (fen none) m prog 188 [.pointer (some ⟨I,0,none⟩),.pointer (some ⟨b2,0,none⟩),.pointer (some ⟨T,0,none⟩)].toArray (λx:{ x:Int×Int // x∈fl }=>[Value.int .i64 x.1.1,.int .i64 x.1.2].toArray) (LwC w.heap.size L)
   (λE=>E.map (·.1)=fl) (λpre=>pre.map (·.1) <+: fl) fl.length w:=by
 intro l J Jx W hD hJ hE hY h0;have hb:Step [] w W:=Step.of_below hD;have ab:∀{E:List { x:Int×Int // x∈fl }} {W1 W2:World},J E W1→Step [] W1 W2→J E W2:=λ{E W1 W2} hj hf=>hJ E W1 W2 none hj ⟨hf.os,hf.tape,hf.output,hf.size,λk hk _=>hf.block k hk (by simp)⟩ (λr e=>by cases e);have hF:es.length≤1099511627776:=by
  have h1:=hS.p.ed.le;have h2:=Jw q.p.a.ed st;rw[←hu];unfold enb;rw[Lh];omega
 have hG:=QiL q.c.cel.rq rs es;rw[hh]at hG;have key:QE prog 188 [.func (.yield l) #[] #[],.pointer (some ⟨I,0,none⟩),.pointer (some ⟨b2,0,none⟩),.pointer (some ⟨T,0,none⟩)] W (λ_ W'=>(∃E,E.map (·.1)=fl∧J E W')∨(∃pre,pre.map (·.1) <+: fl∧Jx pre W')):=by
  refine QE.of_G m func188 O ntmps188 results188 (by simp) ?_;have hH:=ht.ext hb;have hI:=h6.ext hb;have hw:=hS.ext hb;refine Q6<|Qah (Step [] W) [(0,true),(1,true),(2,true),(3,true),(4,true),(5,false),(6,true),(7,true),(8,true),(9,true),(10,true)] mixed (by rfl) (by rfl) (by kernel_rfl) (Step.drew _ _) ?_
  refine pq (λ_ hc=>Qd (hH.ext hc) O O)<|p (λ_=>QG O)<|p (λ_=>Qa O)<|pq (λ_ hc=>ZB (us:=Za q.p) (hw.B.ext hc) O O O)<|pq (λ_ hc=>Qd (hI.ext hc) O O)<|pk<|xf<|(Vz (hw.p.ext (Step.drew _ _)) st).mono ?_;rintro r1 w1 ⟨hK,ve,rfl,_,hi⟩;have hi:=hi hc;have hp:=(Step.drew [] W).trans hK;refine⟨hp,?_⟩;refine p (λ_=>Qm)<|p (λ_=>Qj O O)<|p (λ_=>Qj O O)<|p (λ_=>Qf)<|p (λ_=>Qf)<|pe ?_
  have hO:=hb.size;have hP:({ W with drawn:=W.drawn+1 }:World).heap.size=W.heap.size:=rfl
  rw[hu]at hi;have hy:QH L w1.heap ve es:=Qt.ints hi hF (λx hx=>by have:=hB x hx;omega);refine Q6<|QJ (by rfl) (by rfl) ?_;refine Qb<|x (Qr hy O)<|Qb<|xe ?_
  refine ZP<|Vy (α:=Nat×List { x:Int×Int // x∈fl }) [(8,9),(21,38)] (λz=>[(21,.int .i64 z.1)]) (λz ds W'=>ds=[]∧z.1≤es.length∧Step L w W'∧QH L W'.heap ve es∧z.2.map (·.1)=wrf q.c.cel.rq rs (es.take z.1)∧J z.2 W') (λz=>es.length - z.1) (by rfl) (0,[]) La
   ⟨O,Ll _,(hb.trans hp).any,hy,O,ab h0 hp⟩ ?_
  rintro⟨k,E⟩ g ds w2 ⟨rfl,hk,U,hl,V,hm⟩;simp only[]at hk hl V hm;refine Q6<|QJ (by rfl) (by rfl) ?_;refine x (Qz O O)<|xe<|Q6<|zP O (λhq=>?_) (λhq=>?_)
  ·refine JX ?_;have hL:es.length≤k:=by have hn:¬(k:Int)<(es.length:Int):=hq;omega
   rw[Ln hL,hh]at V;exact⟨λ_ h=>(by cases h),Mw,[],λW' G=>⟨Z,.inl ⟨E,V,ab hm G⟩⟩⟩
  refine Ya ?_;have Y:k<es.length:=by have hn:(k:Int)<(es.length:Int):=hq;omega
  have H:=Qfr (rq:=q.c.cel.rq) (rs:=rs) Y;have hz:cget es k∈es:=by rw[←Zm Y];exact Li Y
  refine Zb (cget es k) λv h3=>?_;rw[h3]at H hz;refine Zb (rfr v 0 q.c.cel.rq rs) λj hj=>?_;rw[hj]at H;refine Q6<|ZP<|Q6<|QJ (by rfl) (by rfl) ?_;refine xic (i:=k) hl O O Y λhQ hn=>?_;rw[h3]at hn;refine x (Qv hn O)<|Qe<|Q6<|QJ (by rfl) (by rfl) ?_
  refine x (Qd (ht.step U h8) O O)<|x (Qd (h7.step U hA) O O)<|Qb<|xl O<|xf<|(Qca (v:=v) (hS.st U) (hr.st U) hC hv).mono ?_;rintro r3 w3 ⟨h4,ha⟩;rw[hj]at h4;subst h4;refine Qe<|Q6<|KZ (by rfl) ?_;refine Ja.pre3 ?_;refine Qb<|xb (ZN O O) (λhs=>?_) (λhs=>?_)
  ·have ho:0≤j:=hs;have hg:(v,j)∈fl:=by rw[←hh];exact ji.2 ⟨hz,ho,hj.symm⟩
   rw[if_pos ho]at H;have h5:(E++[(⟨(v,j),hg⟩:{ x:Int×Int // x∈fl })]).map (·.1) <+: fl:=by
    rw[Lv,V,show[(⟨(v,j),hg⟩:{ x:Int×Int // x∈fl })].map (·.1)=[(v,j)] from rfl,←H,←hh];have h9:=Vd q.c.cel.rq rs (es.drop (k+1)) (es.take (k+1));rw[Mu]at h9;exact⟨_,h9.symm⟩
   have hM:E.length<fl.length:=by have h1:=h5.length_le;rw[Lh,Lj,LA]at h1;omega
   refine Qb<|xe<|Ja.pre3 ?_;refine Qb<|Qb<|Qb<|xe<|xy2 (l:=l) O (hY E ⟨(v,j),hg⟩ w3 (ab hm ha) hM) λen W3 hN=>Or.elim hN (λh1=>⟨.bool true,h1.1,?_⟩) (λh1=>⟨.bool false,h1.1,?_⟩)
   ·refine Ja.of_XL<|x (Zq O)<|x (Qq O)<|xe<|K3 O<|Ya ?_;refine QJ (by rfl) (by rfl) ?_;refine QM O O<|Qb<|xe ?_;exact⟨(k+1,E++[⟨(v,j),hg⟩]),by simp only[];omega,La,O,Y,(U.trans ha).lw h1.2.2.lw,(hl.ext ha).cst h1.2.2.cst h1.2.2.lw.size,by simp only[];rw[H,Lv,V];rfl,h1.2.1⟩
   refine Ja.of_XL<|x (Zq O)<|x (Qq O)<|xe<|Qag O ?_;refine KI ⟨λ_ h=>(by cases h),Mw,[],λW' G=>⟨Z,.inr ⟨E++[⟨(v,j),hg⟩],h5,?_⟩⟩⟩;exact hE _ W3 W' none h1.2 ⟨G.os,G.tape,G.output,G.size,λk hk _=>G.block k hk (by simp)⟩ (λr e=>by cases e)
  have ho:¬0≤j:=hs;rw[if_neg ho,LK]at H;refine Qb<|xe<|Ja.of_XL<|xs O<|xs O<|xs O<|xs O<|xs O<|x (Qq O)<|xe<|K3 O<|Ya ?_;refine QJ (by rfl) (by rfl) ?_;refine QM O O<|Qb<|xe ?_;exact⟨(k+1,E),by simp only[];omega,La,O,Y,U.trans ha,hl.ext ha,by simp only[];rw[H,V],ab hm ha⟩
 refine(callsIn_wide (n:=m)).2 ?_;have ea:(#[.func (.yield l) #[] #[]]++[.pointer (some ⟨I,0,none⟩),.pointer (some ⟨b2,0,none⟩),.pointer (some ⟨T,0,none⟩)].toArray:Array Value)=[.func (.yield l) #[] #[],.pointer (some ⟨I,0,none⟩),.pointer (some ⟨b2,0,none⟩),.pointer (some ⟨T,0,none⟩)].toArray:=by simp
 rw[ea];unfold QE at key;refine Calls.mono key λe w' he=>?_;cases e with
 | returned v=>exact⟨⟨v,O⟩,he⟩
 | panicked c=>exact he.elim
 | outgrown=>exact he.elim
end Go.Proofs.YtjcgijbhaemldaaGreatDoor
namespace Go.Lg
section
variable {P:Program}{K:Fr→World→Prop}{f:Fr}{w:World}{d:Option Nat}{ty:Nat}{ps:String}{af:Array Edge}{gd:Option (Nat×Bool)}
theorem Jy {t sz:Nat}[h1:Ag P t sz]{x y:Operand}{b T o:Nat}{cs us E:LV}(G:QT w.heap b T cs)(hx:ev f x=.pointer (some ⟨b,o,none⟩))(hy:ev f y=.agg us.toArray)(hl:us.length=sz)(hj:o+sz≤cs.length)(hu:ZH us)(he:cs.take o++us++cs.drop (o+sz)=E)
  (I:∀w',Step [b] w w'→QT w'.heap b T E→K (QZ f d undef) w'):XO P ⟨d,.store t x y,ty,ps,af,gd⟩ f w K:=by
 have H:=run_storeCells_at P b o T us 0 cs.toArray w G (by simp;omega) hu.all;subst hl;simp only[Nat.add_zero,he]at H;refine xk (w':=w.setRow b E.toArray) ?_ (I _ (Step.setRow _ _ _) (JL G));simp[execOp,hx,hy,Instr.storeAt,Instr.sureAddr,storeVar,Ul (sz:=us.length),Value.cells,H]
end
end Go.Lg
namespace Go.Proofs.YtjcgijbhaemldaaGreatDoor
open Go.Proofs.Tryz
open Go.Lg
instance:Bw prog 259 [nS,nS,nS,nS,nS,nS,.int .i64 0,nS,nS,nS,nS,.int .i64 0,nS,nS,nS,nS,nS,nS,.map none] [(0,5),(5,4),(9,1),(10,4),(14,1),(15,3),(18,1)]:=⟨by kernel_rfl,by decide⟩
theorem Yk.shape {N:Nat}{H:Array Obj}{aa:List QO}{v vt:Value}{c:Int}(h:Yk N H aa v vt c):∃(a:QO) (va vm ve:Value) (qs:List TV),v=.agg #[va,.int .i64 a.st,vm,ve]∧ZH [va,.int .i64 a.st,vm,ve]∧vt.oneCell'=true ∧
  (c=0→sync aa=some (a,qs.map (·.2))∧JJ aa=0∧∀L:LN,(∀b∈L,b<N)→Zp L H va vm ve a∧X6 L H vt qs):=by
 by_cases hc:c=0
 ·obtain⟨⟨va,vm,ve,h1,h2⟩,⟨qs,h3,h4⟩,h5,I⟩:=h.good hc;have E:=h2 [] (by simp);exact⟨syA aa,va,vm,ve,qs,h1,⟨E.al.one,O,E.mr.one,E.ed.one,Z⟩,(h4 [] (by simp)).arr.one,λ_=>⟨by rw[h3];exact h5,I,λL G=>⟨h2 L G,h4 L G⟩⟩⟩
 obtain⟨h1,h2⟩:=h.bad hc;exact⟨⟨[],0,[],[]⟩,Q0,Q0,Q0,[],h1,⟨O,O,O,O,Z⟩,by rw[h2];rfl,λe=>absurd e hc⟩
def plE (c:ZA):Int:=if Zk c≠0 then Zk c else X8 (auts c.co)
theorem jg.shape {N:Nat}{H:Array Obj}{c:ZA}{v vt:Value}{e:Int}(h:jg N H c v vt e):e=plE c∧∃(a:QO) (va vm ve:Value) (qs:List TV),v=.agg #[va,.int .i64 a.st,vm,ve]∧ZH [va,.int .i64 a.st,vm,ve]∧vt.oneCell'=true ∧
  (e=0→Zk c=0∧sync (auts c.co)=some (a,qs.map (·.2))∧JJ (auts c.co)=0∧∀L:LN,(∀b∈L,b<N)→Zp L H va vm ve a∧X6 L H vt qs):=by
 unfold jg at h;unfold plE;by_cases hc:Zk c≠0
 ·rw[if_pos hc]at h ⊢;obtain⟨h1,h2,h3⟩:=h;exact⟨h1,⟨[],0,[],[]⟩,Q0,Q0,Q0,[],h2,⟨O,O,O,O,Z⟩,by rw[h3];rfl,λe=>absurd (h1.symm.trans e) hc⟩
 rw[if_neg hc]at h ⊢;obtain⟨a,va,vm,ve,qs,h1,h2,h3,h4⟩:=h.shape;exact⟨h.e,a,va,vm,ve,qs,h1,h2,h3,λe=>⟨Lm.1 hc,h4 e⟩⟩
theorem QiY (c:ZA):Y1 c=if plE c≠0 then plE c else X8 (auts c.co++auts c.rq):=by
 rw[QiZ];unfold plE;by_cases h:Zk c≠0
 ·rw[if_pos h,if_pos h,if_pos h]
 rw[if_neg h,if_neg h]
theorem Qkx {L:LN}{H:Array Obj}{ps:List AV}(h:∀p∈ps,Zp L H p.va p.vm p.ve p.a):∀u∈ps.flatMap Za,u.oneCell'=true:=by
 intro u hu;obtain⟨p,hp,G⟩:=ME.1 hu;have E:=h p hp;simp only[List.mem_cons,List.not_mem_nil,or_false]at G;rcases G with rfl|rfl|rfl|rfl
 ·exact E.al.one
 ·rfl
 ·exact E.mr.one
 exact E.ed.one
theorem QlZ {F:LN→Array Obj→Prop}(st:∀{L:LN}{w w':World},F L w.heap→Step L w w'→F L w'.heap)(up:∀{L L':LN}{H:Array Obj},F L H→(∀b∈L',b∈L∨H.size≤b)→F L' H){N b:Nat}{w w':World}
  (h:∀L:LN,(∀x∈L,x<N)→F L w.heap) (hb:b<N) (hs:Step [b] w w'):∀L:LN,(∀x∈L,x<N)→F L w'.heap:=λL E =>
 up (st (h (b::L) (λx hx=>by
  rcases Lc.1 hx with rfl|hx
  ·exact hb
  exact E x hx)) (hs.mono (λx hx=>by simp only[List.mem_singleton]at hx;subst hx;exact Lp))) (λx hx=>.inl (Lk _ hx))
theorem UE.nil (n:Nat):UE n [] []:=λu _ _=>by simp[mget]
set_option maxHeartbeats 8000000 in
theorem QhZ {L:LN}{w:World}{c:CL}(h0:ZJ L w.heap c)(hz:Kb w 4096):
  QE prog 141 [c.val] w λr w'=>Step [] w w'∧∃vp,r=.tuple #[vp,.int .i64 (Y1 c.cel)]∧(Y1 c.cel≠0→vp=.pointer none) ∧
   (Y1 c.cel=0→∃b q,vp=.pointer (some ⟨b,0,none⟩)∧q.c=c∧Qol q∧KD [] b w'.heap q∧∀L:LN,(∀x∈L,x<w.heap.size)→Zp L w'.heap q.s.va q.s.vm q.s.ve q.s.a∧(ZJ L w.heap c→KD L b w'.heap q)):=by
 have h:=h0.up (L':=[]) (by simp);have hE:=QiY c.cel;refine Zb (Y1 c.cel) λE gr=>?_;rw[gr]at hE ⊢;refine QE.of_W func141 O ntmps141 results141 (by simp) ?_;refine Qc<|xl O<|QQ (us:=c.cells) O λb1 w1 gs mf h3=>x Qf<|Qe ?_;have mg:=h3.lt
 refine Qc<|x (Qn h3 O O)<|x (Zx [(0,c.cells)] ⟨O,O,Z⟩)<|xl O<|QQ (us:=[c.ve,c.vc,c.vr,c.vx,c.vk,nS,.int .i64 0,nS,nS,nS,nS,.int .i64 0,nS,nS,nS,nS,nS,nS,.map none]) O λb10 w2 hN mh G=>Qe ?_;have h4:=gs.trans hN;have gt:=G.lt;have hO:=h3.ext hN;have h2:=h.ext h4;have hge:w.heap.size≤b10:=by omega
 have mj:b1≠b10:=by omega
 refine Qc<|Qe<|Qg<|Qc<|Qb<|Qb<|x (Qn hO O O)<|xl O<|xf<|(Qif h2 (hz.ext h4)).mono ?_;rintro r3 w3 ⟨hf,v3,vq,e3,rfl,hP⟩;obtain⟨h6,pa,pva,pvm,pve,qs,rfl,gu,gv,gx⟩:=hP.shape;have gy:=h4.trans hf;refine Qb<|x (Qj O O)<|x (Qj O O)<|x (Qj O O)<|x (QG O)<|x (Qa O)<|xl O<|Jy (us:=[pva,.int .i64 pa.st,pvm,pve]) (G.ext hf) O O O (by simp) gu rfl λw4 gz G =>
  x (QG rfl)<|x (Qa O)<|xl O<|QB (j:=9) (u:=vq) G O O (by simp) gv λJ g0 G=>Qe ?_
 have hg:Step [b10] w3 J:=gz.trans' g0;have hh:Step [] w J:=gy.then1 hg hge;refine Qc<|Qb<|x (Q7 O O)<|xe<|Q4 rfl (λhi=>?_) (λhi=>?_)
 ·have g1:plE c.cel≠0:=by rw[←h6];exact hi
  rw[if_pos g1,←h6]at hE;subst hE;refine Qc<|Qb<|x Qf<|Qe ?_;exact Qk ⟨[_,_],⟨O,O,Z⟩,hh,.pointer none,O,λ_=>O,λe=>absurd e hi⟩
 have hQ:e3=0:=Lm.1 hi;rw[if_neg (by rw[←h6,hQ];decide)]at hE;obtain⟨hck,h7,mo,g2⟩:=gx hQ;have V:=ZX hck;refine Qi ?_;have h8:=(hO.ext hf).step hg (by simp;omega);have h5:=h.ext hh;have mq:=h.co.arr.le;have ms:=h.rq.arr.le;have mt:c.co.length≤8:=by have:=V.c8;have e:c.cel.co.length=c.co.length:=Lh ..;omega
 have mu:c.co.length+c.rq.length≤12:=by have:=V.cr;have e:c.cel.co.length=c.co.length:=Lh ..;have e':c.cel.rq.length=c.rq.length:=Lh ..;omega
 refine Qg<|Qg<|QV (Step [] J) [(0,true),(1,true),(2,true),(3,true),(5,true),(6,true),(4,false),(7,false),(8,false),(9,false),(10,true),(11,true),(12,true),(13,true),(14,true),(15,true),(16,false),(17,true),(18,true),(19,false),(20,true)] mixed (by rfl) (by kernel_rfl) (Step.drew _ _) ?_
 refine p (λ_=>Qm)<|p (λ_=>Qm)<|p (λ_=>Qa O)<|pq (λ_ hc=>Qd (h8.step hc (by simp)) rfl rfl)<|p (λ_=>Qa rfl) <|
  pq (λ_ hc=>Qd (h8.step hc (by simp)) rfl rfl)<|pk<|xf<|(Qcs (h5.co.ext (Step.drew _ _))).mono ?_
 rintro r6 w6 ⟨hS,hT⟩;have hA:=(Step.drew [] J).trans hS;refine⟨hA,?_⟩;refine pk<|xf<|(Qcs (h5.rq.ext hA)).mono ?_;rintro r7 w7 ⟨hB,g3⟩;have hU:=hA.trans hB;refine⟨hU,?_⟩;have mv:=hS.size;have mw:=hB.size;have mx:({ J with drawn:=J.drawn+1 }:World).heap.size=J.heap.size:=rfl
 have g4:Zv [] w7.heap r7 (c.rq.map (·.p)).length 4 ((c.rq.map (·.p)).flatMap Za):=QW g3 (by rw[Lh];omega) (by simp);have g5:=Qp hT;refine pk<|Qck (Qs hT hB) O g4 O (Qkx λp hp=>by
   obtain⟨q,hq,rfl⟩:=Lx.1 hp;exact(h.rq.each q hq)) (by rw[Lh,Lh];omega) (by omega) λv8 w8 hV g6 my=>?_
 have hj:Step [] J w8:=hU.then g6 (λb hb=>.inr (by have:=(g5 b hb).1;omega));refine⟨hj,?_⟩;have hC:=hh.trans hj;have mz:=hj.size;have g7:YX [] w8.heap v8 (c.co.map (·.p)++c.rq.map (·.p)):=by
  rw[←Lj,←LC]at hV;exact Qg0 hV (by rw[Lj,Lh,Lh];omega) (by simp) (λp hp=>by
   rcases Lq.1 hp with hp|hp
   ·obtain⟨q,hq,rfl⟩:=Lx.1 hp;exact(h.co.each q hq).ext hC
   obtain⟨q,hq,rfl⟩:=Lx.1 hp;exact(h.rq.each q hq).ext hC)
 have g8:∀p∈c.co.map (·.p)++c.rq.map (·.p),Q2 p.a:=λp hp=>by
   rcases Lq.1 hp with hp|hp
   ·obtain⟨q,hq,rfl⟩:=Lx.1 hp;exact V.co q.it (LL hq)
   obtain⟨q,hq,rfl⟩:=Lx.1 hp;exact V.rq q.it (LL hq)
 refine pk<|xf<|(Ue (km:=4096) g7 (hz.ext hC) (by decide) (U6 g8)).mono ?_;rintro r9 w9 ⟨g9,v9,vt,e9,rfl,hR⟩;rw[Lv,Qem,Qky]at hR;have hW:=hR.e;obtain⟨sa,sva,svm,sve,ts,rfl,ka,kb,kc⟩:=hR.shape;have hD:=hj.trans g9;refine⟨hD,?_⟩;refine p (λ_=>Qm)<|p (λ_=>Qj O O)<|p (λ_=>Qj O O)<|p (λ_=>Qj O O)<|p (λ_=>QG O) <|
  p (λ_=>Qa O)<|pkl (hl:=by kernel_rfl)<|Jy (us:=[sva,.int .i64 sa.st,svm,sve]) (G.ext hD) O O O (by simp) ka rfl λm0 ke G=>p (λ_=>QG rfl)<|p (λ_=>Qa rfl) <|
  pkl (hl:=by kernel_rfl)<|QB (j:=14) (u:=vt) G O O (by simp) kb λhn kf G=>p (λ_=>Qf)<|pe ?_
 have hX:Step [b10] w9 hn:=ke.trans' kf;have ho:Step [b10] J hn:=hD.any.trans' hX;have hr:Step [] w hn:=hh.then1 ho hge;refine Qc<|Qb<|x (Q7 O O)<|xe<|Q4 rfl (λhF=>?_) (λhF=>?_)
 ·rw[←hW]at hE;subst hE;refine Qc<|Qb<|x Qf<|Qe ?_;exact Qk ⟨[_,_],⟨O,O,Z⟩,hr,.pointer none,O,λ_=>O,λe=>absurd e hF⟩
 have hY:e9=0:=Lm.1 hF;have hZ:E=0:=by rw[hE,←hW,hY]
 obtain⟨kg,m1,kh⟩:=kc hY;refine Qi ?_;have ki:=h8.step ho (by simp;omega);refine Qc<|Qb<|Qb<|x (Qn ki O O)<|xl O<|xf<|(ja (h.ext hr)).mono ?_;rintro m2 T ⟨he,vs,vx,vk,qx,ks,rfl,kj,kk,ga⟩;have hG:=ga [] (by simp)
 refine xl rfl<|Z0 XZ λbm kn gb m3 ko=>x (QG O)<|x (Qa O)<|xl O<|Jy (us:=[vs,vx,vk]) ((G.ext he).ext gb) O O O (by simp) ⟨hG.1.one,hG.2.1.arr.one,hG.2.2.arr.one,Z⟩ rfl λm4 gc G =>
  x (QG rfl)<|x (Qa O)<|xl O<|QB (j:=18) (u:=.map (some bm)) G O O (by simp) rfl λhH ge G=>xe ?_
 have m5:=hr.size;have m6:=he.size;have m7:=ho.size;have m8:=hg.size;have m9:=hf.size;have pc:b10<T.heap.size:=by omega
 have kp:bm≠b10:=by omega
 have gg:Step [b10] T hH:=(gb.any.trans' gc).trans' ge;have kq:Step [b10] kn hH:=gc.trans' ge;have kr:ZI XZ hH.heap bm []:=ko.step kq (by simpa using kp);have kt:Step [b10] w3 T:=(hg.trans' ho).trans he;have ku:Step [b10] w9 T:=hX.trans he;have kv:=hr.trans he
 have fP:∀{w':World},Step [b10] T w'→∀L:LN,(∀x∈L,x<w2.heap.size)→Zp L w'.heap pva pvm pve pa∧X6 L w'.heap vq qs:=λhs =>
  QlZ (F:=λL H=>Zp L H pva pvm pve pa∧X6 L H vq qs) (λh hs=>⟨h.1.st hs,h.2.st hs⟩) (λh I=>⟨h.1.up I,h.2.up I⟩) g2 gt (kt.trans' hs)
 have fS:∀{w':World},Step [b10] T w'→∀L:LN,(∀x∈L,x<w8.heap.size)→Zp L w'.heap sva svm sve sa∧X6 L w'.heap vt ts:=λhs =>
  QlZ (F:=λL H=>Zp L H sva svm sve sa∧X6 L H vt ts) (λh hs=>⟨h.1.st hs,h.2.st hs⟩) (λh I=>⟨h.1.up I,h.2.up I⟩) kh (by omega) (ku.trans' hs)
 have fC:∀{w':World},Step [b10] T w'→∀L:LN,(∀x∈L,x<hn.heap.size)→QH L w'.heap vs (szs c.cel.co)∧qj L w'.heap vx qx∧zU L w'.heap vk ks:=λhs =>
  QlZ (F:=λL H=>QH L H vs (szs c.cel.co)∧qj L H vx qx∧zU L H vk ks) (λh hs=>⟨h.1.st hs,h.2.1.st hs,h.2.2.st hs⟩) (λh I=>⟨h.1.up I,h.2.1.up I,h.2.2.up I⟩) ga (by omega) hs
 have gh:=(jl (Xr V.co) h7).1;have kw:=(XN (Xr V.co) h7).1.nd;simp only[]at gh;have kx:(auts c.cel.co).length=c.co.length:=by unfold auts;show((c.co.map IV.it).map _).length=_;simp
 have gi:=(fP gg [] (by simp)).2;have pd:=gi.arr.le;refine Qg<|Qc<|Qb<|x (QG O)<|x (Qa O)<|x (Qd G O O)<|x (Qr gi.arr O)<|Qb<|xe ?_
 refine Qh<|QA (α:=Nat×List (ByteArray×Value)) [(6,7),(61,73)] (λz=>[(61,.int .i64 z.1)]) (λz w'=>z.1≤qs.length∧Step [b10] T w'∧QT w'.heap b10 259 [c.ve,c.vc,c.vr,c.vx,c.vk,pva,.int .i64 pa.st,pvm,pve,vq,sva,.int .i64 sa.st,svm,sve,vt,vs,vx,vk,.map (some bm)]∧ZI XZ w'.heap bm z.2∧UE c.co.length z.2 ((qs.take z.1).map (·.2))) (λz=>qs.length - z.1) (by rfl) (0,[]) La
  ⟨Ll _,gg,G,kr,UE.nil _⟩ ?_
 rintro⟨k,mm⟩ g hI ⟨hk,U,ht,hu,hv⟩;simp only[]at hk hu hv;have hw:Step [] w hI:=kv.then1 U hge;refine Qc<|x (Qz O O)<|xe<|Qg<|QC O (λhJ=>?_) (λhJ=>?_)
 ·refine Qy ?_;have kz:qs.length≤k:=by have k0:¬(k:Int)<(qs.length:Int):=hJ;omega
  rw[Ln kz]at hv;refine Qc<|Qb<|x Qf<|Qe ?_;have aP:=fP U [] (by simp);have aS:=fS U [] (by simp);have aC:=fC U [] (by simp)
  refine Qk ⟨[_,_],⟨O,O,Z⟩,hw,.pointer (some ⟨b10,0,none⟩),by rw[hZ];rfl,λe=>absurd hZ e,λ_=>⟨b10,⟨c,⟨pva,pvm,pve,pa⟩,vq,qs,⟨sva,svm,sve,sa⟩,vt,ts,vs,vx,vk,qx,ks,bm,mm⟩,O,O,⟨hck,h7,kg,kj,kk,hv⟩,⟨ht,by simp,h.ext hw,aP.1,aS.1,aP.2,aS.2,aC.1,aC.2.1,aC.2.2,by simp,hu⟩,λL I=>?_⟩⟩;have bP:=fP U L (λb hb=>by have:=I b hb;omega);have bS:=fS U L (λb hb=>by have:=I b hb;omega)
  have bC:=fC U L (λb hb=>by have:=I b hb;omega);exact⟨bS.1,λk4=>⟨ht,λhm=>by have:=I _ hm;omega,k4.ext hw,bP.1,bS.1,bP.2,bS.2,bC.1,bC.2.1,bC.2.2,λhm=>by have h9:bm<w.heap.size:=I bm hm;omega,hu⟩⟩
 have Y:k<qs.length:=by have k0:(k:Int)<(qs.length:Int):=hJ;omega
 have gj:=(fP U [] (by simp)).2;have hK:=Li Y;have hM:(qs.take (k+1)).map (·.2)=(qs.take k).map (·.2)++[(qs[k]'Y).2]:=by rw[Le Y,Lv];rfl
 have gk:(qs[k]'Y).2∉(qs.take k).map (·.2):=by
  have h1:((qs.take (k+1)).map (·.2)).Nodup:=by
   rw[List.map_take];exact kw.sublist (List.take_sublist _ _)
  rw[hM]at h1;intro hm;exact(Mx.1 h1).2.2 _ hm _ (Lb.2 O) O
 have k5:((qs.take k).map (·.2)).length=k:=by rw[Lh,Ly];omega
 refine Qi<|Qg<|Qh<|Qc<|Qb<|xig (g:=Yf) jk gj.arr O O Y λpf gl=>?_;refine Zb (qs[k]'Y) λq hq=>?_;rw[hq]at gl hK hM gk;have k6:=gj.each q hK;have gm:=gh q.2 (LL hK);have gn:=gm.bd (m:=4096) (λa ha=>(Xr V.co a ha).st1);have pg:q.2.length=c.co.length:=by rw[gm.1,kx]
 refine x (Qv gl O)<|x Qf<|Qe<|QV (Step [] hI) [(0,true),(1,true),(2,true),(3,true),(4,true),(6,true),(5,false),(7,false)] mixed (by rfl) (by kernel_rfl) (Step.drew _ _) ?_;refine p (λ_=>Qm)<|p (λ_=>QG O)<|p (λ_=>Qa O)<|pq (λ_ hc=>Qd (ht.step hc (by simp)) rfl rfl) <|
  p (λ_=>Qm)<|p (λ_=>Qm)<|pk<|xf<|(Qef (k6.ext (Step.drew _ _)) ((hz.ext hw).ext (Step.drew _ _)) gn (by omega)).mono ?_
 rintro ph pj ⟨rfl,k7⟩;have hy:=(Step.drew [] hI).trans k7;refine⟨hy,?_⟩;refine pkl (hl:=by kernel_rfl)<|YI (k:=K5 q.2) (hu.ext hy) O O λk8 go k9=>pe ?_;have ma:Step [b10] T k8:=(U.trans hy).then1 go (by omega);have mc:=(ht.ext hy).step go (by simp;omega);have gq:=hv.add gk (λx hx=>(gn x hx).1);rw[k5]at gq;refine Qx<|QM O O<|Qb<|xe ?_
 exact⟨(k+1,mput mm (K5 q.2) (.int .i64 (k:Int))),by simp only[];omega,La,Y,ma,mc,k9,by simp only[];rw[hM];exact gq⟩
structure PI (w0:World)(b4 b7 b10 b11 bS n:Nat)(gc:LV)(pf:Value)(bi i:Nat)(vs:Value)(st:List Ed)(W:World):Prop where
 stp:Step [] w0 W
 B4:QT W.heap b4 171 gc
 B7:QT W.heap b7 178 [pf]
 B10:QT W.heap b10 244 [vs]
 B11:QT W.heap b11 175 [.slice (some ⟨bS,0,none⟩) n n]
 BS:QT W.heap bS 4 ((flg n (stS st)).map Value.bool)
 BI:QT W.heap bi 3 [.int .i64 i]
 R:Z2 243 w0.heap.size W vs st
 ne:∀b∈ob vs,b≠b4∧b≠b7∧b≠b10∧b≠b11∧b≠bS∧b≠bi
theorem PI.ext {E:World}{G H b10 b11 bS n:Nat}{gc:LV}{pf:Value}{bi i:Nat}{vs:Value}{st:List Ed}{W W':World}(h:PI E G H b10 b11 bS n gc pf bi i vs st W)(hs:Step [] W W'):PI E G H b10 b11 bS n gc pf bi i vs st W' :=
 ⟨h.stp.trans hs,h.B4.ext hs,h.B7.ext hs,h.B10.ext hs,h.B11.ext hs,h.BS.ext hs,h.BI.ext hs,Qs h.R hs,h.ne⟩
theorem PI.stb {G:World}{H I b10 b11 bS n:Nat}{gc:LV}{pf:Value}{bi i:Nat}{vs:Value}{st:List Ed}{B:Nat}(J:G.heap.size≤B):Z4 B (λW=>PI G H I b10 b11 bS n gc pf bi i vs st W):=λW W' X h hs E =>
 ⟨Z4.step J W W' X h.stp hs E,Z4.blk W W' X h.B4 hs E,Z4.blk W W' X h.B7 hs E,Z4.blk W W' X h.B10 hs E,Z4.blk W W' X h.B11 hs E,Z4.blk W W' X h.BS hs E,Z4.blk W W' X h.BI hs E,Z4.row W W' X h.R hs E,h.ne⟩
def K4 (lo hi:Nat)(ds:LN)(W:World):Prop:=ds.Nodup∧∀D∈ds,lo≤D∧D<hi∧W.heap[D]?=some (.deferred (some []))
theorem K4.step {lo hi:Nat}{ds:LN}{W W':World}{X:LN}(h:K4 lo hi ds W)(hs:Step X W W')(E:∀b∈X,∃o:Obj,W.heap[b]?=some o∧o.isCells=true):K4 lo hi ds W':=by
 refine⟨h.1,λD hD=>⟨(h.2 D hD).1,(h.2 D hD).2.1,?_⟩⟩;have h3:=(h.2 D hD).2.2;refine(hs.block D (LD.1 h3).1 (λhx=>?_)).trans h3;obtain⟨o,h4,h5⟩:=E D hx;rw[h3]at h4;cases h4;cases h5
theorem K4.ext {lo hi:Nat}{ds:LN}{W W':World}(h:K4 lo hi ds W)(hs:Step [] W W'):K4 lo hi ds W':=h.step hs (λ_ hb=>by cases hb)
theorem K4.blk {lo hi:Nat}{ds:LN}{W W':World}{b T:Nat}{cs:LV}(h:K4 lo hi ds W)(hs:Step [b] W W')(hb:QT W.heap b T cs):K4 lo hi ds W' :=
 h.step hs (λc hc=>by
  have e:c=b:=by simpa using hc
  subst e;exact hb.cells)
theorem K4.up {lo hi E:Nat}{ds:LN}{W:World}(h:K4 lo hi ds W)(G:hi≤E):K4 lo E ds W:=⟨h.1,λD hD=>⟨(h.2 D hD).1,by have:=(h.2 D hD).2.1;omega,(h.2 D hD).2.2⟩⟩
theorem K4.cons {lo hi:Nat}{ds:LN}{W:World}{D:Nat}(h:K4 lo hi ds W)(hl:lo≤hi)(hD:hi≤D)(hd:W.heap[D]?=some (.deferred (some []))):K4 lo W.heap.size (D::ds) W:=by
 have G:=(LD.1 hd).1;refine⟨List.nodup_cons.2 ⟨λhm=>by have:=(h.2 D hm).2.1;omega,h.1⟩,λE hE=>?_⟩;rcases Lc.1 hE with rfl|hE
 ·exact⟨by omega,G,hd⟩
 have:=h.2 E hE;exact⟨this.1,(LD.1 this.2.2).1,this.2.2⟩
theorem K4.stb {lo hi B:Nat}{ds:LN}(G:hi≤B):Z4 B (λW=>K4 lo hi ds W):=λW W' X h hs E=>by
 refine⟨h.1,λD hD=>⟨(h.2 D hD).1,(h.2 D hD).2.1,?_⟩⟩;have h3:=(h.2 D hD).2.2;refine(hs.block D (LD.1 h3).1 (λhx=>?_)).trans h3;have:=(E D hx).1;have:=(h.2 D hD).2.1;omega
theorem K4.own {lo hi:Nat}{ds:LN}{W:World}{base e sz n:Nat}{v:Value}{cs:LV}(h:K4 lo hi ds W)(E:W.ownsRow base e sz v n cs):∀b∈ob v,b∉ds:=λb hb hd=>by
 obtain⟨o,h1,h2⟩:=Go.Lg.Zo E b hb;rw[(h.2 b hd).2.2]at h1;cases h1;cases h2
theorem K4.rst {lo hi B:Nat}{L ds:LN}{W W':World}(h:K4 lo hi ds W)(hs:XS B L W W'):K4 lo hi ds W':=⟨h.1,λD hD=>⟨(h.2 D hD).1,(h.2 D hD).2.1,hs.other D _ (h.2 D hD).2.2 O⟩⟩
theorem PI.add {G:World}{H I b10 b11 bS n:Nat}{gc:LV}{pf:Value}{bi i:Nat}{v v':Value}{st:List Ed}{x:Ed}{W W1 W2 W3 W4:World}{B:Nat}{L0:LN}(h:PI G H I b10 b11 bS n gc pf bi i v st W)
  (hd:bS≠H∧bS≠I∧bS≠b10∧bS≠b11∧bS≠bi∧b10≠H∧b10≠I∧b10≠b11∧b10≠bi) (V:B≤W.heap.size) (Y:G.heap.size≤bS) (ha:G.heap.size≤b10) (hi:H<W.heap.size∧I<W.heap.size∧b11<W.heap.size∧bi<W.heap.size)
  (h1:Step [bS] W W1) (hS:QT W1.heap bS 4 ((flg n (stS (st++[x]))).map Value.bool)) (h2:Step [] W1 W2) (h3:Step (ob v) W2 W3) (hR:Z2 243 G.heap.size W3 v' (st++[x])) (J:∀b∈ob v',b∈ob v∨W2.heap.size≤b)
  (h4:Step [b10] W3 W4) (he:QT W4.heap b10 244 [v']) (U:∀b∈ob v,b∈L0∨B≤b):
  PI G H I b10 b11 bS n gc pf bi i v' (st++[x]) W4∧XS B (bS::b10::L0) W W4∧(∀b∈ob v',b∈L0∨B≤b):=by
 have hj:=h1.size;have hk:=h2.size;have hl:=h3.size;have ho:=h.BS.lt;have hp:=h.B10.lt;have key:∀b T cs,QT W.heap b T cs→b≠bS→b∉ob v→b≠b10→QT W4.heap b T cs:=λb T cs hb e1 e2 e3=>(((hb.step h1 (by simpa using e1)).ext h2).step h3 e2).step h4 (by simpa using e3);have E:=h.ne;have nin:∀b,(∀c∈ob v,c≠b)→b∉ob v:=λb hb hm=>hb b hm O;have hf:b10∉ob v:=nin _ λc hc=>(E c hc).2.2.1
 have hg:bS∉ob v:=nin _ λc hc=>(E c hc).2.2.2.2.1;have hh:W2.ownsRow G.heap.size 243 3 v st.length (st.flatMap QD):=Qs (Ql h.R h1 (λb hb=>by have:=(E b hb).2.2.2.2.1;simpa using this)) h2;have hge:∀b∈ob v',b≠H∧b≠I∧b≠b10∧b≠b11∧b≠bS∧b≠bi:=λb hb=>by
  rcases J b hb with hb|hb
  ·exact E b hb
  omega
 refine⟨⟨?_,key _ _ _ h.B4 hd.1.symm (nin _ λc hc=>(E c hc).1) hd.2.2.2.2.2.1.symm,key _ _ _ h.B7 hd.2.1.symm (nin _ λc hc=>(E c hc).2.1) hd.2.2.2.2.2.2.1.symm,he,
  key _ _ _ h.B11 hd.2.2.2.1.symm (nin _ λc hc=>(E c hc).2.2.2.1) hd.2.2.2.2.2.2.2.1.symm,((hS.ext h2).step h3 hg).step h4 (by have:=hd.2.2.1;simpa using this),key _ _ _ h.BI hd.2.2.2.2.1.symm (nin _ λc hc=>(E c hc).2.2.2.2.2) hd.2.2.2.2.2.2.2.2.symm,
  Ql hR h4 (λb hb=>by have:=(hge b hb).2.2.1;simpa using this),hge⟩,?_,λb hb=>?_⟩
 ·exact(((h.stp.then1 h1 Y).trans h2).then h3 (λb hb=>.inr (Qp h.R b hb).1)).then1 h4 ha
 ·have r1:XS B (bS::b10::L0) W W1:=XS.blk h1 V h.BS (.inl (by simp));have r2:XS B (bS::b10::L0) W1 W2:=XS.ext h2 (by omega);have r3:XS B (bS::b10::L0) W2 W3:=XS.step h3 (by omega) (λb hb=>⟨(U b hb).imp (λh=>by simp[h]) id,Go.Lg.Zo hh b hb⟩)
  have r4:XS B (bS::b10::L0) W3 W4:=XS.blk h4 (by omega) ((((h.B10.step h1 (by have:=hd.2.2.1;simpa using this.symm)).ext h2).step h3 hf)) (.inl (by simp));exact((r1.trans r2).trans r3).trans r4
 rcases J b hb with hb|hb
 ·exact U b hb
 exact .inr (by omega)
theorem jU {n:Nat}{l:LI}{x:Int}(G:0≤x)(h1:x<(n:Int)):((flg n l).map Value.bool)[0+x.toNat*1]?=some (.bool (decide (x∈l))):=by
 have E:x.toNat<(flg n l).length:=by rw[qa];omega
 have e:((x.toNat:Nat):Int)=x:=by omega
 simp only[Nat.zero_add,Nat.mul_one,List.getElem?_map,List.getElem?_eq_getElem E,Option.map_some,jT,e]
theorem Qjd {w:World}{va vm ve:Value}{a:QO}{n bF from0 gw gp:Nat}{fw fp:Func}[Fu prog gw fw][Fu prog gp fp]{cw cp:LV}{wt:Int→Bool}{pm:Ed→Bool}
  (hA:Zp [] w.heap va vm ve a) (hn:a.st=(n:Int)) (kj:n≤4096) (kk:∀e∈a.ed,0≤e.2.2∧e.2.2<(n:Int)) (kn:a.ed.Pairwise λx y=>x.1≤y.1) (ko:QT w.heap bF 3 ((gA (n+1) (fS a.ed)).map (Value.int .i64))) (hf:from0<n)
  (kp:∀(s:Int) (w':World),0≤s→s<(n:Int)→Step [] w w'→QE prog gw (.int .i64 s::cw) w' λr hO=>r=.bool (wt s)∧Step [] w' hO)
  (kq:∀(e:Ed) (w':World),e∈a.ed→Step [] w w'→QE prog gp (.agg (QD e).toArray::cp) w' λr hO=>r=.bool (pm e)∧Step [] w' hO):
  QE prog 81 [.agg #[va,.int .i64 a.st,vm,ve,.slice (some ⟨bF,0,none⟩) (n+1) (n+1)],.int .i64 from0,.func (.func gw) #[] cw.toArray,.func (.func gp) #[] cp.toArray] w λr w' =>
   Step [] w w'∧∃v,r=.tuple #[v,.bool (pth wt pm a.ed n from0).2]∧Qt 3 w.heap.size w' v (pth wt pm a.ed n from0).1:=by
 refine QE.of_G 3 func81 O ntmps81 results81 (by simp) ?_;refine Q6<|QJ (by rfl) (by rfl) ?_;refine xl rfl<|QQ (us:=[va,.int .i64 a.st,vm,ve,.slice (some ⟨bF,0,none⟩) (n+1) (n+1)]) O λb4 w1 kr ql hQ=>xl O<|QQ (us:=[.func (.func gp) #[] cp.toArray]) O λb7 w2 kt qo gj=>x Qf<|Qe<|Q6<|QJ (by rfl) (by rfl) ?_
 refine Qb<|x (QN ⟨O,O,O,Z⟩)<|xl O<|QF (us:=[[.int .i64 from0,.int .i64 (-1),.int .i64 (-1)]]) O O (by decide) (by simp) ⟨rfl,rfl,Z⟩ λbL w3 gk qr gl =>
  xl rfl<|Qu (us:=[nS]) O λb10 w4 hR q0 gm=>xl O<|QB (u:=.slice (some ⟨bL,0,none⟩) 1 1) gm O O (by decide) O λw5 h9 hB=>xe ?_
 have q4:=hQ.lt;have q5:=gj.lt;have q9:=gl.lt;have j1:=gm.lt;have j2:=h9.size;have hS:Step [] w1 w5:=((kt.trans gk).trans hR).then1 h9 (by omega);have ku:Step [] w2 w5:=(gk.trans hR).then1 h9 (by omega);have kv:Step [] w3 w5:=hR.then1 h9 (by omega);refine Q6<|QJ (by rfl) (by rfl) ?_
 refine x (Qa O)<|x (Qa O)<|x (Qd (hQ.ext hS) O O)<|xl O<|XB (n:=n) (congrArg (Value.int .i64) hn) (congrArg (Value.int .i64) hn) (by omega) λbS w6 kw j3 gn=>xl O<|Qu (us:=[nS]) O λb11 w7 go j4 gq =>
  xl rfl<|QB (u:=.slice (some ⟨bS,0,none⟩) n n) gq O O (by decide) O λw8 hT gr=>xe ?_
 have za:=gn.lt;have zb:=gq.lt;have zv:=hT.size;have h0:Step [] w5 w8:=(kw.trans go).then1 hT (by omega);have kx:Step [] w6 w8:=go.then1 hT (by omega);have kz:QT w6.heap bS 4 ((flg n []).map Value.bool):=by
  have e:(List.replicate n (Value.bool false).cells.toList).flatten=(flg n []).map Value.bool:=by
   simp only[flg,List.not_mem_nil,decide_false,List.map_map];apply LY
   ·simp[Value.cells]
   intro i h1 h2;simp[Value.cells]
  rw[←e];exact gn
 refine Q6<|QJ (by rfl) (by rfl) ?_;refine x (Qd gr O O)<|Qb<|x (QS (i:=from0) O O hf)<|xl O<|QB (j:=0+from0*1) (u:=.bool true) (kz.ext kx) O O (by rw[Lh,qa];omega) O λw9 hk k0=>xe ?_;have z0:=hk.size;have k4:QT w9.heap bS 4 ((flg n [(from0:Int)]).map Value.bool):=by
  have e1:=jS (n:=n) (l:=[]) (x:=(from0:Int)) (by omega);rw[Mb]at e1;rw[←e1,NC];simpa using k0
 refine Q6<|Q6<|QJ (by rfl) (by rfl) ?_;refine xl rfl<|Qu (us:=[.int .i64 0]) O λgs z2 k5 k6 gt=>xl O<|QB (u:=.int .i64 0) gt O O (by decide) O λhC gu k7=>xe ?_;have z3:=gt.lt;have z4:=gu.size;have hl:Step [] w9 hC:=k5.then1 gu k6;have k8:Step [] w hC:=(((kr.trans hS).trans h0).then1 hk (by omega)).trans hl
 have k9:PI w b4 b7 b10 b11 bS n [va,.int .i64 a.st,vm,ve,.slice (some ⟨bF,0,none⟩) (n+1) (n+1)] (.func (.func gp) #[] cp.toArray) gs 0 (.slice (some ⟨bL,0,none⟩) 1 1) [((from0:Int),-1,-1)] hC:=by
  refine⟨k8,(((hQ.ext hS).ext h0).step hk (by simp;omega)).ext hl,(((gj.ext ku).ext h0).step hk (by simp;omega)).ext hl,((hB.ext h0).step hk (by simp;omega)).ext hl,
   (gr.step hk (by simp;omega)).ext hl,k4.ext hl,k7,?_,λb hb=>?_⟩
  ·have ma:=(((gl.ext kv).ext h0).step hk (by simp;omega)).ext hl;exact ma.own (n:=1) (sz:=3) O (by omega) (by omega)
  have e:b=bL:=by simpa[ob]using hb
  subst e;omega
 refine ZP<|Vy (α:=Nat×Nat×Nat×Value×List Ed) [(8,9),(12,15),(26,68),(70,94)] (λz=>[(12,.pointer (some ⟨z.2.1,0,none⟩))])
  (λz ds W=>PI w b4 b7 b10 b11 bS n [va,.int .i64 a.st,vm,ve,.slice (some ⟨bF,0,none⟩) (n+1) (n+1)] (.func (.func gp) #[] cp.toArray) z.2.1 z.1 z.2.2.2.1 z.2.2.2.2 W∧QcY n z.2.2.2.2∧K4 w.heap.size W.heap.size ds W∧hC.heap.size≤W.heap.size ∧
   (z.2.1≠b4∧z.2.1≠b7∧z.2.1≠b10∧z.2.1≠b11∧z.2.1≠bS)∧w.heap.size≤z.2.1∧z.1≤z.2.2.2.2.length∧n+1≤z.2.2.1+z.1∧QeL wt pm a.ed z.2.2.1 z.1 z.2.2.2.2=pth wt pm a.ed n from0)
  (λz=>n+1 - z.1) (by rfl) (0,gs,n+1,.slice (some ⟨bL,0,none⟩) 1 1,[((from0:Int),-1,-1)]) La
  ⟨k9,Qlt hf,⟨Mw,λ_ h=>by cases h⟩,Lt _,by simp only[];omega,by simp only[];omega,by simp,by simp,rfl⟩ ?_
 rintro⟨i,bi,fu,vs,st⟩ g ds hE ⟨Y,h3,h4,z5,mc,mf,mg,mh,J⟩;simp only[]at Y h3 h4 mc mf mg mh J;have z9:=h3.le;refine Q6<|Q6<|QJ (by rfl) (by rfl) ?_;refine x (Qd Y.BI O O)<|x (Qd Y.B10 O O)<|x (Qr (QW (L:=[]) Y.R (by omega) (by simp)) rfl)<|x (Qz rfl rfl)<|xe<|zP rfl (λhU=>?_) (λhU=>?_)
 ·refine JX ?_;have mj:¬i<st.length:=by have mo:¬(i:Int)<(st.length:Int):=hU;omega
  rw[QeK mj]at J;refine Q6<|QJ (by rfl) (by rfl) ?_;refine x Qf<|Qe<|KI ⟨λD hD=>(h4.2 D hD).2.2,h4.1,[nS,.bool false],λw' hF=>⟨⟨O,O,Z⟩,Y.stp.then hF (λD hD=>.inr (h4.2 D hD).1),_,by rw[←J];rfl,?_⟩⟩;rw[←J];exact QP _ _ _ _
 have ho:i<st.length:=by have mo:(i:Int)<(st.length:Int):=hU;omega
 refine Exists.elim (MN (show fu≠0 by omega)) λmq hV=>?_;subst hV;rw[QeL,if_pos ho]at J;have hW:=h3.rg _ (QlU ho);have hge:=Qg7 ho;refine Zb (gE st i) λs0 ms=>?_;rw[ms]at J hW hge;refine Ya<|Q6<|ZP<|Q6<|Q6<|QJ (by rfl) (by rfl) ?_
 refine Qb<|x (Qd Y.B10 O O)<|x (Qd Y.BI O O)<|xie (i:=i) (QW (L:=[]) Y.R (by omega) (by simp)) rfl rfl ho λa35 gv=>?_;rw[hge]at gv;refine x (Zg O)<|x (Qv (gv.fld 0 (.int .i64 s0.1) O) O)<|xl O<|xc (first:=[]) (capt:=cw) O<|(kp s0.1 _ hW.1 hW.2 Y.stp).mono ?_;rintro r13 hi ⟨rfl,hX⟩;have hz13:=hX.size;have hj:=Y.ext hX;have gx:=h4.ext hX;refine xe ?_
 refine KJ rfl (λhY=>?_) (λhY=>?_)
 ·rw[if_pos hY]at J;have mt:K4 w.heap.size hE.heap.size ds hi:=gx;refine Q6<|QJ (by rfl) (by rfl) ?_;refine Qe<|Q6<|Q6<|QJ (by rfl) (by rfl) ?_;refine x (Qd hj.BI O O)<|Qe<|ZP<|Vy (α:=Nat×Nat×Value×LI) [(13,14),(40,58)] (λz=>[(13,z.2.2.1),(14,.int .i64 z.2.1)])
   (λz gy W=>gy=ds∧Step [] hi W∧K4 w.heap.size hE.heap.size ds W∧z.2.1<z.1∧z.2.1<st.length∧Qt 3 hi.heap.size W z.2.2.1 z.2.2.2∧z.2.2.2.length+z.1≤i+1∧z.2.2.2++wrd st z.1 z.2.1=wrd st (i+1) i)
   (λz=>z.1) (by rfl) (i+1,i,nS,[]) ⟨O,O,Z⟩ ⟨O,Step.refl _ _,mt,by simp,ho,QP _ _ _ _,by simp,rfl⟩ ?_
  rintro⟨f,k,v,acc⟩ g gy hg ⟨rfl,h5,hG,mu,hv,hq,mv,hr⟩;simp only[]at mu hv hq mv hr;refine Exists.elim (MN (show f≠0 by omega)) λf' hV=>?_;subst hV;rw[wrd]at hr;have hH:=Qg7 hv;have mw:=h3.par k hv;refine Zb (gE st k) λs1 mx=>?_;rw[mx]at hr hH mw;have I:=hj.ext h5;have my:=h5.size;refine Q6<|Q6<|QJ (by rfl) (by rfl) ?_
  refine x (Qd I.B10 O O)<|Qb<|xie (i:=k) (QW (L:=[]) I.R (by omega) (by simp)) rfl rfl hv λa42 gz=>?_;rw[hH]at gz;refine x (Zg O)<|x (Qv (gz.fld 1 (.int .i64 s1.2.1) O) O)<|x (ZN O O)<|xe<|zP O (λhZ=>?_) (λhZ=>?_)
  ·refine JX ?_;rw[if_neg hZ,LK]at hr;refine Q6<|QJ (by rfl) (by rfl) ?_;refine Qb<|xl O<|xf<|(zM hq (by omega)).mono ?_;rintro r15 g0 ⟨g1,V⟩;have hI:=hG.step V (Go.Lg.Zo hq);refine xe<|Q6<|QJ (by rfl) (by rfl) ?_;refine Qb<|x Qf<|Qe<|KI ⟨λD hD=>(hI.2 D hD).2.2,hI.1,[v,.bool true],λw' hF=>⟨⟨O,O,Z⟩,?_,v,by rw[←J];rfl,?_⟩⟩
   ·exact((I.stp).then V (λb hb=>.inr (by have:=(Qp hq b hb).1;omega))).then hF (λD hD=>.inr (hI.2 D hD).1)
   rw[←J,←hr];exact Zc (Ql g1 hF (hI.own g1)) (by omega)
  rw[if_pos hZ]at hr;refine Ya<|Q6<|ZP<|QJ (by rfl) (by rfl) ?_;refine Qb<|x (Qd I.B10 O O)<|Qb<|xie (i:=k) (QW (L:=[]) I.R (by omega) (by simp)) rfl rfl hv λa54 g2=>?_;rw[hH]at g2
  refine x (Zg O)<|x (Qv (g2.fld 2 (.int .i64 s1.2.2) O) O)<|xl O<|QF (us:=[[.int .i64 s1.2.2]]) O O (by decide) (by simp) ⟨rfl,rfl,Z⟩ λb57 h6 H hb57 mz=>xl rfl<|Q5 (m:=1) (news:=[.int .i64 s1.2.2]) (Qs hq H) rfl rfl rfl (mz.at (L:=[]) (by simp)) (by simp[Value.oneCell']) (by omega) (by have:=H.size;omega) λm0 g3 m1 ht hn17 =>
   Qe ?_
  have g4:Step [] hi g3:=(h5.trans H).then ht (λb hb=>.inr (Qp hq b hb).1);have g5:=hj.ext g4;have m2:=(hG.ext H).step ht (Go.Lg.Zo (Qs hq H));refine QJ (by rfl) (by rfl) ?_;refine x (Qd g5.B10 O O)<|Qb<|xie (i:=k) (QW (L:=[]) g5.R (by omega) (by simp)) rfl rfl hv λa48 g6=>?_;rw[hH]at g6
  refine x (Zg O)<|x (Qv (g6.fld 1 (.int .i64 s1.2.1) O) O)<|Qe ?_;have m3:s1.2.1=(s1.2.1.toNat:Int):=by omega
  refine⟨(f',s1.2.1.toNat,m0,acc++[s1.2.2]),by simp only[];omega,⟨O,congrArg (Value.int .i64) m3,Z⟩,O,g4,m2,by simp only[];omega,by simp only[];omega,Qt.snoc m1,?_,?_⟩
  ·simp only[List.length_append,List.length_singleton];omega
  rw[LB];exact hr
 rw[if_neg (by rw[hY];decide)]at J;have g7:s0.1=(s0.1.toNat:Int):=by omega
 refine Ya ?_;have m4:Step [] hi { hi with drawn:=hi.drawn+1 }:=Step.drew _ _
 refine Q6<|Qah (Step [] hi) [(0,true),(1,true),(2,true),(3,true),(4,true),(5,true),(6,false)] mixed (by rfl) (by rfl) (by kernel_rfl) (Step.drew _ _) ?_;refine pq (λ_ hc=>Qn (hj.B4.ext hc) O O)<|pq (λ_ hc=>Qd (hj.B10.ext hc) O O)<|pq (λ_ hc=>Qd (hj.BI.ext hc) O O) <|
  pie (i:=i) O (QW (L:=[]) hj.R (by omega) (by simp)) rfl rfl ho λa65 g8=>?_
 rw[hge]at g8;refine p (λ_=>Zg O)<|pq (λ_ hc=>Qv ((g8.fld 0 (.int .i64 s0.1) O).ext hc) O)<|pk<|xf<|(QhA (va:=va) (vm:=vm) (ve:=ve) (vf:=.slice (some ⟨bF,0,none⟩) (n+1) (n+1)) (st:=a.st) (s:=s0.1)).mono ?_;rintro r18 hg ⟨h5,b1,b2,rfl,hb1,hb2,m5,g9⟩;have hJ:=m4.trans h5;refine⟨hJ,pe ?_⟩;have I:=hj.ext hJ;have hG:K4 w.heap.size hE.heap.size ds hg:=gx.ext hJ
 have my:=hJ.size;have m6:qm (bS::b10::ob vs) hg.heap ve a.ed:=by
  refine(hA.ed.up (L':=bS::b10::ob vs) (λb hb=>.inr ?_)).step I.stp (λ_ hb=>by cases hb);rcases Lc.1 hb with rfl|hb
  ·omega
  rcases Lc.1 hb with rfl|hb
  ·omega
  exact(Qp I.R b hb).1
 rw[g7]at g9;have m7:w.heap.size≤hg.heap.size:=I.stp.size;have ga:bS≠b4∧bS≠b7∧bS≠b10∧bS≠b11∧bS≠bi∧b10≠b4∧b10≠b7∧b10≠b11∧b10≠bi:=by omega
 have hqS:=I.BS.lt;have hqi:=I.BI.lt;refine ZP<|QkJ (α:={ e:Ed // e∈a.ed }) (bS::b10::ob vs) (by omega) (capt:=[.pointer (some ⟨b1,0,none⟩),.pointer (some ⟨b2,0,none⟩)]) O (enc:=λx=>.agg (QD x.1).toArray) (by decide)
  (QcC m5 g9 (ko.ext I.stp) m6 kn (by omega) kj)
  (λpre W=>∃v,PI w b4 b7 b10 b11 bS n [va,.int .i64 a.st,vm,ve,.slice (some ⟨bF,0,none⟩) (n+1) (n+1)] (.func (.func gp) #[] cp.toArray) bi i v ((pre.map (·.1)).foldl (J7 pm i) st) W∧QcY n ((pre.map (·.1)).foldl (J7 pm i) st)∧i<((pre.map (·.1)).foldl (J7 pm i) st).length ∧
   (∀b∈ob v,b∈ob vs∨hg.heap.size≤b)∧K4 w.heap.size hE.heap.size ds W∧hg.heap.size≤W.heap.size)
  (λpre=>Z4.ex λv=>(PI.stb m7).and ((Z4.pure _).and ((Z4.pure _).and ((Z4.pure _).and ((K4.stb (by omega)).and (λW W' X h hs _=>LJ h hs.size))))))
  ⟨vs,I,h3,ho,λb hb=>.inl hb,hG,Lt _⟩
  (λf x f' W=>∃b,f'=upd (upd f 69 (.agg (QD x.1).toArray)) 15 (.pointer (some ⟨b,0,none⟩))∧hg.heap.size≤b∧QT W.heap b 129 (QD x.1))
  (λx f'=>Z4.ex λb=>(Z4.pure _).and ((Z4.pure _).and Z4.blk)) ?_ ?_ ?_
 ·rintro l pre ⟨e,he⟩ W ⟨v,E,T,ha,hw,hu,hy⟩;refine QJ (by rfl) (by rfl) ?_;refine xl O<|Qu (us:=[.int .i64 0,.int .i64 0,.int .i64 0]) O λb15 g0 V ka hz=>xl O<|Qo (us:=QD e) hz O O O O ⟨O,O,O,Z⟩ λh6 H m8=>xe ?_;have hK:Step [] W h6:=V.then1 H ka;have m9:=hK.size
  exact⟨O,XS.ext hK hy,⟨v,E.ext hK,T,ha,hw,hu.ext hK,by omega⟩,b15,O,by omega,m8⟩
 ·rintro l pre ⟨e,he⟩ f' W ⟨v,E,T,ha,hw,hu,hy⟩ ⟨b15,rfl,ka,hz⟩ _;have h7:((pre++[(⟨e,he⟩:{ e:Ed // e∈a.ed })]).map (·.1)).foldl (J7 pm i) st=J7 pm i ((pre.map (·.1)).foldl (J7 pm i) st) e:=by rw[Lv,Mn];rfl
  refine Zb ((pre.map (·.1)).foldl (J7 pm i) st) λG gb=>?_;rw[gb]at E T ha h7;have hL:=kk e he;have gc:e.2.2=(e.2.2.toNat:Int):=by omega
  have ge:=QkA (pm:=pm) T ha hL;have hM:=jU (l:=stS G) hL.1 hL.2;have pa:=T.le;have m9:=E.stp.size;refine ZP<|Q6<|QJ (by rfl) (by rfl) ?_;by_cases hN:e.2.2∈stS G
  ·rw[decide_eq_true hN]at hM;have h8:J7 pm i G e=G:=by unfold J7;rw[if_neg (λh=>h.1 hN)]
   refine x (Qd E.B11 O O)<|x (Qa O)<|x (Qd hz O O)<|x (QS (i:=e.2.2.toNat) O (congrArg (Value.int .i64) gc) (by omega))<|x (Qd E.BS O hM)<|x (Zq O)<|x Qm <|
    xs rfl<|xs O<|xs O<|x (Qq O)<|xe ?_
   refine K3 O<|Ya ?_;refine⟨XS.refl _ _ _,v,?_⟩;rw[h7,h8];exact⟨E,T,ha,hw,hu,hy⟩
  rw[decide_eq_false hN]at hM;refine x (Qd E.B11 O O)<|x (Qa O)<|x (Qd hz O O)<|x (QS (i:=e.2.2.toNat) O (congrArg (Value.int .i64) gc) (by omega))<|x (Qd E.BS O hM)<|x (Zq O)<|x Qm <|
   x (Qd E.B7 O O)<|x (Qn hz O O)<|xl O<|xc (first:=[]) (capt:=cp) O<|(kq e _ he E.stp).mono ?_
  rintro r19 g0 ⟨rfl,V⟩;refine x (Qq O)<|xe ?_;have hh:=E.ext V;have hz15:=V.size;refine KJ O (λhp=>?_) (λhp=>?_)
  ·have h8:J7 pm i G e=G++[(e.2.2,(i:Int),e.2.1)]:=by unfold J7;rw[if_pos ⟨hN,hp⟩]
   rw[h8]at h7 ge;have kb:=hz.ext V;refine Q6<|QJ (by rfl) (by rfl) ?_;refine x (Qd hh.B11 O O)<|x (Qa O)<|x (Qd kb O O)<|x (QS (i:=e.2.2.toNat) O (congrArg (Value.int .i64) gc) (by omega))<|xl O<|QB (j:=0+e.2.2.toNat*1) (u:=.bool true) hh.BS O O (by rw[Lh,qa];omega) O λh6 H pc=>xe ?_
   have pd:QT h6.heap bS 4 ((flg n (stS (G++[(e.2.2,(i:Int),e.2.1)]))).map Value.bool):=by
    have e1:=jS (n:=n) (l:=stS G) hL.1;have e2:stS (G++[(e.2.2,(i:Int),e.2.1)])=stS G++[e.2.2]:=by unfold stS;rw[Lv];rfl
    rw[e2,←e1,NC];simpa using pc
   have hz16:=H.size;have hB:=hh.B10.step H (by have:=ga.2.2.1;simpa using this.symm);have pf:=hh.BI.step H (by have:=ga.2.2.2.2.1;simpa using this.symm);have pg:Z2 243 w.heap.size h6 v G:=Ql hh.R H (λb hb=>by have:=(hh.ne b hb).2.2.2.2.1;simpa using this);have kc:=kb.step H (by simp;omega);refine QJ (by rfl) (by rfl) ?_
   refine x (Qd hB O O)<|x (Qa O)<|x (Qd kc O O)<|x (Qd pf O O)<|x (Qa O)<|x (Qd kc O O)<|x (QN ⟨O,O,O,Z⟩) <|
    xl rfl<|QF (us:=[[.int .i64 e.2.2,.int .i64 i,.int .i64 e.2.1]]) O O (by decide) (by simp) ⟨rfl,rfl,Z⟩ λb92 g3 ht hb92 ph =>
    xl rfl<|Q5 (m:=1) (news:=[.int .i64 e.2.2,.int .i64 i,.int .i64 e.2.1]) (Qs pg ht) O O O (ph.at (L:=[]) (by simp)) (by simp[Value.oneCell']) (by omega) (by have:=ht.size;omega) λke w18 kf kg pj=>?_
   have pn:b10∉ob v:=λhm=>(hh.ne b10 hm).2.2.1 O;refine xl O<|QB (u:=ke) ((hB.ext ht).step kg pn) O O (by simp) (QW (L:=[]) kf (by omega) (by simp)).one λpo pp pt=>xe ?_;have gg:=hh.add (B:=hg.heap.size) (L0:=ob vs) ga (by omega) (by omega) (by omega) ⟨by omega,by omega,by omega,by omega⟩ H pd ht kg (Z2.snoc kf) pj pp pt hw
   have gh:XS hg.heap.size (bS::b10::ob vs) W po:=(XS.ext V hy).trans gg.2.1;have hzf:=gh.lw.size;refine⟨gh,ke,?_⟩;rw[h7];exact⟨gg.1,ge.1,ge.2,gg.2.2,hu.rst gh,by omega⟩
  have h8:J7 pm i G e=G:=by unfold J7;rw[if_neg (λh=>by rw[hp]at h;exact absurd h.2 (by decide))]
  refine Ya<|⟨XS.ext V hy,v,?_⟩;rw[h7,h8];exact⟨hh,T,ha,hw,hu.ext V,by omega⟩
 rintro D xs W hD pu ⟨v,E,T,ha,hw,hu,hy⟩ pw;rw[pu,←g7]at E T ha;refine Zb ((ZC a.ed s0.1).foldl (J7 pm i) st) λG gb=>?_;rw[gb]at E T ha J;have pa:=T.le;have pz:=hu.cons (by omega) (by omega) pw;refine Q6<|Q6<|QJ (by rfl) (by rfl) ?_;refine x (Qd E.BI O O)<|xe<|QJ (by rfl) (by rfl) ?_
 refine xl O<|Qu (us:=[.int .i64 0]) O λbj w20 p0 kh p4=>xl O<|QB (u:=.int .i64 i) p4 O O (by simp) rfl λw21 p5 ki=>xe ?_;refine QJ (by rfl) (by rfl) ?_;refine x (Qd ki O O)<|QM O O<|xl O<|QB (u:=.int .i64 ((i:Int)+1)) ki O O (by simp) rfl λp6 p7 p8=>xe ?_;have gi:Step [] W p6:=(p0.then1 p5 kh).then1 p7 kh;have p9:=gi.size;have U:=E.ext gi
 have qc:=(pz.ext gi).up p9;have qf:∀b∈ob v,b≠bj:=λb hb e=>by have:=Q3 E.R b hb;omega
 refine⟨(i+1,bj,mq,v,G),by simp only[];omega,La,⟨U.stp,U.B4,U.B7,U.B10,U.B11,U.BS,p8,U.R,λb hb=>⟨(U.ne b hb).1,(U.ne b hb).2.1,(U.ne b hb).2.2.1,(U.ne b hb).2.2.2.1,(U.ne b hb).2.2.2.2.1,qf b hb⟩⟩,T,qc,by omega,?_,by simp only[];omega,ha,by simp only[];omega,J⟩;have t4:=E.B4.lt;have t7:=E.B7.lt;have t10:=E.B10.lt;have t11:=E.B11.lt;have tS:=E.BS.lt
 simp only[];omega
end Go.Proofs.YtjcgijbhaemldaaGreatDoor
namespace Go.Lg
theorem U5 {W W':World}{base e sz n:Nat}{v:Value}{cs:LV}(h:W.ownsRow base e sz v n cs)(hc:Jt [] W W'):W'.ownsRow base e sz v n cs :=
 ⟨h.1,h.2.imp id λ⟨g,cap,cur,h1,h2,h3,h4⟩=>⟨g,cap,cur,h1,h2,hc g _ (by simp) h3 rfl,h4⟩⟩
theorem Jt.mono {L L':LN}{W W':World}(h:Jt L W W')(E:∀b∈L,b∈L'):Jt L' W W':=λk o G=>h k o (λhm=>G (E k hm))
theorem Jt.nonc {X:LN}{W W':World}(hs:Step X W W')(E:∀r∈X,∃o:Obj,W.heap[r]?=some o∧o.isCells=false):Jt [] W W':=λk o _ hk hc =>
 (hs.block k (LD.1 hk).1 (λhx=>by
  obtain⟨G,h1,h2⟩:=E k hx;rw[hk]at h1;cases h1;rw[hc]at h2;cases h2)).trans hk
theorem Z4.cst {B:Nat}{I:World→Prop}(h:∀W W',I W→Jt [] W W'→W.heap.size≤W'.heap.size→I W'):Z4 B I:=λW W' _ hi hs E=>h W W' hi (Jt.nonc hs (λr G=>(E r G).2)) hs.size
end Go.Lg
namespace Go.Proofs.YtjcgijbhaemldaaGreatDoor
open Go.Lg
theorem ZY.cst {base:Nat}{av:LN}{W W':World}{v:Value}{n sz:Nat}{cs:LV}(h:ZY base av W.heap v n sz cs)(hc:Lg.Jt [] W W')(E:W.heap.size≤W'.heap.size):ZY base av W'.heap v n sz cs:=λL G=>(h L G).cst (hc.mono (by simp)) E
abbrev Yw (r:Rsn):LV:=[.int .i64 r.st,.int .i64 r.kd,.int .i64 r.ix,.int .i64 r.ev]
structure JI (base:Nat)(w:World)(v1 v2 v3 v4:Value)(cos rqs:List TV)(pls:LI)(fbs:List Rsn):Prop where
 o1:w.ownsRow base 39 1 v1 cos.length (cos.flatMap Yf)
 o2:w.ownsRow base 39 1 v2 rqs.length (rqs.flatMap Yf)
 o3:Qt 3 base w v3 pls
 o4:w.ownsRow base 190 4 v4 fbs.length (fbs.flatMap Yw)
 d12:Dj v1 v2
 d13:Dj v1 v3
 d14:Dj v1 v4
 d23:Dj v2 v3
 d24:Dj v2 v4
 d34:Dj v3 v4
 e1:∀p∈cos,ZY base (ob v1++(ob v2++(ob v3++ob v4))) w.heap p.1 p.2.length 1 (p.2.map (.int .i64))
 e2:∀p∈rqs,ZY base (ob v1++(ob v2++(ob v3++ob v4))) w.heap p.1 p.2.length 1 (p.2.map (.int .i64))
theorem Ux {v:Value}:Dj (nS) v:=λb hb=>by simp[ob]at hb
theorem JI.nil (base:Nat)(w:World):JI base w (nS) (nS) (nS) (nS) [] [] [] []:=
 ⟨QP _ _ _ _,QP _ _ _ _,QP _ _ _ _,QP _ _ _ _,Ux,Ux,Ux,Ux,Ux,Ux,λp hp=>(by cases hp),λp hp=>(by cases hp)⟩
variable {base:Nat}{w w7 w8:World}{v1 v2 v3 v4 v':Value}{cos rqs:List TV}{pls:LI}{fbs:List Rsn}
theorem JI.ext (h:JI base w v1 v2 v3 v4 cos rqs pls fbs)(hs:Step [] w w7):JI base w7 v1 v2 v3 v4 cos rqs pls fbs :=
 ⟨Qs h.o1 hs,Qs h.o2 hs,Qs h.o3 hs,Qs h.o4 hs,h.d12,h.d13,h.d14,h.d23,h.d24,h.d34,λp hp=>(h.e1 p hp).ext hs,λp hp=>(h.e2 p hp).ext hs⟩
theorem JI.low {X:LN}(h:JI base w v1 v2 v3 v4 cos rqs pls fbs)(hs:Step X w w7)(E:∀b∈X,b<base):JI base w7 v1 v2 v3 v4 cos rqs pls fbs:=by
 have k:∀{e sz n:Nat} {v:Value} {cs:LV},w.ownsRow base e sz v n cs→w7.ownsRow base e sz v n cs:=λo=>Ql o hs (λb hb hm=>by have:=(Qp o b hb).1;have:=E b hm;omega);exact⟨k h.o1,k h.o2,k h.o3,k h.o4,h.d12,h.d13,h.d14,h.d23,h.d24,h.d34,λp hp=>(h.e1 p hp).low hs E,λp hp=>(h.e2 p hp).low hs E⟩
theorem JI.cst (h:JI base w v1 v2 v3 v4 cos rqs pls fbs)(hc:Lg.Jt [] w w7)(E:w.heap.size≤w7.heap.size):JI base w7 v1 v2 v3 v4 cos rqs pls fbs :=
 ⟨U5 h.o1 hc,U5 h.o2 hc,U5 h.o3 hc,U5 h.o4 hc,h.d12,h.d13,h.d14,h.d23,h.d24,h.d34,λp hp=>(h.e1 p hp).cst hc E,λp hp=>(h.e2 p hp).cst hc E⟩
theorem Uy {a b E:Value}{n:Nat}(h:Dj a b)(G:∀x∈ob E,x∈ob a∨n≤x)(hb:∀x∈ob b,x<n):Dj E b:=λx hx hm=>by
 rcases G x hx with h1|h1
 ·exact h x h1 hm
 have:=hb x hm;omega
theorem KX {a b E:Value}{n:Nat}(h:Dj a b)(G:∀x∈ob E,x∈ob b∨n≤x)(ha:∀x∈ob a,x<n):Dj a E:=λx hx hm=>by
 rcases G x hm with h1|h1
 ·exact h x hx h1
 have:=ha x hx;omega
theorem JI.lt (h:JI base w v1 v2 v3 v4 cos rqs pls fbs):(∀x∈ob v1,x<w.heap.size)∧(∀x∈ob v2,x<w.heap.size)∧(∀x∈ob v3,x<w.heap.size)∧∀x∈ob v4,x<w.heap.size:=⟨Q3 h.o1,Q3 h.o2,Q3 h.o3,Q3 h.o4⟩
theorem QaY {a b c d:LN}{x:Nat}(h:x∈a++(b++(c++d))):x∈a∨x∈b∨x∈c∨x∈d:=by simpa using h
theorem qX {a b c d:LN}{x:Nat}(h:x∈a∨x∈b∨x∈c∨x∈d):x∈a++(b++(c++d)):=by simpa using h
theorem JI.a1 {N e:Nat}{q:TV}(h:JI base w v1 v2 v3 v4 cos rqs pls fbs)(hs:Step [] w w7)(hq:w7.ownsRow N e 1 q.1 q.2.length (q.2.map (.int .i64)))(I:q.2.length≤1099511627776)(T:w.heap.size≤N)(hb:base≤w.heap.size)(J:w8.ownsRow base 39 1 v' (cos.length+1) (cos.flatMap Yf++Yf q))
  (G:Step (ob v1) w7 w8) (H:∀b∈ob v',b∈ob v1∨w7.heap.size≤b):JI base w8 v' v2 v3 v4 (cos++[q]) rqs pls fbs:=by
 have l:=h.lt;have U:=hs.size;have E:=h.ext hs;have av:∀b∈ob v'++(ob v2++(ob v3++ob v4)),b∈ob v1++(ob v2++(ob v3++ob v4))∨w7.heap.size≤b:=by
  intro b hb;rcases QaY hb with h1|h1|h1|h1
  ·rcases H b h1 with h2|h2
   ·exact .inl (qX (.inl h2))
   exact .inr h2
  ·exact .inl (qX (.inr (.inl h1)))
  ·exact .inl (qX (.inr (.inr (.inl h1))))
  exact .inl (qX (.inr (.inr (.inr h1))))
 have st:Step (ob v1++(ob v2++(ob v3++ob v4))) w7 w8:=G.mono (λb hb=>qX (.inl hb));have g:∀{v:Value} {n sz:Nat} {cs:LV},ZY base (ob v1++(ob v2++(ob v3++ob v4))) w7.heap v n sz cs→ZY base (ob v'++(ob v2++(ob v3++ob v4))) w8.heap v n sz cs:=λa=>a.app st av
 refine⟨by rw[Lj,LC];simpa using J,Ql E.o2 G (λb hb hm=>h.d12 b hm hb),Ql E.o3 G (λb hb hm=>h.d13 b hm hb),Ql E.o4 G (λb hb hm=>h.d14 b hm hb),Uy h.d12 H (λx hx=>by have:=l.2.1 x hx;omega),Uy h.d13 H (λx hx=>by have:=l.2.2.1 x hx;omega),Uy h.d14 H (λx hx=>by have:=l.2.2.2 x hx;omega),h.d23,h.d24,h.d34,?_,?_⟩
 ·exact λp hp=>by
   rcases Lq.1 hp with hp|hp
   ·exact g (E.e1 p hp)
   simp only[List.mem_singleton]at hp;subst hp;exact g (ZY.of_own hq I (by omega) (λb hb=>by
   rcases QaY hb with h1|h1|h1|h1
   ·have:=l.1 b h1;omega
   ·have:=l.2.1 b h1;omega
   ·have:=l.2.2.1 b h1;omega
   have:=l.2.2.2 b h1;omega))
 exact λp hp=>g (E.e2 p hp)
theorem JI.a2 {N e:Nat}{q:TV}(h:JI base w v1 v2 v3 v4 cos rqs pls fbs)(hs:Step [] w w7)(hq:w7.ownsRow N e 1 q.1 q.2.length (q.2.map (.int .i64)))(I:q.2.length≤1099511627776)(T:w.heap.size≤N)(hb:base≤w.heap.size)(J:w8.ownsRow base 39 1 v' (rqs.length+1) (rqs.flatMap Yf++Yf q))
  (G:Step (ob v2) w7 w8) (H:∀b∈ob v',b∈ob v2∨w7.heap.size≤b):JI base w8 v1 v' v3 v4 cos (rqs++[q]) pls fbs:=by
 have l:=h.lt;have U:=hs.size;have E:=h.ext hs;have av:∀b∈ob v1++(ob v'++(ob v3++ob v4)),b∈ob v1++(ob v2++(ob v3++ob v4))∨w7.heap.size≤b:=by
  intro b hb;rcases QaY hb with h1|h1|h1|h1
  ·exact .inl (qX (.inl h1))
  ·rcases H b h1 with h2|h2
   ·exact .inl (qX (.inr (.inl h2)))
   exact .inr h2
  ·exact .inl (qX (.inr (.inr (.inl h1))))
  exact .inl (qX (.inr (.inr (.inr h1))))
 have st:Step (ob v1++(ob v2++(ob v3++ob v4))) w7 w8:=G.mono (λb hb=>qX (.inr (.inl hb)));have g:∀{v:Value} {n sz:Nat} {cs:LV},ZY base (ob v1++(ob v2++(ob v3++ob v4))) w7.heap v n sz cs→ZY base (ob v1++(ob v'++(ob v3++ob v4))) w8.heap v n sz cs:=λa=>a.app st av
 refine⟨Ql E.o1 G (λb hb hm=>h.d12 b hb hm),by rw[Lj,LC];simpa using J,Ql E.o3 G (λb hb hm=>h.d23 b hm hb),Ql E.o4 G (λb hb hm=>h.d24 b hm hb),KX h.d12 H (λx hx=>by have:=l.1 x hx;omega),h.d13,h.d14,Uy h.d23 H (λx hx=>by have:=l.2.2.1 x hx;omega),Uy h.d24 H (λx hx=>by have:=l.2.2.2 x hx;omega),h.d34,?_,?_⟩
 ·exact λp hp=>g (E.e1 p hp)
 exact λp hp=>by
  rcases Lq.1 hp with hp|hp
  ·exact g (E.e2 p hp)
  simp only[List.mem_singleton]at hp;subst hp;exact g (ZY.of_own hq I (by omega) (λb hb=>by
  rcases QaY hb with h1|h1|h1|h1
  ·have:=l.1 b h1;omega
  ·have:=l.2.1 b h1;omega
  ·have:=l.2.2.1 b h1;omega
  have:=l.2.2.2 b h1;omega))
theorem JI.a3 {q:Int}(h:JI base w v1 v2 v3 v4 cos rqs pls fbs)(hs:Step [] w w7)(I:w8.ownsRow base 3 1 v' (pls.length+1) (pls.map (.int .i64)++[.int .i64 q]))
  (G:Step (ob v3) w7 w8) (H:∀b∈ob v',b∈ob v3∨w7.heap.size≤b):JI base w8 v1 v2 v' v4 cos rqs (pls++[q]) fbs:=by
 have l:=h.lt;have J:=hs.size;have E:=h.ext hs;have av:∀b∈ob v1++(ob v2++(ob v'++ob v4)),b∈ob v1++(ob v2++(ob v3++ob v4))∨w7.heap.size≤b:=by
  intro b hb;rcases QaY hb with h1|h1|h1|h1
  ·exact .inl (qX (.inl h1))
  ·exact .inl (qX (.inr (.inl h1)))
  ·rcases H b h1 with h2|h2
   ·exact .inl (qX (.inr (.inr (.inl h2))))
   exact .inr h2
  exact .inl (qX (.inr (.inr (.inr h1))))
 have st:Step (ob v1++(ob v2++(ob v3++ob v4))) w7 w8:=G.mono (λb hb=>qX (.inr (.inr (.inl hb))));have g:∀{v:Value} {n sz:Nat} {cs:LV},ZY base (ob v1++(ob v2++(ob v3++ob v4))) w7.heap v n sz cs→ZY base (ob v1++(ob v2++(ob v'++ob v4))) w8.heap v n sz cs:=λa=>a.app st av
 refine⟨Ql E.o1 G (λb hb hm=>h.d13 b hb hm),Ql E.o2 G (λb hb hm=>h.d23 b hb hm),Qt.snoc I,Ql E.o4 G (λb hb hm=>h.d34 b hm hb),h.d12,KX h.d13 H (λx hx=>by have:=l.1 x hx;omega),h.d14,KX h.d23 H (λx hx=>by have:=l.2.1 x hx;omega),h.d24,Uy h.d34 H (λx hx=>by have:=l.2.2.2 x hx;omega),?_,?_⟩
 ·exact λp hp=>g (E.e1 p hp)
 exact λp hp=>g (E.e2 p hp)
theorem JI.a4 {q:Rsn}(h:JI base w v1 v2 v3 v4 cos rqs pls fbs)(hs:Step [] w w7)(I:w8.ownsRow base 190 4 v' (fbs.length+1) (fbs.flatMap Yw++Yw q))
  (G:Step (ob v4) w7 w8) (H:∀b∈ob v',b∈ob v4∨w7.heap.size≤b):JI base w8 v1 v2 v3 v' cos rqs pls (fbs++[q]):=by
 have l:=h.lt;have J:=hs.size;have E:=h.ext hs;have av:∀b∈ob v1++(ob v2++(ob v3++ob v')),b∈ob v1++(ob v2++(ob v3++ob v4))∨w7.heap.size≤b:=by
  intro b hb;rcases QaY hb with h1|h1|h1|h1
  ·exact .inl (qX (.inl h1))
  ·exact .inl (qX (.inr (.inl h1)))
  ·exact .inl (qX (.inr (.inr (.inl h1))))
  rcases H b h1 with h2|h2
  ·exact .inl (qX (.inr (.inr (.inr h2))))
  exact .inr h2
 have st:Step (ob v1++(ob v2++(ob v3++ob v4))) w7 w8:=G.mono (λb hb=>qX (.inr (.inr (.inr hb))));have g:∀{v:Value} {n sz:Nat} {cs:LV},ZY base (ob v1++(ob v2++(ob v3++ob v4))) w7.heap v n sz cs→ZY base (ob v1++(ob v2++(ob v3++ob v'))) w8.heap v n sz cs:=λa=>a.app st av
 refine⟨Ql E.o1 G (λb hb hm=>h.d14 b hb hm),Ql E.o2 G (λb hb hm=>h.d24 b hb hm),Ql E.o3 G (λb hb hm=>h.d34 b hb hm),by rw[Lj,LC];simpa using I,h.d12,h.d13,KX h.d14 H (λx hx=>by have:=l.1 x hx;omega),h.d23,KX h.d24 H (λx hx=>by have:=l.2.1 x hx;omega),KX h.d34 H (λx hx=>by have:=l.2.2.1 x hx;omega),?_,?_⟩
 ·exact λp hp=>g (E.e1 p hp)
 exact λp hp=>g (E.e2 p hp)
theorem yl (c:ZA)(pl:QO)(ps:List (LI)):∀(l:List (LI)) (i:Nat) (s:Spc),(l.zipIdx i).foldl (Qll c pl ps) s =
  ⟨s.a,s.co++l.map (·.take c.co.length),s.rq++l.map (·.drop c.co.length),s.pl++l.map (λt=>plx ps (t.take c.co.length)),s.fb++(l.zipIdx i).filterMap (λp=>rsn c pl (plx ps (p.1.take c.co.length)) p.2 p.1)⟩
 | [],i,s=>by simp
 | t::l,i,s=>by
  rw[List.zipIdx_cons,LM,yl c pl ps l (i+1)];unfold Qll;simp only[List.map_cons,List.append_assoc,List.cons_append,List.nil_append,List.filterMap_cons];cases rsn c pl (plx ps (t.take c.co.length)) i t with
  | none=>rfl
  | some r=>simp
theorem qF {c:ZA}{rs:LI}:∀{l:LI},(∀x∈wrf c.rq rs l,(c.ev.getD x.1.toNat ⟨.empty,false,false,false,0⟩).co=true)→rfd c rs l=none
 | [],_=>rfl
 | v::l,h=>by
  rw[wrf]at h;rw[rfd];by_cases h1:0≤rfr v 0 c.rq rs
  ·rw[if_pos h1]at h;have h2:=h _ Lp;simp only[]at h2;rw[if_neg (λe=>by rw[h2]at e;cases e.2)];exact qF λx hx=>h x (Lk _ hx)
  rw[if_neg h1]at h;rw[if_neg (λe=>h1 e.1)];exact qF h
theorem qE {c:ZA}{rs:LI}{x:Int×Int}{t:List (Int×Int)}:∀{l:LI}{p:List (Int×Int)},wrf c.rq rs l=p++x::t→(∀y∈p,(c.ev.getD y.1.toNat ⟨.empty,false,false,false,0⟩).co=true)→(c.ev.getD x.1.toNat ⟨.empty,false,false,false,0⟩).co=false→rfd c rs l=some (x.2,x.1)
 | [],p,h,_,_=>by simp[wrf]at h
 | v::l,p,h,hp,hx=>by
  rw[wrf]at h;rw[rfd];by_cases h1:0≤rfr v 0 c.rq rs
  ·rw[if_pos h1]at h;cases p with
   | nil =>
    simp only[List.nil_append,List.cons.injEq]at h;obtain⟨h2,_⟩:=h;subst h2;rw[if_pos ⟨h1,hx⟩]
   | cons y p =>
    simp only[List.cons_append,List.cons.injEq]at h;obtain⟨h2,h3⟩:=h;have h4:=hp y Lp;subst h2;rw[if_neg (λe=>by simp only[]at h4;rw[h4]at e;cases e.2)];exact qE h3 (λy hy=>hp y (Lk _ hy)) hx
  rw[if_neg h1]at h;rw[if_neg (λe=>h1 e.1)];exact qE h hp hx
theorem Qfu (c:ZA)(t:LI):vio c t=if(zV c.ex c.cs t).2.2=true then some ((zV c.ex c.cs t).1,(zV c.ex c.cs t).2.1)else none:=by
 unfold vio zV;by_cases h1:0≤fix (Vf t) 0 c.ex
 ·rw[if_pos h1,if_pos h1];rfl
 rw[if_neg h1,if_neg h1];by_cases h2:0≤fix (Uj t) 0 c.cs
 ·rw[if_pos h2,if_pos h2];rfl
 rw[if_neg h2,if_neg h2];rfl
def Qon (N:Nat)(H:Array Obj)(v:Value)(s:Spc):Prop:=∃va vm ve v1 v2 v3 v4 cos rqs,v=.agg #[va,.int .i64 s.a.st,vm,ve,v1,v2,v3,v4]∧cos.map (·.2)=s.co∧rqs.map (·.2)=s.rq ∧
 ∀L:LN,(∀b∈L,b<N)→Zp L H va vm ve s.a∧X6 L H v1 cos∧X6 L H v2 rqs∧QH L H v3 s.pl∧Zv L H v4 s.fb.length 4 (s.fb.flatMap Yw)
end Go.Proofs.YtjcgijbhaemldaaGreatDoor
namespace Go.Lg
open Go.RowKit
def sl (d:Option Nat)(f:Fr):Value:=match d with|some d=>f d|none=>undef
def ow:Value→LN
 | .slice (some a) _ _=>[a.block]
 | .pointer (some a)=>[a.block]
 | .map (some b)=>[b]
 | _=>[]
def Fa (p:Nat→Prop):LN→Prop
 | []=>True
 | i::l=>p i∧Fa p l
theorem Fa.all {p:Nat→Prop}:∀{l:LN},Fa p l→∀i∈l,p i
 | [],_,_,hi=>by cases hi
 | j::l,h,i,hi=>by
  rcases Lc.1 hi with rfl|hi
  ·exact h.1
  exact Fa.all h.2 i hi
theorem Fa.of {p:Nat→Prop}:∀{l:LN},(∀i∈l,p i)→Fa p l
 | [],_=>trivial
 | i::_,h=>⟨h i Lp,Fa.of λj hj=>h j (Lk _ hj)⟩
def qK (all:Array Oper)(opn:LN)(rest:List (Nat×Bool)):Nat→Array Bool→Bool
 | 0,ls=>YQ all rest ls && opn.all λi=>ls.getD i false
 | k+1,ls=>!(Region.ready .any all ls).isEmpty && (Region.ready .any all ls).all λi=>opn.contains i && qK all opn rest k (ls.setIfInBounds i true)
def UI (all:List Oper)(D:List (Nat×Nat)):LN→Bool
 | []=>true
 | i::l=>(QL all i).guard.isNone && (match (QL all i).dst with|some d=>Y8 D d && l.all (λj=>!((QL all j).dst == some d))|none=>false) && !l.contains i && UI all D l
theorem Z3 {all:List Oper}{D:List (Nat×Nat)}:∀{l:LN},UI all D l=true→(∀i∈l,(QL all i).guard=none∧∃d,(QL all i).dst=some d∧Y8 D d=true)∧∀i∈l,∀j∈l,i≠j→(QL all i).dst≠(QL all j).dst
 | [],_=>⟨λ_ h=>(by cases h),λ_ h=>(by cases h)⟩
 | i::l,h=>by
  simp only[UI,Bool.and_eq_true,Option.isNone_iff_eq_none]at h;obtain⟨⟨⟨I,hd⟩,hc⟩,hl⟩:=h;have ih:=Z3 hl;cases E:(QL all i).dst with
  | none=>rw[E]at hd;cases hd
  | some d =>
   rw[E]at hd;simp only[Bool.and_eq_true,List.all_eq_true,Bool.not_eq_true',beq_eq_false_iff_ne,ne_eq]at hd;have G:∀j∈l,(QL all j).dst≠some d:=λj hj=>hd.2 j hj;refine⟨λj hj=>?_,λj hj k hk H=>?_⟩
   ·rcases Lc.1 hj with rfl|hj
    ·exact⟨I,d,E,hd.1⟩
    exact ih.1 j hj
   rcases Lc.1 hj with hj1|hj1
   ·rcases Lc.1 hk with hk1|hk1
    ·exact absurd (hj1.trans hk1.symm) H
    rw[hj1,E];exact λe=>G k hk1 e.symm
   rcases Lc.1 hk with hk1|hk1
   ·rw[hk1,E];exact G j hj1
   exact ih.2 j hj1 k hk1 H
def Qnl (all:List Oper)(pre:List (Nat×Bool))(opn:LN)(rest:List (Nat×Bool))(D:List (Nat×Nat)):Bool :=
 Region.noSelect all.toArray && (pre.length+(opn.length+rest.length) == all.length) && Xn all.toArray pre (Array.replicate all.length false) && UI all D opn && qK all.toArray opn rest opn.length (Zt pre (Array.replicate all.length false))
  && opn.all λi=>!((Zt pre (Array.replicate all.length false)).getD i false)
section
variable {P:Program}{n:Nat}{f:Fr}{w:World}{all:List Oper}{C:World→Prop}{K:Fr→World→Prop}
theorem X1 {o:Oper}(h:o.guard=none):Z6 all f o=true:=by unfold Z6;rw[h]
theorem Qes {α:Type}{D:List (Nat×Nat)}{opn:LN}{rest:List (Nat×Bool)}{Φ:Nat→Value→World→Prop}{S:α→List (Nat×Value)}{I:α→World→Prop}{f1:Fr}(hs:Region.noSelect all.toArray=true)(V:UI all D opn=true)
  (hl:∀w w',C w→Step [] w w'→C w') (stab:∀i v w w',Φ i v w→Step [] w w'→Φ i v w')
  (hm:∀(g:Fr) w,Fa (λi=>Φ i (sl (QL all i).dst g) w) opn→(∀i∈opn,∀j∈opn,i≠j→∀b∈ow (sl (QL all i).dst g),b∉ow (sl (QL all j).dst g))→∃z,YL g (S z)∧I z w)
  (spec:Fa (λi=>∀g w,C w→XO P (QL all i) (mix D f1 g) w (λf' w'=>Step [] w w'∧Φ i (sl (QL all i).dst f') w'∧∀b∈ow (sl (QL all i).dst f'),w.heap.size≤b∧b<w'.heap.size)) opn)
  (fin:∀z g w,C w→I z w→XP P all C K rest (Vg (S z) (mix D f1 g)) w):
  ∀(k:Nat) (ls:Array Bool) (f:Fr) (w:World),ls.size=all.length→C w→qK all.toArray opn rest k ls=true→(∀t,Y8 D t=false→f t=f1 t)→(∀i∈opn,ls.getD i false=true→Φ i (sl (QL all i).dst f) w) →
   (∀i∈opn,ls.getD i false=true→(∀b∈ow (sl (QL all i).dst f),b<w.heap.size)∧∀j∈opn,ls.getD j false=true→i≠j→∀b∈ow (sl (QL all i).dst f),b∉ow (sl (QL all j).dst f))→XA P all C K (k+rest.length) ls f w
 | 0,ls,f,w,hc,hC,hp,Y,he,G=>by
  simp only[qK,Bool.and_eq_true,List.all_eq_true]at hp;obtain⟨z,h1,h2⟩:=hm f w (Fa.of λi hi=>he i hi (hp.2 i hi)) (λi hi j hj E=>(G i hi (hp.2 i hi)).2 j hj (hp.2 j hj) E);have h3:=fin z f w hC h2;rw[Y4 Y,Ym h1]at h3;rw[LO];exact Zy hs rest ls f w hc (.inl hC) hp.1 h3
 | k+1,ls,f,w,hc,hC,hp,Y,he,G=>by
  simp only[qK,Bool.and_eq_true,List.all_eq_true,List.contains_iff_mem]at hp;obtain⟨ha,hp⟩:=hp;rw[Nat.add_right_comm];refine YP (λh0=>(by rw[h0]at ha;cases ha)) ?_;intro i hi o ho;obtain⟨hh,hv⟩:=hp i hi;obtain⟨hg,d,hd,hw⟩:=(Z3 V).1 i hh;have hy:=(Z3 V).2;have hsp:=Fa.all spec i hh f w hC;rw[Y4 Y]at hsp;have H:=Zd ho;rw[H]at hg hd hsp;rw[X1 hg,cond_true]
  refine hsp.mono λv w' hx=>?_;have hn:=hl w w' hC hx.1;have hz:=hx.1.size;have old:∀j∈opn,j≠i→sl (QL all j).dst (QZ f o.dst v)=sl (QL all j).dst f:=λj hj E=>by
   obtain⟨_,dj,hq,_⟩:=(Z3 V).1 j hj;have ha:o.dst≠some dj:=λe=>hy j hj i hh E (by rw[hq,H];exact e.symm);rw[hq];exact ZT ha v
  have lsj:∀j,j≠i→(ls.setIfInBounds i true).getD j false=true→ls.getD j false=true:=λj E h=>by rw[getD_set_ne false (Ne.symm E)]at h;exact h
  refine⟨.inr (.inr hn),Qes hs V hl stab hm spec fin k _ _ _ (by simpa using hc) hn hv (λt ht=>?_) (λj hj U=>?_) (λj hj U=>⟨λb hb=>?_,λk hk hr hu b hb J=>?_⟩)⟩
  ·rw[ZT (by rw[hd];intro e;cases e;rw[hw]at ht;cases ht)];exact Y t ht
  ·by_cases E:j=i
   ·subst E;have h2:=hx.2.1;rw[H];exact h2
   rw[old j hj E];exact stab _ _ _ _ (he j hj (lsj j E U)) hx.1
  ·by_cases E:j=i
   ·subst E;rw[H]at hb;exact(hx.2.2 b hb).2
   rw[old j hj E]at hb;have:=(G j hj (lsj j E U)).1 b hb;omega
  by_cases E:j=i
  ·subst E;have T:k≠j:=Ne.symm hu;rw[old k hk T]at J;rw[H]at hb;have h1:=(G k hk (lsj k T hr)).1 b J;have h2:=(hx.2.2 b hb).1;omega
  rw[old j hj E]at hb;have h1:=(G j hj (lsj j E U)).1 b hb;by_cases T:k=i
  ·subst T;rw[H]at J;have h2:=(hx.2.2 b J).1;omega
  rw[old k hk T]at J;exact(G j hj (lsj j E U)).2 k hk (lsj k T hr) hu b hb J
theorem Qet {α:Type}{Q:Exit→Fr→World→Prop}{id:Nat}(C:World→Prop)(pre:List (Nat×Bool))(opn:LN)(rest:List (Nat×Bool))(D:List (Nat×Nat))(Φ:Nat→Value→World→Prop)(S:α→List (Nat×Value))(I:α→World→Prop)
  (hm:P.follows .mixedOrders=true) (J:Xb n all=true) (hp:Qnl all pre opn rest D=true) (hC:C { w with drawn:=w.drawn+1 }) (T:∀w w',C w→Step [] w w'→C w') (stab:∀i v w w',Φ i v w→Step [] w w'→Φ i v w')
  (U:∀(g:Fr) w,Fa (λi=>Φ i (sl (QL all i).dst g) w) opn→(∀i∈opn,∀j∈opn,i≠j→∀b∈ow (sl (QL all i).dst g),b∉ow (sl (QL all j).dst g))→∃z,YL g (S z)∧I z w)
  (h:XP P all C (λf1 _=>Fa (λi=>∀g w,C w→XO P (QL all i) (mix D f1 g) w (λE w'=>Step [] w w'∧Φ i (sl (QL all i).dst E) w'∧∀b∈ow (sl (QL all i).dst E),w.heap.size≤b∧b<w'.heap.size)) opn ∧
   ∀z g w,C w→I z w→XP P all C (λf w=>Q .normal f w) rest (Vg (S z) (mix D f1 g)) w) pre f { w with drawn:=w.drawn+1 }):W P n (.region id all.toArray true) Q f w:=by
 simp only[Qnl,Bool.and_eq_true,beq_iff_eq,List.all_eq_true,Bool.not_eq_true']at hp;obtain⟨⟨⟨⟨⟨hs,hl⟩,hq⟩,V⟩,Y⟩,G⟩:=hp;refine YW C hm J ?_;rw[←hl];have ha:(Array.replicate all.length false).size=all.length:=by simp
 have h1:=ZM (K:=λf w=>Q .normal f w) (m:=opn.length+rest.length) hs pre (Array.replicate all.length false) f _ hC hq (λf1 H=>Qes (P:=P) (C:=C) hs V T stab U H.1 H.2 opn.length (Zt pre (Array.replicate all.length false)) f1 _ (by rw[ZK];exact ha) hC Y (λ_ _=>O) (λi hi ht=>by rw[G i hi]at ht;cases ht) (λi hi ht=>by rw[G i hi]at ht;cases ht)) h;rw[hl]at h1 ⊢;exact h1
end
def zc (all:Array Oper)(i:Nat)(rest:List (Nat×Bool)):List (Nat×Bool)→Array Bool→Bool
 | [],ls=>Region.ready .any all ls == [i] && YQ all rest (ls.setIfInBounds i true)
 | (j,true)::l,ls=>(Region.ready .any all ls).contains j && Region.free .any all ls j && zc all i rest l (ls.setIfInBounds j true)
 | (j,false)::l,ls=>!(Region.ready .any all ls).isEmpty && (Region.ready .any all ls).all (λk=>k == j || k == i) && YQ all ((j,false)::(l++rest)) (ls.setIfInBounds i true) && zc all i rest l (ls.setIfInBounds j true)
def Yg (all:List Oper)(d:Nat)(l:List (Nat×Bool)):Bool:=l.all λp=>!((QL all p.1).looksAt all.toArray).contains d && !((QL all p.1).dst == some d)
def Qhf (all:List Oper)(pre l:List (Nat×Bool))(i:Nat)(rest:List (Nat×Bool)):Bool :=
 Region.noSelect all.toArray && (pre.length+(l.length+1+rest.length) == all.length) && Xn all.toArray pre (Array.replicate all.length false) && zc all.toArray i rest l (Zt pre (Array.replicate all.length false))
  && (QL all i).guard.isNone && (match (QL all i).dst with|some d=>Yg all d l|none=>false)
def XF (P:Program)(all:List Oper)(C:World→Prop)(K:Fr→World→Prop):List (Nat×Bool)→LN→Fr→World→Prop
 | [],_,f,w=>K f w
 | (j,true)::l,own,f,w=>Z6 all f (QL all j)=true∧∃v,(∀w',(zT (QL all j)=true→C w')→(execOp (ev f) (QL all j)).run P w'=.ok (.value v) w')∧XF P all C K l own (QZ f (QL all j).dst v) w
 | (j,false)::l,own,f,w=>Z6 all f (QL all j)=true∧∀w1,Step [] w w1→C w1→XO P (QL all j) f w1 λE w'=>C w'∧∃own',Step own w1 w'∧(∀b∈own',b∈own∨(w1.heap.size≤b∧b<w'.heap.size))∧XF P all C K l own' E w'
section
variable {P:Program}{n:Nat}{f:Fr}{w:World}{all:List Oper}{C:World→Prop}{K KF:Fr→World→Prop}
theorem XF.ext (E:∀f w w',KF f w→Step [] w w'→KF f w'):∀{l:List (Nat×Bool)}{own:LN}{f:Fr}{w w':World},XF P all C KF l own f w→Step [] w w'→XF P all C KF l own f w'
 | [],_,_,_,_,h,hs=>E _ _ _ h hs
 | (_,true)::_,_,_,_,_,h,hs=>by
  obtain⟨G,v,H,hx⟩:=h;exact⟨G,v,H,XF.ext E hx hs⟩
 | (_,false)::_,_,_,_,_,h,hs=>⟨h.1,λI h1 hc=>h.2 I (hs.trans h1) hc⟩
attribute [local semireducible] XO in
theorem Qep {o:Oper}(hs:∀cs b,o.op≠.select cs b){d:Nat}{v:Value}{K':Fr→World→Prop}(h1:d∉o.looksAt all.toArray)(h2:o.dst≠some d)(E:∀u w',K (QZ f o.dst u) w'→K' (QZ (QZ f o.dst u) (some d) v) w')
  (h:XO P o f w K):XO P o (QZ f (some d) v) w K':=by
 have hc:∀u,QZ (QZ f (some d) v) o.dst u=QZ (QZ f o.dst u) (some d) v:=λu=>KP f v u (λe he=>by cases he;exact h2);unfold XO at *;rw[Xw (all:=all) hs f (some d) v (λe he=>by cases he;exact h1)];generalize (execOp (ev f) o).run P w=r at *;cases r with
 | ok nx w' =>
  cases nx <;> simp only[upF]at h ⊢
  case value u=>rw[hc];exact E u w' h
  case skip=>rw[hc];exact E _ w' h
  case enter g args =>
   refine Calls.mono h λe G he=>?_;cases e with
   | returned u=>simp only at he ⊢;rw[hc];exact E u G he
   | panicked c=>exact he.elim
   | outgrown=>exact he.elim
 | halt x w'=>exact h.elim
theorem Kr {D:List (Nat×Nat)}{f f0:Fr}{dst:Option Nat}{v:Value}(hd:inD D dst=true)(h:∀t,Y8 D t=false→f t=f0 t):∀t,Y8 D t=false→QZ f dst v t=f0 t:=λt ht =>
 (ZT (λe=>by rw[e]at hd;simp only[inD]at hd;rw[hd]at ht;cases ht) v).trans (h t ht)
def Yd (all:List Oper)(D:List (Nat×Nat))(l:List (Nat×Bool)):Bool:=l.all λp=>inD D (QL all p.1).dst
structure Fl (P:Program)(all:List Oper)(C:World→Prop)(K KF:Fr→World→Prop)(i d:Nat)(rest:List (Nat×Bool))(Φ:Value→World→Prop)(Dc:List (Nat×Nat))(f1:Fr):Prop where
 stab:∀v (own:LN) w w',Φ v w→Step own w w'→(∀b∈ow v,b∉own)→Φ v w'
 spec:∀f w,(∀t,Y8 Dc t=false→f t=f1 t)→C w→XO P (QL all i) f w λf' w'=>Step [] w w'∧C w'∧Φ (f' d) w'∧∀b∈ow (f' d),w.heap.size≤b∧b<w'.heap.size
 fin:∀f w,KF f w→∀v,C w→Φ v w→XP P all C K rest (QZ f (some d) v) w
 mono:∀f w w',KF f w→Step [] w w'→KF f w'
attribute [local semireducible] XP in
theorem zI {i d:Nat}{rest:List (Nat×Bool)}{Φ:Value→World→Prop}{Dc:List (Nat×Nat)}{f1:Fr}(G:Fl P all C K KF i d rest Φ Dc f1)(hs:Region.noSelect all.toArray=true){v:Value}:∀(l:List (Nat×Bool)) (own:LN) (f:Fr) (w:World),Yg all d l=true→XF P all C KF l own f w→C w→Φ v w →
  (∀b∈ow v,b∉own∧b<w.heap.size)→XP P all C K (l++rest) (QZ f (some d) v) w
 | [],own,f,w,_,h,hC,H,_=>G.fin f w h v hC H
 | (j,q)::l,own,f,w,hfr,h,hC,H,hb=>by
  simp only[Yg,List.all_cons,Bool.and_eq_true,Bool.not_eq_true',List.contains_eq_mem,decide_eq_false_iff_not,beq_eq_false_iff_ne,ne_eq]at hfr;obtain⟨⟨h1,h2⟩,hfr⟩:=hfr;have I:Yg all d l=true:=by simpa[Yg]using hfr
  have T:∀cs b,(QL all j).op≠.select cs b:=by
   intro cs b;cases J:all[j]? with
   | none =>
    have:QL all j=default:=by
     clear h h1 h2 hfr I;have key:∀(l:List Oper) (j:Nat),l[j]?=none→QL l j=default:=by
      intro l;induction l with
      | nil=>intro j _;rfl
      | cons a l ih=>intro j hj;cases j with|zero=>simp at hj|succ j=>exact ih j (by simpa using hj)
     exact key all j J
    rw[this];intro e;cases e
   | some o=>rw[Zd J];exact Region.noSelect_spec hs j o cs b (by simpa using J)
  have hd:∀e,some d=some e→e∉(QL all j).looksAt all.toArray:=λe he=>by cases he;exact h1
  cases q with
  | true =>
   obtain⟨Y,u,hu,hx⟩:=h;simp only[List.cons_append,XP];rw[JD (QL all j) f (some d) v hd,Y,cond_true,cond_true];refine⟨u,λw' hc=>?_,?_⟩
   ·rw[Xw (all:=all) T f (some d) v hd];exact hu w' hc
   rw[KP f v u (λe he=>by cases he;exact h2)];exact zI G hs l own _ w I hx hC H hb
  | false =>
   simp only[List.cons_append,XP];rw[JD (QL all j) f (some d) v hd,h.1,cond_true,cond_false];refine Qep (all:=all) T h1 h2 (λu w' hx=>?_) (h.2 w (Step.refl _ _) hC);obtain⟨U,own',V,ha,hx⟩:=hx;refine⟨.inr (.inr U),zI G hs l own' _ w' I hx U (G.stab v own w w' H V (λb E=>(hb b E).1)) (λb E=>⟨λhm=>?_,L4 (hb b E).2 V.size⟩)⟩
   rcases ha b hm with h3|h3
   ·exact(hb b E).1 h3
   exact Nat.lt_irrefl _ (L4 (hb b E).2 h3.1)
theorem Qh9 {i d:Nat}{rest:List (Nat×Bool)}{Φ:Value→World→Prop}{Dc:List (Nat×Nat)}{f1:Fr}(G:Fl P all C K KF i d rest Φ Dc f1)(hs:Region.noSelect all.toArray=true)(J:(QL all i).guard=none)(hd:(QL all i).dst=some d):∀(l:List (Nat×Bool)) (ls:Array Bool) (own:LN) (f:Fr) (w:World),ls.size=all.length→Yg all d l=true→Yd all Dc l=true→(∀t,Y8 Dc t=false→f t=f1 t) →
  XF P all C KF l own f w→C w→(∀b∈own,b<w.heap.size)→zc all.toArray i rest l ls=true→XA P all C K (l.length+1+rest.length) ls f w
 | [],ls,own,f,w,T,hfr,H,hk1,h,hC,U,hp=>by
  simp only[zc,Bool.and_eq_true,beq_iff_eq]at hp;obtain⟨I,hp⟩:=hp;rw[show([]:List (Nat×Bool)).length+1+rest.length=rest.length+1 by simp;omega];refine YP (λh0=>(by rw[h0]at I;cases I)) ?_;rw[I];intro k hk o E;have Y:k=i:=by simpa using hk
  subst Y;have V:=Zd E;have hx:=G.spec f w hk1 hC;rw[V]at J hd hx;rw[X1 J,cond_true];refine hx.mono λv w' hx=>?_;rw[hd]at hx ⊢;obtain⟨h1,h2,h3,h4⟩:=hx;simp only[QZ,YG]at h3 h4;refine⟨.inr (.inr h2),Zy hs rest _ _ _ (by simpa using T) (.inl h2) hp (G.fin f w' (G.mono f w w' h h1) v h2 h3)⟩
 | (j,true)::l,ls,own,f,w,T,hfr,H,hk1,h,hC,U,hp=>by
  simp only[zc,Bool.and_eq_true]at hp;obtain⟨⟨I,hf⟩,ha⟩:=hp;have hh:j∈Region.ready .any all.toArray ls:=by simpa using I
  have e:(List.length ((j,true)::l))+1+rest.length=(l.length+1+rest.length)+1:=by simp;omega
  rw[e];have hc:Yg all d l=true:=by simp only[Yg,List.all_cons,Bool.and_eq_true]at hfr;exact hfr.2
  simp only[Yd,List.all_cons,Bool.and_eq_true]at H;have he:Yd all Dc l=true:=H.2;cases E:all[j]? with
  | none =>
   exfalso;obtain⟨_,o,ht,_⟩:=mem_ready.1 hh;simp[E]at ht
  | some o =>
   obtain⟨hi,v,hv,hx⟩:=h;rw[Zd E]at hi hv hx;have hu:∀(j:Nat) (o:Oper) cs b,all[j]?=some o→o.op≠.select cs b:=λj o cs b hj=>Region.noSelect_spec hs j o cs b (by simpa using hj);have hw:=λk ok hk=>Region.free_spec (ops:=all.toArray) (md:=.any) (i:=j) (oi:=o) (listed:=ls) (by simpa using E) hf k ok (by simpa using hk)
   exact Xx (v:=v) (D:=λw=>zT o=true→C w) E (λ_ h=>h) hu _ ls f w (λ_=>hC) hw hh (.inl ⟨hi,hv⟩) (Qh9 G hs J hd l _ own _ w (by simpa using T) hc he (by have:=Kr (v:=v) H.1 hk1;rw[Zd E]at this;exact this) hx hC U ha)
 | (j,false)::l,ls,own,f,w,T,hfr,H,hk1,h,hC,U,hp=>by
  simp only[zc,Bool.and_eq_true,List.all_eq_true,Bool.or_eq_true,beq_iff_eq,Bool.not_eq_true']at hp;obtain⟨⟨⟨hl,I⟩,hy⟩,ha⟩:=hp;have e:(List.length ((j,false)::l))+1+rest.length=(l.length+1+rest.length)+1:=by simp;omega
  rw[e];have hc:Yg all d l=true:=by simp only[Yg,List.all_cons,Bool.and_eq_true]at hfr;exact hfr.2
  simp only[Yd,List.all_cons,Bool.and_eq_true]at H;have he:Yd all Dc l=true:=H.2;refine YP (λh0=>(by rw[h0]at hl;cases hl)) ?_;intro k hk o E;have V:=Zd E;have hn:(ls.setIfInBounds k true).size=all.length:=by simpa using T
  by_cases Y:k=i
  ·subst Y;have hx:=G.spec f w hk1 hC;rw[V]at J hd hx;rw[X1 J,cond_true];refine hx.mono λv w' hx=>?_;rw[hd]at hx ⊢;obtain⟨h1,h2,h3,h4⟩:=hx;simp only[QZ,YG]at h3 h4;refine⟨.inr (.inr h2),?_⟩;have hx:=zI G hs ((j,false)::l) own f w' hfr (XF.ext G.mono h h1) h2 h3 (λb hb=>⟨λhm=>Nat.lt_irrefl _ (L4 (U b hm) (h4 b hb).1),(h4 b hb).2⟩)
   have:=Zy hs ((j,false)::(l++rest)) _ _ _ hn (.inl h2) hy hx;rw[show((j,false)::(l++rest)).length=l.length+1+rest.length by simp;omega]at this;exact this
  have hz:k=j:=(I k hk).resolve_right Y;subst hz;have h1:=h.1;have h2:=h.2 w (Step.refl _ _) hC;rw[V]at h1 h2;rw[h1,cond_true];refine h2.mono λv w' hx=>?_;obtain⟨hq,own',h5,h6,hx⟩:=hx;refine⟨.inr (.inr hq),Qh9 G hs J hd l _ own' _ w' hn hc he (by have:=Kr (v:=v) H.1 hk1;rw[V]at this;exact this) hx hq (λb hb=>?_) ha⟩;rcases h6 b hb with h3|h3
  ·exact L4 (U b h3) h5.size
  exact h3.2
theorem QkK {ro:Option Nat}{m:Nat}{ds:LN}{Q:Exit→LN→Fr→World→Prop}{id:Nat}(C:World→Prop)(pre l:List (Nat×Bool))(i d:Nat)(rest:List (Nat×Bool))(own:LN)(KF:Fr→World→Prop)(Φ:Value→World→Prop)(Dc:List (Nat×Nat))(hm:P.follows .mixedOrders=true)(H:Xb n all=true)(I:QaT all=true)
  (hp:Qhf all pre l i rest=true) (J:Yd all Dc l=true) (hd:(QL all i).dst=some d) (hC:C { w with drawn:=w.drawn+1 }) (T:∀b∈own,b<w.heap.size)
  (h:XP P all C (λf1 _=>Fl P all C (λf w=>Q .normal ds f w) KF i d rest Φ Dc f1∧XF P all C KF l own f1 { w with drawn:=w.drawn+1 }) pre f { w with drawn:=w.drawn+1 }):WG ro m P n (.region id all.toArray true) Q ds f w:=by
 unfold WG;intro a ha;simp only[Qhf,Bool.and_eq_true,beq_iff_eq,Option.isNone_iff_eq_none]at hp;obtain⟨⟨⟨⟨⟨hs,hl⟩,hq⟩,U⟩,V⟩,hfr⟩:=hp;rw[hd]at hfr;refine wpIn_region_any hm ?_;have h1:=ZM (K:=λf w=>Q .normal ds f w) (m:=l.length+1+rest.length) hs pre (Array.replicate all.length false) f _ hC hq
  (λf1 G=>Qh9 G.1 hs V hd l (Zt pre (Array.replicate all.length false)) own f1 _ (by rw[ZK];simp) hfr J (λ_ _=>rfl) G.2 hC T U) h
 rw[hl]at h1;have h2:=qk (ro:=ro) (m:=m) (n:=n) (ds:=ds) (Q:=λe Y w'=>∃ds' E,YC n ds' Y E∧(∀t,ZR all t=false→E t=f t)∧Q e ds' E w') (YS H) (Vm I) f
  (λa E w hr hk hq=>⟨ds,E,hr,hk,hq⟩) _ _ a f _ ha (λ_ _=>O) h1
 simpa[Xz]using h2
theorem XP.keeps_mono {K':Fr→World→Prop}:∀(l:List (Nat×Bool)) (f:Fr) (w:World),XP P all C K l f w→(∀f w,K f w→K' f w)→XP P all C K' l f w
 | [],f,w,h,hk=>by simp only[XP]at h ⊢;exact hk _ _ h
 | (j,q)::l,f,w,h,hk=>by
  simp only[XP]at h ⊢;cases E:Z6 all f (QL all j)with
  | false=>rw[E]at h;exact XP.keeps_mono l _ _ h hk
  | true =>
   rw[E]at h;cases q with
   | true=>obtain⟨v,G,hx⟩:=h;exact⟨v,G,XP.keeps_mono l _ _ hx hk⟩
   | false=>exact XO.mono (λv w' hx=>⟨hx.1,XP.keeps_mono l _ _ hx.2 hk⟩) h
theorem XP.keeps {D:List (Nat×Nat)}{f0:Fr}:∀(l:List (Nat×Bool)) (f:Fr) (w:World),Yd all D l=true→(∀t,Y8 D t=false→f t=f0 t)→XP P all C K l f w→XP P all C (λH w'=>(∀t,Y8 D t=false→H t=f0 t)∧K H w') l f w
 | [],f,w,_,E,h=>by simp only[XP]at h ⊢;exact⟨E,h⟩
 | (j,q)::l,f,w,hd,E,h=>by
  simp only[Yd,List.all_cons,Bool.and_eq_true]at hd;have G:Yd all D l=true:=hd.2;simp only[XP]at h ⊢;cases I:Z6 all f (QL all j)with
  | false=>rw[I]at h;exact XP.keeps l _ _ G (Kr hd.1 E) h
  | true =>
   rw[I]at h;cases q with
   | true=>obtain⟨v,J,hx⟩:=h;exact⟨v,J,XP.keeps l _ _ G (Kr hd.1 E) hx⟩
   | false=>exact XO.mono (λv w' hx=>⟨hx.1,XP.keeps l _ _ G (Kr hd.1 E) hx.2⟩) h
theorem XF.keeps {D:List (Nat×Nat)}{f0:Fr}:∀(l:List (Nat×Bool)) (own:LN) (f:Fr) (w:World),Yd all D l=true→(∀t,Y8 D t=false→f t=f0 t)→XF P all C K l own f w→XF P all C (λG w'=>(∀t,Y8 D t=false→G t=f0 t)∧K G w') l own f w
 | [],own,f,w,_,E,h=>⟨E,h⟩
 | (j,true)::l,own,f,w,hd,E,h=>by
  simp only[Yd,List.all_cons,Bool.and_eq_true]at hd;obtain⟨H,v,I,hx⟩:=h;exact⟨H,v,I,XF.keeps l own _ _ hd.2 (Kr hd.1 E) hx⟩
 | (j,false)::l,own,f,w,hd,E,h=>by
  simp only[Yd,List.all_cons,Bool.and_eq_true]at hd;refine⟨h.1,λJ h1 hc=>XO.mono (λv w' hx=>?_) (h.2 J h1 hc)⟩;obtain⟨T,own',U,V,hx⟩:=hx;exact⟨T,own',U,V,XF.keeps l own' _ _ hd.2 (Kr hd.1 E) hx⟩
theorem Qin {ro:Option Nat}{m:Nat}{ds:LN}{Q:Exit→LN→Fr→World→Prop}{id:Nat}{α:Type}(C:World→Prop)(pre l:List (Nat×Bool))(i d:Nat)(rest:List (Nat×Bool))(own:LN)(D Dc:List (Nat×Nat))(S:α→List (Nat×Value))(I:α→World→Prop)(Φ:Value→World→Prop)(hm:P.follows .mixedOrders=true)(J:Xb n all=true)(T:QaT all=true)
  (hp:Qhf all pre l i rest=true) (G:(Yd all D pre && Yd all D l && Yd all Dc l)=true) (hd:(QL all i).dst=some d) (hC:C { w with drawn:=w.drawn+1 }) (U:∀b∈own,b<w.heap.size)
  (stab:∀v (own:LN) w w',Φ v w→Step own w w'→(∀b∈ow v,b∉own)→Φ v w') (mono:∀z w w',I z w→Step [] w w'→I z w')
  (fin:∀z g w v,I z w→C w→Φ v w→XP P all C (λf w=>Q .normal ds f w) rest (QZ (Vg (S z) (mix D f g)) (some d) v) w)
  (h:XP P all C (λf1 _=>(∀g w,C w→XO P (QL all i) (mix Dc f1 g) w λE w'=>Step [] w w'∧C w'∧Φ (E d) w'∧∀b∈ow (E d),w.heap.size≤b∧b<w'.heap.size)∧XF P all C (λE w'=>∃z,YL E (S z)∧I z w') l own f1 { w with drawn:=w.drawn+1 }) pre f { w with drawn:=w.drawn+1 }):WG ro m P n (.region id all.toArray true) Q ds f w:=by
 rw[Lu,Lu]at G;refine QkK C pre l i d rest own (λE w'=>(∀t,Y8 D t=false→E t=f t)∧∃z,YL E (S z)∧I z w') Φ Dc hm J T hp G.2 hd hC U ?_;refine XP.keeps_mono _ _ _ (XP.keeps pre f _ G.1.1 (λ_ _=>O) h) (λf1 w1 hx=>⟨⟨stab,?_,?_,?_⟩,XF.keeps l own _ _ G.1.2 hx.1 hx.2.2⟩)
 ·intro E w' hk H;have:=hx.2.1 E w' H;rw[Y4 hk]at this;exact this
 ·rintro E w' ⟨hk,z,hs,hi⟩ v H V;have:=fin z E w' v hi H V;rw[Y4 hk,Ym hs]at this;exact this
 rintro E w' ha ⟨hk,z,hs,hi⟩ Y;exact⟨hk,z,hs,mono z _ _ hi Y⟩
theorem fp {j:Nat}{l:List (Nat×Bool)}{own:LN}{v:Value}(E:∀w',(execOp (ev f) (QL all j)).run P w'=.ok (.value v) w')(h:XF P all C K l own (QZ f (QL all j).dst v) w)
  (G:Z6 all f (QL all j)=true:=by rfl):XF P all C K ((j,true)::l) own f w:=⟨G,v,λw' _=>E w',h⟩
theorem fk {j:Nat}{l:List (Nat×Bool)}{own:LN}(h:∀w1,Step [] w w1→C w1→XO P (QL all j) f w1 λE w'=>C w'∧∃own',Step own w1 w'∧(∀b∈own',b∈own∨(w1.heap.size≤b∧b<w'.heap.size))∧XF P all C K l own' E w')
  (G:Z6 all f (QL all j)=true:=by rfl):XF P all C K ((j,false)::l) own f w:=⟨G,h⟩
theorem fe {own:LN}(h:K f w):XF P all C K [] own f w:=h
end
attribute [irreducible] XF
end Go.Lg
namespace Go.Proofs.YtjcgijbhaemldaaGreatDoor
open Go.Proofs.Tryz
open Go.Lg
instance:Bw prog 115 [nS,.int .i64 0,nS,nS,nS,nS,nS,nS] [(0,4),(4,1),(5,1),(6,1),(7,1)]:=⟨by kernel_rfl,by decide⟩
def spF (c:ZA)(pl:QO)(ps:List (LI))(l:List (LI)):List Rsn:=l.zipIdx.filterMap (λp=>rsn c pl (plx ps (p.1.take c.co.length)) p.2 p.1)
theorem QfX {c:ZA}{pl:QO}{ps:List (LI)}{l:List (LI)}{k:Nat}(h:k<l.length):spF c pl ps (l.take (k+1))=spF c pl ps (l.take k)++(rsn c pl (plx ps ((l[k]'h).take c.co.length)) k (l[k]'h)).toList:=by
 unfold spF;rw[Le h,List.zipIdx_append,List.filterMap_append];have e:0+(l.take k).length=k:=by rw[Ly];omega
 rw[e];simp only[List.zipIdx_cons,List.zipIdx_nil,List.filterMap_cons,List.filterMap_nil];cases rsn c pl (plx ps ((l[k]'h).take c.co.length)) k (l[k]'h) <;> rfl
theorem Qdi (c:ZA)(pl:QO)(ps:List (LI))(l:List (LI)):(spF c pl ps l).length≤l.length:=by
 unfold spF;refine LJ (List.length_filterMap_le _ _) ?_;rw[List.length_zipIdx];exact Lt _
theorem QfW {c:ZA}{pl sa:QO}{ps ts:List (LI)}(hp:sync (auts c.co)=some (pl,ps))(hs:sync (auts c.co++auts c.rq)=some (sa,ts)):
  spc c=⟨sa,ts.map (·.take c.co.length),ts.map (·.drop c.co.length),ts.map (λt=>plx ps (t.take c.co.length)),spF c pl ps ts⟩:=by
 unfold spc syA syQ;rw[hp,hs];simp only[];rw[yl];simp[spF]
theorem QhS {n:Nat}{u:LI}{s:List ByteArray}{x:XC}(h:Z8 n u s x=0):x.a.st≠0:=by
 unfold Z8 at h;split at h
 ·cases h
 split at h
 ·cases h
 split at h
 ·rename_i h1 h2;exact absurd h h2
 split at h
 ·cases h
 split at h
 ·cases h
 assumption
theorem Qbx {n:Nat}{al:LI}:∀{l:List XC}{s:List ByteArray}{u:LI},(Yc n al s u l).1=0→∀x∈l,x.a.st≠0
 | [],_,_,_,x,hx=>by cases hx
 | y::l,s,u,h,x,hx=>by
  rw[Vq]at h;by_cases h1:Z8 n al s y≠0
  ·rw[if_pos h1]at h;exact absurd h h1
  rw[if_neg h1]at h;have h2:Z8 n al s y=0:=Lm.1 h1;rcases Lc.1 hx with rfl|hx
  ·exact QhS h2
  exact Qbx h x hx
theorem QhT {c:ZA}(h:Zk c=0):∀x∈c.co,x.a.st≠0:=by
 unfold Zk at h;by_cases h1:XM c.ev≠0
 ·rw[if_pos h1]at h;exact absurd h h1
 rw[if_neg h1]at h;by_cases h2:c.co.length=0
 ·rw[if_pos h2]at h;cases h
 rw[if_neg h2]at h;by_cases h3:8<c.co.length∨12<c.co.length+c.rq.length
 ·rw[if_pos h3]at h;cases h
 rw[if_neg h3]at h;by_cases h4:(Yc c.ev.length (Ka c.ev.length) [] [] c.co).1≠0
 ·rw[if_pos h4]at h;exact absurd h h4
 exact Qbx (Lm.1 h4)
theorem Qgn {c:ZA}(h:Zk c=0){A:QO}{Q:List (LI)}(hs:sync (auts c.co)=some (A,Q)):Q2 A∧A.st=(Q.length:Int)∧0<Q.length∧∀e∈A.al,0≤e∧e<(c.ev.length:Int):=by
 have E:=ZX h;have G:=Xr E.co;have hsp:=XN G hs;refine⟨hsp.1.okay G,hsp.1.st,?_,λe he=>?_⟩
 ·refine Nat.pos_of_ne_zero λH=>?_;obtain⟨a,ha,h1⟩:=hsp.2.1 H;obtain⟨x,hx,rfl⟩:=Lx.1 ha;exact QhT h x hx h1
 rw[hsp.1.al]at he;obtain⟨a,ha,h1⟩:=(qe G e).1 he;obtain⟨x,hx,rfl⟩:=Lx.1 ha;exact⟨((E.co x hx).al e h1).1,E.ce x hx e h1⟩
theorem Qlv {Q:List (LI)}(h:0<Q.length)(t:LI):0≤plx Q t∧plx Q t<(Q.length:Int):=by
 unfold plx;split
 ·rename_i hm;have:=Mj hm;omega
 omega
theorem Vt.take {a b:List QO}{t:LI}(h:Vt (a++b) t):Vt a (t.take a.length):=by
 have hl:=h.1;rw[Lj]at hl;refine⟨by rw[Ly];omega,λi h1 h2=>?_⟩;have:=h.2 i (by omega) (by rw[Lj];omega);rw[LX h2]at this;rw[MY];exact this
theorem Vt.drop {a b:List QO}{t:LI}(h:Vt (a++b) t):Vt b (t.drop a.length):=by
 have hl:=h.1;rw[Lj]at hl;refine⟨by rw[L5];omega,λi h1 h2=>?_⟩;have:=h.2 (a.length+i) (by omega) (by rw[Lj];omega);rw[Mr (by omega)]at this;rw[List.getElem_drop];simpa using this
theorem Vt.tpOk {l:List XC}{t:LI}(h:Vt (auts l) t):QkF (szs l) t:=by
 have hl:=h.1;unfold auts at hl;rw[Lh]at hl;refine⟨by unfold szs;rw[Lh];exact hl,λi hi=>?_⟩;have h1:=h.2 i hi (by unfold auts;rw[Lh];omega);have E:i<(szs l).length:=by unfold szs;rw[Lh];omega
 rw[←Zm hi,←Zm E];unfold auts szs at *;simpa using h1
theorem JI.add {base G T:Nat}{W H I J:World}{U V Y E v' c0 c1 c2 c3:Value}{cos rqs:List TV}{pls:LI}{fbs:List Rsn}{q:Rsn}(hB:QT W.heap G T [c0,c1,c2,c3,U,V,Y,E])(hS:JI base W U V Y E cos rqs pls fbs)(ha:G<base)(h1:Step [] W H)
  (ho:I.ownsRow base 190 4 v' (fbs.length+1) (fbs.flatMap Yw++Yw q)) (h2:Step (ob E) H I) (hn:∀b∈ob v',b∈ob E∨H.heap.size≤b) (h3:Step [G] I J):
  Step (G::ob E) W J∧JI base J U V Y v' cos rqs pls (fbs++[q])∧(∀x∈G::ob E,∃o:Obj,W.heap[x]?=some o∧o.isCells=true):=by
 refine⟨((h1.any).trans' (h2.mono λx hx=>Lk _ hx)).trans' (h3.mono λx hx=>?_),(hS.a4 h1 ho h2 hn).low h3 (λx hx=>?_),λx hx=>?_⟩
 ·simp only[List.mem_singleton]at hx;subst hx;exact Lp
 ·simp only[List.mem_singleton]at hx;subst hx;exact ha
 rcases Lc.1 hx with rfl|hx
 ·exact hB.cells
 exact Go.Lg.Zo hS.o4 x hx
set_option maxHeartbeats 40000000 in
theorem QcV {L:LN}{w:World}{c:CL}(h0:ZJ L w.heap c)(mu:Kb w 4096):
  QE prog 90 [c.val] w λr w'=>Step [] w w'∧∃v,r=.tuple #[v,.int .i64 (Y1 c.cel)]∧(∃us,v=.agg us.toArray∧us.length=8∧ZH us)∧(Y1 c.cel=0→Qon w.heap.size w'.heap v (spc c.cel)):=by
 have h:=h0.up (L':=[]) (by simp);refine Zb (Y1 c.cel) λE hE=>?_;refine QE.of_G 20 func90 O ntmps90 results90 (by simp) ?_;refine Q6<|QJ (by rfl) (by rfl) ?_;refine xl rfl<|QQ (us:=c.cells) O λb1 w1 hH hb1 mv=>xl O<|Qu (us:=[nS,.int .i64 0,nS,nS,nS,nS,nS,nS]) O λb2 w2 hA hb2 gy=>Qe ?_;have kg:=hH.trans hA;have mw:=mv.lt;have kh:=gy.lt;have mx:=mv.ext hA
 refine Q6<|QJ (by rfl) (by rfl) ?_;refine x (Qn mx O O)<|xl O<|xf<|(QhZ (h.ext kg) (mu.ext kg)).mono ?_;rintro r3 w3 ⟨h5,vp,rfl,za,my⟩;rw[hE]at za my ⊢;have mz:=kg.trans h5;refine Qb<|x (Qj O O)<|x (Qj O O)<|x Qf<|Qe<|Q6<|Q6<|QJ (by rfl) (by rfl) ?_;refine Qb<|x (Q7 O O)<|xe<|Qmw O (λki=>?_) (λki=>?_)
 ·refine Q6<|QJ (by rfl) (by rfl) ?_
  refine x (Zx [] Z)<|Qb<|xl O<|Qo (us:=[nS,.int .i64 0,nS,nS,nS,nS,nS,nS]) (gy.ext h5) O O O O ⟨O,O,O,O,O,O,O,O,Z⟩ λw4 hM zb=>Qe<|KI ⟨λ_ h=>(by cases h),Mw,[.agg [nS,.int .i64 0,nS,nS,nS,nS,nS,nS].toArray,.int .i64 E],λW' hN=>⟨⟨⟨_,rfl,Qw rfl ((zb.ext hN).at (L:=[]) (by simp)).cells⟩,rfl,Z⟩,(mz.then1 hM (by omega)).trans hN,_,rfl,⟨_,rfl,rfl,rfl,rfl,rfl,rfl,rfl,rfl,rfl,rfl,Z⟩,λe=>absurd e ki⟩⟩
 have m0:E=0:=Lm.1 ki;obtain⟨b,q,rfl,rfl,hQ,ho,zv⟩:=my m0;refine Ya<|Q6<|QJ (by rfl) (by rfl) ?_;refine Qb<|x (QG O)<|x (Qa O)<|x (ZB (us:=Za q.s) ho.B O O O)<|x (Zx [(0,Za q.s)] ⟨O,O,Z⟩)<|xl O<|Qu (us:=[nS,.int .i64 0,nS,nS,nS,nS,nS,nS]) O λG w5 hU kj h6 =>
  xl rfl<|Qo (us:=[q.s.va,.int .i64 q.s.a.st,q.s.vm,q.s.ve,nS,nS,nS,nS]) h6 O O O O ⟨ho.s.al.one,O,ho.s.mr.one,ho.s.ed.one,O,O,O,O,Z⟩ λH gz h6=>xe ?_
 have m1:Step [] w3 H:=hU.then1 gz kj;have kk:=h6.lt;have m2:=ho.ext m1;have hz3:=h5.size;refine Q6<|Q6<|QJ (by rfl) (by rfl) ?_;refine Qb<|x (QG O)<|x (Qa O)<|x (Qd m2.B O O)<|x (Qr m2.ts.arr O)<|Qb<|xe ?_;have m3:=(jl (λa ha=>by
  rcases Lq.1 ha with ha|ha
  ·exact Xr (ZX hQ.ok).co a ha
  exact Xr (ZX hQ.ok).rq a ha) hQ.s)
 have kn:=m3.1;have m4:=m3.2;simp only[]at kn m4;have hY:=ZX hQ.ok;have hckc:=hY.c8;have hZ:q.c.cel.co.length=q.c.co.length:=Lh ..;have z0:q.c.cel.rq.length=q.c.rq.length:=Lh ..;have hcr:=hY.cr;have z2:(auts q.c.cel.co++auts q.c.cel.rq).length=q.c.co.length+q.c.rq.length:=by rw[Lj];unfold auts;rw[Lh,Lh,hZ,z0]
 refine Zb (q.ts.map (·.2)) λT hT=>?_;rw[hT]at kn m4;have hTn:q.ts.length=T.length:=by rw[←hT,Lh]
 refine ZP<|Vy (α:=Nat×(Value×Value×Value×Value)×List TV×List TV×LI) [(7,17),(37,99),(100,118)] (λz=>[(37,.int .i64 z.1)]) (λz ds W'=>z.1≤q.ts.length∧Step [G] H W'∧K4 H.heap.size W'.heap.size ds W'∧QT W'.heap G 115 [q.s.va,.int .i64 q.s.a.st,q.s.vm,q.s.ve,z.2.1.1,z.2.1.2.1,z.2.1.2.2.1,z.2.1.2.2.2] ∧
  JI H.heap.size W' z.2.1.1 z.2.1.2.1 z.2.1.2.2.1 z.2.1.2.2.2 z.2.2.1 z.2.2.2.1 z.2.2.2.2 (spF q.c.cel q.p.a (q.qs.map (·.2)) (T.take z.1))∧z.2.2.1.map (·.2)=(T.take z.1).map (·.take q.c.co.length)∧z.2.2.2.1.map (·.2)=(T.take z.1).map (·.drop q.c.co.length)∧z.2.2.2.2=(T.take z.1).map (λt=>plx (q.qs.map (·.2)) (t.take q.c.co.length)))
  (λz=>q.ts.length - z.1) (by rfl) (0,(nS,nS,nS,nS),[],[],[]) La
  ⟨Ll _,Step.refl _ _,⟨Mw,λD hD=>by cases hD⟩,h6,JI.nil _ _,rfl,rfl,rfl⟩ ?_
 rintro⟨k,⟨v1,v2,v3,I⟩,cos,rqs,pls⟩ g ds w7 ⟨hk,ko,m5,kp,J,gh,gi,gj⟩;simp only[]at hk kp J gh gi gj;have gk:Step [] w3 w7:=m1.then1 ko kj;have m6:=mz.trans gk;have hz7:=ko.size;have g0:(T.take k).length=k:=by rw[Ly];omega
 have hcosl:cos.length=k:=by have:=congrArg List.length gh;rw[Lh,Lh,g0]at this;exact this
 have hrqsl:rqs.length=k:=by have:=congrArg List.length gi;rw[Lh,Lh,g0]at this;exact this
 have hplsl:pls.length=k:=by rw[gj,Lh,g0]
 have m7:=Qdi q.c.cel q.p.a (q.qs.map (·.2)) (T.take k);rw[g0]at m7;refine Zb (spF q.c.cel q.p.a (q.qs.map (·.2)) (T.take k)) λfbs g1=>?_;rw[g1]at J m7;refine Zb (ob v1++(ob v2++(ob v3++ob I))) λav gl=>?_;have ga:∀x∈av,H.heap.size≤x∧x<w7.heap.size:=λx hx=>by
  rw[←gl]at hx;rcases QaY hx with h1|h1|h1|h1
  ·exact Qp J.o1 x h1
  ·exact Qp J.o2 x h1
  ·exact Qp J.o3 x h1
  exact Qp J.o4 x h1
 have g2:G∉av:=λhm=>by have:=(ga G hm).1;omega
 have kq:∀x∈av,x∈G::av:=λx hx=>Lk _ hx;have g3:KD (G::av) b w7.heap q:=(ho.up (λx hx=>.inr (by
  rcases Lc.1 hx with rfl|hx
  ·exact kj
  have:=(ga x hx).1;omega))).ext gk
 refine Q6<|QJ (by rfl) (by rfl) ?_;refine x (Qz O O)<|xe<|Q6<|zP O (λm8=>?_) (λm8=>?_)
 ·refine JX ?_;rw[Ln (by omega)]at gh gi gj g1;have hsp:=QfW hQ.p hQ.s;rw[hT,hZ,←gh,←gi,←gj,g1]at hsp;have m9:=h5.trans gk;refine Q6<|QJ (by rfl) (by rfl) ?_
  refine x (Qn kp O O)<|xl O<|Qo (us:=[q.s.va,.int .i64 q.s.a.st,q.s.vm,q.s.ve,v1,v2,v3,I]) (gy.ext m9) O O O O ⟨ho.s.al.one,O,ho.s.mr.one,ho.s.ed.one,QK J.o1,QK J.o2,QK J.o3,QK J.o4,Z⟩ λw8 g4 z3=>Qe ?_;have z4:b2<H.heap.size:=by omega
  have gm:K4 H.heap.size w7.heap.size ds w8:=m5.blk g4 (gy.ext m9);have z5:b2∉ds:=λhm=>by have:=(gm.2 b2 hm).1;omega
  have z9:=J.low g4 (λx hx=>by simp only[List.mem_singleton]at hx;subst hx;exact z4);refine KI ⟨λD hD=>(gm.2 D hD).2.2,gm.1,[.agg [q.s.va,.int .i64 q.s.a.st,q.s.vm,q.s.ve,v1,v2,v3,I].toArray,.int .i64 E],λW' hN=>?_⟩;have g5:Lg.Jt [] w8 W':=Lg.Jt.nonc hN (λD hD=>⟨_,(gm.2 D hD).2.2,O⟩);have gb:=hN.size;have h7:=z9.cst g5 gb
  refine⟨⟨⟨_,O,Qw O ((z3.step hN z5).at (L:=[]) (by simp)).cells⟩,congrArg (Value.int .i64) m0.symm,Z⟩,(m6.then1 g4 (by omega)).then hN (λD hD=>.inr (by have:=(gm.2 D hD).1;omega)),_,O,⟨_,O,O,ho.s.al.one,O,ho.s.mr.one,ho.s.ed.one,QK J.o1,QK J.o2,QK J.o3,QK J.o4,Z⟩,λ_=>?_⟩;have hl9:pls.length≤1099511627776:=by omega
  have hl8:fbs.length≤1099511627776:=by omega
  rw[hsp];refine⟨q.s.va,q.s.vm,q.s.ve,v1,v2,v3,I,cos,rqs,O,O,O,λL hL=>⟨?_,⟨QW h7.o1 (by omega) (λx hx hm=>?_),λp hp=>h7.e1 p hp L (λx hx=>?_)⟩,⟨QW h7.o2 (by omega) (λx hx hm=>?_),λp hp=>h7.e2 p hp L (λx hx=>?_)⟩,QW h7.o3 hl9 (λx hx hm=>?_),QW h7.o4 hl8 (λx hx hm=>?_)⟩⟩
  ·have h1:=((zv (b2::L) (λx hx=>by
    rcases Lc.1 hx with rfl|hx
    ·exact kh
    have:=hL x hx;omega)).1.ext gk).st (g4.mono (λx hx=>by simp only[List.mem_singleton]at hx;subst hx;exact Lp))
   have h2:=h1.up (L':=L) (λx hx=>.inl (Lk _ hx));exact⟨h2.al.cst (g5.mono (by simp)) gb,h2.mr.cst (g5.mono (by simp)) gb,h2.ed.cst (g5.mono (by simp)) gb⟩
  ·have:=(Qp h7.o1 x hx).1;have:=hL x hm;omega
  ·exact .inl (by have:=hL x hx;omega)
  ·have:=(Qp h7.o2 x hx).1;have:=hL x hm;omega
  ·exact .inl (by have:=hL x hx;omega)
  ·have:=(Qp h7.o3 x hx).1;have:=hL x hm;omega
  have:=(Qp h7.o4 x hx).1;have:=hL x hm;omega
 have gn:k<q.ts.length:=by have h39:(k:Int)<(q.ts.length:Int):=m8;omega
 have go:k<T.length:=by omega
 have pa:=Li gn;have hTe:T[k]'go=(q.ts[k]'gn).2:=by subst hT;simp
 have hq:=QfX (c:=q.c.cel) (pl:=q.p.a) (ps:=q.qs.map (·.2)) go;have gq:T.take (k+1)=T.take k++[T[k]'go]:=Le go;have gc:=kn _ (Li go);rw[g1]at hq;rw[hTe]at hq gq gc;refine Ya ?_
 refine Qlb (α:=(Value×Value×Value×Value)×List TV×List TV×LI) [(7,17),(38,117)] (λz=>[(37,.int .i64 k)]) (λz hO W'=>Step [G] H W'∧K4 H.heap.size W'.heap.size hO W'∧QT W'.heap G 115 [q.s.va,.int .i64 q.s.a.st,q.s.vm,q.s.ve,z.1.1,z.1.2.1,z.1.2.2.1,z.1.2.2.2] ∧
  JI H.heap.size W' z.1.1 z.1.2.1 z.1.2.2.1 z.1.2.2.2 z.2.1 z.2.2.1 z.2.2.2 (spF q.c.cel q.p.a (q.qs.map (·.2)) (T.take (k+1)))∧z.2.1.map (·.2)=(T.take (k+1)).map (·.take q.c.co.length)∧z.2.2.1.map (·.2)=(T.take (k+1)).map (·.drop q.c.co.length)∧z.2.2.2=(T.take (k+1)).map (λt=>plx (q.qs.map (·.2)) (t.take q.c.co.length))) (by rfl) ?_ ?_
 rotate_left
 ·rintro⟨⟨u1,u2,u3,u4⟩,cos',rqs',pls'⟩ g hO W ⟨hsW,hDW,hBW,hSW,h1,h2,h3⟩;refine QJ (by rfl) (by rfl) ?_;refine QM O O<|Qb<|xe ?_;exact⟨(k+1,(u1,u2,u3,u4),cos',rqs',pls'),by simp only[];omega,La,gn,hsW,hDW,hBW,hSW,h1,h2,h3⟩
 refine ZP<|Q6<|QJ (by rfl) (by rfl) ?_;refine Qb<|xig (g:=Yf) jk g3.ts.arr O O gn λa40 pc=>?_;refine Zb (q.ts[k]'gn) λt ht=>?_;rw[ht]at pc pa hq gq gc;have htI:=g3.ts.each t pa;have htl:t.2.length=q.c.co.length+q.c.rq.length:=by rw[gc.1,z2]
 refine x (Qv pc O)<|xl O<|Qu (us:=[.int .i64 0]) O λb7 w9 hs9 hb7 hB9=>xl O<|QB (j:=0) (u:=.int .i64 k) hB9 O O (by decide) O λw10 hs10 hB10 =>
  Qe ?_
 have kr:Step [] w7 w10:=hs9.then1 hs10 hb7;refine Q6<|QJ (by rfl) (by rfl) ?_;refine Qb<|Qb<|xl O<|xf<|(QfU (g3.ext kr) (htI.ext kr) (by omega)).mono ?_;rintro r11 pd ⟨pf,v9,pg,rfl,hI,hr⟩;refine Qb<|x (Qj O O)<|x (Qj O O)<|x Qf<|Qe ?_;have kt:=kr.trans pf;have ku:=g3.ext kt;refine Zb (t.2.take q.c.co.length) λtc hR=>?_
 refine Zb (t.2.drop q.c.co.length) λtr gr=>?_;rw[hZ]at hq;rw[hR]at hI hq;rw[gr]at hr;have htcl:tc.length=q.c.co.length:=by rw[←hR,Ly];omega
 have htrl:tr.length=q.c.rq.length:=by rw[←gr,L5];omega
 have hbdt:=gc.bd (m:=4096) (λa ha=>by
  rcases Lq.1 ha with ha|ha
  ·exact(Xr hY.co a ha).st1
  exact(Xr hY.rq a ha).st1)
 have ph:∀x∈tc,0≤x∧x<4096:=λx hx=>hbdt x (LR (by rw[hR];exact hx));refine Q6<|Qah (Step [] pd) [(0,true),(1,true),(2,true),(3,true),(4,true),(5,false),(6,true),(7,true)] mixed (by rfl) (by rfl) (by kernel_rfl) (Step.drew _ _) ?_
 refine p (λ_=>Qm)<|p (λ_=>QG O)<|p (λ_=>Qa O)<|pq (λ_ hc=>Qd (ku.B.ext hc) O O)<|p (λ_=>Qm)<|pk<|xf<|(Qef (hI.ext (Step.drew _ _)) ((mu.ext (m6.trans kt)).ext (Step.drew _ _)) ph (by omega)).mono ?_;rintro r12 Y ⟨rfl,hs12⟩;have ge:=(Step.drew [] pd).trans hs12;refine⟨ge,?_⟩
 have pj:(match mget q.mm (K5 tc)with|some u=>u|none=>.int .i64 0)=Value.int .i64 (plx (q.qs.map (·.2)) tc):=by
  rw[hQ.m tc htcl (λx hx=>(ph x hx).1)];unfold plx;by_cases hm:tc∈q.qs.map (·.2)
  ·rw[if_pos hm,if_pos hm]
  rw[if_neg hm,if_neg hm]
 refine Zb (plx (q.qs.map (·.2)) tc) λpi kv=>?_;rw[kv]at pj hq;refine pq (λ_ hc=>(Ju (k:=K5 tc) (ku.m.ext hc) O O).trans (congrArg (λv=>Result.ok (Next.value v) _) pj))<|p (λ_=>Qf)<|pe ?_;have gg:=kt.trans ge;have hI:=hI.ext ge;have hr:=hr.ext ge;have h6:=kp.ext gg;have gs:=J.ext gg;have hS12d:=gs.ext (Step.drew [] Y);have hz712:=gg.size
 have hzd:({ Y with drawn:=Y.drawn+1 }:World).heap.size=Y.heap.size:=rfl
 have hC0:Step av Y { Y with drawn:=Y.drawn+1 }:=Step.drew _ _
 have fin:∀{hf hg hj hh hi:Value} {wx wy:World},Step av Y wx→JI H.heap.size wx hf hg hj I (cos++[(hh,tc)]) (rqs++[(hi,tr)]) (pls++[pi]) fbs→Step [G] wx wy→QT wy.heap G 115 [q.s.va,.int .i64 q.s.a.st,q.s.vm,q.s.ve,hf,hg,hj,I] →
   Step (G::av) Y wy∧QT wy.heap G 115 [q.s.va,.int .i64 q.s.a.st,q.s.vm,q.s.ve,hf,hg,hj,I]∧JI H.heap.size wy hf hg hj I (cos++[(hh,tc)]) (rqs++[(hi,tr)]) (pls++[pi]) fbs:=λhC hP hs hB =>
  ⟨(hC.mono kq).trans' (hs.mono (λx hx=>by simp only[List.mem_singleton]at hx;subst hx;exact Lp)),hB,hP.low hs (λx hx=>by simp only[List.mem_singleton]at hx;subst hx;exact kk)⟩
 have hkl:k≤4096:=by omega
 have htr16:tr.length≤16:=by omega
 have htc40:tc.length≤1099511627776:=by omega
 have htr40:tr.length≤1099511627776:=by omega
 have mw:cos.length+1≤1099511627776:=by omega
 have kh:rqs.length+1≤1099511627776:=by omega
 have hl3:pls.length+1≤1099511627776:=by omega
 have gt:H.heap.size≤Y.heap.size:=by omega
 refine Qlb (α:=Value×Value×Value×Value×Value) [(55,74)] (λ_=>[]) (λz hO w'=>hO=ds∧Step (G::av) Y w'∧QT w'.heap G 115 [q.s.va,.int .i64 q.s.a.st,q.s.vm,q.s.ve,z.1,z.2.1,z.2.2.1,I]∧JI H.heap.size w' z.1 z.2.1 z.2.2.1 I (cos++[(z.2.2.2.1,tc)]) (rqs++[(z.2.2.2.2,tr)]) (pls++[pi]) fbs) (by rfl) ?_ ?_
 ·refine Qin (α:=Value×Value×Value×Value) (Step av Y) [(0,true),(1,true),(2,true),(6,true),(7,true),(8,true),(12,true),(13,true),(14,true)] [(3,false),(4,false),(5,false),(17,true),(9,false),(10,false),(11,false)] 15 70
   [(16,false),(18,false),(19,true),(20,false),(21,true),(22,false)] av [(55,74)] [(58,60),(64,66),(72,72)] (λz=>[(60,z.1),(66,z.2.1),(68,v3),(72,.pointer (some ⟨G,4,none⟩))]) (λz w'=>Step av Y w'∧JI H.heap.size w' z.1 z.2.1 v3 I (cos++[(z.2.2.1,tc)]) (rqs++[(z.2.2.2,tr)]) pls fbs)
   (λv w'=>∃b,v=.slice (some ⟨b,0,none⟩) 1 1∧QT w'.heap b 3 [.int .i64 pi]) mixed (by rfl) (by rfl) (by kernel_rfl) (by rfl) O hC0 (λx hx=>L4 (ga x hx).2 hz712) ?_ ?_ ?_ ?_
  ·rintro v own w w' ⟨b,rfl,hB⟩ hs hn;exact⟨b,O,hB.step hs (hn b (by simp[ow]))⟩
  ·rintro z w w' ⟨h1,h2⟩ hs;exact⟨h1.trans hs,h2.ext hs⟩
  ·rintro⟨hf,hg,hh,hi⟩ g wz v ⟨pn,hP⟩ _ ⟨b15,rfl,g6⟩;simp only[]at hP;have hcz:=pn.size;refine pk<|Q5 (news:=[.int .i64 pi]) (L:=[]) hP.o3 O O O (g6.at (by simp)) (by simp[Value.oneCell']) hl3 (LJ gt hcz) λhj y1 g7 hH hn1=>?_;have Q1:=JI.a3 (q:=pi) hP (Step.refl [] _) g7 hH hn1
   have kw:Step av Y y1:=pn.trans' (hH.mono (λb hb=>by rw[←gl];exact qX (.inr (.inr (.inl hb)))));refine⟨kw,?_⟩;refine pkl (hl:=by kernel_rfl)<|QB (j:=4) (u:=hf) (h6.step kw g2) O O (by simp) (QK Q1.o1) λy2 hA kx=>p (λ_=>Qa rfl) <|
    pkl (hl:=by kernel_rfl)<|QB (j:=5) (u:=hg) kx O O (by simp) (QK Q1.o2) λy3 h5 hB3'=>p (λ_=>Qa rfl) <|
    pkl (hl:=by kernel_rfl)<|QB (j:=6) (u:=hj) hB3' O O (by simp) (QK Q1.o3) λy4 hM hB4'=>pe ?_
   exact⟨(hf,hg,hj,hh,hi),Z,O,fin kw Q1 ((hA.trans' h5).trans' hM) hB4'⟩
  refine p (λ_=>Qa O)<|pq (λ_ hc=>Qd (h6.step hc g2) O O)<|p (λ_=>Qm)<|p (λ_=>Qa O)<|pq (λ_ hc=>Qd (h6.step hc g2) O O)<|p (λ_=>Qm) <|
   p (λ_=>Qa O)<|pq (λ_ hc=>Qd (h6.step hc g2) O O)<|p (λ_=>Qm)<|pe ⟨λg wf hCf=>QF (us:=[[.int .i64 pi]]) O O (by decide) (by simp) ⟨rfl,rfl,Z⟩ λb wf' po hbf pp=>⟨po,hCf.trans po,⟨b,rfl,pp⟩,λx hx=>?_⟩,?_⟩
  ·have hxe:x=b:=by
    have hx':x∈[b]:=hx;simpa using hx'
   subst hxe;exact⟨hbf,pp.lt⟩
  have pt:∀{X:LN},(∀x∈X,x∈ob v1∨x∈ob v2)→∀x∈X,x∈av:=λhX x hx=>by rw[←gl];exact qX ((hX x hx).imp id .inl)
  refine fk λx1 p1 c1=>xf<|(Yv (hI.step c1 kq)).mono ?_;rintro hh y1 ⟨hH,g7⟩;have P1:=hS12d.ext p1;have pb1:=LJ gt c1.size;refine⟨c1.trans hH,av,hH.any,λb hb=>.inl hb,?_⟩;refine fk λx2 p2 c2=>QF (us:=[[hh]]) O O (by decide) (by simp) ⟨Zo g7,rfl,Z⟩ λb2' y2 hA hb2' kx=>⟨c2.trans hA,av,hA.any,λb hb=>.inl hb,?_⟩;refine fk λx3 p3 c3=>?_
  have pu:=((hH.trans p2).trans hA).trans p3;have pw:=Qs g7 ((p2.trans hA).trans p3);refine Q5 (news:=[hh]) (L:=[]) (Qs P1.o1 pu) O O O ((kx.ext p3).at (by simp)) (λu hu=>by rw[List.mem_singleton]at hu;subst hu;exact QK pw) mw (LJ gt c3.size) λhf y3 ho4 h5 hn3=>?_;have P2:=JI.a1 (q:=(hh,tc)) P1 pu pw htc40 (Lt _) pb1 ho4 h5 hn3
  have pz:Step av x3 y3:=h5.mono (pt λx hx=>.inl hx);refine⟨c3.trans' pz,av,pz,λb hb=>.inl hb,?_⟩;refine fp (λ_=>Qa O) ?_;refine fk λx4 p4 c4=>xf<|(Yv (hr.step c4 kq)).mono ?_;rintro hi y4 ⟨hM,p0⟩;have P3:=P2.ext p4;have pb3:=LJ gt c4.size;refine⟨c4.trans hM,av,hM.any,λb hb=>.inl hb,?_⟩
  refine fk λx5 p5 c5=>QF (us:=[[hi]]) O O (by decide) (by simp) ⟨Zo p0,rfl,Z⟩ λb5' y5 hU hb5' hB5'=>⟨c5.trans hU,av,hU.any,λb hb=>.inl hb,?_⟩;refine fk λx6 p6 c6=>?_;have p7:=((hM.trans p5).trans hU).trans p6;have p8:=Qs p0 ((p5.trans hU).trans p6)
  refine Q5 (news:=[hi]) (L:=[]) (Qs P3.o2 p7) O O O ((hB5'.ext p6).at (by simp)) (λu hu=>by rw[List.mem_singleton]at hu;subst hu;exact QK p8) kh (LJ gt c6.size) λhg y6 ho7 gz hn6=>?_;have P4:=JI.a2 (q:=(hi,tr)) P3 p7 p8 htr40 (Lt _) pb3 ho7 gz hn6;have kz:Step av x6 y6:=gz.mono (pt λx hx=>.inr hx);refine⟨c6.trans' kz,av,kz,λb hb=>.inl hb,?_⟩
  exact fe ⟨(hf,hg,hh,hi),⟨O,O,O,O,Z⟩,c6.trans' kz,P4⟩
 rintro⟨hf,hg,hj,hh,hi⟩ g hO k0 ⟨rfl,hJ,p9,qc⟩;simp only[]at p9 qc;have hz13:=hJ.size;have qf:=(ku.ext ge).st hJ;have hI:=hI.st hJ;have hr:=hr.st hJ;have g8:KD [] b k0.heap q:=qf.up (by simp);have hcell:∀x∈G::av,∃o:Obj,Y.heap[x]?=some o∧o.isCells=true:=λx hx=>by
  rcases Lc.1 hx with rfl|hx
  ·exact h6.cells
  rw[←gl]at hx;rcases QaY hx with h1|h1|h1|h1
  ·exact Go.Lg.Zo gs.o1 x h1
  ·exact Go.Lg.Zo gs.o2 x h1
  ·exact Go.Lg.Zo gs.o3 x h1
  exact Go.Lg.Zo gs.o4 x h1
 have hD13:K4 H.heap.size w7.heap.size hO k0:=((m5.up (Lt _)).ext gg).step hJ hcell;have hb7n:b7∉G::av:=λhm=>by
  rcases Lc.1 hm with h1|h1
  ·omega
  have:=(ga _ h1).2;omega
 have hb1n:b1∉G::av:=λhm=>by
  rcases Lc.1 hm with h1|h1
  ·omega
  have:=(ga _ h1).1;omega
 have g9:=((hB10.ext pf).ext ge).step hJ hb7n;have k4:=((mx.ext (h5.trans gk)).ext gg).step hJ hb1n;have hs613:Step [G] H k0:=(ko.trans gg).then hJ (λx hx=>by
  rcases Lc.1 hx with h1|h1
  ·subst h1;exact .inl Lp
  exact .inr (ga x h1).1)
 have k5:(cos++[(hh,tc)]).map (·.2)=(T.take (k+1)).map (·.take q.c.co.length):=by rw[gq,Lv,Lv,gh,Mo,Mo,hR]
 have k6:(rqs++[(hi,tr)]).map (·.2)=(T.take (k+1)).map (·.drop q.c.co.length):=by rw[gq,Lv,Lv,gi,Mo,Mo,gr]
 have k7:pls++[pi]=(T.take (k+1)).map (λt=>plx (q.qs.map (·.2)) (t.take q.c.co.length)):=by rw[gq,Lv,gj,Mo,hR,kv]
 have hVc:Vt (auts q.c.cel.co) tc:=by
  have h1:=gc.take;rw[show(auts q.c.cel.co).length=q.c.co.length by unfold auts;rw[Lh];exact hZ,hR]at h1;exact h1
 have hVr:Vt (auts q.c.cel.rq) tr:=by
  have h1:=gc.drop;rw[show(auts q.c.cel.co).length=q.c.co.length by unfold auts;rw[Lh];exact hZ,gr]at h1;exact h1
 have gu:=Qgn hQ.ok hQ.p;have hpr:=Qlv gu.2.2.1 tc;rw[kv,←gu.2.1]at hpr;have hckp:cks q.p.a pi=0:=by
  unfold cks;rw[if_neg (by rw[(Zu q.p.a).2 gu.1];decide),if_neg (by omega)]
 have hvo:=QbO g8.k1 g8.k2 g8.k3 (hI.up (L':=[]) (by simp)) (by rw[hQ.ex,hQ.cs];exact hY.cd) hVc.tpOk;have hw:rsn q.c.cel q.p.a pi k t.2=(match vio q.c.cel tc with|some (kd,j)=>some ⟨k,kd,j,-1⟩|none=>match rfd q.c.cel tr (Qe1 q.p.a pi)with|some (j,v)=>some ⟨k,3,j,v⟩|none=>none):=by unfold rsn;rw[hZ,hR,gr];rfl
 rw[Qfu]at hw;rw[hQ.ex,hQ.cs]at hvo;refine Zb (zV q.c.cel.ex q.c.cel.cs tc) λV hV=>?_;rw[hV]at hvo hw;refine Q6<|Q6<|QJ (by rfl) (by rfl) ?_;refine Qb<|x (QG O)<|x (Qa O)<|x (ZB (us:=[q.vs,q.vx,q.vk]) g8.B O O O)<|Qb<|xl O<|xf<|hvo.mono ?_;rintro r14 k8 ⟨h8,rfl⟩;refine Qb<|x (Qj O O)<|x (Qj O O)<|x (Qj O O)<|x (Qj O O)<|x Qf<|x Qf<|x Qf<|Qe ?_;have ka:=p9.ext h8
 have hK:=qc.ext h8;have ql:=hD13.ext h8;have qo:=hs613.trans h8;have hz14:=h8.size;have qr:fbs.length+1≤1099511627776:=by omega
 have hb014:H.heap.size≤k8.heap.size:=by omega
 have hz714:w7.heap.size≤k8.heap.size:=by omega
 refine Q6<|QJ (by rfl) (by rfl) ?_;refine Qb<|xe<|KJ rfl (λk9=>?_) (λk9=>?_)
 ·rw[if_pos k9]at hw;simp only[]at hw;rw[hw]at hq;refine Q6<|QJ (by rfl) (by rfl) ?_;refine x (Qa O)<|x (Qd ka O O)<|x (Qd (g9.ext h8) O O)<|Qb<|Qb<|x (QN ⟨O,O,O,O,Z⟩) <|
   xl rfl<|QF (us:=[Yw ⟨k,V.1,V.2.1,-1⟩]) O O (by decide) (by simp) ⟨rfl,rfl,Z⟩ λb93 y1 hF hb93 ma=>?_
  have q0:=hF.size;refine xl O<|Q5 (m:=1) (news:=Yw ⟨k,V.1,V.2.1,-1⟩) (L:=[]) (Qs hK.o4 hF) O O O (ma.at (by simp)) (by simp[Value.oneCell']) qr (LJ hb014 q0) λu4 y2 gv gx mc=>?_;have mf:G∉ob I:=λhm=>by have:=(Qp hK.o4 _ hm).1;omega
  refine x (Qa O)<|xl O<|QB (j:=7) (u:=u4) ((ka.ext hF).step gx mf) O O (by simp) (QK gv) λy3 mg mh=>xe ?_;have h4:=JI.add (q:=⟨k,V.1,V.2.1,-1⟩) ka hK kk hF gv gx mc mg;refine JX<|⟨((hf,hg,hj,u4),cos++[(hh,tc)],rqs++[(hi,tr)],pls++[pi]),La,qo.then h4.1 (λx hx=>?_),((ql.step h4.1 h4.2.2).up (LJ hz714 h4.1.size)),mh,?_,k5,k6,k7⟩
  ·rcases Lc.1 hx with h1|h1
   ·subst h1;exact .inl Lp
   exact .inr (Qp hK.o4 x h1).1
  simp only[];rw[hq];exact h4.2.1
 rw[if_neg (by rw[k9];decide)]at hw;simp only[]at hw;refine Ya ?_;have hA14:=qf.ext h8;have hr:=hr.ext h8;refine Q6<|QJ (by rfl) (by rfl) ?_;refine Qb<|Qb<|Qb<|xl O<|xf<|(QaH (b:=b) (st:=pi) (vr:=pg) hr.cells).mono ?_;rintro r15 kb ⟨hG,c1,c2,c3,rfl,hc1,hc2,hc3,hR1,hR2,hR3⟩;refine xe ?_;have hz15:=hG.size;have g6:=ka.ext hG;have q4:=hK.ext hG
 have q5:=ql.ext hG;have q9:=qo.trans hG;have hA15:=hA14.ext hG;have g9:=g9.ext (h8.trans hG);have k4:=k4.ext (h8.trans hG);have hr:=hr.ext hG;refine Zb (wrf q.c.cel.rq tr (enb q.p.a pi)) λfl kc=>?_;have j1:∀x∈G::ob I,x∈G::av:=λx hx=>by
  rcases Lc.1 hx with rfl|hx
  ·exact Lp
  exact Lk _ (by rw[←gl];exact qX (.inr (.inr (.inr hx))))
 have mj:∀x∈G::ob I,x<k8.heap.size:=λx hx=>by
  rcases Lc.1 hx with rfl|hx
  ·omega
  exact(Qp hK.o4 x hx).2
 have j2:KD (G::ob I) b kb.heap q:=hA15.up (λx hx=>.inl (j1 x hx));have hIr15:QH (G::ob I) kb.heap pg tr:=hr.up (λx hx=>.inl (j1 x hx));have hEv:∀p∈fl,0≤p.1∧p.1<(q.c.ev.length:Int):=λp hp=>by
  rw[←kc]at hp;have h1:=(ji.1 hp).1;unfold enb at h1;obtain⟨e,he,h2⟩:=Lx.1 h1;have h3:=gu.2.2.2 _ (gu.1.ed e (Ys he).1).2.2.1;rw[h2]at h3;exact h3
 refine ZP<|Qim (α:={ x:Int×Int // x∈fl }) (G::ob I) (by omega) (capt:=[.pointer (some ⟨c1,0,none⟩),.pointer (some ⟨c2,0,none⟩),.pointer (some ⟨c3,0,none⟩)]) O (encs:=λx=>[.int .i64 x.1.1,.int .i64 x.1.2]) (by decide) (λ_=>O)
  (ju hR1 hR2 hR3 (λhm=>by have:=mj _ hm;omega) (λhm=>by have:=mj _ hm;omega) (λx hx=>by have:=mj _ hx;omega) j2 hIr15 (λx hx=>hY.rq x.it (LL hx)) hVr hckp O kc)
  (λpre W=>(∀y∈pre,(q.c.cel.ev.getD y.1.1.toNat ⟨.empty,false,false,false,0⟩).co=true)∧Step [] kb W) (λpre=>(Z4.pure _).and (Z4.step (Lt _)))
  (λe pre W=>e=.exit 2∧(∃p y,pre=p++[y]∧(∀y∈p,(q.c.cel.ev.getD y.1.1.toNat ⟨.empty,false,false,false,0⟩).co=true)∧(q.c.cel.ev.getD y.1.1.toNat ⟨.empty,false,false,false,0⟩).co=false ∧
   ∃u4,Step (G::ob I) kb W∧QT W.heap G 115 [q.s.va,.int .i64 q.s.a.st,q.s.vm,q.s.ve,hf,hg,hj,u4]∧JI H.heap.size W hf hg hj u4 (cos++[(hh,tc)]) (rqs++[(hi,tr)]) (pls++[pi]) (fbs++[⟨k,3,y.1.2,y.1.1⟩])∧K4 H.heap.size w7.heap.size hO W))
  (λe pre=>(Z4.pure _).and (Z4.ex λp=>Z4.ex λy=>(Z4.pure _).and ((Z4.pure _).and ((Z4.pure _).and (Z4.ex λu4=>(Z4.step (Lt _)).and (Z4.blk.and ((Z4.cst λW W' h hc hz=>h.cst hc hz).and (K4.stb (by omega)))))))))
  ⟨λy hy=>(by cases hy),Step.refl _ _⟩
  (λf x f' W=>f'=upd (upd (upd (upd f 100 (.int .i64 x.1.1)) 101 (.int .i64 x.1.2)) 16 (.int .i64 x.1.1)) 17 (.int .i64 x.1.2)) (λx f'=>Z4.pure _) ?_ ?_ ?_ ?_
 ·rintro l pre ⟨⟨e,i⟩,he⟩ W U;refine Q6<|QJ (by rfl) (by rfl) ?_;refine Qe<|QJ (by rfl) (by rfl) ?_;refine Qe ?_;exact⟨O,XS.refl _ _ _,Lg.Jt.refl _ _,U,O⟩
 ·rintro l pre ⟨⟨e,i⟩,he⟩ f' W ⟨ke,U⟩ rfl _;have hee:=hEv _ he;simp only[]at hee;have hen:e=(e.toNat:Int):=by omega
  have kf:e.toNat<q.c.ev.length:=by omega
  have hAW:=j2.ext U;refine ZP<|Q6<|QJ (by rfl) (by rfl) ?_;refine x (Qa O)<|x (Qd (k4.ext U) O O)<|Qb<|xig (g:=Zh) (i:=e.toNat) jY hAW.c.ev.arr O (congrArg (Value.int .i64) hen) kf λa105 j3=>?_;have hge:q.c.cel.ev.getD e.toNat ⟨.empty,false,false,false,0⟩=q.c.ev[e.toNat]'kf:=by
   show q.c.ev.getD e.toNat _=_;simp[List.getD,kf]
  refine Zb (q.c.ev[e.toNat]'kf) λv hv=>?_;rw[hv]at j3 hge;refine x (Zg O)<|x (Qv (j3.fld 1 (.bool v.co) O) O)<|x (Zq O)<|xe<|KJ O (λmo=>?_) (λmo=>?_)
  ·have mq:v.co=false:=by simpa using mo
   have hS:=q4.ext U;have hB:=g6.ext U;have gb:=U.size;refine Q6<|QJ (by rfl) (by rfl) ?_;refine x (Qa O)<|x (Qd hB O O)<|x (Qd (g9.ext U) O O)<|Qb<|Qb<|x (QN ⟨O,O,O,O,Z⟩) <|
    xl rfl<|QF (us:=[Yw ⟨k,3,i,e⟩]) O O (by decide) (by simp) ⟨rfl,rfl,Z⟩ λb93 y1 hF hb93 ma=>?_
   have q0:=hF.size;refine xl O<|Q5 (m:=1) (news:=Yw ⟨k,3,i,e⟩) (L:=[]) (Qs hS.o4 hF) O O O (ma.at (by simp)) (by simp[Value.oneCell']) qr (by omega) λu4 y2 gv gx mc=>?_;have mf:G∉ob I:=λhm=>by have:=(Qp hK.o4 _ hm).1;omega
   refine x (Qa O)<|xl O<|QB (j:=7) (u:=u4) ((hB.ext hF).step gx mf) O O (by simp) (QK gv) λy3 mg mh=>xe ?_;have h4:=JI.add (q:=⟨k,3,i,e⟩) hB hS kk hF gv gx mc mg;refine JX ?_;exact⟨XS.step h4.1 gb (λx hx=>⟨.inl hx,h4.2.2 x hx⟩),O,pre,_,O,ke,by simp only[];rw[hge];exact mq,u4,U.any.trans' h4.1,mh,h4.2.1,(q5.ext U).step h4.1 h4.2.2⟩
  have mq:v.co=true:=by simpa using mo
  refine Ya<|⟨XS.refl _ _ _,Lg.Jt.refl _ _,λy hy=>?_,U⟩;rcases Lq.1 hy with h1|h1
  ·exact ke y h1
  simp only[List.mem_singleton]at h1;subst h1;simp only[];rw[hge];exact mq
 ·rintro D xs W hD hxs ⟨ke,U⟩ ms;have mt:rfd q.c.cel tr (Qe1 q.p.a pi)=none:=qF λx hx=>by
   rw[show wrf q.c.cel.rq tr (Qe1 q.p.a pi)=fl from kc,←hxs]at hx;obtain⟨y,hy,rfl⟩:=Lx.1 hx;exact ke y hy
  rw[mt]at hw;rw[hw]at hq;refine⟨((hf,hg,hj,I),cos++[(hh,tc)],rqs++[(hi,tr)],pls++[pi]),La,q9.trans U,(q5.ext U).cons (by omega) (by omega) ms,g6.ext U,?_,k5,k6,k7⟩;simp only[];rw[hq];have h9:=q4.ext U;simpa using h9
 rintro D e pre W hD hSp ⟨rfl,p,y,rfl,hp,hy,u4,hst,hBu,hSu,hDu⟩ ms _;have mt:rfd q.c.cel tr (Qe1 q.p.a pi)=some (y.1.2,y.1.1):=by
  obtain⟨rs,j4⟩:=hSp;rw[Lv]at j4;refine qE (x:=y.1) (t:=rs) (p:=p.map (·.1)) ?_ (λz hz=>?_) hy
  ·exact(show wrf q.c.cel.rq tr (Qe1 q.p.a pi)=fl from kc).trans (j4.symm.trans (by simp))
  obtain⟨z',hz',rfl⟩:=Lx.1 hz;exact hp z' hz'
 rw[mt]at hw;simp only[]at hw;rw[hw]at hq;refine⟨((hf,hg,hj,u4),cos++[(hh,tc)],rqs++[(hi,tr)],pls++[pi]),La,q9.then hst (λx hx=>?_),hDu.cons (by omega) (by omega) ms,hBu,?_,k5,k6,k7⟩
 ·rcases Lc.1 hx with h1|h1
  ·subst h1;exact .inl Lp
  exact .inr (Qp hK.o4 x h1).1
 simp only[];rw[hq];exact hSu
end Go.Proofs.YtjcgijbhaemldaaGreatDoor
