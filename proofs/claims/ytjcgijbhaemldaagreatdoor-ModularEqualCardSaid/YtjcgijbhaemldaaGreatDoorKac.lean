/- Merged out of 20 texts. -/
import Derived.Test.YtjcgijbhaemldaaGreatDoorKab
namespace Go.Proofs.YtjcgijbhaemldaaGreatDoor
open Go.Lg
abbrev Zb (p:Int×Int):LV:=[.int .i64 p.1,.int .i64 p.2]
theorem JU (p:Int×Int):(Zb p).length=2:=rfl
abbrev P2s (L:LN) (H:Array Obj) (v:Value) (l:List (Int×Int)):Prop:=ZA L H v l.length 2 (l.flatMap Zb)
abbrev Zt (e:VD):LV:=[.string e.nm,.bool e.co,.bool e.ob,.bool e.fo,.int .i64 e.fl]
theorem Qbk (e:VD):(Zt e).length=5:=rfl
abbrev yW (s:ByteArray):Prop:=s.size≤9223372036854775807
structure KI (L:LN) (H:Array Obj) (v:Value) (l:List VD):Prop where
 arr:ZA L H v l.length 5 (l.flatMap Zt)
 nm:∀e∈l,yW e.nm
theorem KI.ext {L:LN}{w w':World}{v:Value}{l:List VD}(h:KI L w.heap v l) (hs:Step [] w w'):KI L w'.heap v l:=⟨h.arr.ext hs,h.nm⟩
theorem KI.st {L:LN}{w w':World}{v:Value}{l:List VD}(h:KI L w.heap v l) (hs:Step L w w'):KI L w'.heap v l:=⟨h.arr.st hs,h.nm⟩
theorem KI.up {L L':LN}{H:Array Obj}{v:Value}{l:List VD}(h:KI L H v l) (E:∀b∈L',b∈L∨H.size≤b):KI L' H v l:=⟨h.arr.up E,h.nm⟩
structure IV where
 nm:ByteArray
 p:AV
def IV.it (q:IV):Yo:=⟨q.nm,q.p.a⟩
abbrev Zm (q:IV):LV:=[.string q.nm,q.p.va,.int .i64 q.p.a.st,q.p.vm,q.p.ve]
theorem X0 (q:IV):(Zm q).length=5:=rfl
structure Xr (L:LN) (H:Array Obj) (v:Value) (qs:List IV):Prop where
 arr:ZA L H v qs.length 5 (qs.flatMap Zm)
 each:∀q∈qs,Zq L H q.p.va q.p.vm q.p.ve q.p.a
 nm:∀q∈qs,yW q.nm
structure XV where
 nm:ByteArray
 v:Value
 ls:List (Int×Int)
def XV.x (q:XV):Exc:=⟨q.nm,q.ls⟩
abbrev ZH (q:XV):LV:=[.string q.nm,q.v]
theorem KK (q:XV):(ZH q).length=2:=rfl
structure zc (L:LN) (H:Array Obj) (v:Value) (qs:List XV):Prop where
 arr:ZA L H v qs.length 2 (qs.flatMap ZH)
 each:∀q∈qs,P2s L H q.v q.ls
 nm:∀q∈qs,yW q.nm
structure KV where
 nm:ByteArray
 v:Value
 ts:List (Int×Int)
 bd:Int
def KV.k (q:KV):JF:=⟨q.nm,q.ts,q.bd⟩
abbrev ZK (q:KV):LV:=[.string q.nm,q.v,.int .i64 q.bd]
theorem Kn (q:KV):(ZK q).length=3:=rfl
structure Kcs (L:LN) (H:Array Obj) (v:Value) (qs:List KV):Prop where
 arr:ZA L H v qs.length 3 (qs.flatMap ZK)
 each:∀q∈qs,P2s L H q.v q.ts
 nm:∀q∈qs,yW q.nm
theorem Xr.ext {L:LN}{w w':World}{v:Value}{qs:List IV}(h:Xr L w.heap v qs) (hs:Step [] w w'):Xr L w'.heap v qs:=⟨h.arr.ext hs,λq hq=>(h.each q hq).ext hs,h.nm⟩
theorem Xr.st {L:LN}{w w':World}{v:Value}{qs:List IV}(h:Xr L w.heap v qs) (hs:Step L w w'):Xr L w'.heap v qs:=⟨h.arr.st hs,λq hq=>(h.each q hq).st hs,h.nm⟩
theorem Xr.up {L L':LN}{H:Array Obj}{v:Value}{qs:List IV}(h:Xr L H v qs) (E:∀b∈L',b∈L∨H.size≤b):Xr L' H v qs:=⟨h.arr.up E,λq hq=>(h.each q hq).up E,h.nm⟩
theorem zc.ext {L:LN}{w w':World}{v:Value}{qs:List XV}(h:zc L w.heap v qs) (hs:Step [] w w'):zc L w'.heap v qs:=⟨h.arr.ext hs,λq hq=>(h.each q hq).ext hs,h.nm⟩
theorem zc.st {L:LN}{w w':World}{v:Value}{qs:List XV}(h:zc L w.heap v qs) (hs:Step L w w'):zc L w'.heap v qs:=⟨h.arr.st hs,λq hq=>(h.each q hq).st hs,h.nm⟩
theorem zc.up {L L':LN}{H:Array Obj}{v:Value}{qs:List XV}(h:zc L H v qs) (E:∀b∈L',b∈L∨H.size≤b):zc L' H v qs:=⟨h.arr.up E,λq hq=>(h.each q hq).up E,h.nm⟩
theorem Kcs.ext {L:LN}{w w':World}{v:Value}{qs:List KV}(h:Kcs L w.heap v qs) (hs:Step [] w w'):Kcs L w'.heap v qs:=⟨h.arr.ext hs,λq hq=>(h.each q hq).ext hs,h.nm⟩
theorem Kcs.st {L:LN}{w w':World}{v:Value}{qs:List KV}(h:Kcs L w.heap v qs) (hs:Step L w w'):Kcs L w'.heap v qs:=⟨h.arr.st hs,λq hq=>(h.each q hq).st hs,h.nm⟩
theorem Kcs.up {L L':LN}{H:Array Obj}{v:Value}{qs:List KV}(h:Kcs L H v qs) (E:∀b∈L',b∈L∨H.size≤b):Kcs L' H v qs:=⟨h.arr.up E,λq hq=>(h.each q hq).up E,h.nm⟩
structure CL where
 ve:Value
 vc:Value
 vr:Value
 vx:Value
 vk:Value
 ev:List VD
 co:List IV
 rq:List IV
 ex:List XV
 cs:List KV
def CL.cel (c:CL):Q4:=⟨c.ev,c.co.map (·.it),c.rq.map (·.it),c.ex.map (·.x),c.cs.map (·.k)⟩
abbrev CL.cells (c:CL):LV:=[c.ve,c.vc,c.vr,c.vx,c.vk]
abbrev CL.val (c:CL):Value:=.agg #[c.ve,c.vc,c.vr,c.vx,c.vk]
structure ZS (L:LN) (H:Array Obj) (c:CL):Prop where
 ev:KI L H c.ve c.ev
 co:Xr L H c.vc c.co
 rq:Xr L H c.vr c.rq
 ex:zc L H c.vx c.ex
 cs:Kcs L H c.vk c.cs
theorem ZS.ext {L:LN}{w w':World}{c:CL}(h:ZS L w.heap c) (hs:Step [] w w'):ZS L w'.heap c:=⟨h.ev.ext hs,h.co.ext hs,h.rq.ext hs,h.ex.ext hs,h.cs.ext hs⟩
theorem ZS.st {L:LN}{w w':World}{c:CL}(h:ZS L w.heap c) (hs:Step L w w'):ZS L w'.heap c:=⟨h.ev.st hs,h.co.st hs,h.rq.st hs,h.ex.st hs,h.cs.st hs⟩
theorem ZS.up {L L':LN}{H:Array Obj}{c:CL}(h:ZS L H c) (E:∀b∈L',b∈L∨H.size≤b):ZS L' H c:=⟨h.ev.up E,h.co.up E,h.rq.up E,h.ex.up E,h.cs.up E⟩
theorem ZS.ones {L:LN}{H:Array Obj}{c:CL}(h:ZS L H c):ZP c.cells:=⟨h.ev.arr.one,h.co.arr.one,h.rq.arr.one,h.ex.arr.one,h.cs.arr.one,La⟩
def QmV (N:Nat) (H:Array Obj) (v:Value) (k:Q4):Prop:=∃c:CL,v=c.val∧c.cel=k∧∀L:LN,(∀b∈L,b<N)→ZS L H c
open Go.Proofs.Tryz
theorem qt (s:ByteArray) (ha:yW s) (w:World):QG prog 166 [.string s] w λr w'=>r=.bool (Xq s)∧w'=w:=by
 unfold yW at ha;refine QG.of_W func166 Z ntmps166 results166 (by simp) ?_;refine Qc<|Qf<|Qg<|Qc<|Qb<|x (QdQ Z)<|Qb<|xe<|Qh<|Qz (α:=Nat) [(2,5),(8,46)] (λz=>[(8,.int .i64 z)]) (λz w'=>w'=w∧z≤s.size∧(List.range' z (s.size - z)).all (nmQ s)=(List.range' 0 s.size).all (nmQ s)) (λz=>s.size - z) (by rfl) 0 Lb ⟨Z,Ln _,by rw[Nat.sub_zero]⟩ ?_;rintro k g Y ⟨rfl,hk,E⟩
 refine Qc<|x (QA Z Z)<|xe<|Qg<|QC Z (λh9=>?_) (λh9=>?_)
 ·refine Qy ?_;have hb:s.size≤k:=by have he:¬(k:Int)<(s.size:Int):=h9;omega
  rw[Qlb hb] at E;have H:Xq s=decide (0<s.size∧s.size≤32):=by unfold Xq;rw[←E];simp
  rw[H];refine QZ (α:=Bool) [(2,2),(47,54)] (λz=>[(2,.bool z)]) (λz w'=>w'=Y∧z=decide (0<s.size∧s.size≤32)) (by rfl) ?_ ?_
  ·refine Qx<|Qb<|x (QdQ Z)<|xb (ZY Z Z) (λhf=>?_) (λhf=>?_)
   ·refine Qb<|Qb<|x (QdQ Z)<|x (Kw Z Z)<|x (Qo Z)<|Qf ?_;exact ⟨_,Lb,Z,by first | exact bT (by omega) | exact bF (by omega) | exact bD (by omega)⟩
   refine Qb<|xs Z<|xs Z<|xs Z<|x (Qo Z)<|Qf ?_;exact ⟨_,Lb,Z,by first | exact bT (by omega) | exact bF (by omega) | exact bD (by omega)⟩
  rintro z g w2 ⟨rfl,rfl⟩;exact Ql ⟨[_],Lb,Z,Z⟩
 have I:k<s.size:=by have he:(k:Int)<(s.size:Int):=h9;omega
 rw[Qh6 I,Mg] at E;refine Qi<|Qg<|Qh<|Qc<|Qb<|Qf<|Qc<|Qb<|Qb<|x (Qig (i:=k) Z Z I)<|Qf ?_;have hq:nmQ s k=decide (nmP k (chr s k)):=rfl;refine Zh (chr s k) λc hc=>?_;rw[hc] at hq;refine QZ (α:=Bool) [(5,5),(14,31)] (λz=>[(5,.bool z)]) (λz w'=>w'=Y∧z=decide ((97≤c∧c≤122)∨(65≤c∧c≤90)∨c=95)) (by rfl) ?_ ?_
 ·rw[←hc];refine Qx<|Qb<|xb (ZZ Z Z) (λhg=>?_) (λhg=>?_)
  ·refine Qb<|Qb<|xb (Kw Z Z) (λhh=>?_) (λhh=>?_)
   ·refine x (Qo Z)<|Qb<|xs Z<|xs Z<|xs Z<|xs Z<|xs Z<|xs Z<|x (Qo Z)<|Qb<|xs Z<|xs Z<|x (Qo Z) <|
     Qf ?_
    exact ⟨_,Lb,Z,by first | exact bT (by omega) | exact bF (by omega) | exact bD (by omega)⟩
   refine x (Qo Z)<|Qb<|Qb<|xb (ZZ Z Z) (λJ=>?_) (λJ=>?_)
   ·refine Qb<|Qb<|xb (Kw Z Z) (λU=>?_) (λU=>?_)
    ·refine x (Qo Z)<|x (Qo Z)<|Qb<|xs Z<|xs Z<|x (Qo Z)<|Qf ?_;exact ⟨_,Lb,Z,by first | exact bT (by omega) | exact bF (by omega) | exact bD (by omega)⟩
    refine x (Qo Z)<|x (Qo Z)<|Qb<|Qb<|x (Zr Z Z)<|x (Qo Z)<|Qf ?_;exact ⟨_,Lb,Z,by first | exact bT (by omega) | exact bF (by omega) | exact bD (by omega)⟩
   refine Qb<|xs Z<|xs Z<|x (Qo Z)<|x (Qo Z)<|Qb<|Qb<|x (Zr Z Z)<|x (Qo Z)<|x Qe <|
    xe ?_
   exact ⟨_,Lb,Z,by first | exact bT (by omega) | exact bF (by omega) | exact bD (by omega)⟩
  refine Qb<|xs Z<|xs Z<|x (Qo Z)<|Qb<|Qb<|xb (ZZ Z Z) (λJ=>?_) (λJ=>?_)
  ·refine Qb<|Qb<|xb (Kw Z Z) (λU=>?_) (λU=>?_)
   ·refine x (Qo Z)<|x (Qo Z)<|Qb<|xs Z<|xs Z<|x (Qo Z)<|Qf ?_;exact ⟨_,Lb,Z,by first | exact bT (by omega) | exact bF (by omega) | exact bD (by omega)⟩
   refine x (Qo Z)<|x (Qo Z)<|Qb<|Qb<|x (Zr Z Z)<|x (Qo Z)<|Qf ?_;exact ⟨_,Lb,Z,by first | exact bT (by omega) | exact bF (by omega) | exact bD (by omega)⟩
  refine Qb<|xs Z<|xs Z<|x (Qo Z)<|x (Qo Z)<|Qb<|Qb<|x (Zr Z Z)<|x (Qo Z)<|x Qe <|
   xe ?_
  exact ⟨_,Lb,Z,by first | exact bT (by omega) | exact bF (by omega) | exact bD (by omega)⟩
 rintro z g w4 ⟨rfl,rfl⟩;refine QZ (α:=Bool) [(32,45)] (λz=>[(45,.bool z)]) (λz w'=>w'=w4∧z=decide (¬nmP k c)) (by rfl) ?_ ?_
 ·unfold nmP;rw[←hc];refine Qx<|Qb<|xb (zC Z) (λhi=>?_) (λhi=>?_)
  ·refine Qb<|Qb<|xb (Zr Z Z) (λhj=>?_) (λhj=>?_)
   ·refine Qb<|xs Z<|xs Z<|x (Qo Z)<|Qb<|xs Z<|xs Z<|x (Qo Z)<|x (Qo Z)<|xe ?_;exact ⟨_,Lb,Z,by first | exact bT (by omega) | exact bF (by omega) | exact bD (by omega)⟩
   refine Qb<|Qb<|xb (QA Z Z) (λhl=>?_) (λhl=>?_)
   ·refine x (Qo Z)<|Qb<|xs Z<|xs Z<|x (Qo Z)<|x (Qo Z)<|xe ?_;exact ⟨_,Lb,Z,by first | exact bT (by omega) | exact bF (by omega) | exact bD (by omega)⟩
   refine x (Qo Z)<|Qb<|Qb<|x (ZY Z Z)<|x (Qo Z)<|x (Qo Z)<|xe ?_;exact ⟨_,Lb,Z,by first | exact bT (by omega) | exact bF (by omega) | exact bD (by omega)⟩
  refine Qb<|xs Z<|xs Z<|xs Z<|xs Z<|xs Z<|xs Z<|xs Z<|xs Z<|xs Z<|xs Z<|x (Qo Z)<|xe ?_;exact ⟨_,Lb,Z,by first | exact bT (by omega) | exact bF (by omega) | exact bD (by omega)⟩
 rintro z g w5 ⟨rfl,rfl⟩;refine Q3 rfl (λV=>?_) (λV=>?_)
 ·refine Qc<|Qf ?_;have H:Xq s=false:=by
   unfold Xq;rw[←E,hq,decide_eq_false V];rfl
  exact Ql ⟨[_],Lb,by rw[H];rfl,Z⟩
 refine Qi ?_;have hm:nmP k c:=Lo.1 V;refine Qx<|QQ Z Z<|Qb<|xe ?_;rw[hq,decide_eq_true hm,Bool.true_and] at E;exact ⟨k+1,by omega,Lb,Z,I,E⟩
def nmM (l:List ByteArray):List (ByteArray×Value):=l.map λs=>(s,.bool true)
theorem Qln (l:List ByteArray) (s:ByteArray):mget (nmM l) s=if s∈l then some (.bool true) else none:=by
 induction l with
 | nil=>rfl
 | cons a l ih =>
  show (if a=s then some (Value.bool true) else mget (nmM l) s)=_
  rw[ih];by_cases h:a=s
  ·subst h;simp
  have:s≠a:=λe=>h e.symm;simp[h,this]
theorem Qfm {l:List ByteArray}{s:ByteArray}(h:s∉l):mput (nmM l) s (.bool true)=nmM (l++[s]):=by
 induction l with
 | nil=>rfl
 | cons a l ih =>
  have h1:a≠s:=λe=>h (by subst e;exact Lm);show (if a=s then (a,Value.bool true)::nmM l else (a,Value.bool true)::mput (nmM l) s (.bool true))=_
  rw[if_neg h1,ih (λhm=>h (Lk _ hm))];rfl
section
variable {P:Program} {f:Fr} {w:World} {d:Option Nat} {ty:Nat} {ps:String} {af:Array Edge} {gd:Option (Nat×Bool)}
theorem Qcd {t kt et:Nat}[hm:Mp P t kt et (.bool false)] [hk:Key P kt Js] {x y:Operand}{b:Nat}{l:List ByteArray}{s:ByteArray}(h:ZN Js w.heap b (nmM l)) (hx:ev f x=.map (some b)) (hy:ev f y=.string s) :
  (execOp (ev f) ⟨d,.lookup t x y false,ty,ps,af,gd⟩).run P w=.ok (.value (.bool (decide (s∈l)))) w:=by
 rw[J3 h hx hy,Qln];by_cases hs:s∈l <;> simp[hs]
end
theorem Qeq {s:List ByteArray}{l:List VD}{k:Nat}(h:k<l.length):qA s (l.drop k)=if X5 s (l[k]'h)≠0 then X5 s (l[k]'h) else qA (s++[(l[k]'h).nm]) (l.drop (k+1)):=by
 rw[Q7 h];rfl
theorem yn {L:LN}{w:World}{v:Value}{l:List VD}(h:KI L w.heap v l):QG prog 113 [v] w λr w'=>r=.int .i64 (JD l)∧Step [] w w':=by
 have h2:=h.arr.le;refine QG.of_W func113 Z ntmps113 results113 (by simp) ?_;refine Qc<|Qf<|Qg<|Qc<|Qb<|x (Qr h.arr Z)<|x (ZY Z Z)<|xe<|Q3 rfl (λh8=>?_) (λh8=>?_)
 ·refine Qc<|Qf ?_;exact Ql ⟨[_],Lb,by unfold JD;rw[if_pos (by have h9:(32:Int)<(l.length:Int):=h8;omega)];rfl,Step.refl _ _⟩
 have hck:JD l=qA [] l:=by unfold JD;rw[if_neg (by have h9:¬(32:Int)<(l.length:Int):=h8;omega)]
 rw[hck];refine Qi<|Qc<|xl Z<|Ya Js λb9 w1 hi hp hq=>Qf<|Qg<|Qc<|Qb<|x (Qr (h.arr.ext hi) Z)<|Qb<|xe<|Qh<|Qz (α:=Nat×List ByteArray) [(2,2),(5,5),(12,50)] (λz=>[(12,.int .i64 z.1)]) (λz w'=>z.1≤l.length∧Step [] w w'∧ZN Js w'.heap b9 (nmM z.2)∧qA z.2 (l.drop z.1)=qA [] l) (λz=>l.length - z.1) (by rfl) (0,[]) Lb
  ⟨Ln _,hi,hq,Z⟩ ?_
 rintro ⟨k,sn⟩ g w2 ⟨hk,I,hj,E⟩;simp only[] at hk hj E;refine Qc<|x (QA Z Z)<|xe<|Qg<|QC Z (λhc=>?_) (λhc=>?_)
 ·refine Qy ?_;have hr:l.length≤k:=by have hs:¬(k:Int)<(l.length:Int):=hc;omega
  rw[Lx hr] at E;refine Qc<|Qf ?_;exact Ql ⟨[_],Lb,by rw[←E];rfl,I⟩
 have Y:k<l.length:=by have hs:(k:Int)<(l.length:Int):=hc;omega
 rw[Qeq Y] at E;have hl:=h.nm _ (Le Y);refine Qi<|Qg<|Qh<|Qc<|xig Qbk (h.arr.ext I) Z Z Y λh3 hm=>?_;refine Zh (l[k]'Y) λe he=>?_;rw[he] at hm E hl;refine x (QJ hm Z Z)<|xl Z<|Qu (us:=[.string .empty,.bool false,.bool false,.bool false,.int .i64 0]) Z λb5 w3 ht hu H=>xl Z<|Qn (us:=Zt e) H Z Z Z Z ⟨Z,Z,Z,Z,Z,La⟩ λw4 hv H =>
  xe ?_
 have J:Step [] w2 w4:=ht.then1 hv hu;have ho:=hj.ext J;refine Qg<|Qh<|Qc<|x (Qa Z)<|x (Qd H Z Z)<|xl Z<|xf<|(qt e.nm hl _).mono ?_;rintro r5 w5 ⟨rfl,rfl⟩;refine x (Zs Z)<|Qf<|QW Z (λhf=>?_) (λhf=>?_)
 ·have U:Xq e.nm=false:=by simpa using hf
  have h1:X5 sn e=7:=by unfold X5;rw[if_pos U]
  refine Qc<|Qf ?_;exact Ql ⟨[_],Lb,by rw[←E,h1];rfl,I.trans J⟩
 have U:¬Xq e.nm=false:=by simpa using hf
 refine Qc<|Qb<|x (Qa Z)<|x (Qd H Z Z)<|x (Qcd ho Z Z)<|Qf<|Q3 Z (λV=>?_) (λV=>?_)
 ·have h1:X5 sn e=8:=by unfold X5;rw[if_neg U,if_pos V]
  refine Qc<|Qf ?_;exact Ql ⟨[_],Lb,by rw[←E,h1];rfl,I.trans J⟩
 refine QZ (α:=Bool) [(26,34)] (λz=>[(26,.bool z)]) (λz w'=>w'=w5∧z=decide (e.fl<0∨4<e.fl)) (by rfl) ?_ ?_
 ·refine Qx<|x (Qa Z)<|x (Qd H Z Z)<|xb (QA Z Z) (λhw=>?_) (λhw=>?_)
  ·refine Qb<|xs Z<|xs Z<|xs Z<|x (Qo Z)<|Qf ?_;exact ⟨_,Lb,Z,by first | exact bT (by omega) | exact bF (by omega) | exact bD (by omega)⟩
  refine Qb<|x (Qa Z)<|x (Qd H Z Z)<|x (ZY Z Z)<|x (Qo Z)<|Qf ?_;exact ⟨_,Lb,Z,by first | exact bT (by omega) | exact bF (by omega) | exact bD (by omega)⟩
 rintro z g w6 ⟨rfl,rfl⟩;refine Q3 rfl (λha=>?_) (λha=>?_)
 ·have h1:X5 sn e=2:=by unfold X5;rw[if_neg U,if_neg V,if_pos ha]
  refine Qc<|Qf ?_;exact Ql ⟨[_],Lb,by rw[←E,h1];rfl,I.trans J⟩
 refine QZ (α:=Bool) [(35,46)] (λz=>[(35,.bool z)]) (λz w'=>w'=w6∧z=decide (e.fl≠0∧(e.co || e.ob)=true)) (by rfl) ?_ ?_
 ·refine Qx<|x (Qa Z)<|x (Qd H Z Z)<|xb (Q8 Z Z) (λhb=>?_) (λhb=>?_)
  ·refine Qb<|x (Qa Z)<|xB (Qd H Z Z) (λhg=>?_) (λhg=>?_)
   ·refine Qb<|xs Z<|xs Z<|x (Qo Z)<|x (Qo Z)<|Qf ?_;exact ⟨_,Lb,Z,by rw[hg,decide_eq_true ⟨hb,by simp⟩]⟩
   refine Qb<|x (Qa Z)<|x (Qd H Z Z)<|x (Qo Z)<|x (Qo Z)<|Qf<|⟨_,Lb,Z,?_⟩;show e.ob=_;rw[hg];cases e.ob <;> simp[show ¬e.fl=0 from hb]
  refine Qb<|xs Z<|xs Z<|xs Z<|xs Z<|xs Z<|xs Z<|x (Qo Z)<|Qf ?_;exact ⟨_,Lb,Z,bF (λh1=>hb h1.1)⟩
 rintro z g w7 ⟨rfl,rfl⟩;refine Q3 rfl (λhh=>?_) (λhh=>?_)
 ·have h1:X5 sn e=13:=by unfold X5;rw[if_neg U,if_neg V,if_neg ha,if_pos hh]
  refine Qc<|Qf ?_;exact Ql ⟨[_],Lb,by rw[←E,h1];rfl,I.trans J⟩
 have h1:X5 sn e=0:=by unfold X5;rw[if_neg U,if_neg V,if_neg ha,if_neg hh]
 rw[h1,if_neg (λh=>h rfl)] at E;refine Qi<|Qx<|Qb<|x (Qa Z)<|x (Qd H Z Z)<|xl Z<|Y1 (k:=e.nm) ho Z Z λw8 hy hz=>xe ?_;refine Qx<|QQ Z Z<|Qb<|xe ?_;have h0:ZN Js w8.heap b9 (nmM (sn++[e.nm])):=by rw[←Qfm V];exact hz
 exact ⟨(k+1,sn++[e.nm]),by simp only[];omega,Lb,Y,(I.trans J).then1 hy hp,h0,E⟩
theorem QcA {α:Type}(q:α→Bool) (x:α):∀(l:List α) (i:Nat),ixs q i (l++[x])=ixs q i l++if q x=true then [((i+l.length:Nat):Int)] else []
 | [],i=>by simp[ixs]
 | a::l,i=>by
  have ih:=QcA q x l (i+1);simp only[List.cons_append,ixs,ih,List.length_cons];rw[show i+1+l.length=i+(l.length+1) by omega];split <;> simp
theorem Ut {α:Type}(q:α→Bool):∀(l:List α) (i:Nat),(ixs q i l).length≤l.length
 | [],i=>by simp[ixs]
 | a::l,i=>by
  have ih:=Ut q l (i+1);unfold ixs;split <;> simp <;> omega
theorem Qcz {α:Type}(q:α→Bool) {l:List α}{k:Nat}(h:k<l.length):ixs q 0 (l.take (k+1))=ixs q 0 (l.take k)++if q (l[k]'h)=true then [(k:Int)] else []:=by
 rw[Lj h,QcA];simp[Nat.min_eq_left (Nat.le_of_lt h)]
theorem QgX {g:Nat}{fn:Func}[Fu prog g fn] {q:VD→Bool}(hq:∀(e:VD) (w:World),QG prog g [.agg (Zt e).toArray] w λr w'=>r=.bool (q e)∧Step [] w w') {L:LN}{w:World}{v:Value}{l:List VD}(h:KI L w.heap v l) :
  QG prog 120 [v,.func (.func g) #[] #[]] w λr w'=>Step [] w w'∧Qs 3 w.heap.size w' r (ixs q 0 l):=by
 have hu:=h.arr.le;refine QG.of_W func120 Z ntmps120 results120 (by simp) ?_;refine Qc<|Qf<|Qc<|Qf<|Qg<|Qc<|Qb<|x (Qr h.arr Z)<|Qb<|xe<|Qh<|Qz (α:=Nat×Value) [(5,7),(10,22)] (λz=>[(5,z.2),(10,.int .i64 z.1)]) (λz w'=>z.1≤l.length∧Step [] w w'∧Qs 3 w.heap.size w' z.2 (ixs q 0 (l.take z.1))) (λz=>l.length - z.1) (by rfl) (0,nS) ⟨Z,Z,La⟩
  ⟨Ln _,Step.refl _ _,QP _ _ _ _⟩ ?_
 rintro ⟨k,vo⟩ g w1 ⟨hk,E,J⟩;simp only[] at hk J;refine Qc<|x (QA Z Z)<|xe<|Qg<|QC Z (λV=>?_) (λV=>?_)
 ·refine Qy ?_;have hh:l.length≤k:=by have hi:¬(k:Int)<(l.length:Int):=V;omega
  rw[Ls hh] at J;refine Qc<|Qb<|Qf ?_;exact Ql ⟨[_],Lb,E,J⟩
 have H:k<l.length:=by have hi:(k:Int)<(l.length:Int):=V;omega
 have I:=Qcz q H;have hv:=Ut q (l.take k) 0;have hw:(l.take k).length=k:=by simp;omega
 refine Qi<|Qg<|Qh<|Qc<|Qb<|xig Qbk (h.arr.ext E) Z Z H λhy hg=>?_;refine Zh (l[k]'H) λe he=>?_;rw[he] at hg I;refine x (QJ hg Z Z)<|xl Z<|Qu (us:=[.string .empty,.bool false,.bool false,.bool false,.int .i64 0]) Z λb7 w2 hj hl Y=>x Qe <|
  xl rfl<|Qn (us:=Zt e) Y Z Z Z Z ⟨Z,Z,Z,Z,Z,La⟩ λw3 hm Y=>xe ?_
 have hn:Step [] w1 w3:=hj.then1 hm hl;refine Qc<|Qb<|x (Qp Y Z Z)<|xl Z<|xc (first:=[]) (capt:=[]) Z<|(hq e w3).mono ?_;rintro r4 w4 ⟨rfl,ho⟩;have U:=hn.trans ho;have ha:=Qt J U;have hz:=(E.trans U).size;refine xe<|QW rfl (λhc=>?_) (λhc=>?_)
 ·rw[if_pos hc] at I;refine Qx<|Qb<|Qb<|xl Z<|QH (us:=[[.int .i64 k]]) Z Z (by decide) (by simp) ⟨rfl,rfl,La⟩ λh0 w5 hf h1 hp=>?_;have hr:=Qt ha hf;have h2:=hf.size;refine xl Z<|Q6 (news:=[.int .i64 k]) (L:=[]) hr Z Z Z (hp.at (by simp)) (by simp[Value.oneCell']) (by omega) (by omega) λv6 w6 hs ht h3 =>
   Qf ?_
  have hge:=Qq ha;refine Qx<|QQ Z Z<|Qb<|xe<|⟨(k+1,v6),by simp only[];omega,⟨Z,Z,La⟩,H,((E.trans U).trans hf).then ht (λb hb=>.inr (hge b hb).1),?_⟩;simp only[];rw[I];exact Qs.snoc hs
 rw[if_neg (by rw[hc];decide),LS] at I;refine Qi<|Qx<|QQ Z Z<|Qb<|xe ?_;exact ⟨(k+1,vo),by simp only[];omega,⟨Z,Z,La⟩,H,E.trans U,by simp only[];rw[I];exact ha⟩
theorem QeC (e:VD) (w:World):QG prog 115 [.agg (Zt e).toArray] w λr w'=>r=.bool (!e.co)∧Step [] w w':=by
 refine QG.of_W func115 Z ntmps115 results115 (by simp) ?_;refine Qc<|xl Z<|QR (us:=Zt e) Z λI J E U H=>Qf<|Qc<|x (Qa Z)<|x (Qd H Z Z)<|x (Zs Z)<|Qf ?_;exact Ql ⟨[_],Lb,Z,E⟩
theorem Qaj {L:LN}{w:World}{v:Value}{l:List VD}(h:KI L w.heap v l):QG prog 65 [v,.int .i64 2] w λr w'=>Step [] w w' ∧
  ∃vo,r=.tuple #[vo,.int .i64 (JD l)]∧Qs 3 w.heap.size w' vo (if JD l=0 then unc l else []):=by
 refine QG.of_W func65 Z ntmps65 results65 (by simp) ?_;refine Qc<|x Qe<|Qf<|Qg<|Qc<|Qb<|xl Z<|xf<|(yn h).mono ?_;rintro r1 V ⟨rfl,J⟩;refine Qf<|Qc<|Qb<|x (Q8 Z Z)<|xe<|Q3 rfl (λH=>?_) (λH=>?_)
 ·refine Qc<|Qb<|x Qe<|Qf ?_;exact Ql ⟨[_,_],⟨Z,Z,La⟩,J,_,Z,by rw[if_neg H];exact QP _ _ _ _⟩
 have U:JD l=0:=Lo.1 H;refine Qi<|Qc<|xl Z<|Ya JV λb15 w2 Y E ha=>xl Z<|Yz (k:=1) ha Z Z λw3 hb hc=>xl Z<|Yz (k:=2) hc Z Z λw4 he hf =>
  xl rfl<|Yz (k:=3) hf Z Z λw5 hg hh=>xl Z<|Yz (k:=4) hh Z Z λw6 hi hj=>xl Z<|Yz (k:=5) hj Z Z λw7 hk hl=>xl Z<|Yz (k:=6) hl Z Z λw8 hm hn =>
  Qb<|Qf ?_
 have ho:Step [] V w8:=(((((Y.then1 hb E).then1 he E).then1 hg E).then1 hi E).then1 hk E).then1 hm E;refine Qc<|Qb<|Qb<|x (jA (k:=(2:Int)) hn Z Z Z)<|Qb<|x (Qj Z Z)<|x (Qj Z Z)<|x Qe<|Qf<|Qg<|Qc<|Qb<|x (Zs Z)<|xe<|YT rfl ?_;refine Qi ?_;have I:=J.trans ho;refine Qc<|Qb<|Qb<|xl Z<|xf<|(QgX QeC (h.ext I)).mono ?_;rintro r9 w9 ⟨hp,hq⟩
 refine x Qe<|Qf<|Ql ⟨[_,_],⟨Z,Z,La⟩,I.trans hp,_,by rw[U];rfl,?_⟩;rw[if_pos U];exact Zi hq I.size
theorem QcF (n:Int) (w:World):QG prog 213 [.int .i64 n] w λr w'=>r=.bool (grt n)∧w'=w:=by
 refine QG.of_W func213 Z ntmps213 results213 (by simp) ?_;refine Qc<|Qf<|QZ (α:=Bool) [(2,8)] (λz=>[(2,.bool z)]) (λz w'=>w'=w∧z=grt n) (by rfl) ?_ ?_
 ·refine Qx<|Qb<|xb (QA Z Z) (λh4=>?_) (λh4=>?_)
  ·refine Qb<|xs Z<|xs Z<|x (Qo Z)<|Qf ?_;exact ⟨_,Lb,Z,by unfold grt;rw[decide_eq_true h4];rfl⟩
  refine Qb<|Qb<|x (ZY Z Z)<|x (Qo Z)<|Qf ?_;exact ⟨_,Lb,Z,by unfold grt;rw[decide_eq_false h4];rfl⟩
 rintro z g E ⟨rfl,rfl⟩;exact Ql ⟨[_],Lb,Z,Z⟩
theorem Qep {sz:LI}{ls:List (Int×Int)}{k:Nat}(h:k<ls.length):YF sz (pv (ls.map (·.1)) k) (ls.drop k)=if (ls[k]'h).1<0∨(sz.length:Int)≤(ls[k]'h).1 then 2 else if zX (pv (ls.map (·.1)) k) (ls[k]'h).1=true then 5 else if (ls[k]'h).2<0∨cget sz (ls[k]'h).1.toNat≤(ls[k]'h).2 then 2 else YF sz (pv (ls.map (·.1)) (k+1)) (ls.drop (k+1)):=by
 rw[Q7 h,Kh (by simpa using h),LJ];rfl
theorem UL {w:World}{vs vx vk vl:Value}{sz:LI}{ls:List (Int×Int)}{nm:ByteArray}(hS:QL [] w.heap vs sz) (hl:P2s [] w.heap vl ls) :
  QG prog 177 [.agg #[vs,vx,vk],.agg #[.string nm,vl]] w λr w'=>r=.int .i64 (JQ sz ls)∧Step [] w w':=by
 have hH:=hl.le;refine QG.of_W func177 Z ntmps177 results177 (by simp) ?_;refine Qc<|xl Z<|QR (us:=[vs,vx,vk]) Z λb2 w1 hz hI Y=>xl Z<|QR (us:=[.string nm,vl]) Z λb3 w2 hq hJ ha=>Qf ?_;have E:=hz.trans hq
 replace Y:=Y.ext hq;refine Qg<|Qc<|x (Qa Z)<|x (Qd ha Z Z)<|x (Qr (hl.ext E) Z)<|x (Zr Z Z)<|xe<|Q3 rfl (λhb=>?_) (λhb=>?_)
 ·refine Qc<|Qf ?_;exact Ql ⟨[_],Lb,by unfold JQ;rw[if_pos (by have h0:(ls.length:Int)=0:=hb;omega)];rfl,E⟩
 have h1:ls.length≠0:=by have h0:¬(ls.length:Int)=0:=hb;omega
 have h2:JQ sz ls=YF sz none ls:=by unfold JQ;rw[if_neg h1]
 rw[h2];refine Qi<|Qg<|Qc<|x (Qa Z)<|x (Qd ha Z Z)<|x (Qr (hl.ext E) Z)<|Qb<|xe<|Qh<|Qz (α:=Nat) [(4,6),(14,61)] (λz=>[(14,.int .i64 z)]) (λz w'=>z≤ls.length∧Step [] w2 w'∧YF sz (pv (ls.map (·.1)) z) (ls.drop z)=YF sz none ls) (λz=>ls.length - z) (by rfl) 0 Lb
  ⟨Ln _,Step.refl _ _,Z⟩ ?_
 rintro k g w3 ⟨hk,J,hck⟩;have hf:=E.trans J;have hr:=Y.ext J;have h3:=ha.ext J;have hs:=hl.ext hf;have ht:=hS.ext hf;refine Qc<|x (QA Z Z)<|xe<|Qg<|QC Z (λhg=>?_) (λhg=>?_)
 ·refine Qy ?_;have h4:ls.length≤k:=by have h5:¬(k:Int)<(ls.length:Int):=hg;omega
  rw[Lx h4] at hck;refine Qc<|Qf ?_;exact Ql ⟨[_],Lb,by rw[←hck];rfl,hf⟩
 have U:k<ls.length:=by have h5:(k:Int)<(ls.length:Int):=hg;omega
 rw[Qep U] at hck;refine Qi<|Qg<|Qh<|Qc<|Qb<|xig JU hs Z Z U λhK hu=>?_;refine Zh (ls[k]'U) λe he=>?_;rw[he] at hu hck;refine x (QJ hu Z Z)<|xl Z<|Qu (us:=[.int .i64 0,.int .i64 0]) Z λb6 w4 h6 h7 I=>x Qe<|xl Z<|Qn (us:=Zb e) I Z Z Z Z ⟨Z,Z,La⟩ λw5 h8 I=>xe ?_;have H:Step [] w3 w5:=h6.then1 h8 h7;have hv:=J.trans H
 refine Qh<|QZ (α:=Bool) [(19,30)] (λz=>[(19,.bool z)]) (λz w'=>w'=w5∧z=decide (e.1<0∨(sz.length:Int)≤e.1)) (by rfl) ?_ ?_
 ·refine Qx<|x (Qa Z)<|x (Qd I Z Z)<|xb (QA Z Z) (λh9=>?_) (λh9=>?_)
  ·refine Qb<|xs Z<|xs Z<|xs Z<|xs Z<|xs Z<|xs Z<|x (Qo Z)<|Qf ?_;exact ⟨_,Lb,Z,by first | exact bT (by omega) | exact bF (by omega) | exact bD (by omega)⟩
  refine Qb<|x (Qa Z)<|x (Qd I Z Z)<|x (Qa Z)<|x (Qd (hr.ext H) Z Z)<|x (Qr (ht.ext H) Z)<|x (ZZ Z Z) <|
   x (Qo rfl)<|Qf ?_
  exact ⟨_,Lb,Z,by first | exact bT (by omega) | exact bF (by omega) | exact bD (by omega)⟩
 rintro z g w6 ⟨rfl,rfl⟩;refine Q3 rfl (λhh=>?_) (λhh=>?_)
 ·rw[if_pos hh] at hck;refine Qc<|Qf ?_;exact Ql ⟨[_],Lb,by rw[←hck];rfl,E.trans hv⟩
 rw[if_neg hh] at hck;have hA:e.1=((e.1.toNat:Nat):Int):=by omega
 have hB:e.1.toNat<sz.length:=by omega
 refine QZ (α:=Bool) [(31,45)] (λz=>[(31,.bool z)]) (λz w'=>Step [] w6 w'∧z=zX (pv (ls.map (·.1)) k) e.1) (by rfl) ?_ ?_
 ·refine QU (Step [] w6) [(0,true),(1,true),(2,true),(3,true),(4,true),(5,true),(6,true),(7,true),(8,true),(9,true),(10,true),(11,true),(12,true),(13,true),(14,true)] mixed (by rfl) (by kernel_rfl) (Step.drew _ _) ?_;refine p (λ_=>Qm)<|pb (λ_=>ZY Z Z) (λhi=>?_) (λhi=>?_)
  ·have hj:k≠0:=by have hC:(0:Int)<(k:Int):=hi;omega
   have hk1:((k:Int) - 1)=((k - 1:Nat):Int):=by omega
   have hm:k - 1<ls.length:=by omega
   refine p (λ_=>Qm)<|p (λ_=>Qa Z)<|pq (λ_ hc=>Qd (I.ext hc) Z Z)<|p (λ_=>Qa Z)<|pq (λ_ hc=>Qd ((h3.ext H).ext hc) Z Z) <|
    p (λ_=>Qm)<|p (λ_=>J2 Z Z ⟨by omega,by omega⟩)<|Lg.pig (g:=Zb) (i:=k - 1) Z JU (hs.ext H) Z (congrArg (Value.int .i64) hk1) hm λhL hD=>p (λ_=>Zj Z) <|
    pq (λ_ hc=>Qv ((hD.fld 0 _ Z).ext hc) Z)<|p (λ_=>Kw Z Z)<|p (λ_=>Qo Z)<|p (λ_=>Qe)<|pe ?_
   refine ⟨_,Lb,Step.drew _ _,?_⟩;have:pv (ls.map (·.1)) k=some (ls[k - 1]'hm).1:=by simp[pv,hj,hm]
   rw[this];rfl
  have hj:k=0:=by have hC:¬(0:Int)<(k:Int):=hi;omega
  refine p (λ_=>Qm)<|ps<|ps<|ps<|ps<|ps<|ps<|ps<|ps<|ps<|ps<|p (λ_=>Qo Z)<|p (λ_=>Qe)<|pe ?_;exact ⟨false,Lb,Step.drew _ _,by simp[pv,hj,zX]⟩
 rintro z g w7 ⟨V,rfl⟩;have hw:=hv.trans V;refine QW rfl (λhn=>?_) (λhn=>?_)
 ·rw[if_pos hn] at hck;refine Qc<|Qf ?_;exact Ql ⟨[_],Lb,by rw[←hck];rfl,E.trans hw⟩
 rw[if_neg (by simp[hn])] at hck;have ho:=I.ext V;refine QZ (α:=Bool) [(46,60)] (λz=>[(46,.bool z)]) (λz w'=>Step [] w7 w'∧z=decide (e.2<0∨cget sz e.1.toNat≤e.2)) (by rfl) ?_ ?_
 ·refine QU (Step [] w7) [(0,true),(1,true),(2,true),(3,true),(4,true),(5,true),(6,true),(7,true),(8,true),(9,true),(10,true),(11,true),(12,true),(13,true),(14,true)] mixed (by rfl) (by kernel_rfl) (Step.drew _ _) ?_;refine p (λ_=>Qa Z)<|pq (λ_ hc=>Qd (ho.ext hc) Z Z)<|pb (λ_=>QA Z Z) (λhE=>?_) (λhE=>?_)
  ·refine p (λ_=>Qm)<|ps<|ps<|ps<|ps<|ps<|ps<|ps<|ps<|ps<|p (λ_=>Qo Z)<|p (λ_=>Qe)<|pe ?_;exact ⟨_,Lb,Step.drew _ _,by first | exact bT (by omega) | exact bF (by omega) | exact bD (by omega)⟩
  refine p (λ_=>Qm)<|p (λ_=>Qa Z)<|pq (λ_ hc=>Qd (ho.ext hc) Z Z)<|p (λ_=>Qa Z)<|pq (λ_ hc=>Qd (((hr.ext H).ext V).ext hc) Z Z) <|
   p (λ_=>Qa Z)<|pq (λ_ hc=>Qd (ho.ext hc) Z Z)<|pic (i:=e.1.toNat) Z ((ht.ext H).ext V) Z (congrArg (Value.int .i64) hA) hB λhM hF=>pq (λ_ hc=>Qv (hF.ext hc) Z) <|
   p (λ_=>ZZ Z Z)<|p (λ_=>Qo Z)<|p (λ_=>Qe)<|pe ?_
  exact ⟨_,Lb,Step.drew _ _,by first | exact bT (by omega) | exact bF (by omega) | exact bD (by omega)⟩
 rintro z g w8 ⟨hG,rfl⟩;have hy:=hw.trans hG;refine Q3 rfl (λhp=>?_) (λhp=>?_)
 ·rw[if_pos hp] at hck;refine Qc<|Qf ?_;exact Ql ⟨[_],Lb,by rw[←hck];rfl,E.trans hy⟩
 rw[if_neg hp] at hck;refine Qi<|Qx<|QQ Z Z<|Qb<|xe ?_;exact ⟨k+1,by omega,Lb,U,hy,hck⟩
theorem Qem {sz:LI}{ls:List (Int×Int)}{k:Nat}(h:k<ls.length):Xt sz (pv (ls.map (·.1)) k) (ls.drop k)=if (ls[k]'h).1<0∨(sz.length:Int)≤(ls[k]'h).1 then 2 else if zX (pv (ls.map (·.1)) k) (ls[k]'h).1=true then 5 else if (ls[k]'h).2=0∨grt (ls[k]'h).2=true then 2 else Xt sz (pv (ls.map (·.1)) (k+1)) (ls.drop (k+1)):=by
 rw[Q7 h,Kh (by simpa using h),LJ];rfl
theorem VZ {w:World}{vs vx vk vl:Value}{sz:LI}{ls:List (Int×Int)}{nm:ByteArray}{bd:Int}(hS:QL [] w.heap vs sz) (hl:P2s [] w.heap vl ls) :
  QG prog 179 [.agg #[vs,vx,vk],.agg #[.string nm,vl,.int .i64 bd]] w λr w'=>r=.int .i64 (Xu sz ⟨nm,ls,bd⟩)∧Step [] w w':=by
 have hH:=hl.le;refine QG.of_W func179 Z ntmps179 results179 (by simp) ?_;refine Qc<|xl Z<|QR (us:=[vs,vx,vk]) Z λb2 w1 h1 hI Y=>xl Z<|QR (us:=[.string nm,vl,.int .i64 bd]) Z λb3 w2 hr hJ ha=>Qf ?_;have E:=h1.trans hr
 replace Y:=Y.ext hr;refine Qg<|Qc<|x (Qa Z)<|x (Qd ha Z Z)<|x (Qr (hl.ext E) Z)<|x (Zr Z Z)<|xe<|Q3 rfl (λhb=>?_) (λhb=>?_)
 ·refine Qc<|Qf ?_;exact Ql ⟨[_],Lb,by unfold Xu;rw[if_pos (by have h2:(ls.length:Int)=0:=hb;show ls.length=0;omega)];rfl,E⟩
 have h3:ls.length≠0:=by have h2:¬(ls.length:Int)=0:=hb;omega
 have h4:Xu sz ⟨nm,ls,bd⟩=if Xt sz none ls≠0 then Xt sz none ls else if grt bd=true then 2 else 0:=by unfold Xu;rw[if_neg h3]
 rw[h4];refine Qi<|Qg<|Qc<|x (Qa Z)<|x (Qd ha Z Z)<|x (Qr (hl.ext E) Z)<|Qb<|xe<|Qh<|Qz (α:=Nat) [(4,6),(14,55)] (λz=>[(14,.int .i64 z)]) (λz w'=>z≤ls.length∧Step [] w2 w'∧Xt sz (pv (ls.map (·.1)) z) (ls.drop z)=Xt sz none ls) (λz=>ls.length - z) (by rfl) 0 Lb
  ⟨Ln _,Step.refl _ _,Z⟩ ?_
 rintro k g w3 ⟨hk,J,hck⟩;have U:=E.trans J;have h5:=Y.ext J;have hs:=ha.ext J;have ht:=hl.ext U;have h6:=hS.ext U;refine Qc<|x (QA Z Z)<|xe<|Qg<|QC Z (λhf=>?_) (λhf=>?_)
 ·refine Qy ?_;have h7:ls.length≤k:=by have h8:¬(k:Int)<(ls.length:Int):=hf;omega
  rw[Lx h7] at hck;have h9:Xt sz none ls=0:=hck.symm;rw[h9,if_neg (λh=>h rfl)];refine Qg<|Qc<|x (Qa Z)<|x (Qd hs Z Z)<|xl Z<|xf<|(QcF bd _).mono ?_;rintro r4 w4 ⟨rfl,rfl⟩;refine xe<|QW Z (λhh=>?_) (λhh=>?_)
  ·rw[if_pos hh];refine Qc<|Qf ?_;exact Ql ⟨[_],Lb,Z,U⟩
  rw[if_neg (by simp[hh])];refine Qi<|Qc<|Qf ?_;exact Ql ⟨[_],Lb,Z,U⟩
 have V:k<ls.length:=by have h8:(k:Int)<(ls.length:Int):=hf;omega
 rw[Qem V] at hck;refine Qi<|Qg<|Qh<|Qc<|Qb<|xig JU ht Z Z V λhK hu=>?_;refine Zh (ls[k]'V) λe he=>?_;rw[he] at hu hck;refine x (QJ hu Z Z)<|xl Z<|Qu (us:=[.int .i64 0,.int .i64 0]) Z λb6 w4 hA hB H=>x Qe<|xl Z<|Qn (us:=Zb e) H Z Z Z Z ⟨Z,Z,La⟩ λw5 hC H=>xe ?_;have I:Step [] w3 w5:=hA.then1 hC hB;have hv:=J.trans I
 refine Qh<|QZ (α:=Bool) [(19,30)] (λz=>[(19,.bool z)]) (λz w'=>w'=w5∧z=decide (e.1<0∨(sz.length:Int)≤e.1)) (by rfl) ?_ ?_
 ·refine Qx<|x (Qa Z)<|x (Qd H Z Z)<|xb (QA Z Z) (λhD=>?_) (λhD=>?_)
  ·refine Qb<|xs Z<|xs Z<|xs Z<|xs Z<|xs Z<|xs Z<|x (Qo Z)<|Qf ?_;exact ⟨_,Lb,Z,by first | exact bT (by omega) | exact bF (by omega) | exact bD (by omega)⟩
  refine Qb<|x (Qa Z)<|x (Qd H Z Z)<|x (Qa Z)<|x (Qd (h5.ext I) Z Z)<|x (Qr (h6.ext I) Z)<|x (ZZ Z Z) <|
   x (Qo rfl)<|Qf ?_
  exact ⟨_,Lb,Z,by first | exact bT (by omega) | exact bF (by omega) | exact bD (by omega)⟩
 rintro z g w6 ⟨rfl,rfl⟩;refine Q3 rfl (λhi=>?_) (λhi=>?_)
 ·rw[if_pos hi] at hck;refine Qc<|Qf ?_;exact Ql ⟨[_],Lb,by rw[←hck,if_pos (by decide)];rfl,E.trans hv⟩
 rw[if_neg hi] at hck;have hL:e.1=((e.1.toNat:Nat):Int):=by omega
 refine QZ (α:=Bool) [(31,45)] (λz=>[(31,.bool z)]) (λz w'=>Step [] w6 w'∧z=zX (pv (ls.map (·.1)) k) e.1) (by rfl) ?_ ?_
 ·refine QU (Step [] w6) [(0,true),(1,true),(2,true),(3,true),(4,true),(5,true),(6,true),(7,true),(8,true),(9,true),(10,true),(11,true),(12,true),(13,true),(14,true)] mixed (by rfl) (by kernel_rfl) (Step.drew _ _) ?_;refine p (λ_=>Qm)<|pb (λ_=>ZY Z Z) (λhj=>?_) (λhj=>?_)
  ·have hm:k≠0:=by have hE:(0:Int)<(k:Int):=hj;omega
   have hk1:((k:Int) - 1)=((k - 1:Nat):Int):=by omega
   have hn:k - 1<ls.length:=by omega
   refine p (λ_=>Qm)<|p (λ_=>Qa Z)<|pq (λ_ hc=>Qd (H.ext hc) Z Z)<|p (λ_=>Qa Z)<|pq (λ_ hc=>Qd ((hs.ext I).ext hc) Z Z) <|
    p (λ_=>Qm)<|p (λ_=>J2 Z Z ⟨by omega,by omega⟩)<|Lg.pig (g:=Zb) (i:=k - 1) Z JU (ht.ext I) Z (congrArg (Value.int .i64) hk1) hn λhM hF=>p (λ_=>Zj Z) <|
    pq (λ_ hc=>Qv ((hF.fld 0 _ Z).ext hc) Z)<|p (λ_=>Kw Z Z)<|p (λ_=>Qo Z)<|p (λ_=>Qe)<|pe ?_
   refine ⟨_,Lb,Step.drew _ _,?_⟩;have:pv (ls.map (·.1)) k=some (ls[k - 1]'hn).1:=by simp[pv,hm,hn]
   rw[this];rfl
  have hm:k=0:=by have hE:¬(0:Int)<(k:Int):=hj;omega
  refine p (λ_=>Qm)<|ps<|ps<|ps<|ps<|ps<|ps<|ps<|ps<|ps<|ps<|p (λ_=>Qo Z)<|p (λ_=>Qe)<|pe ?_;exact ⟨false,Lb,Step.drew _ _,by simp[pv,hm,zX]⟩
 rintro z g w7 ⟨hw,rfl⟩;have hy:=hv.trans hw;refine QW rfl (λho=>?_) (λho=>?_)
 ·rw[if_pos ho] at hck;refine Qc<|Qf ?_;exact Ql ⟨[_],Lb,by rw[←hck,if_pos (by decide)];rfl,E.trans hy⟩
 rw[if_neg (by simp[ho])] at hck;have hz:=H.ext hw;refine QZ (α:=Bool) [(46,54)] (λz=>[(46,.bool z)]) (λz w'=>Step [] w7 w'∧z=decide (e.2=0∨grt e.2=true)) (by rfl) ?_ ?_
 ·refine Qx<|x (Qa Z)<|x (Qd hz Z Z)<|xb (Zr Z Z) (λhp=>?_) (λhp=>?_)
  ·refine Qb<|xs Z<|xs Z<|xs Z<|x (Qo Z)<|Qf ?_;exact ⟨_,Lb,Step.refl _ _,bT (.inl hp)⟩
  refine Qb<|x (Qa Z)<|x (Qd hz Z Z)<|xl Z<|xf<|(QcF e.2 _).mono ?_;rintro r9 w9 ⟨rfl,rfl⟩;refine x (Qo Z)<|Qf<|⟨grt e.2,Lb,Step.refl _ _,?_⟩;cases hg:grt e.2 with
  | true=>exact bT (.inr Z)
  | false=>exact bF (λh=>by rcases h with h | h;exact hp h;cases h)
 rintro z g w8 ⟨hG,rfl⟩;have h0:=hy.trans hG;refine Q3 rfl (λhq=>?_) (λhq=>?_)
 ·rw[if_pos hq] at hck;refine Qc<|Qf ?_;exact Ql ⟨[_],Lb,by rw[←hck,if_pos (by decide)];rfl,E.trans h0⟩
 rw[if_neg hq] at hck;refine Qi<|Qx<|QQ Z Z<|Qb<|xe ?_;exact ⟨k+1,by omega,Lb,V,h0,hck⟩
end Go.Proofs.YtjcgijbhaemldaaGreatDoor
namespace Go.Lg
open Go.RowKit
def Qdw:Fr→LN→LV→Fr
 | f,p::ps,v::vs=>Qdw (upd f p v) ps vs
 | f,_,_=>f
theorem U3 {n:Nat}{ds:LN}:∀(ps:LN) (vs:LV) (a:Act) (f:Fr),YU n ds a f→(∀p∈ps,p<n) →
  YU n ds { tmps:=(ps.zip vs).foldl (λt (x:Nat×Value)=>t.setIfInBounds x.1 x.2) a.tmps,defers:=a.defers } (Qdw f ps vs)
 | [],_,a,f,h,_=>by cases h;exact ⟨by assumption,by assumption,by assumption⟩
 | p::ps,[],a,f,h,_=>by cases h;exact ⟨by assumption,by assumption,by assumption⟩
 | p::ps,v::vs,a,f,h,hp=>by
  have h2:=h.put (dst:=some p) (λd e=>by cases e;exact hp p Lm) v;exact U3 ps vs _ _ h2 (λq hq=>hp q (Lk _ hq))
def rdE {α:Type}(B:Nat) (L:LN) (I:List α→World→Prop) (X:Exit→List α→World→Prop) (xs:List α) (W:World):Exit→LN→Fr→World→Prop
 | .normal,_,_,W'=>Jn B L W W'∧I xs W'
 | .ret,_,_,W'=>Jn B L W W'∧X .ret xs W'
 | .exit i,_,_,W'=>Jn B L W W'∧X (.exit i) xs W'
 | _,_,_,_=>False
theorem Qkv {α:Type}{m:Nat}{P:Program}{n:Nat}{Q:Exit→LN→Fr→World→Prop}{ds:LN}{f:Fr}{w:World}{g:Operand}{ps:LN}{assign body:Code}(L:LN) (h1:1≤m)
  {gf:Nat} {fn:Func} [hF:Fu P gf fn] {capt:LV} (hg:ev f g=.func (.func gf) #[] capt.toArray) {encs:α→LV} {S Sp:List α→Prop} {N:Nat} (hp:∀p∈ps,p<n) (hc:∀x,(encs x).length=ps.length)
  (he:SeqStopsK (fen none) (m - 1) P gf capt.toArray (λx=>(encs x).toArray) (Lw w.heap.size L) S Sp N w)
  (I:List α→World→Prop) (hI:∀s,Yg w.heap.size (I s)) (X:Exit→List α→World→Prop) (hX:∀e s,Yg w.heap.size (X e s)) (h0:I [] w) (A:Fr→α→Fr→World→Prop) (hA:∀x E,Yg w.heap.size (A f x E))
  (U:∀l pre x W,I pre W→WG (some l) (m - 1 - 1) P n assign (Qdx (λJ E W'=>J=[]∧Jn w.heap.size L W W'∧I pre W'∧A f x E W') (λ_ _ _ _=>False)) [] (Qdw f ps (encs x)) W)
  (V:∀l pre x E W,I pre W→A f x E W→pre.length<N→WG (some l) (m - 1 - 1) P n body (rdE w.heap.size L I X (pre++[x]) W) [] E W)
  (hf:∀D xs W,w.heap.size≤D→S xs→I xs W→W.heap[D]?=some (.deferred (some []))→Q .normal (D::ds) f W)
  (Y:∀D e pre W,w.heap.size≤D→Sp pre→X e pre W→W.heap[D]?=some (.deferred (some []))→(e=.ret∨∃i,e=.exit i)→Q e (D::ds) f W) :
  WG none m P n (.rangeFunc g ps.toArray assign body) Q ds f w:=by
 unfold WG at U V ⊢;intro a ha;have eg:∀args w,(callFunc gf args).run P w=.ok (.enter gf args) w:=by
  intro args w;have h1:¬fn.name = "runtime.NumGoroutine" := by simpa using hF.nm
  have h2:¬fn.body=none:=by have:=hF.b;intro e;rw[e] at this;cases this
  simp[callFunc,hF.f,h1,h2]
 have keep:∀{W W':World},Jn w.heap.size L W W'→KeepsFrom w.heap.size W W':=λh=>⟨h.lw.size,λk o _ hk ho=>h.other k o hk ho⟩;refine wpIn_rangeFunc_ownH (F:=fen none) Z h1 (gf:=gf) (lb:=capt.toArray) (by rw[ha.eval];exact hg) La eg he (λh k=>h.trans k)
  (λW l o o' hl ho _ _=>⟨Z,Z,Z,by simp,λk hk _=>World.putObj_heap_other (by omega)⟩) (Below.refl _ _) (λx=>by simp[hc x]) I
  (λc pre W=>match c with | .ret=>X .ret pre W | .exit i=>X (.exit i) pre W | _=>False) (Yg.own hI) (λc=>Yg.own λs=>?_) h0
  (λx H W=>∃E,YU n [] H E∧A f x E W) (λx H=>Yg.own λ_=>Yg.ex λE=>Yg.and (Yg.pure _) (hA x E)) ?_ ?_ ?_ ?_
 ·cases c <;> first | exact hX _ s | exact Yg.pure _
 ·intro l pre x W K hi hK;have hr:YU n [] { tmps:=(ps.toArray.zip (encs x).toArray).foldl (λt (p,v)=>t.setIfInBounds p v) a.tmps,defers:=[] } (Qdw f ps (encs x)):=by
   have h2:YU n [] { a with defers:=[] } f:=⟨ha.size,Z,ha.get⟩
   have h3:=U3 ps (encs x) _ _ h2 hp;have e:(ps.toArray.zip (encs x).toArray).foldl (λt (p,v)=>t.setIfInBounds p v) a.tmps=(ps.zip (encs x)).foldl (λt (x:Nat×Value)=>t.setIfInBounds x.1 x.2) a.tmps:=by simp
   rw[e];exact h3
  refine wpIn_mono (U l pre x W hi _ hr) ?_;rintro e H W' ⟨J,E,h2,_,h3⟩;cases e with
  | normal=>obtain ⟨rfl,h4,h5,h6⟩:=h3;exact hK H W' (keep h4) h4.lw h5 ⟨E,h2,h6⟩
  | exit id=>exact h3.elim
  | goto l=>exact h3.elim
  | ret=>exact h3.elim
  | panic ch=>exact h3.elim
  | outgrown=>exact h3.elim
 ·rintro l pre x H W _ _ hi ⟨E,h2,h3⟩ hh;refine wpIn_mono (V l pre x E W hi h3 hh H h2) ?_;rintro e hj W' ⟨J,hm,h4,_,h5⟩;cases e with
  | normal=>exact ⟨keep h5.1,h5.1.lw,h5.2⟩
  | exit id=>exact ⟨keep h5.1,h5.2⟩
  | goto l=>exact h5.elim
  | ret=>exact ⟨keep h5.1,h5.2⟩
  | panic ch=>exact h5.elim
  | outgrown=>exact h5.elim
 ·intro D xs W hD hS hi hd;exact ⟨D::ds,f,⟨ha.size,by rw[show coll (D::ds)={ target:=.collected D,args:=#[] }::coll ds from rfl,ha.defers],ha.get⟩,λ_ _=>rfl,hf D xs W hD hS hi hd⟩
 intro D c pre W hD hS hx hd;have hb:YU n (D::ds) { a with defers:={ target:=.collected D,args:=#[] }::a.defers } f:=⟨ha.size,by rw[show coll (D::ds)={ target:=.collected D,args:=#[] }::coll ds from rfl,ha.defers],ha.get⟩
 cases c with
 | ret=>exact wpIn_ret ⟨_,f,hb,λ_ _=>Z,Y D .ret pre W hD hS hx hd (.inl Z)⟩
 | exit i=>exact wpIn_exit ⟨_,f,hb,λ_ _=>Z,Y D (.exit i) pre W hD hS hx hd (.inr ⟨i,Z⟩)⟩
 | _=>exact hx.elim
end Go.Lg
namespace Go.Proofs.YtjcgijbhaemldaaGreatDoor
open Go.Proofs.Tryz
open Go.Lg
theorem Qjk {α:Type}(g:α→LV) (sz:Nat) (E:∀x,(g x).length=sz):∀(l:List α) (k:Nat),(l.flatMap g).take (k*sz)=(l.take k).flatMap g
 | [],k=>by simp
 | e::l,0=>by simp
 | e::l,k+1=>by
  simp only[List.flatMap_cons,List.take_succ_cons,Nat.add_mul,Nat.one_mul];rw[MP,List.take_append,E,show sz+k*sz - sz=k*sz by omega,Qjk g sz E l k,Ls (by rw[E];omega)]
theorem Qfn {gf:Nat}{fn:Func}[Fu prog gf fn] {capt:LV}{nms:List ByteArray}{s:ByteArray}(hj:yW s) {w:World}{N:Nat}
  (hk:∀(w':World) (L:LN),Step [] w w'→(∀b∈L,w.heap.size≤b)→SeqStopsK (fen none) 9 prog gf capt.toArray (λx:{ x:ByteArray // x∈nms }=>[Value.string x.1].toArray) (Lw w'.heap.size L) (λys=>ys.map (·.1)=nms) (λ_=>True) N w') :
  QG prog 176 [.string s,.func (.func gf) #[] capt.toArray] w λr w'=>r=.int .i64 (Vd nms s)∧Step [] w w':=by
 refine QG.of_G 10 func176 Z ntmps176 results176 (by simp) ?_;refine Q0<|QI (by rfl) (by rfl) ?_;refine xl rfl<|QR (us:=[.string s]) Z λb2 w1 hl hq hg=>xl Z<|Qu (us:=[.int .i64 0]) Z λH w2 hh hs he=>xe ?_;have U:=hl.trans hh;have ht:=he.lt;have hi:=hg.ext hh;have hu:=hg.lt;refine Q0<|Q0<|QI (by rfl) (by rfl) ?_;refine x (Qd hi Z Z)<|xl Z<|xf<|(qt s hj _).mono ?_
 rintro r3 w3 ⟨rfl,rfl⟩;refine x (Zs Z)<|xe<|Vm rfl (λh8=>?_) (λh8=>?_)
 ·have hn:Xq s=false:=by simpa using h8
  have V:Vd nms s=7:=by unfold Vd;rw[if_pos hn]
  refine Q0<|QI (by rfl) (by rfl) ?_;refine xl Z<|QF (j:=0) (u:=.int .i64 7) he Z Z (by decide) Z λw4 J Y=>xe ?_;refine Vl ⟨λ_ h=>(by cases h),MC,[.int .i64 7],λW' I=>⟨⟨⟨_,rfl,Y6 (At.one ((Y.ext I).at (L:=[]) (by simp)))⟩,La⟩,by rw[V];rfl,(U.then1 J (by omega)).trans I⟩⟩
 have hn:¬Xq s=false:=by simpa using h8
 refine Yn<|Q0<|Q0<|QI (by rfl) (by rfl) ?_;refine Qb<|xe<|ZU<|Qkv (α:={ x:ByteArray // x∈nms }) (ps:=[10]) [H] (by omega) (capt:=capt) Z (encs:=λx=>[.string x.1]) (by simp) (λ_=>rfl)
  (hk w3 [H] U (λb hb=>by simp at hb;omega))
  (λpre W=>Step [H] w3 W∧QT W.heap b2 9 [.string s]∧QT W.heap H 42 [.int .i64 0]∧∀x∈pre,x.1≠s)
  (λpre=>(Yg.step (Lv _)).and (Yg.blk.and (Yg.blk.and (Yg.pure _))))
  (λe pre W=>e=.ret∧Step [H] w3 W∧QT W.heap H 42 [.int .i64 8]∧s∈nms)
  (λe pre=>(Yg.pure _).and ((Yg.step (Lv _)).and (Yg.blk.and (Yg.pure _))))
  ⟨Step.refl _ _,hi,he,λx hx=>by cases hx⟩
  (λf x f' W=>f'=upd (Qdw f [10] [.string x.1]) 5 (.string x.1)) (λx f'=>Yg.pure _) ?_ ?_ ?_ ?_
 ·rintro l pre x W ⟨h1,h2,h3,h4⟩;refine QI (by rfl) (by rfl) ?_;refine Lg.Qf ?_;exact ⟨Z,Jn.refl _ _ _,⟨h1,h2,h3,h4⟩,Z⟩
 ·rintro l pre x f' W ⟨h1,h2,h3,h4⟩ rfl _;refine ZU<|Q0<|QI (by rfl) (by rfl) ?_;refine Lg.Qb<|Lg.x (Qd h2 Z Z)<|Lg.x (QaP Z Z)<|xe<|QoS Z (λhf=>?_) (λhf=>?_)
  ·refine Q0<|QI (by rfl) (by rfl) ?_;refine xl Z<|QF (j:=0) (u:=.int .i64 8) h3 Z Z (by decide) Z λw4 J Y=>xe ?_;refine Vl ?_;exact ⟨Jn.blk J h1.size h3 (.inl (by simp)),rfl,h1.trans' J,Y,by rw[←hf];exact x.2⟩
  refine Yn<|⟨Jn.refl _ _ _,h1,h2,h3,λy hy=>?_⟩;rcases Lp.1 hy with hy | hy
  ·exact h4 y hy
  simp only[List.mem_singleton] at hy;subst hy;exact hf
 ·rintro D xs W hD ho ⟨h1,h2,h3,h4⟩ ha;have V:Vd nms s=0:=by
   unfold Vd;rw[if_neg hn,if_neg];intro hm;rw[←ho] at hm;obtain ⟨y,hy,e⟩:=Lq.1 hm;exact h4 y hy e
  refine Q0<|QI (by rfl) (by rfl) ?_;refine xl Z<|QF (j:=0) (u:=.int .i64 0) h3 Z Z (by decide) Z λw4 J Y=>xe ?_;have hc:D≠H:=by omega
  have hp:w4.heap[D]?=some (.deferred (some [])):=by rw[J.block D (LK.1 ha).1 (by simpa using hc)];exact ha
  refine Vl ⟨λE hE=>by simp only[List.mem_singleton] at hE;subst hE;exact hp,by simp,[.int .i64 0],λW' I=>?_⟩;refine ⟨⟨⟨_,Z,Y6 (At.one ((Y.step I (by simpa using hc.symm)).at (L:=[]) (by simp)))⟩,La⟩,by rw[V];rfl,?_⟩;exact ((U.then h1 (λb hb=>.inr (by simp at hb;omega))).then1 J (by omega)).then I (λb hb=>.inr (by simp at hb;have:=U.size;omega))
 rintro D e pre W hD _ ⟨rfl,h1,h3,h4⟩ ha _;have V:Vd nms s=8:=by unfold Vd;rw[if_neg hn,if_pos h4]
 have hc:D≠H:=by omega
 refine ⟨λE hE=>by simp only[List.mem_singleton] at hE;subst hE;exact ha,by simp,[.int .i64 8],λW' I=>?_⟩;refine ⟨⟨⟨_,Z,Y6 (At.one ((h3.step I (by simpa using hc.symm)).at (L:=[]) (by simp)))⟩,La⟩,by rw[V];rfl,?_⟩;exact (U.then h1 (λb hb=>.inr (by simp at hb;omega))).then I (λb hb=>.inr (by simp at hb;have:=U.size;omega))
end Go.Proofs.YtjcgijbhaemldaaGreatDoor
namespace Go.Lg
theorem JE.pre3 {P:Program}{m:Nat}{ops:List Oper}{K:Fr→World→Prop}{o1 o2 o3:Oper}{l2:List Oper}{f:Fr}{w:World}(h:XL P ops (λf w=>JE P m ops K l2 f w) [o1,o2,o3] f w):JE P m ops K (o1::o2::o3::l2) f w:=JE.pre [o1,o2,o3] f w h
end Go.Lg
namespace Go.Proofs.YtjcgijbhaemldaaGreatDoor
open Go.Proofs.Tryz
open Go.Lg
theorem QjA {L:LN}{w:World}{I U i m:Nat}{vs vx vk:Value}{qs:List XV}{nms:List ByteArray}(hs:QT w.heap I 240 [vs,vx,vk]) (ht:QT w.heap U 3 [.int .i64 i]) (hX:zc L w.heap vx qs) (hi:i≤qs.length) (hn:nms=(qs.take i).map (·.nm)) :
  SeqStopsK (fen none) m prog 175 [.pointer (some ⟨I,0,none⟩),.pointer (some ⟨U,0,none⟩)].toArray (λx:{ x:ByteArray // x∈nms }=>[Value.string x.1].toArray) (Lw w.heap.size L)
   (λE=>E.map (·.1)=nms) (λ_=>True) (nms.length+1) w:=by
 intro l J Jx W hu hJ hv hY h0;have hf:Step [] w W:=Step.of_below hu;have ab:∀{E:List { x:ByteArray // x∈nms }} {W1 W2:World},J E W1→Step [] W1 W2→J E W2:=λ{E W1 W2} hj V=>hJ E W1 W2 none hj ⟨V.os,V.tape,V.output,V.size,λk hk _=>V.block k hk (by simp)⟩ (λr e=>by cases e);have hB:=hX.arr.le;have hC:nms.length=i:=by rw[hn];simp;omega
 have key:QG prog 175 [.func (.yield l) #[] #[],.pointer (some ⟨I,0,none⟩),.pointer (some ⟨U,0,none⟩)] W (λ_ W'=>(∃E,E.map (·.1)=nms∧J E W')∨(∃pre,True∧Jx pre W')):=by
  refine QG.of_G m func175 Z ntmps175 results175 (by simp) ?_;have hw:=hs.ext hf;have hy:=ht.ext hf;refine Q0<|QI (by rfl) (by rfl) ?_;refine x (Qa Z)<|x (Qd hw Z Z)<|x (Qd hy Z Z)<|Qpb hX.arr Z Z hi λv9 hm=>x (Qr hm Z)<|Qb<|xe ?_;have hz:(qs.take i).length=i:=by simp;omega
  have hS:ZA L w.heap v9 (qs.take i).length 2 ((qs.take i).flatMap ZH):=by
   rw[hz,←Qjk ZH 2 KK];exact hm
  refine ZU<|V3 (α:=Nat×List { x:ByteArray // x∈nms }) [(5,5),(11,20)] (λz=>[(11,.int .i64 z.1)]) (λz ds W'=>ds=[]∧z.1≤i∧Step L w W'∧z.2.map (·.1)=nms.take z.1∧J z.2 W') (λz=>i - z.1) (by rfl) (0,[]) Lb
   ⟨Z,Ln _,hf.any,Z,h0⟩ ?_
  rintro ⟨k,E⟩ g ds w1 ⟨rfl,hk,ho,Y,hg⟩;simp only[] at hk Y hg;refine Q0<|QI (by rfl) (by rfl) ?_;refine x (QA Z Z)<|xe<|Q0<|yR Z (λhp=>?_) (λhp=>?_)
  ·refine Ku ?_;rw[Ls (by omega)] at Y;exact ⟨λ_ h=>(by cases h),MC,[],λW' H=>⟨La,.inl ⟨E,Y,ab hg H⟩⟩⟩
  refine Yn ?_;have h2:k<i:=by have hh:(k:Int)<(i:Int):=hp;omega
  have hb:k<(qs.take i).length:=by omega
  have hc:k<nms.length:=by omega
  have hl:nms.take (k+1)=nms.take k++[nms[k]'hc]:=Lj hc;have hD:E.length=k:=by have:=congrArg List.length Y;rw[Li,LD] at this;omega
  have h3:nms[k]'hc=((qs.take i)[k]'hb).nm:=by subst hn;simp
  have ha:=Le hc;rw[h3] at hl ha;refine Q0<|ZU<|Q0<|QI (by rfl) (by rfl) ?_;refine xig KK (i:=k) (hS.st ho) Z Z hb λhE hh=>?_;refine Zh ((qs.take i)[k]'hb) λq hq=>?_;rw[hq] at hh hl ha;have h4:=(hX.each q (L2 (by rw[←hq];exact Le hb))).one
  refine x (QJ hh Z Z)<|xl Z<|Qu (us:=[.string .empty,nS]) Z λb5 w2 h5 h6 h7=>xl Z<|Qn (us:=ZH q) h7 Z Z Z Z ⟨Z,h4,La⟩ λw3 h8 h9=>xe ?_;have hr:Step [] w1 w3:=h5.then1 h8 h6;refine Q0<|VB (by rfl) ?_;refine JE.pre3 ?_;refine Qb<|x (Qa Z)<|x (Qd h9 Z Z)<|xe ?_
  refine xy (l:=l) Z (hY E ⟨q.nm,ha⟩ w3 (ab hg hr) (by omega)) λen W3 hA=>Or.elim hA (λh1=>⟨.bool true,h1.1,?_⟩) (λh1=>⟨.bool false,h1.1,?_⟩)
  ·refine JE.of_XL<|x (Zs Z)<|xe<|VC Z<|Yn ?_;refine QI (by rfl) (by rfl) ?_;refine QQ Z Z<|Qb<|xe ?_;exact ⟨(k+1,E++[⟨q.nm,ha⟩]),by simp only[];omega,Lb,Z,h2,(ho.trans hr).lw h1.2.2,by rw[hl,Ly,Y];rfl,h1.2.1⟩
  refine JE.of_XL<|x (Zs Z)<|xe<|QbF Z ?_;refine Vl ⟨λ_ h=>(by cases h),MC,[],λW' H=>⟨La,.inr ⟨E++[⟨q.nm,ha⟩],La,?_⟩⟩⟩;exact hv _ W3 W' none h1.2 ⟨H.os,H.tape,H.output,H.size,λk hk _=>H.block k hk (by simp)⟩ (λr e=>by cases e)
 refine (callsIn_wide (n:=m)).2 ?_;have ea:(#[.func (.yield l) #[] #[]]++[.pointer (some ⟨I,0,none⟩),.pointer (some ⟨U,0,none⟩)].toArray:Array Value)=[.func (.yield l) #[] #[],.pointer (some ⟨I,0,none⟩),.pointer (some ⟨U,0,none⟩)].toArray:=by simp
 rw[ea];unfold QG at key;refine Calls.mono key λe w' he=>?_;cases e with
 | returned v=>exact ⟨⟨v,Z⟩,he⟩
 | panicked c=>exact he.elim
 | outgrown=>exact he.elim
theorem QjS {L:LN}{w:World}{I U i m:Nat}{vs vx vk:Value}{qs:List KV}{nms:List ByteArray}(hs:QT w.heap I 240 [vs,vx,vk]) (ht:QT w.heap U 3 [.int .i64 i]) (hX:Kcs L w.heap vk qs) (hi:i≤qs.length) (hn:nms=(qs.take i).map (·.nm)) :
  SeqStopsK (fen none) m prog 178 [.pointer (some ⟨I,0,none⟩),.pointer (some ⟨U,0,none⟩)].toArray (λx:{ x:ByteArray // x∈nms }=>[Value.string x.1].toArray) (Lw w.heap.size L)
   (λE=>E.map (·.1)=nms) (λ_=>True) (nms.length+1) w:=by
 intro l J Jx W hu hJ hv hY h0;have hf:Step [] w W:=Step.of_below hu;have ab:∀{E:List { x:ByteArray // x∈nms }} {W1 W2:World},J E W1→Step [] W1 W2→J E W2:=λ{E W1 W2} hj V=>hJ E W1 W2 none hj ⟨V.os,V.tape,V.output,V.size,λk hk _=>V.block k hk (by simp)⟩ (λr e=>by cases e);have hB:=hX.arr.le;have hC:nms.length=i:=by rw[hn];simp;omega
 have key:QG prog 178 [.func (.yield l) #[] #[],.pointer (some ⟨I,0,none⟩),.pointer (some ⟨U,0,none⟩)] W (λ_ W'=>(∃E,E.map (·.1)=nms∧J E W')∨(∃pre,True∧Jx pre W')):=by
  refine QG.of_G m func178 Z ntmps178 results178 (by simp) ?_;have hw:=hs.ext hf;have hy:=ht.ext hf;refine Q0<|QI (by rfl) (by rfl) ?_;refine x (Qa Z)<|x (Qd hw Z Z)<|x (Qd hy Z Z)<|Qpb hX.arr Z Z hi λv9 hm=>x (Qr hm Z)<|Qb<|xe ?_;have hz:(qs.take i).length=i:=by simp;omega
  have hS:ZA L w.heap v9 (qs.take i).length 3 ((qs.take i).flatMap ZK):=by
   rw[hz,←Qjk ZK 3 Kn];exact hm
  refine ZU<|V3 (α:=Nat×List { x:ByteArray // x∈nms }) [(5,5),(11,20)] (λz=>[(11,.int .i64 z.1)]) (λz ds W'=>ds=[]∧z.1≤i∧Step L w W'∧z.2.map (·.1)=nms.take z.1∧J z.2 W') (λz=>i - z.1) (by rfl) (0,[]) Lb
   ⟨Z,Ln _,hf.any,Z,h0⟩ ?_
  rintro ⟨k,E⟩ g ds w1 ⟨rfl,hk,ho,Y,hg⟩;simp only[] at hk Y hg;refine Q0<|QI (by rfl) (by rfl) ?_;refine x (QA Z Z)<|xe<|Q0<|yR Z (λhp=>?_) (λhp=>?_)
  ·refine Ku ?_;rw[Ls (by omega)] at Y;exact ⟨λ_ h=>(by cases h),MC,[],λW' H=>⟨La,.inl ⟨E,Y,ab hg H⟩⟩⟩
  refine Yn ?_;have h2:k<i:=by have hh:(k:Int)<(i:Int):=hp;omega
  have hb:k<(qs.take i).length:=by omega
  have hc:k<nms.length:=by omega
  have hl:nms.take (k+1)=nms.take k++[nms[k]'hc]:=Lj hc;have hD:E.length=k:=by have:=congrArg List.length Y;rw[Li,LD] at this;omega
  have h3:nms[k]'hc=((qs.take i)[k]'hb).nm:=by subst hn;simp
  have ha:=Le hc;rw[h3] at hl ha;refine Q0<|ZU<|Q0<|QI (by rfl) (by rfl) ?_;refine xig Kn (i:=k) (hS.st ho) Z Z hb λhE hh=>?_;refine Zh ((qs.take i)[k]'hb) λq hq=>?_;rw[hq] at hh hl ha;have h4:=(hX.each q (L2 (by rw[←hq];exact Le hb))).one
  refine x (QJ hh Z Z)<|xl Z<|Qu (us:=[.string .empty,nS,.int .i64 0]) Z λb5 w2 h5 h6 h7=>xl Z<|Qn (us:=ZK q) h7 Z Z Z Z ⟨Z,h4,Z,La⟩ λw3 h8 h9=>xe ?_;have hr:Step [] w1 w3:=h5.then1 h8 h6;refine Q0<|VB (by rfl) ?_;refine JE.pre3 ?_;refine Qb<|x (Qa Z)<|x (Qd h9 Z Z)<|xe ?_
  refine xy (l:=l) Z (hY E ⟨q.nm,ha⟩ w3 (ab hg hr) (by omega)) λen W3 hA=>Or.elim hA (λh1=>⟨.bool true,h1.1,?_⟩) (λh1=>⟨.bool false,h1.1,?_⟩)
  ·refine JE.of_XL<|x (Zs Z)<|xe<|VC Z<|Yn ?_;refine QI (by rfl) (by rfl) ?_;refine QQ Z Z<|Qb<|xe ?_;exact ⟨(k+1,E++[⟨q.nm,ha⟩]),by simp only[];omega,Lb,Z,h2,(ho.trans hr).lw h1.2.2,by rw[hl,Ly,Y];rfl,h1.2.1⟩
  refine JE.of_XL<|x (Zs Z)<|xe<|QbF Z ?_;refine Vl ⟨λ_ h=>(by cases h),MC,[],λW' H=>⟨La,.inr ⟨E++[⟨q.nm,ha⟩],La,?_⟩⟩⟩;exact hv _ W3 W' none h1.2 ⟨H.os,H.tape,H.output,H.size,λk hk _=>H.block k hk (by simp)⟩ (λr e=>by cases e)
 refine (callsIn_wide (n:=m)).2 ?_;have ea:(#[.func (.yield l) #[] #[]]++[.pointer (some ⟨I,0,none⟩),.pointer (some ⟨U,0,none⟩)].toArray:Array Value)=[.func (.yield l) #[] #[],.pointer (some ⟨I,0,none⟩),.pointer (some ⟨U,0,none⟩)].toArray:=by simp
 rw[ea];unfold QG at key;refine Calls.mono key λe w' he=>?_;cases e with
 | returned v=>exact ⟨⟨v,Z⟩,he⟩
 | panicked c=>exact he.elim
 | outgrown=>exact he.elim
set_option maxHeartbeats 4000000 in
theorem yl {w:World}{vs vx vk:Value}{sz:LI}{qx:List XV}{ks:List KV}(hS:QL [] w.heap vs sz) (hX:zc [] w.heap vx qx) (hK:Kcs [] w.heap vk ks) :
  QG prog 134 [.agg #[vs,vx,vk]] w λr w'=>r=.int .i64 (YW sz (qx.map (·.x)) (ks.map (·.k)))∧Step [] w w':=by
 have hY:=hS.le;have hZ:=hX.arr.le;have ga:=hK.arr.le;refine QG.of_W func134 Z ntmps134 results134 (by simp) ?_;refine Qc<|xl Z<|QR (us:=[vs,vx,vk]) Z λb1 w1 H gb Y=>Qf<|Qg<|Qc<|x (Qa Z)<|x (Qd Y Z Z)<|x (Qr (hS.ext H) Z)<|x (ZY Z Z)<|xe<|Q3 rfl (λh1=>?_) (λh1=>?_)
 ·refine Qc<|Qf ?_;exact Ql ⟨[_],Lb,by unfold YW;rw[if_pos (by have hP:(8:Int)<(sz.length:Int):=h1;omega)];rfl,H⟩
 have hz:¬8<sz.length:=by have hP:¬(8:Int)<(sz.length:Int):=h1;omega
 refine Qi<|Qg<|Qc<|x (Qa Z)<|x (Qd Y Z Z)<|x (Qr (hS.ext H) Z)<|Qb<|xe<|Qh<|Qz (α:=Nat) [(2,2),(4,4),(22,32)] (λz=>[(22,.int .i64 z)]) (λz w'=>z≤sz.length∧w'=w1∧(sz.drop z).any Ky=sz.any Ky) (λz=>sz.length - z) (by rfl) 0 Lb
  ⟨Ln _,Z,Z⟩ ?_
 rintro k g w2 ⟨hk,rfl,hc⟩;refine Qc<|x (QA Z Z)<|xe<|Qg<|QC Z (λh2=>?_) (λh2=>?_)
 ·refine Qy ?_;have hl:sz.length≤k:=by have h0:¬(k:Int)<(sz.length:Int):=h2;omega
  rw[Lx hl] at hc;have h3:¬sz.any Ky=true:=by rw[←hc];decide
  refine Qg<|QZ (α:=Bool) [(33,42)] (λz=>[(42,.bool z)]) (λz w'=>w'=w2∧z=decide (32<qx.length∨32<ks.length)) (by rfl) ?_ ?_
  ·refine Qx<|x (Qa Z)<|x (Qd Y Z Z)<|x (Qr (hX.ext H).arr Z)<|xb (ZY Z Z) (λhQ=>?_) (λhQ=>?_)
   ·refine Qb<|xs Z<|xs Z<|xs Z<|xs Z<|x (Qo Z)<|xe ?_;exact ⟨_,Lb,Z,by first | exact bT (by omega) | exact bF (by omega) | exact bD (by omega)⟩
   refine Qb<|x (Qa Z)<|x (Qd Y Z Z)<|x (Qr (hK.ext H).arr Z)<|x (ZY Z Z)<|x (Qo Z)<|xe ?_;exact ⟨_,Lb,Z,by first | exact bT (by omega) | exact bF (by omega) | exact bD (by omega)⟩
  rintro z g w3 ⟨rfl,rfl⟩;refine Q3 Z (λh4=>?_) (λh4=>?_)
  ·refine Qc<|Qf ?_;exact Ql ⟨[_],Lb,by unfold YW;rw[if_neg hz,if_neg h3,if_pos (by simpa using h4)];rfl,H⟩
  have hM:¬(32<(qx.map (·.x)).length∨32<(ks.map (·.k)).length):=by simpa using h4
  have hN:Yw sz [] (qx.map (·.x))≠0→YW sz (qx.map (·.x)) (ks.map (·.k))=Yw sz [] (qx.map (·.x)):=λh=>by
   unfold YW;rw[if_neg hz,if_neg h3,if_neg hM,if_pos h]
  have hR:Yw sz [] (qx.map (·.x))=0→YW sz (qx.map (·.x)) (ks.map (·.k))=Xb sz [] (ks.map (·.k)):=λh=>by
   unfold YW;rw[if_neg hz,if_neg h3,if_neg hM,if_neg (by rw[h];exact λh=>h Z)]
  refine Qi<|Qg<|Qc<|x (Qa Z)<|x (Qd (Y.ext (Step.refl [] w3)) Z Z)<|x (Qr ((hX.ext H).ext (Step.refl [] w3)).arr Z)<|Qb<|xe<|Qh<|Qz (α:=Nat) [(2,2),(5,9),(46,65)] (λz=>[(46,.int .i64 z)]) (λz w'=>z≤qx.length∧Step [] w3 w'∧Yw sz ((qx.take z).map (·.nm)) ((qx.drop z).map (·.x))=Yw sz [] (qx.map (·.x))) (λz=>qx.length - z) (by rfl) 0 Lb
   ⟨Ln _,(Step.refl [] w3),Z⟩ ?_
  rintro k g wA ⟨hk,I,hck⟩;refine Qc<|x (QA Z Z)<|xe<|Qg<|QC Z (λhe=>?_) (λhe=>?_)
  ·refine Qy ?_;have hl:qx.length≤k:=by have h5:¬(k:Int)<(qx.length:Int):=he;omega
   rw[Lx hl] at hck;have hT:Yw sz [] (qx.map (·.x))=0:=hck.symm;have h6:=hR hT;refine Qg<|Qc<|x (Qa Z)<|x (Qd (Y.ext I) Z Z)<|x (Qr ((hK.ext H).ext I).arr Z)<|Qb<|xe ?_
   refine Qh<|Qz (α:=Nat) [(2,2),(10,14),(69,88)] (λz=>[(69,.int .i64 z)]) (λz w'=>z≤ks.length∧Step [] w3 w'∧Xb sz ((ks.take z).map (·.nm)) ((ks.drop z).map (·.k))=Xb sz [] (ks.map (·.k))) (λz=>ks.length - z) (by rfl) 0 Lb
    ⟨Ln _,I,Z⟩ ?_
   rintro k g wA ⟨hk,I,hck⟩;refine Qc<|x (QA Z Z)<|xe<|Qg<|QC Z (λhe=>?_) (λhe=>?_)
   ·refine Qy ?_;have hl:ks.length≤k:=by have h5:¬(k:Int)<(ks.length:Int):=he;omega
    rw[Lx hl] at hck;have hU:Xb sz [] (ks.map (·.k))=0:=hck.symm;refine Qc<|Qf ?_;exact Ql ⟨[_],Lb,by rw[h6,hU];rfl,H.trans I⟩
   have E:k<ks.length:=by have h5:(k:Int)<(ks.length:Int):=he;omega
   have hm:(ks.take (k+1)).map (·.nm)=(ks.take k).map (·.nm)++[(ks[k]'E).nm]:=by rw[Lj E,Ly];rfl
   rw[Q7 E,L1] at hck;have hf:=Le E;have J:=(hK.ext H).ext I;have h7:=Y.ext I;refine Qi<|Qg<|Qh<|Qc<|Qb<|xig Kn J.arr Z Z E λaA hA=>?_;refine Zh (ks[k]'E) λq hq=>?_;rw[hq] at hA hck hm hf;have ho:=J.each q hf
   refine x (QJ hA Z Z)<|xl Z<|Qu (us:=[.int .i64 0]) Z λb5 w3 hp h8 hg=>xl Z<|Qu (us:=[.string .empty,nS,.int .i64 0]) Z λb6 w4 hr hV h9 =>
    xl rfl<|QF (j:=0) (u:=.int .i64 k) (hg.ext hr) Z Z (by decide) Z λw5 hs hB=>xl Z<|Qn (us:=ZK q) (h9.step hs (by have:=hg.lt;simp;omega)) Z Z Z Z ⟨Z,ho.one,Z,La⟩ λw6 ht hu=>xe ?_
   have hW:b5<b6:=by have:=hg.lt;omega
   have hh:Step [] wA w6:=((hp.trans hr).then1 hs h8).then1 ht (by have:=hp.size;omega);have hC:QT w6.heap b5 3 [.int .i64 k]:=hB.step ht (by simp;omega);have hv:=h7.ext hh;have hD:=J.ext hh
   refine Qc<|x Zo<|Qf<|Qg<|Qc<|x (Qa Z)<|x (Qd hu Z Z)<|Qb<|xl Z<|xf<|(Qfn (nms:=(ks.take k).map (·.nm)) (capt:=[.pointer (some ⟨b1,0,none⟩),.pointer (some ⟨b5,0,none⟩)]) (J.nm q hf) (λw' L hi hL=>QjS (hv.ext hi) (hC.ext hi) ((hD.up (λb hb=>.inr (hL b hb))).ext hi) hk Z)).mono ?_;rintro r7 w7 ⟨rfl,hj⟩;refine Qf ?_;have U:=hh.trans hj;refine Qc<|Qb<|x (Q8 Z Z)<|xe ?_
   refine Q3 Z (λha=>?_) (λha=>?_)
   ·have e1:Xb sz [] (ks.map (·.k))=Vd ((ks.take k).map (·.nm)) q.nm:=by rw[←hck];exact if_pos ha
    refine Qc<|Qb<|Qf ?_;exact Ql ⟨[_],Lb,by rw[h6,e1];rfl,H.trans (I.trans U)⟩
   have hw:(if Xu sz q.k≠0 then Xu sz q.k else Xb sz ((ks.take k).map (·.nm)++[q.nm]) ((ks.drop (k+1)).map (·.k)))=Xb sz [] (ks.map (·.k)):=by rw[←hck];exact (if_neg ha).symm
   refine Qi ?_;have hE:=hv.ext hj;have hF:=hu.ext hj;refine Qc<|x (Qp hE Z Z)<|x (Qp hF Z Z)<|xl Z<|xf<|(VZ (((hS.ext H).ext I).ext U) (ho.ext U)).mono ?_;rintro r8 w8 ⟨rfl,hG⟩;refine Qf ?_;have hy:=U.trans hG;refine Qc<|Qb<|x (Q8 Z Z)<|xe<|Q3 Z (λV=>?_) (λV=>?_)
   ·have e1:Xb sz [] (ks.map (·.k))=Xu sz q.k:=by rw[←hw];exact if_pos V
    have hO:Xu sz q.k≠0:=V;refine Qc<|Qb<|Qf ?_;exact Ql ⟨[_],Lb,by rw[h6,e1];rfl,H.trans (I.trans hy)⟩
   have hH:Xb sz ((ks.take k).map (·.nm)++[q.nm]) ((ks.drop (k+1)).map (·.k))=Xb sz [] (ks.map (·.k)):=by rw[←hw];exact (if_neg V).symm
   refine Qi<|Qx<|QQ Z Z<|Qb<|xe ?_;exact ⟨k+1,by omega,Lb,E,I.trans hy,by rw[hm];exact hH⟩
  have E:k<qx.length:=by have h5:(k:Int)<(qx.length:Int):=he;omega
  have hm:(qx.take (k+1)).map (·.nm)=(qx.take k).map (·.nm)++[(qx[k]'E).nm]:=by rw[Lj E,Ly];rfl
  rw[Q7 E,L1] at hck;have hf:=Le E;have J:=(hX.ext H).ext I;have h7:=Y.ext I;refine Qi<|Qg<|Qh<|Qc<|Qb<|xig KK J.arr Z Z E λaA hA=>?_;refine Zh (qx[k]'E) λq hq=>?_;rw[hq] at hA hck hm hf;have ho:=J.each q hf;refine x (QJ hA Z Z)<|xl Z<|Qu (us:=[.int .i64 0]) Z λb5 w3 hp h8 hg=>xl Z<|Qu (us:=[.string .empty,nS]) Z λb6 w4 hr hV h9 =>
   xl rfl<|QF (j:=0) (u:=.int .i64 k) (hg.ext hr) Z Z (by decide) Z λw5 hs hB=>xl Z<|Qn (us:=ZH q) (h9.step hs (by have:=hg.lt;simp;omega)) Z Z Z Z ⟨Z,ho.one,La⟩ λw6 ht hu=>xe ?_
  have hW:b5<b6:=by have:=hg.lt;omega
  have hh:Step [] wA w6:=((hp.trans hr).then1 hs h8).then1 ht (by have:=hp.size;omega);have hC:QT w6.heap b5 3 [.int .i64 k]:=hB.step ht (by simp;omega);have hv:=h7.ext hh;have hD:=J.ext hh
  refine Qc<|x Zo<|Qf<|Qg<|Qc<|x (Qa Z)<|x (Qd hu Z Z)<|Qb<|xl Z<|xf<|(Qfn (nms:=(qx.take k).map (·.nm)) (capt:=[.pointer (some ⟨b1,0,none⟩),.pointer (some ⟨b5,0,none⟩)]) (J.nm q hf) (λw' L hi hL=>QjA (hv.ext hi) (hC.ext hi) ((hD.up (λb hb=>.inr (hL b hb))).ext hi) hk Z)).mono ?_;rintro r7 w7 ⟨rfl,hj⟩;refine Qf ?_;have U:=hh.trans hj;refine Qc<|Qb<|x (Q8 Z Z)<|xe ?_
  refine Q3 Z (λha=>?_) (λha=>?_)
  ·have e1:Yw sz [] (qx.map (·.x))=Vd ((qx.take k).map (·.nm)) q.nm:=by rw[←hck];exact if_pos ha
   refine Qc<|Qb<|Qf ?_;exact Ql ⟨[_],Lb,by rw[hN (by rw[e1];exact ha),e1];rfl,H.trans (I.trans U)⟩
  have hw:(if JQ sz q.ls≠0 then JQ sz q.ls else Yw sz ((qx.take k).map (·.nm)++[q.nm]) ((qx.drop (k+1)).map (·.x)))=Yw sz [] (qx.map (·.x)):=by rw[←hck];exact (if_neg ha).symm
  refine Qi ?_;have hE:=hv.ext hj;have hF:=hu.ext hj;refine Qc<|x (Qp hE Z Z)<|x (Qp hF Z Z)<|xl Z<|xf<|(UL (((hS.ext H).ext I).ext U) (ho.ext U)).mono ?_;rintro r8 w8 ⟨rfl,hG⟩;refine Qf ?_;have hy:=U.trans hG;refine Qc<|Qb<|x (Q8 Z Z)<|xe<|Q3 Z (λV=>?_) (λV=>?_)
  ·have e1:Yw sz [] (qx.map (·.x))=JQ sz q.ls:=by rw[←hw];exact if_pos V
   have hO:JQ sz q.ls≠0:=V;refine Qc<|Qb<|Qf ?_;exact Ql ⟨[_],Lb,by rw[hN (by rw[e1];exact hO),e1];rfl,H.trans (I.trans hy)⟩
  have hH:Yw sz ((qx.take k).map (·.nm)++[q.nm]) ((qx.drop (k+1)).map (·.x))=Yw sz [] (qx.map (·.x)):=by rw[←hw];exact (if_neg V).symm
  refine Qi<|Qx<|QQ Z Z<|Qb<|xe ?_;exact ⟨k+1,by omega,Lb,E,I.trans hy,by rw[hm];exact hH⟩
 have E:k<sz.length:=by have h0:(k:Int)<(sz.length:Int):=h2;omega
 rw[Q7 E,Nx] at hc;refine Qi<|Qg<|Qh<|Qc<|xii (hS.ext H) Z Z E λgc h0=>?_;refine Zh (sz[k]'E) λn hn=>?_;rw[hn] at h0 hc;refine x (Qv h0 Z)<|Qf<|QZ (α:=Bool) [(26,31)] (λz=>[(31,.bool z)]) (λz w'=>w'=w2∧z=Ky n) (by rfl) ?_ ?_
 ·refine Qx<|Qb<|xb (QA Z Z) (λhI=>?_) (λhI=>?_)
  ·refine Qb<|xs Z<|xs Z<|x (Qo Z)<|xe ?_;exact ⟨_,Lb,Z,by unfold Ky;rw[decide_eq_true hI];rfl⟩
  refine Qb<|Qb<|x (ZY Z Z)<|x (Qo Z)<|xe ?_;exact ⟨_,Lb,Z,by unfold Ky;rw[decide_eq_false hI];rfl⟩
 rintro z g w3 ⟨rfl,rfl⟩;refine QW rfl (λhJ=>?_) (λhJ=>?_)
 ·refine Qc<|Qf ?_;exact Ql ⟨[_],Lb,by unfold YW;rw[if_neg hz,if_pos (by rw[←hc,hJ];rfl)];rfl,H⟩
 rw[hJ,Bool.false_or] at hc;refine Qi<|Qx<|QQ Z Z<|Qb<|xe ?_;exact ⟨k+1,by omega,Lb,E,Z,hc⟩
theorem Yk {α:Type}(q:α→Bool) (i:Nat) (a:α) (l:List α):fix q i (a::l)=if q a=true then (i:Int) else fix q (i+1) l:=rfl
theorem Qef {α:Type}(q:α→Bool):∀(l:List α) (i:Nat),fix q i l=-1∨((i:Int)≤fix q i l∧fix q i l<(i:Int)+l.length)
 | [],i=>.inl Z
 | a::l,i=>by
  rw[Yk];split
  ·right;simp only[List.length_cons];omega
  rcases Qef q l (i+1) with h | h
  ·exact .inl h
  right;simp only[List.length_cons];omega
theorem UC {α:Type}(q:α→Bool):∀(l:List α) (i:Nat),decide (0≤fix q i l)=l.any q
 | [],i=>rfl
 | a::l,i=>by
  rw[Yk,Nx];cases h:q a with
  | true=>rw[if_pos rfl];simp
  | false=>rw[if_neg (by decide),UC q l (i+1)];rfl
theorem yi {α:Type}(q:α→Bool) (m:List α):∀(l:List α) (i:Nat),fix q i (l++m)=if 0≤fix q i l then fix q i l else fix q (i+l.length) m
 | [],i=>by
  show fix q i m=if (0:Int)≤-1 then (-1) else fix q i m
  rw[if_neg (by decide)]
 | a::l,i=>by
  rw[Mm,Yk,Yk];by_cases h:q a=true
  ·rw[if_pos h,if_pos h,if_pos (by omega)]
  rw[if_neg h,if_neg h,yi q m l (i+1),LF];rw[show i+1+l.length=i+(l.length+1) by omega]
theorem jY {α:Type}(q:α→Bool) (d:Nat):∀(l:List α) (i:Nat),fix q (i+d) l=if 0≤fix q i l then fix q i l+d else -1
 | [],i=>rfl
 | a::l,i=>by
  rw[Yk,Yk];by_cases h:q a=true
  ·rw[if_pos h,if_pos h,if_pos (by omega)];omega
  rw[if_neg h,if_neg h,show i+d+1=(i+1)+d by omega,jY q d l (i+1)]
theorem Vx {α β:Type}(q:β→Bool) (g:α→β):∀(l:List α) (i:Nat),fix q i (l.map g)=fix (λa=>q (g a)) i l
 | [],i=>rfl
 | a::l,i=>by rw[L1,Yk,Yk,Vx q g l (i+1)]
theorem QgR {α:Type}{q E:α→Bool}:∀{l:List α}{i:Nat},(∀a∈l,q a=E a)→fix q i l=fix E i l
 | [],i,_=>rfl
 | a::l,i,h=>by rw[Yk,Yk,h a Lm,QgR (λb hb=>h b (Lk _ hb))]
theorem Qn7 {gp:Nat}{fn:Func}[Fu prog gp fn] {cap:LV}{q:(Int×Int)→Bool}{L:LN}{w:World}{v:Value}{l:List (Int×Int)}(h:ZA L w.heap v l.length 2 (l.flatMap Zb))
  (hk:∀e∈l,∀(H:World),Step [] w H→QG prog gp ([.agg (Zb e).toArray]++cap) H λr w'=>r=.bool (q e)∧Step [] H w') :
  QG prog 251 [v,.func (.func gp) #[] cap.toArray] w λr w'=>r=.int .i64 (fix q 0 l)∧Step [] w w':=by
 have hf:=h.le;refine QG.of_W func251 Z ntmps251 results251 (by simp) ?_;refine Qc<|Qf<|Qg<|Qc<|Qb<|x (Qr h Z)<|Qb<|xe<|Qh<|Qz (α:=Nat) [(4,5),(8,18)] (λz=>[(8,.int .i64 z)]) (λz w'=>z≤l.length∧Step [] w w'∧fix q z (l.drop z)=fix q 0 l) (λz=>l.length - z) (by rfl) 0 Lb
  ⟨Ln _,Step.refl _ _,Z⟩ ?_
 rintro k g H ⟨hk1,I,E⟩;refine Qc<|x (QA Z Z)<|xe<|Qg<|QC Z (λh9=>?_) (λh9=>?_)
 ·refine Qy ?_;have hb:l.length≤k:=by have hc:¬(k:Int)<(l.length:Int):=h9;omega
  rw[Lx hb] at E;refine Qc<|Qf ?_;exact Ql ⟨[_],Lb,by rw[←E];rfl,I⟩
 have J:k<l.length:=by have hc:(k:Int)<(l.length:Int):=h9;omega
 rw[Q7 J,Yk] at E;have V:=Le J;refine Qi<|Qg<|Qh<|Qc<|Qb<|Qf<|Qc<|Qb<|Qb<|Qb<|xig JU (h.ext I) Z Z J λhg Y=>?_;refine Zh (l[k]'J) λe he=>?_;rw[he] at Y E V;refine x (QJ Y Z Z)<|xl Z<|xc (first:=[]) (capt:=cap) Z<|(hk e V H I).mono ?_;rintro r2 w2 ⟨rfl,ha⟩;refine xe<|QW rfl (λU=>?_) (λU=>?_)
 ·rw[if_pos U] at E;refine Qc<|Qb<|Qf ?_;exact Ql ⟨[_],Lb,by rw[←E];rfl,I.trans ha⟩
 rw[if_neg (by rw[U];decide)] at E;refine Qi<|Qx<|QQ Z Z<|Qb<|xe ?_;exact ⟨k+1,by omega,Lb,J,I.trans ha,E⟩
theorem Qox {gp:Nat}{fn:Func}[Fu prog gp fn] {cap:LV}{q:(Int×Int)→Bool}{L:LN}{w:World}{v:Value}{l:List (Int×Int)}(h:ZA L w.heap v l.length 2 (l.flatMap Zb))
  (hk:∀e∈l,∀(E:World),Step [] w E→QG prog gp ([.agg (Zb e).toArray]++cap) E λr w'=>r=.bool (q e)∧Step [] E w') :
  QG prog 239 [v,.func (.func gp) #[] cap.toArray] w λr w'=>r=.bool (l.any q)∧Step [] w w':=by
 refine QG.of_W func239 Z ntmps239 results239 (by simp) ?_;refine Qc<|Qf<|Qc<|Qb<|Qb<|xl Z<|xf<|(Qn7 h hk).mono ?_;rintro I E ⟨rfl,H⟩;refine x (ZZ Z Z)<|Qf ?_;exact Ql ⟨[_],Lb,congrArg Value.bool (UC q l 0),H⟩
theorem Kr (sz:LI):∀(ls:List (Int×Int)) (pr:Option Int),YF sz pr ls=0→(∀p∈ls,0≤p.1∧p.1<(sz.length:Int))∧Z8 (ls.map (·.1))∧∀y,pr=some y→∀p∈ls,y<p.1
 | [],pr,_=>⟨λp hp=>(by cases hp),List.Pairwise.nil,λy _ p hp=>(by cases hp)⟩
 | l::ls,pr,h=>by
  unfold YF at h;split at h
  ·cases h
  rename_i h1;split at h
  ·cases h
  rename_i h2;split at h
  ·cases h
  obtain ⟨h4,h5,h6⟩:=Kr sz ls (some l.1) h;have E:=h6 l.1 Z;refine ⟨λp hp=>?_,L3.2 ⟨λx hx=>?_,h5⟩,λy hy p hp=>?_⟩
  ·rcases Lh.1 hp with rfl | hp
   ·omega
   exact h4 p hp
  ·obtain ⟨p,hp,rfl⟩:=Lq.1 hx;exact E p hp
  subst hy;have H:¬l.1≤y:=λe=>h2 (decide_eq_true e);rcases Lh.1 hp with rfl | hp
  ·omega
  have:=E p hp;omega
theorem Kq (sz:LI):∀(ls:List (Int×Int)) (pr:Option Int),Xt sz pr ls=0→(∀p∈ls,0≤p.1∧p.1<(sz.length:Int)∧-65536≤p.2∧p.2≤65536)∧Z8 (ls.map (·.1))∧∀y,pr=some y→∀p∈ls,y<p.1
 | [],pr,_=>⟨λp hp=>(by cases hp),List.Pairwise.nil,λy _ p hp=>(by cases hp)⟩
 | l::ls,pr,h=>by
  unfold Xt at h;split at h
  ·cases h
  rename_i h1;split at h
  ·cases h
  rename_i h2;split at h
  ·cases h
  rename_i h3;obtain ⟨h4,h5,h6⟩:=Kq sz ls (some l.1) h;have E:=h6 l.1 Z;have h9:grt l.2=false:=by cases H:grt l.2 with | true=>exact absurd (.inr H) h3 | false=>rfl
  unfold grt at h9;simp only[Bool.or_eq_false_iff,decide_eq_false_iff_not] at h9;refine ⟨λp hp=>?_,L3.2 ⟨λx hx=>?_,h5⟩,λy hy p hp=>?_⟩
  ·rcases Lh.1 hp with rfl | hp
   ·omega
   exact h4 p hp
  ·obtain ⟨p,hp,rfl⟩:=Lq.1 hx;exact E p hp
  subst hy;have I:¬l.1≤y:=λe=>h2 (decide_eq_true e);rcases Lh.1 hp with rfl | hp
  ·omega
  have:=E p hp;omega
theorem qz (sz:LI):∀(l:List Exc) (sn:List ByteArray),Yw sz sn l=0→∀x∈l,JQ sz x.ls=0
 | [],_,_,x,hx=>by cases hx
 | a::l,sn,h,x,hx=>by
  unfold Yw at h;split at h
  ·rename_i h1;exact absurd h h1
  split at h
  ·rename_i h1;exact absurd h h1
  rename_i h1;rcases Lh.1 hx with rfl | hx
  ·exact Lo.1 h1
  exact qz sz l _ h x hx
theorem qB (sz:LI):∀(l:List JF) (sn:List ByteArray),Xb sz sn l=0→∀x∈l,Xu sz x=0
 | [],_,_,x,hx=>by cases hx
 | a::l,sn,h,x,hx=>by
  unfold Xb at h;split at h
  ·rename_i h1;exact absurd h h1
  split at h
  ·rename_i h1;exact absurd h h1
  rename_i h1;rcases Lh.1 hx with rfl | hx
  ·exact Lo.1 h1
  exact qB sz l _ h x hx
structure QqL (sz:LI) (ex:List Exc) (cs:List JF):Prop where
 s8:sz.length≤8
 s:∀n∈sz,1≤n∧n≤4096
 xl:ex.length≤32
 kl:cs.length≤32
 x:∀e∈ex,∀p∈e.ls,0≤p.1∧p.1<(sz.length:Int)
 k:∀e∈cs,(∀p∈e.ts,0≤p.1∧p.1<(sz.length:Int)∧-65536≤p.2∧p.2≤65536)∧e.ts.length≤8
theorem qC {sz:LI}{ex:List Exc}{cs:List JF}(h:YW sz ex cs=0):QqL sz ex cs:=by
 unfold YW at h;split at h
 ·cases h
 rename_i I;split at h
 ·cases h
 rename_i hs;split at h
 ·cases h
 rename_i J;split at h
 ·rename_i hx;exact absurd h hx
 rename_i hx;have E:=Lo.1 hx;refine ⟨by omega,λn H=>?_,by omega,by omega,λe he p hp=>?_,λe he=>?_⟩
 ·have h1:Ky n=false:=by
   cases hb:Ky n with
   | false=>rfl
   | true=>exact absurd (Mk.2 ⟨n,H,hb⟩) hs
  unfold Ky at h1;simp only[Bool.or_eq_false_iff,decide_eq_false_iff_not] at h1;omega
 ·have h1:=qz sz ex [] E e he;unfold JQ at h1;split at h1
  ·cases h1
  exact (Kr sz e.ls none h1).1 p hp
 have h1:=qB sz cs [] h e he;unfold Xu at h1;split at h1
 ·cases h1
 split at h1
 ·rename_i h2;exact absurd h1 h2
 rename_i h2;obtain ⟨h3,h4,_⟩:=Kq sz e.ts none (Lo.1 h2);refine ⟨h3,?_⟩;have:=Go.Proofs.YtjcgijbhaemldaaGreatDoor.pig sz.length (e.ts.map (·.1)) (List.Pairwise.imp (λ{a b} (h:a<b)=>(by omega:a≠b)) h4) (λx hx=>by
  obtain ⟨p,hp,rfl⟩:=Lq.1 hx;exact ⟨(h3 p hp).1,(h3 p hp).2.1⟩)
 rw[Li] at this;omega
def QmN (sz t:LI):Prop:=t.length=sz.length∧∀i,i<t.length→0≤cget t i∧cget t i<cget sz i
theorem Qgu (t:LI) (p:Int×Int) (l:List (Int×Int)) (s:Int):(l++[p]).foldl (λs p=>s+p.2*t.getD p.1.toNat 0) s=l.foldl (λs p=>s+p.2*t.getD p.1.toNat 0) s+p.2*cget t p.1.toNat:=by
 rw[Mv];rfl
theorem Qho {w:World}{vl vt:Value}{nm:ByteArray}{ts:List (Int×Int)}{bd:Int}{t:LI}(hl:P2s [] w.heap vl ts) (ht:QL [] w.heap vt t)
  (hi:∀p∈ts,0≤p.1∧p.1<(t.length:Int)∧-65536≤p.2∧p.2≤65536) (h8:ts.length≤8) (hj:∀i,i<t.length→0≤cget t i∧cget t i≤4096) :
  QG prog 242 [.agg #[.string nm,vl,.int .i64 bd],vt] w λr w'=>r=.int .i64 (Qnt t ⟨nm,ts,bd⟩)∧Step [] w w':=by
 refine QG.of_W func242 Z ntmps242 results242 (by simp) ?_;refine Qc<|xl Z<|QR (us:=[.string nm,vl,.int .i64 bd]) Z λb2 w1 ha hy hm=>Qf<|Qc<|Qf<|Qg<|Qc<|x (Qa Z)<|x (Qd hm Z Z)<|x (Qr (hl.ext ha) Z)<|Qb<|xe ?_
 refine Qh<|Qz (α:=Nat×Int) [(5,5),(7,7),(11,25)] (λz=>[(5,.int .i64 z.2),(11,.int .i64 z.1)]) (λz w'=>z.1≤ts.length∧Step [] w w'∧z.2=(ts.take z.1).foldl (λs p=>s+p.2*t.getD p.1.toNat 0) 0∧-(268435456*(z.1:Int))≤z.2∧z.2≤268435456*(z.1:Int)) (λz=>ts.length - z.1) (by rfl) (0,0) ⟨Z,Z,La⟩
  ⟨Ln _,ha,Z,by simp only[];omega,by simp only[];omega⟩ ?_
 rintro ⟨k,s⟩ g w2 ⟨hk,U,H,hn,ho⟩;simp only[] at hk H hn ho;refine Qc<|x (QA Z Z)<|xe<|Qg<|QC Z (λV=>?_) (λV=>?_)
 ·refine Qy ?_;have hp:ts.length≤k:=by have I:¬(k:Int)<(ts.length:Int):=V;omega
  rw[Ls hp] at H;refine Qc<|Qb<|Qf ?_;exact Ql ⟨[_],Lb,by rw[H];rfl,U⟩
 have E:k<ts.length:=by have I:(k:Int)<(ts.length:Int):=V;omega
 have Y:=hi _ (Le E);have hb:ts.take (k+1)=ts.take k++[ts[k]'E]:=Lj E;refine Qi<|Qg<|Qh<|Qc<|xig JU (hl.ext U) Z Z E λhz I=>?_;refine Zh (ts[k]'E) λe he=>?_;rw[he] at I Y hb;refine x (QJ I Z Z)<|xl Z<|Qu (us:=[.int .i64 0,.int .i64 0]) Z λb7 w3 hq hr J=>xl Z<|Qn (us:=Zb e) J Z Z Z Z ⟨Z,Z,La⟩ λw4 hs J=>xe ?_
 have hu:Step [] w2 w4:=hq.then1 hs hr;have hf:=U.trans hu;have hv:e.1=((e.1.toNat:Nat):Int):=by omega
 have hg:e.1.toNat<t.length:=by omega
 have hh:=hj _ hg;have h0:-268435456≤e.2*cget t e.1.toNat∧e.2*cget t e.1.toNat≤268435456:=by
  have h1:(-65536)*cget t e.1.toNat≤e.2*cget t e.1.toNat:=Int.mul_le_mul_of_nonneg_right Y.2.2.1 hh.1;have h2:e.2*cget t e.1.toNat≤65536*cget t e.1.toNat:=Int.mul_le_mul_of_nonneg_right Y.2.2.2 hh.1;omega
 refine Zh (e.2*cget t e.1.toNat) λpr h3=>?_;refine QU (Step [] w4) [(0,true),(1,true),(2,true),(3,true),(4,true),(5,true),(6,true),(7,true),(8,true),(9,true),(10,true)] mixed (by rfl) (by kernel_rfl) (Step.drew _ _) ?_;refine p (λ_=>Qm)<|p (λ_=>Qa Z)<|pq (λ_ hc=>Qd (J.ext hc) Z Z)<|p (λ_=>Qm)<|p (λ_=>Qa Z) <|
  pq (λ_ hc=>Qd (J.ext hc) Z Z)<|pic (i:=e.1.toNat) Z (ht.ext hf) Z (congrArg (Value.int .i64) hv) hg λh4 hw=>pq (λ_ hc=>Qv (hw.ext hc) Z) <|
  p (λ_=>Qpl Z Z ⟨by omega,by omega⟩)<|p (λ_=>JL Z Z ⟨by omega,by omega⟩)<|p (λ_=>Qe)<|pe ?_
 refine Qx<|QQ Z Z<|Qb<|xe<|⟨(k+1,s+e.2*cget t e.1.toNat),by simp only[];omega,⟨Z,Z,La⟩,E,hf.trans (Step.drew _ _),?_,by simp only[];omega,by simp only[];omega⟩;simp only[];rw[hb,Qgu,←H]
theorem Qjy {w:World}{bt:Nat}{vt:Value}{t:LI}(I:QT w.heap bt 39 [vt]) (ht:QL [] w.heap vt t) (e:Int×Int) (he:0≤e.1∧e.1<(t.length:Int)) :
  QG prog 240 ([.agg (Zb e).toArray]++[.pointer (some ⟨bt,0,none⟩)]) w λr w'=>r=.bool (!decide (t.getD e.1.toNat 0=e.2))∧Step [] w w':=by
 refine QG.of_W func240 Z ntmps240 results240 (by simp) ?_;refine Qc<|xl Z<|QR (us:=Zb e) Z λb2 J E ha H=>Qf ?_;have U:e.1=((e.1.toNat:Nat):Int):=by omega
 have V:e.1.toNat<t.length:=by omega
 refine Qg<|QU (Step [] J) [(0,true),(1,true),(2,true),(3,true),(4,true),(5,true),(6,true),(7,true),(8,true)] mixed (by rfl) (by kernel_rfl) (Step.drew _ _) ?_;refine pq (λ_ hc=>Qd ((I.ext E).ext hc) Z Z)<|p (λ_=>Qa Z)<|pq (λ_ hc=>Qd (H.ext hc) Z Z)<|pic (i:=e.1.toNat) Z (ht.ext E) Z (congrArg (Value.int .i64) U) V λa7 Y =>
  pq (λ_ hc=>Qv (Y.ext hc) Z)<|p (λ_=>Qa Z)<|pq (λ_ hc=>Qd (H.ext hc) Z Z)<|p (λ_=>Q8 Z Z) <|
  p (λ_=>Qe)<|pe ?_
 refine Ql ⟨[_],Lb,?_,E.trans (Step.drew _ _)⟩;show Value.bool (decide (¬cget t e.1.toNat=e.2))=_;unfold cget;simp
theorem Qhm (t:LI) (x:Exc):(!(x.ls.any λl=>!decide (t.getD l.1.toNat 0=l.2)))=JZ t x:=by
 unfold JZ;induction x.ls with
 | nil=>rfl
 | cons a l ih=>rw[Nx,Mg,←ih];cases decide (t.getD a.1.toNat 0=a.2) <;> simp
theorem Qmg {w:World}{b:Nat}{q:XV}{vt:Value}{t:LI}(I:QT w.heap b 99 (ZH q)) (hq:P2s [] w.heap q.v q.ls) (ht:QL [] w.heap vt t) (J:∀p∈q.ls,0≤p.1∧p.1<(t.length:Int)) :
  QG prog 238 ([vt]++[.pointer (some ⟨b,0,none⟩)]) w λr w'=>r=.bool (JZ t q.x)∧Step [] w w':=by
 refine QG.of_W func238 Z ntmps238 results238 (by simp) ?_;refine Qc<|xl Z<|QR (us:=[vt]) ht.cells λU w1 E ha V=>Qf<|Qc<|x (Qa Z)<|x (Qd (I.ext E) Z Z)<|x Zo<|xl Z<|xf<|(Qox (q:=λl=>!decide (t.getD l.1.toNat 0=l.2)) (cap:=[.pointer (some ⟨U,0,none⟩)]) (hq.ext E) (λe he Y H=>Qjy (V.ext H) ((ht.ext E).ext H) e (J e he))).mono ?_;rintro r2 Y ⟨rfl,H⟩;refine x (Zs Z)<|Qf ?_
 exact Ql ⟨[_],Lb,congrArg Value.bool (Qhm t q.x),E.trans H⟩
theorem Qmf {w:World}{b:Nat}{q:KV}{vt:Value}{t:LI}(E:QT w.heap b 153 (ZK q)) (hq:P2s [] w.heap q.v q.ts) (ht:QL [] w.heap vt t)
  (I:∀p∈q.ts,0≤p.1∧p.1<(t.length:Int)∧-65536≤p.2∧p.2≤65536) (J:q.ts.length≤8) (U:∀i,i<t.length→0≤cget t i∧cget t i≤4096) :
  QG prog 241 ([vt]++[.pointer (some ⟨b,0,none⟩)]) w λr w'=>r=.bool (KA t q.k)∧Step [] w w':=by
 refine QG.of_W func241 Z ntmps241 results241 (by simp) ?_;refine Qc<|Qf ?_;have hd:Step [] w { w with drawn:=w.drawn+1 }:=Step.drew _ _
 refine Qg<|QU (Step [] { w with drawn:=w.drawn+1 }) [(0,true),(1,true),(3,true),(4,true),(2,false),(5,true),(6,true)] mixed (by rfl) (by kernel_rfl) (Step.refl _ _) ?_
 refine pq (λ_ hc=>Qp ((E.ext hd).ext hc) Z Z)<|p (λ_=>Qm)<|p (λ_=>Qa Z)<|pq (λ_ hc=>Qd ((E.ext hd).ext hc) Z Z)<|pk<|xf<|(Qho (hq.ext hd) (ht.ext hd) I J U).mono ?_;rintro V Y ⟨rfl,H⟩;refine ⟨H,?_⟩;refine p (λ_=>ZY Z Z)<|p (λ_=>Qe)<|pe ?_;exact Ql ⟨[_],Lb,Z,hd.trans H⟩
inductive Cd where
 | ex (b:Nat) (q:XV)
 | co (b:Nat) (q:KV)
def Cd.val:Cd→Value
 | .ex b _=>.func (.func 238) #[] #[.pointer (some ⟨b,0,none⟩)]
 | .co b _=>.func (.func 241) #[] #[.pointer (some ⟨b,0,none⟩)]
def Cd.src:Cd→Sum XV KV
 | .ex _ q=>.inl q
 | .co _ q=>.inr q
def Qgv (t:LI):Sum XV KV→Bool
 | .inl q=>JZ t q.x
 | .inr q=>KA t q.k
def Cd.vio (t:LI) (c:Cd):Bool:=Qgv t c.src
abbrev UN (c:Cd):LV:=[c.val]
theorem Qoz (c:Cd):(UN c).length=1:=rfl
def CdA (H:Array Obj):Cd→Prop
 | .ex b q=>QT H b 99 (ZH q)∧P2s [] H q.v q.ls
 | .co b q=>QT H b 153 (ZK q)∧P2s [] H q.v q.ts
theorem CdA.ext {w w':World}{c:Cd}(h:CdA w.heap c) (hs:Step [] w w'):CdA w'.heap c:=by
 cases c with
 | ex b q=>exact ⟨h.1.ext hs,h.2.ext hs⟩
 | co b q=>exact ⟨h.1.ext hs,h.2.ext hs⟩
def Cd.rg (n:Nat):Cd→Prop
 | .ex _ q=>∀p∈q.ls,0≤p.1∧p.1<(n:Int)
 | .co _ q=>(∀p∈q.ts,0≤p.1∧p.1<(n:Int)∧-65536≤p.2∧p.2≤65536)∧q.ts.length≤8
theorem QcL {q:XV}(w:World):QG prog 217 [.agg (ZH q).toArray] w λr w'=>Step [] w w'∧∃b,r=(Cd.ex b q).val∧w.heap.size≤b∧QT w'.heap b 99 (ZH q):=by
 refine QG.of_W func217 Z ntmps217 results217 (by simp) ?_;refine Qc<|xl Z<|QR (us:=ZH q) Z λE U H I J=>Qf<|Qc<|x Zo<|Qf ?_;exact Ql ⟨[_],Lb,H,E,Z,I,J⟩
theorem Qeg {q:KV}(w:World):QG prog 218 [.agg (ZK q).toArray] w λr w'=>Step [] w w'∧∃b,r=(Cd.co b q).val∧w.heap.size≤b∧QT w'.heap b 153 (ZK q):=by
 refine QG.of_W func218 Z ntmps218 results218 (by simp) ?_;refine Qc<|xl Z<|QR (us:=ZK q) Z λE U H I J=>Qf<|Qc<|x Zo<|Qf ?_;exact Ql ⟨[_],Lb,H,E,Z,I,J⟩
def CdB (H:Array Obj):Cd→Prop
 | .ex b q=>QT H b 99 (ZH q)
 | .co b q=>QT H b 153 (ZK q)
def Cd.blk:Cd→Nat
 | .ex b _=>b
 | .co b _=>b
theorem CdB.lt {H:Array Obj}{c:Cd}(h:CdB H c):c.blk<H.size:=by cases c <;> exact QT.lt h
theorem CdB.step {X:LN}{w w':World}{c:Cd}(h:CdB w.heap c) (hs:Step X w w') (E:c.blk∉X):CdB w'.heap c:=by
 cases c <;> exact QT.step h hs E
structure CdL (base:Nat) (w:World) (v:Value) (cds:List Cd):Prop where
 own:w.ownsRow base 339 1 v cds.length (cds.flatMap UN)
 bx:∀c∈cds,CdB w.heap c∧c.blk∉ob v
theorem CdL.add {base:Nat}{w E H:World}{v I:Value}{cds:List Cd}{c:Cd}(h:CdL base w v cds) (hs:Step [] w E) (hc:CdB E.heap c) (hb:w.heap.size≤c.blk)
  (J:H.ownsRow base 339 1 I (cds.length+1) (cds.flatMap UN++[c.val])) (U:Step (ob v) E H) (V:∀b∈ob I,b∈ob v∨E.heap.size≤b):CdL base H I (cds++[c]):=by
 have Y:=Q2 h.own;have ha:c.blk∉ob v:=λhm=>by have:=Y _ hm;omega
 refine ⟨?_,λd hd=>?_⟩
 ·rw[Ll,LH];simpa using J
 have key:CdB E.heap d∧d.blk∉ob v:=by
  rcases Lp.1 hd with hd | hd
  ·exact ⟨(h.bx d hd).1.step hs (by simp),(h.bx d hd).2⟩
  simp only[List.mem_singleton] at hd;subst hd;exact ⟨hc,ha⟩
 refine ⟨key.1.step U key.2,λhm=>?_⟩;rcases V _ hm with h1 | h1
 ·exact key.2 h1
 have:=key.1.lt;omega
set_option maxHeartbeats 4000000 in
theorem QjR {w:World}{vs vx vk:Value}{qx:List XV}{ks:List KV}(hX:zc [] w.heap vx qx) (hK:Kcs [] w.heap vk ks) (hI:qx.length≤32) (hJ:ks.length≤32) :
  QG prog 187 [.agg #[vs,vx,vk]] w λr w'=>Step [] w w'∧∃cds,CdL w.heap.size w' r cds∧cds.map Cd.src=qx.map Sum.inl++ks.map Sum.inr:=by
 refine QG.of_W func187 Z ntmps187 results187 (by simp) ?_;refine Qc<|xl Z<|QR (us:=[vs,vx,vk]) Z λb1 U I hM h4=>Qf ?_;have h9:=I.size;refine Qc<|Qf<|Qg<|Qc<|x (Qa Z)<|x (Qd h4 Z Z)<|x (Qr (hX.ext I).arr Z)<|Qb<|xe ?_
 refine Qh<|Qz (α:=Nat×Value×List Cd) [(3,3),(5,5),(11,20)] (λz=>[(3,z.2.1),(11,.int .i64 z.1)]) (λz w'=>z.1≤qx.length∧Step [] U w'∧CdL U.heap.size w' z.2.1 z.2.2∧z.2.2.map Cd.src=(qx.take z.1).map Sum.inl) (λz=>qx.length - z.1) (by rfl) (0,nS,[]) ⟨Z,Z,La⟩
  ⟨Ln _,Step.refl _ _,⟨QP _ _ _ _,λc hc=>(by cases hc)⟩,rfl⟩ ?_
 rintro ⟨k,vo,cds⟩ g wA ⟨hk,J,hL,he⟩;simp only[] at hk hL he;have hN:cds.length=k:=by have:=congrArg List.length he;simp at this;omega
 refine Qc<|x (QA Z Z)<|xe<|Qg<|QC Z (λhm=>?_) (λhm=>?_)
 ·refine Qy ?_;have hB:qx.length≤k:=by have hn:¬(k:Int)<(qx.length:Int):=hm;omega
  rw[Ls hB] at he;refine Qg<|Qc<|x (Qa Z)<|x (Qd (h4.ext J) Z Z)<|x (Qr ((hK.ext I).ext J).arr Z)<|Qb<|xe ?_
  refine Qh<|Qz (α:=Nat×Value×List Cd) [(3,3),(7,7),(24,33)] (λz=>[(3,z.2.1),(24,.int .i64 z.1)]) (λz w'=>z.1≤ks.length∧Step [] U w'∧CdL U.heap.size w' z.2.1 z.2.2∧z.2.2.map Cd.src=qx.map Sum.inl++(ks.take z.1).map Sum.inr) (λz=>ks.length - z.1) (by rfl) (0,vo,cds) ⟨Z,Z,La⟩
   ⟨Ln _,J,hL,by simp only[];rw[he];simp⟩ ?_
  rintro ⟨j,vp,cdt⟩ g wB ⟨hj,hf,V,hg⟩;simp only[] at hj V hg;have hO:cdt.length=qx.length+j:=by have:=congrArg List.length hg;simp at this;omega
  refine Qc<|x (QA Z Z)<|xe<|Qg<|QC Z (λho=>?_) (λho=>?_)
  ·refine Qy ?_;have hC:ks.length≤j:=by have hn:¬(j:Int)<(ks.length:Int):=ho;omega
   rw[Ls hC] at hg;refine Qc<|Qb<|Qf ?_;exact Ql ⟨[_],Lb,I.trans hf,cdt,⟨Zi V.own h9,V.bx⟩,hg⟩
  have Y:j<ks.length:=by have hn:(j:Int)<(ks.length:Int):=ho;omega
  have h5:=Le Y;have h6:ks.take (j+1)=ks.take j++[ks[j]'Y]:=Lj Y;refine Qi<|Qg<|Qh<|Qc<|xig Kn ((hK.ext I).ext hf).arr Z Z Y λaA hA=>?_;refine Zh (ks[j]'Y) λq hq=>?_;rw[hq] at hA h5 h6;have hp:=((hK.ext I).ext hf).each q h5
  refine x (QJ hA Z Z)<|xl Z<|Qu (us:=[.string .empty,nS,.int .i64 0]) Z λb7 w4 hr hs ht=>xl Z<|Qn (us:=ZK q) ht Z Z Z Z ⟨Z,hp.one,Z,La⟩ λw5 hu hv=>xe ?_;have hh:Step [] wB w5:=hr.then1 hu hs;refine Qx<|Qb<|x (Qp hv Z Z)<|xl Z<|xf<|(Qeg w5).mono ?_;rintro r6 w6 ⟨hw,E,rfl,hD,hy⟩
  refine xl Z<|QH (us:=[[(Cd.co E q).val]]) Z Z (by decide) (by simp) ⟨rfl,rfl,La⟩ λhE w7 hi hF hz=>?_;have H:=(hh.trans hw).trans hi;have hG:=(hf.trans H).size;have hH:=hh.size;refine xl Z<|Q6 (news:=[(Cd.co E q).val]) (L:=[]) (Qt V.own H) Z Z Z (hz.at (by simp)) (by simp[Cd.val,Value.oneCell']) (by omega) (by omega) λv8 w8 h0 hl h1 =>
   Qf ?_
  have hge:=Qq V.own;have h2:=V.add (c:=Cd.co E q) H (QT.ext hy hi) (by show _≤E;omega) h0 hl h1;have h3:Step [] U w8:=(hf.trans H).then hl (λb hb=>.inr (hge b hb).1);refine Qx<|QQ Z Z<|Qb<|xe ?_;exact ⟨(j+1,v8,cdt++[Cd.co E q]),by simp only[];omega,⟨Z,Z,La⟩,Y,h3,h2,by simp only[];rw[Ly,hg,h6];simp[Cd.src]⟩
 have ha:k<qx.length:=by have hn:(k:Int)<(qx.length:Int):=hm;omega
 have h7:=Le ha;have h8:qx.take (k+1)=qx.take k++[qx[k]'ha]:=Lj ha;refine Qi<|Qg<|Qh<|Qc<|xig KK ((hX.ext I).ext J).arr Z Z ha λaA hA=>?_;refine Zh (qx[k]'ha) λq hq=>?_;rw[hq] at hA h7 h8;have hp:=((hX.ext I).ext J).each q h7
 refine x (QJ hA Z Z)<|xl Z<|Qu (us:=[.string .empty,nS]) Z λb7 w4 hr hs ht=>xl Z<|Qn (us:=ZH q) ht Z Z Z Z ⟨Z,hp.one,La⟩ λw5 hu hv=>xe ?_;have hh:Step [] wA w5:=hr.then1 hu hs;refine Qx<|Qb<|x (Qp hv Z Z)<|xl Z<|xf<|(QcL w5).mono ?_;rintro r6 w6 ⟨hw,E,rfl,hD,hy⟩;refine xl rfl<|QH (us:=[[(Cd.ex E q).val]]) Z Z (by decide) (by simp) ⟨rfl,rfl,La⟩ λhE w7 hi hF hz=>?_
 have H:=(hh.trans hw).trans hi;have hG:=(J.trans H).size;have hH:=hh.size;refine xl rfl<|Q6 (news:=[(Cd.ex E q).val]) (L:=[]) (Qt hL.own H) Z Z Z (hz.at (by simp)) (by simp[Cd.val,Value.oneCell']) (by omega) (by omega) λv8 w8 h0 hl h1 =>
  Qf ?_
 have hge:=Qq hL.own;have h2:=hL.add (c:=Cd.ex E q) H (QT.ext hy hi) (by show _≤E;omega) h0 hl h1;have h3:Step [] U w8:=(J.trans H).then hl (λb hb=>.inr (hge b hb).1);refine Qx<|QQ Z Z<|Qb<|xe ?_;exact ⟨(k+1,v8,cds++[Cd.ex E q]),by simp only[];omega,⟨Z,Z,La⟩,ha,h3,h2,by simp only[];rw[Ly,he,h8];simp[Cd.src]⟩
theorem Qn9 {gp:Nat}{fn:Func}[Fu prog gp fn] {cap:LV}{q:Cd→Bool}{L:LN}{w:World}{v:Value}{l:List Cd}(h:ZA L w.heap v l.length 1 (l.flatMap UN))
  (hk:∀e∈l,∀(H:World),Step [] w H→QG prog gp ([e.val]++cap) H λr w'=>r=.bool (q e)∧Step [] H w') :
  QG prog 215 [v,.func (.func gp) #[] cap.toArray] w λr w'=>r=.int .i64 (fix q 0 l)∧Step [] w w':=by
 have hf:=h.le;refine QG.of_W func215 Z ntmps215 results215 (by simp) ?_;refine Qc<|Qf<|Qg<|Qc<|Qb<|x (Qr h Z)<|Qb<|xe<|Qh<|Qz (α:=Nat) [(4,5),(8,18)] (λz=>[(8,.int .i64 z)]) (λz w'=>z≤l.length∧Step [] w w'∧fix q z (l.drop z)=fix q 0 l) (λz=>l.length - z) (by rfl) 0 Lb
  ⟨Ln _,Step.refl _ _,Z⟩ ?_
 rintro k g H ⟨hk1,I,E⟩;refine Qc<|x (QA Z Z)<|xe<|Qg<|QC Z (λh9=>?_) (λh9=>?_)
 ·refine Qy ?_;have hb:l.length≤k:=by have hc:¬(k:Int)<(l.length:Int):=h9;omega
  rw[Lx hb] at E;refine Qc<|Qf ?_;exact Ql ⟨[_],Lb,by rw[←E];rfl,I⟩
 have J:k<l.length:=by have hc:(k:Int)<(l.length:Int):=h9;omega
 rw[Q7 J,Yk] at E;have V:=Le J;refine Qi<|Qg<|Qh<|Qc<|Qb<|Qf<|Qc<|Qb<|Qb<|Qb<|xig Qoz (h.ext I) Z Z J λhg Y=>?_;refine Zh (l[k]'J) λe he=>?_;rw[he] at Y E V;refine x (Qv Y Z)<|xl Z<|xc (first:=[]) (capt:=cap) Z<|(hk e V H I).mono ?_;rintro r2 w2 ⟨rfl,ha⟩;refine xe<|QW rfl (λU=>?_) (λU=>?_)
 ·rw[if_pos U] at E;refine Qc<|Qb<|Qf ?_;exact Ql ⟨[_],Lb,by rw[←E];rfl,I.trans ha⟩
 rw[if_neg (by rw[U];decide)] at E;refine Qi<|Qx<|QQ Z Z<|Qb<|xe ?_;exact ⟨k+1,by omega,Lb,J,I.trans ha,E⟩
theorem Qms {w:World}{c:Cd}{vt:Value}{t:LI}(hc:CdA w.heap c) (ht:QL [] w.heap vt t) (E:c.rg t.length) (H:∀i,i<t.length→0≤cget t i∧cget t i≤4096) :
  ∃g fn cap,c.val=.func (.func g) #[] [cap].toArray∧Fu prog g fn∧QG prog g ([vt]++[cap]) w λr w'=>r=.bool (c.vio t)∧Step [] w w':=by
 cases c with
 | ex b q=>exact ⟨_,_,_,Z,inferInstance,Qmg hc.1 hc.2 ht E⟩
 | co b q=>exact ⟨_,_,_,Z,inferInstance,Qmf hc.1 hc.2 ht E.1 E.2 H⟩
theorem Qhi {w:World}{bt:Nat}{c:Cd}{vt:Value}{t:LI}(E:QT w.heap bt 39 [vt]) (hc:CdA w.heap c) (ht:QL [] w.heap vt t) (H:c.rg t.length) (I:∀i,i<t.length→0≤cget t i∧cget t i≤4096) :
  QG prog 216 ([c.val]++[.pointer (some ⟨bt,0,none⟩)]) w λr w'=>r=.bool (c.vio t)∧Step [] w w':=by
 obtain ⟨gq,fn,cap,J,V,hcall⟩:=Qms hc ht H I;rw[J];refine QG.of_W func216 Z ntmps216 results216 (by simp) ?_;refine Qc<|Qf<|Qc<|Qb<|x (Qd E Z Z)<|xl Z<|xc (g:=gq) (fn:=fn) (first:=[]) (capt:=[cap]) Z<|hcall.mono ?_;rintro Y w1 ⟨rfl,U⟩;refine Qf ?_;exact Ql ⟨[_],Lb,Z,U⟩
theorem QbO {L:LN}{w:World}{v vt:Value}{cds:List Cd}{t:LI}(h:ZA L w.heap v cds.length 1 (cds.flatMap UN)) (hc:∀c∈cds,CdA w.heap c) (ht:QL [] w.heap vt t) (I:∀c∈cds,c.rg t.length) (J:∀i,i<t.length→0≤cget t i∧cget t i≤4096) :
  QG prog 186 [v,vt] w λr w'=>r=.int .i64 (fix (Cd.vio t) 0 cds)∧Step [] w w':=by
 refine QG.of_W func186 Z ntmps186 results186 (by simp) ?_;refine Qc<|xl Z<|QR (us:=[vt]) ht.cells λU w1 H ha V=>Qf<|Qc<|Qb<|x Zo<|xl Z<|xf<|(Qn9 (q:=Cd.vio t) (cap:=[.pointer (some ⟨U,0,none⟩)]) (h.ext H) (λc hm Y E=>Qhi (V.ext E) (((hc c hm).ext H).ext E) ((ht.ext H).ext E) (I c hm) J)).mono ?_;rintro r2 Y ⟨rfl,E⟩;refine Qf ?_;exact Ql ⟨[_],Lb,Z,H.trans E⟩
theorem QjY {w:World}{vs vx vk vt:Value}{sz t:LI}(hS:QL [] w.heap vs sz) (ht:QL [] w.heap vt t) (h:QmN sz t) :
  QG prog 214 [.agg #[vs,vx,vk],vt] w λr w'=>r=.int .i64 0∧Step [] w w':=by
 have hf:=ht.le;have h0:=h.1;refine QG.of_W func214 Z ntmps214 results214 (by simp) ?_;refine Qc<|xl Z<|QR (us:=[vs,vx,vk]) Z λb2 V E hg I=>Qf<|Qg<|Qc<|Qb<|x (Qr (ht.ext E) Z)<|x (Qa Z)<|x (Qd I Z Z)<|x (Qr (hS.ext E) Z)<|x (Q8 Z Z) <|
  xe ?_
 refine QC rfl (λJ=>?_) (λJ=>?_)
 ·refine Qi<|Qg<|Qc<|Qb<|x (Qr (ht.ext E) Z)<|Qb<|xe<|Qh<|Qz (α:=Nat) [(4,6),(15,31)] (λz=>[(15,.int .i64 z)]) (λz w'=>z≤t.length∧w'=V) (λz=>t.length - z) (by rfl) 0 Lb ⟨Ln _,Z⟩ ?_;rintro k g Y ⟨hk,rfl⟩;refine Qc<|x (QA Z Z)<|xe<|Qg<|QC Z (λU=>?_) (λU=>?_)
  ·refine Qy<|Qc<|Qf ?_;exact Ql ⟨[_],Lb,Z,E⟩
  have H:k<t.length:=by have hh:(k:Int)<(t.length:Int):=U;omega
  have hb:=h.2 k H;refine Qi<|Qg<|Qh<|Qc<|Qb<|xic (i:=k) (ht.ext E) Z Z H λhi ha=>x (Qv ha Z)<|x Qe<|Qf<|QZ (α:=Unit) [(20,30)] (λz=>[(30,.bool false)]) (λz w'=>w'=Y) (by rfl) ?_ ?_
  ·refine Qx<|Qb<|xb (QA Z Z) (λhc=>by omega) (λhc=>?_);refine Qb<|Qb<|x (Qa Z)<|x (Qd I Z Z)<|Qb<|xic (i:=k) (hS.ext E) Z Z (by omega) λhj he=>x (Qv he Z) <|
    x (ZZ rfl Z)<|x (Qo Z)<|xe ?_
   exact ⟨(),⟨congrArg Value.bool (decide_eq_false (by omega)),La⟩,Z⟩
  rintro _ g w3 rfl;refine YT Z ?_;refine Qi<|Qx<|QQ Z Z<|Qb<|xe ?_;exact ⟨k+1,by omega,Lb,H,Z⟩
 exact absurd (show (t.length:Int)=(sz.length:Int) by omega) J
theorem jm {w:World}{vs vx vk vt:Value}{sz t:LI}{qx:List XV}{ks:List KV}(hS:QL [] w.heap vs sz) (V:zc [] w.heap vx qx) (Y:Kcs [] w.heap vk ks) (ht:QL [] w.heap vt t) (hc:YW sz (qx.map (·.x)) (ks.map (·.k))=0) (h:QmN sz t) :
  QG prog 185 [.agg #[vs,vx,vk],vt] w λr w'=>r=.int .i64 0∧Step [] w w':=by
 refine QG.of_W func185 Z ntmps185 results185 (by simp) ?_;refine Qc<|xl Z<|QR (us:=[vs,vx,vk]) Z λb2 w1 E hb I=>Qf<|Qg<|Qc<|x (Qp I Z Z)<|xl Z<|xf<|(yl (hS.ext E) (V.ext E) (Y.ext E)).mono ?_;rintro r2 w2 ⟨J,U⟩;rw[hc] at J;subst J;refine Qf<|Qc<|Qb<|x (Q8 Z Z)<|xe<|YT rfl ?_;refine Qi ?_;have H:=E.trans U
 refine Qc<|x (Qp (I.ext U) Z Z)<|Qb<|xl Z<|xf<|(QjY (hS.ext H) (ht.ext H) h).mono ?_;rintro r3 w3 ⟨rfl,ha⟩;refine Qf ?_;exact Ql ⟨[_],Lb,Z,H.trans ha⟩
def y8 (qx:List Exc) (ks:List JF) (t:LI):Int×Int×Bool :=
 if 0≤fix (JZ t) 0 qx then (1,fix (JZ t) 0 qx,true) else if 0≤fix (KA t) 0 ks then (2,fix (KA t) 0 ks,true) else (0,0,false)
theorem Ql3 {cds:List Cd}{qx:List XV}{ks:List KV}(t:LI) (h:cds.map Cd.src=qx.map Sum.inl++ks.map Sum.inr) :
  fix (Cd.vio t) 0 cds=if 0≤fix (JZ t) 0 (qx.map (·.x)) then fix (JZ t) 0 (qx.map (·.x)) else if 0≤fix (KA t) 0 (ks.map (·.k)) then fix (KA t) 0 (ks.map (·.k))+qx.length else -1:=by
 have h1:fix (Cd.vio t) 0 cds=fix (Qgv t) 0 (cds.map Cd.src):=(Vx (Qgv t) Cd.src cds 0).symm;rw[h1,h,yi,Vx,Li,jY,Vx (Qgv t) Sum.inr ks 0];have e1:fix (λa=>Qgv t (Sum.inl a)) 0 qx=fix (JZ t) 0 (qx.map (·.x)):=(Vx (JZ t) XV.x qx 0).symm;have e2:fix (λa=>Qgv t (Sum.inr a)) 0 ks=fix (KA t) 0 (ks.map (·.k)):=(Vx (KA t) KV.k ks 0).symm;rw[e1,e2]
theorem Qnn {P:Int×Int×Bool}{a b:Int}{c:Bool}(h:P=(a,b,c)):(Value.tuple #[.int .i64 a,.int .i64 b,.bool c,.int .i64 0])=.tuple #[.int .i64 P.1,.int .i64 P.2.1,.bool P.2.2,.int .i64 0]:=by rw[h]
set_option maxHeartbeats 4000000 in
theorem Qdp {w:World}{vs vx vk vt:Value}{sz t:LI}{qx:List XV}{ks:List KV}(hS:QL [] w.heap vs sz) (J:zc [] w.heap vx qx) (hK:Kcs [] w.heap vk ks) (ht:QL [] w.heap vt t) (hc:YW sz (qx.map (·.x)) (ks.map (·.k))=0) (h:QmN sz t) :
  QG prog 144 [.agg #[vs,vx,vk],vt] w λr w'=>Step [] w w'∧r=.tuple #[.int .i64 (y8 (qx.map (·.x)) (ks.map (·.k)) t).1,.int .i64 (y8 (qx.map (·.x)) (ks.map (·.k)) t).2.1,.bool (y8 (qx.map (·.x)) (ks.map (·.k)) t).2.2,.int .i64 0]:=by
 have U:=qC hc;have hs:qx.length≤32:=by have:=U.xl;simpa using this
 have hu:ks.length≤32:=by have:=U.kl;simpa using this
 refine QG.of_W func144 Z ntmps144 results144 (by simp) ?_;refine Qc<|xl Z<|QR (us:=[vs,vx,vk]) Z λb2 w1 V h5 hh=>x Qe<|x Qe<|x Qe<|Qf<|Qg<|Qc<|x (Qp hh Z Z)<|Qb<|xl Z<|xf<|(jm (hS.ext V) (J.ext V) (hK.ext V) (ht.ext V) hc h).mono ?_;rintro r2 w2 ⟨rfl,hj⟩;refine Qf<|Qc<|Qb<|x (Q8 Z Z)<|xe<|YT rfl ?_;refine Qi ?_;have hb:=V.trans hj;have hk:=hh.ext hj
 refine Qc<|x (Qp hk Z Z)<|xl Z<|xf<|(QjR (J.ext hb) (hK.ext hb) hs hu).mono ?_;rintro r3 w3 ⟨hl,cds,hL,he⟩;have ha:=hb.trans hl;have h6:cds.length=qx.length+ks.length:=by have:=congrArg List.length he;simpa using this
 have hv:∀i,i<t.length→0≤cget t i∧cget t i≤4096:=λi hi=>by
  have h1:=h.2 i hi;have h2:i<sz.length:=by rw[←h.1];exact hi
  have h3:=U.s _ (Le h2);rw[Q9 h2] at h3;omega
 have hn:∀c∈cds,c.src∈qx.map Sum.inl++ks.map Sum.inr:=λc hm=>by rw[←he];exact LW hm
 have hw:∀c∈cds,CdA w3.heap c:=λc hm=>by
  have h1:=hn c hm;have h2:=(hL.bx c hm).1;cases c with
  | ex b q =>
   have hq:q∈qx:=by simpa[Cd.src] using h1
   exact ⟨h2,(J.each q hq).ext ha⟩
  | co b q =>
   have hq:q∈ks:=by simpa[Cd.src] using h1
   exact ⟨h2,(hK.each q hq).ext ha⟩
 have hy:∀c∈cds,c.rg t.length:=λc hm=>by
  have h1:=hn c hm;rw[h.1];cases c with
  | ex b q =>
   have hq:q∈qx:=by simpa[Cd.src] using h1
   exact U.x q.x (LW hq)
  | co b q =>
   have hq:q∈ks:=by simpa[Cd.src] using h1
   exact U.k q.k (LW hq)
 have hz:=Ql3 t he;have g1:=Qef (JZ t) (qx.map (·.x)) 0;have g2:=Qef (KA t) (ks.map (·.k)) 0;simp only[List.length_map] at g1 g2;refine Qb<|xl Z<|xf<|(QbO (QX (L:=[]) hL.own (by omega) (by simp)) hw (ht.ext ha) hy hv).mono ?_;rintro r4 w4 ⟨rfl,ho⟩;rw[hz];have Y:=ha.trans ho;refine Zh (y8 (qx.map (·.x)) (ks.map (·.k)) t) λP H=>?_;rw[H];unfold y8 at H
 refine Zh (fix (JZ t) 0 (qx.map (·.x))) λI hf=>?_;refine Zh (fix (KA t) 0 (ks.map (·.k))) λi2 hg=>?_;rw[hf,hg] at H;rw[hf] at g1;rw[hg] at g2;refine Zh (if 0≤I then I else if 0≤i2 then i2+(qx.length:Int) else -1) λr E=>?_
 rw[hf,hg,E];refine Qf<|Qh<|Qc<|Qb<|x (QA Z Z)<|Qf<|Q3 Z (λh0=>?_) (λh0=>?_)
 ·have n1:¬0≤I:=λh=>by rw[if_pos h] at E;omega
  have n2:¬0≤i2:=λh=>by rw[if_neg n1,if_pos h] at E;omega
  refine Qc<|x Qe<|x Qe<|x Qe<|Qf ?_;exact Ql ⟨[_,_,_,_],⟨Z,Z,Z,Z,La⟩,Y,Qnn (by rw[←H,if_neg n1,if_neg n2])⟩
 have hp:=(hk.ext hl).ext ho;refine Qc<|Qb<|x (Qa Z)<|x (Qd hp Z Z)<|x (Qr (J.ext Y).arr Z)<|x (QA Z Z)<|Qf<|Q3 Z (λh4=>?_) (λh4=>?_)
 ·have p1:0≤I:=by
   refine Lo.1 λn1=>?_;by_cases h:0≤i2
   ·rw[if_neg n1,if_pos h] at E;omega
   rw[if_neg n1,if_neg h] at E;omega
  have e:r=I:=by rw[if_pos p1] at E;exact E.symm
  refine Qc<|Qb<|x Qe<|x Qe<|x Qe<|Qf ?_;exact Ql ⟨[_,_,_,_],⟨Z,Z,Z,Z,La⟩,Y,Qnn (by rw[←H,if_pos p1,e])⟩
 have n1:¬0≤I:=λh=>by rw[if_pos h] at E;omega
 have p2:0≤i2:=by
  refine Lo.1 λn2=>?_;rw[if_neg n1,if_neg n2] at E;omega
 have e:r - (qx.length:Int)=i2:=by rw[if_neg n1,if_pos p2] at E;omega
 refine Qg<|QU (Step [] w4) [(0,true),(1,true),(2,true),(3,true),(4,true),(5,true),(6,true),(7,true),(8,true)] mixed (by rfl) (by kernel_rfl) (Step.drew _ _) ?_;refine p (λ_=>Qm)<|p (λ_=>Qa Z)<|pq (λ_ hc=>Qd (hp.ext hc) Z Z)<|p (λ_=>Qr (J.ext Y).arr Z) <|
  p (λ_=>J2 Z Z ⟨by omega,by omega⟩)<|p (λ_=>Qe)<|p (λ_=>Qe)<|p (λ_=>Qe)<|p (λ_=>Qe) <|
  pe ?_
 exact Ql ⟨[_,_,_,_],⟨Z,Z,Z,Z,La⟩,Y.trans (Step.drew _ _),Qnn (by rw[←H,if_neg n1,if_pos p2,←e])⟩
def Z7 (base:Nat) (av:LN) (H:Array Obj) (v:Value) (n sz:Nat) (cs:LV):Prop:=∀L:LN,(∀b∈L,b<base∨b∈av)→ZA L H v n sz cs
theorem Z7.ext {base:Nat}{av:LN}{w w':World}{v:Value}{n sz:Nat}{cs:LV}(h:Z7 base av w.heap v n sz cs) (hs:Step [] w w'):Z7 base av w'.heap v n sz cs:=λL E=>(h L E).ext hs
theorem Z7.app {base:Nat}{av E:LN}{w w':World}{v:Value}{n sz:Nat}{cs:LV}(h:Z7 base av w.heap v n sz cs) (hs:Step av w w') (H:∀b∈E,b∈av∨w.heap.size≤b):Z7 base E w'.heap v n sz cs:=by
 intro L I;have h1:ZA (av++L.filter λb=>decide (b<base)) w.heap v n sz cs:=h _ (λb hb=>by
  rcases Lp.1 hb with hb | hb
  ·exact .inr hb
  exact .inl (by simpa using (LL.1 hb).2))
 refine h1.grow hs (λb hb=>Lp.2 (.inl hb)) λb hb=>?_;rcases I b hb with h2 | h2
 ·exact .inl (Lp.2 (.inr (LL.2 ⟨hb,by simpa using h2⟩)))
 rcases H b h2 with h3 | h3
 ·exact .inl (Lp.2 (.inl h3))
 exact .inr h3
theorem Z7.of_own {base N:Nat}{av:LN}{w:World}{v:Value}{e n sz:Nat}{cs:LV}(h:w.ownsRow N e sz v n cs) (E:n≤1099511627776) (hb:base≤N) (H:∀b∈av,b<N):Z7 base av w.heap v n sz cs:=λL I =>
 QX h E λb hb J=>by
  have h1:=(Qq h b hb).1;rcases I b J with h2 | h2
  ·omega
  have:=H b h2;omega
structure Yh {α:Type}(g:α→LV) (sz T:Nat) (p:α→Value×Nat×Nat×LV) (base:Nat) (w:World) (v:Value) (l:List α):Prop where
 own:w.ownsRow base T sz v l.length (l.flatMap g)
 each:∀q∈l,Z7 base (ob v) w.heap (p q).1 (p q).2.1 (p q).2.2.1 (p q).2.2.2
theorem Yh.nil {α:Type}{g:α→LV}{sz T:Nat}{p:α→Value×Nat×Nat×LV}{base:Nat}{w:World}:Yh g sz T p base w (nS) []:=⟨QP _ _ _ _,λq hq=>by cases hq⟩
theorem Yh.ext {α:Type}{g:α→LV}{sz T:Nat}{p:α→Value×Nat×Nat×LV}{base:Nat}{w w':World}{v:Value}{l:List α}(h:Yh g sz T p base w v l) (hs:Step [] w w'):Yh g sz T p base w' v l:=⟨Qt h.own hs,λq hq=>(h.each q hq).ext hs⟩
theorem Yh.app {α:Type}{g:α→LV}{sz T:Nat}{p:α→Value×Nat×Nat×LV}{base N e:Nat}{w E H:World}{v I:Value}{l:List α}{q:α}(h:Yh g sz T p base w v l) (hs:Step [] w E)
  (hq:E.ownsRow N e (p q).2.2.1 (p q).1 (p q).2.1 (p q).2.2.2) (V:(p q).2.1≤1099511627776) (hN:w.heap.size≤N) (hb:base≤w.heap.size)
  (Y:H.ownsRow base T sz I (l.length+1) (l.flatMap g++g q)) (J:Step (ob v) E H) (U:∀b∈ob I,b∈ob v∨E.heap.size≤b):Yh g sz T p base H I (l++[q]):=by
 have ha:=Q2 h.own;refine ⟨?_,λd hd=>?_⟩
 ·rw[Ll,LH];simpa using Y
 rcases Lp.1 hd with hd | hd
 ·exact ((h.each d hd).ext hs).app J U
 simp only[List.mem_singleton] at hd;subst hd;exact (Z7.of_own hq V (by omega) (λb hb=>by have:=ha b hb;omega)).app J U
theorem Qky {L L':LN}{w:World}{va vm ve va' vm' ve':Value}{a b:QD}(h:Zq L w.heap va vm ve a) (h':Zq L' w.heap va' vm' ve' b) :
  QG prog 211 [.agg #[va,.int .i64 a.st,vm,ve],.agg #[va',.int .i64 b.st,vm',ve']] w λr w'=>r=.bool (decide (a.st=b.st∧a.al=b.al∧a.mr=b.mr∧a.ed=b.ed))∧Step [] w w':=by
 refine QG.of_W func211 Z ntmps211 results211 (by simp) ?_;refine Qc<|xl Z<|QR (us:=[va,.int .i64 a.st,vm,ve]) Z λb2 w1 hh hl hi=>xl Z<|QR (us:=[va',.int .i64 b.st,vm',ve']) Z λb3 w2 he E I=>Qf ?_;have J:=hh.trans he;have U:=hi.ext he;refine QZ (α:=Bool) [(4,30)] (λz=>[(4,.bool z)]) (λz w'=>Step [] w w'∧z=decide (a.st=b.st∧a.al=b.al∧a.mr=b.mr∧a.ed=b.ed)) (by rfl) ?_ ?_
 ·refine Qx<|x (Qa Z)<|x (Qd U Z Z)<|x (Qa Z)<|x (Qd I Z Z)<|xb (Zr Z Z) (λh9=>?_) (λh9=>?_)
  ·refine Qb<|x (Qa Z)<|x (Qd U Z Z)<|x (Qa Z)<|x (Qd I Z Z)<|xl Z<|xf<|(Vy (h.al.ext J) (h'.al.ext J)).mono ?_;rintro r3 w3 ⟨V,Y⟩;have ha:=J.trans Y;refine QjB (decide (a.al=b.al)) (λE=>?_) (λE=>?_)
   ·rw[E] at V;subst V;refine x (Qo Z)<|Qb<|x (Qa Z)<|x (Qd (U.ext Y) Z Z)<|x (Qa Z)<|x (Qd (I.ext Y) Z Z)<|xl Z<|xf<|(Vy (h.mr.ext ha) (h'.mr.ext ha)).mono ?_;rintro r4 w4 ⟨hb,hf⟩;have hc:=ha.trans hf;have hg:=Y.trans hf;refine QjB (decide (a.mr=b.mr)) (λH=>?_) (λH=>?_)
    ·rw[H] at hb;subst hb;refine x (Qo Z)<|Qb<|x (Qa Z)<|x (Qd (U.ext hg) Z Z)<|x (Qa Z)<|x (Qd (I.ext hg) Z Z)<|xl Z<|xf<|(QgT (h.ed.ext hc) (h'.ed.ext hc)).mono ?_;rintro r5 w5 ⟨rfl,hj⟩;refine x (Qo Z)<|Qf ?_;exact ⟨_,Lb,hc.trans hj,bD ⟨λe=>⟨h9,of_decide_eq_true E,of_decide_eq_true H,e⟩,λe=>e.2.2.2⟩⟩
    rw[H] at hb;subst hb;refine x (Qo Z)<|Qb<|xs Z<|xs Z<|xs Z<|xs Z<|xs Z<|x (Qo Z)<|Qf ?_;exact ⟨_,Lb,hc,bF (λe=>of_decide_eq_false H e.2.2.1)⟩
   rw[E] at V;subst V;refine x (Qo Z)<|Qb<|xs Z<|xs Z<|xs Z<|xs Z<|xs Z<|x (Qo Z)<|Qb<|xs Z<|xs Z<|xs Z<|xs Z<|xs Z<|x (Qo Z) <|
    Qf ?_
   exact ⟨_,Lb,ha,bF (λe=>of_decide_eq_false E e.2.1)⟩
  refine Qb<|xs Z<|xs Z<|xs Z<|xs Z<|xs Z<|x (Qo Z)<|Qb<|xs Z<|xs Z<|xs Z<|xs Z<|xs Z<|x (Qo Z) <|
   Qb<|xs rfl<|xs Z<|xs Z<|xs Z<|xs Z<|x (Qo Z)<|Qf ?_
  exact ⟨_,Lb,J,bF (λe=>h9 e.1)⟩
 rintro z g w6 ⟨hk,rfl⟩;exact Ql ⟨[_],Lb,Z,hk⟩
theorem Qku {L:LN}{w:World}{va vm ve:Value}{a:QD}(h:Zq L w.heap va vm ve a) :
  QG prog 172 [.agg #[va,.int .i64 a.st,vm,ve]] w λr w'=>r=.bool (K5 a)∧Step [] w w':=by
 refine QG.of_W func172 Z ntmps172 results172 (by simp) ?_;refine Qc<|xl Z<|QR (us:=[va,.int .i64 a.st,vm,ve]) Z λb1 E he hh H=>Qf<|QZ (α:=Bool) [(2,11)] (λz=>[(2,.bool z)]) (λz w'=>Step [] w w'∧z=K5 a) (by rfl) ?_ ?_
 ·refine QU (Step [] E) [(0,true),(1,false),(2,true),(3,true),(4,true),(5,true),(6,false),(7,false),(8,true),(9,true)] mixed (by rfl) (by kernel_rfl) (Step.drew _ _) ?_;have V:=he.trans (Step.drew [] E);refine pq (λ_ hc=>Qp (H.step hc (by simp)) rfl rfl)<|pk<|xf<|(Xn (h.ext V)).mono ?_;rintro r2 w2 ⟨rfl,Y⟩;have I:=V.trans Y;have J:=(Step.drew [] E).trans Y
  refine ⟨J,?_⟩;refine pb (λ_=>Zr Z Z) (λh5=>?_) (λh5=>?_)
  ·have hc:XM a=0:=h5;refine p (λ_=>Qm)<|pq (λ_ hc=>Qp (H.step hc (by simp)) rfl rfl)<|pq (λ_ hc=>Qp (H.step hc (by simp)) rfl rfl) <|
    pk<|xf<|(Qbt (h.ext I) ((Zv a).1 hc)).mono ?_
   rintro r3 w3 ⟨U,hi,hj,hk,rfl,hf⟩;have ha:=I.trans U;refine ⟨J.trans U,?_⟩;refine pk<|xf<|(Qky (h.ext ha) (hf [] (by simp))).mono ?_;rintro r4 w4 ⟨rfl,hb⟩;refine ⟨(J.trans U).trans hb,?_⟩;refine p (λ_=>Qo Z)<|p (λ_=>Qe)<|pe ?_;refine ⟨_,Lb,ha.trans hb,?_⟩;unfold K5;rw[decide_eq_true hc,Bool.true_and]
   exact bD ⟨λe=>⟨e.1.symm,e.2.1.symm,e.2.2.1.symm,e.2.2.2.symm⟩,λe=>⟨e.1.symm,e.2.1.symm,e.2.2.1.symm,e.2.2.2.symm⟩⟩
  have hc:¬XM a=0:=h5;refine p (λ_=>Qm)<|ps<|ps<|ps<|ps<|p (λ_=>Qo Z)<|p (λ_=>Qe)<|pe ?_;exact ⟨_,Lb,I,by unfold K5;rw[decide_eq_false hc];rfl⟩
 rintro z g w5 ⟨hg,rfl⟩;exact Ql ⟨[_],Lb,Z,hg⟩
section
variable {P:Program} {f:Fr} {w:World} {d:Option Nat} {ty:Nat} {ps:String} {af:Array Edge} {gd:Option (Nat×Bool)}
theorem ZI {t sz:Nat}[Ag P t sz] {x:Operand}{b T o:Nat}{cs us:LV}(h:QT w.heap b T cs) (hx:ev f x=.pointer (some ⟨b,o,none⟩)) (hl:us.length=sz) (hu:(cs.drop o).take sz=us) :
  (execOp (ev f) ⟨d,.load t x,ty,ps,af,gd⟩).run P w=.ok (.value (.agg us.toArray)) w:=qS hx hl λj v E=>by
 rw[YM,Jm,h.cell];rw[←hu,Mo] at E;split at E
 ·simpa using E
 cases E
end
theorem Qeb {L:LN}{w:World}{v:Value}{qs:List IV}(h:Xr L w.heap v qs) :
  QG prog 184 [v] w λr w'=>Step [] w w'∧w'.ownsRow w.heap.size 50 4 r (qs.map (·.p)).length ((qs.map (·.p)).flatMap Zc):=by
 have hr:=h.arr.le;refine QG.of_W func184 Z ntmps184 results184 (by simp) ?_;refine Qc<|Qf<|Qc<|Qf<|Qg<|Qc<|Qb<|x (Qr h.arr Z)<|Qb<|xe<|Qh<|Qz (α:=Nat×Value) [(3,3),(5,5),(8,17)] (λz=>[(3,z.2),(8,.int .i64 z.1)]) (λz w'=>z.1≤qs.length∧Step [] w w'∧w'.ownsRow w.heap.size 50 4 z.2 z.1 (((qs.take z.1).map (·.p)).flatMap Zc)) (λz=>qs.length - z.1) (by rfl) (0,nS) ⟨Z,Z,La⟩
  ⟨Ln _,Step.refl _ _,QP _ _ _ _⟩ ?_
 rintro ⟨k,vo⟩ g w1 ⟨hk,I,J⟩;simp only[] at hk J;refine Qc<|x (QA Z Z)<|xe<|Qg<|QC Z (λh9=>?_) (λh9=>?_)
 ·refine Qy ?_;have hf:k=qs.length:=by have U:¬(k:Int)<(qs.length:Int):=h9;omega
  subst hf;rw[Ls (Lv _)] at J;refine Qc<|Qb<|Qf ?_;exact Ql ⟨[_],Lb,I,by rw[Li];exact J⟩
 have E:k<qs.length:=by have U:(k:Int)<(qs.length:Int):=h9;omega
 have ha:=Le E;have hc:qs.take (k+1)=qs.take k++[qs[k]'E]:=Lj E;refine Qi<|Qg<|Qh<|Qc<|xig X0 (h.arr.ext I) Z Z E λhs U=>?_;refine Zh (qs[k]'E) λq hq=>?_;rw[hq] at U ha hc;have H:=h.each q ha
 refine x (QJ U Z Z)<|xl Z<|Qu (us:=[.string .empty,nS,.int .i64 0,nS,nS]) Z λb5 w2 hg hh V=>xl Z<|Qn (us:=Zm q) V Z Z Z Z ⟨Z,H.al.one,Z,H.mr.one,H.ed.one,La⟩ λw3 hi V =>
  xe ?_
 have hj:Step [] w1 w3:=hg.then1 hi hh;refine Qx<|Qb<|x (Qa Z)<|x (ZI (us:=Zc q.p) V Z Z Z)<|xl Z<|QH (us:=[Zc q.p]) Z Z (by decide) (by simp) ⟨rfl,rfl,La⟩ λb15 w4 hl ht hm=>?_;have Y:=hj.trans hl;have he:=Qt J Y;have hv:=(I.trans Y).size;have hn:∀u∈Zc q.p,u.oneCell'=true:=by
  intro u hu;simp only[List.mem_cons,List.not_mem_nil,or_false] at hu;rcases hu with rfl | rfl | rfl | rfl
  ·exact H.al.one
  ·rfl
  ·exact H.mr.one
  exact H.ed.one
 refine xl rfl<|Q6 (news:=Zc q.p) (L:=[]) he Z Z Z (hm.at (by simp)) hn (by omega) (by omega) λv5 w5 ho hp hw=>Qf ?_;have hge:=Qq he;refine Qx<|QQ Z Z<|Qb<|xe<|⟨(k+1,v5),by simp only[];omega,⟨Z,Z,La⟩,E,(I.trans Y).then hp (λb hb=>.inr (hge b hb).1),?_⟩;simp only[];rw[hc,Ly,LH];simpa using ho
theorem Qi9 {L:LN}{w:World}{r:Value}{base e:Nat}{ps:List AV}(h:w.ownsRow base e 4 r ps.length (ps.flatMap Zc)) (E:ps.length≤1099511627776) (H:∀b∈L,b<base) (he:∀p∈ps,Zq L w.heap p.va p.vm p.ve p.a):Xf L w.heap r ps :=
 ⟨QX h E (λb hb I=>by have:=(Qq h b hb).1;have:=H b I;omega),he⟩
theorem Qi8 {w:World}{b:Nat}{n m:Int}(E:QT w.heap b 3 [.int .i64 m]) :
  QG prog 173 ([.int .i64 n]++[.pointer (some ⟨b,0,none⟩)]) w λr w'=>r=.bool (decide (m≤n))∧Step [] w w':=by
 refine QG.of_W func173 Z ntmps173 results173 (by simp) ?_;refine Qc<|Qf<|Qc<|Qb<|x (Qd E Z Z)<|x (ZZ Z Z)<|Qf ?_;exact Ql ⟨[_],Lb,Z,Step.refl _ _⟩
abbrev Uv (n:Int):LV:=[.int .i64 n]
theorem Qoa (n:Int):(Uv n).length=1:=rfl
theorem Qm7:∀l:LI,l.flatMap Uv=l.map (.int .i64)
 | []=>rfl
 | a::l=>by rw[LY,Qm7 l];rfl
theorem QL.fl {L:LN}{H:Array Obj}{v:Value}{l:LI}(h:QL L H v l):ZA L H v l.length 1 (l.flatMap Uv):=by
 rw[Qm7 l];exact h
theorem Qn8 {gp:Nat}{fn:Func}[Fu prog gp fn] {cap:LV}{q:Int→Bool}{L:LN}{w:World}{v:Value}{l:LI}(h:ZA L w.heap v l.length 1 (l.flatMap Uv))
  (hk:∀e∈l,∀(H:World),Step [] w H→QG prog gp ([.int .i64 e]++cap) H λr w'=>r=.bool (q e)∧Step [] H w') :
  QG prog 111 [v,.func (.func gp) #[] cap.toArray] w λr w'=>r=.int .i64 (fix q 0 l)∧Step [] w w':=by
 have hf:=h.le;refine QG.of_W func111 Z ntmps111 results111 (by simp) ?_;refine Qc<|Qf<|Qg<|Qc<|Qb<|x (Qr h Z)<|Qb<|xe<|Qh<|Qz (α:=Nat) [(4,5),(8,18)] (λz=>[(8,.int .i64 z)]) (λz w'=>z≤l.length∧Step [] w w'∧fix q z (l.drop z)=fix q 0 l) (λz=>l.length - z) (by rfl) 0 Lb
  ⟨Ln _,Step.refl _ _,Z⟩ ?_
 rintro k g H ⟨hk1,I,E⟩;refine Qc<|x (QA Z Z)<|xe<|Qg<|QC Z (λh9=>?_) (λh9=>?_)
 ·refine Qy ?_;have hb:l.length≤k:=by have hc:¬(k:Int)<(l.length:Int):=h9;omega
  rw[Lx hb] at E;refine Qc<|Qf ?_;exact Ql ⟨[_],Lb,by rw[←E];rfl,I⟩
 have J:k<l.length:=by have hc:(k:Int)<(l.length:Int):=h9;omega
 rw[Q7 J,Yk] at E;have V:=Le J;refine Qi<|Qg<|Qh<|Qc<|Qb<|Qf<|Qc<|Qb<|Qb<|Qb<|xig Qoa (h.ext I) Z Z J λhg Y=>?_;refine Zh (l[k]'J) λe he=>?_;rw[he] at Y E V;refine x (Qv Y Z)<|xl Z<|xc (first:=[]) (capt:=cap) Z<|(hk e V H I).mono ?_;rintro r2 w2 ⟨rfl,ha⟩;refine xe<|QW rfl (λU=>?_) (λU=>?_)
 ·rw[if_pos U] at E;refine Qc<|Qb<|Qf ?_;exact Ql ⟨[_],Lb,by rw[←E];rfl,I.trans ha⟩
 rw[if_neg (by rw[U];decide)] at E;refine Qi<|Qx<|QQ Z Z<|Qb<|xe ?_;exact ⟨k+1,by omega,Lb,J,I.trans ha,E⟩
theorem Qoy {gp:Nat}{fn:Func}[Fu prog gp fn] {cap:LV}{q:Int→Bool}{L:LN}{w:World}{v:Value}{l:LI}(h:ZA L w.heap v l.length 1 (l.flatMap Uv))
  (hk:∀e∈l,∀(E:World),Step [] w E→QG prog gp ([.int .i64 e]++cap) E λr w'=>r=.bool (q e)∧Step [] E w') :
  QG prog 153 [v,.func (.func gp) #[] cap.toArray] w λr w'=>r=.bool (l.any q)∧Step [] w w':=by
 refine QG.of_W func153 Z ntmps153 results153 (by simp) ?_;refine Qc<|Qf<|Qc<|Qb<|Qb<|xl Z<|xf<|(Qn8 h hk).mono ?_;rintro I E ⟨rfl,H⟩;refine x (ZZ Z Z)<|Qf ?_;exact Ql ⟨[_],Lb,congrArg Value.bool (UC q l 0),H⟩
theorem QfK {L L':LN}{w:World}{q:IV}{nev:Nat}{vg:Value}{amg:LI}{bm:Nat}{seen:List ByteArray}(hA:Zq L w.heap q.p.va q.p.vm q.p.ve q.p.a) (h3:yW q.nm) (hg:QL L' w.heap vg amg) (hG:amg.length≤4096) (hm:ZN Js w.heap bm (nmM seen)) (h4:bm∈L) (h5:bm∈L') :
  QG prog 133 [.agg (Zm q).toArray,.int .i64 nev,vg,.map (some bm)] w λr w'=>r=.int .i64 (Yl nev amg seen q.it)∧Step [bm] w w'∧(Yl nev amg seen q.it=0→ZN Js w'.heap bm (nmM (seen++[q.nm]))):=by
 have E:Yl nev amg seen q.it=(if Xq q.nm=false then 7 else if q.nm∈seen then 8 else if XM q.p.a≠0 then XM q.p.a else if K5 q.p.a=false then 6 else if q.p.a.st=0 then 12 else
  if (q.p.a.al.any λe=>decide ((nev:Int)≤e))=true then 2 else if (mns q.p.a.al amg).length≠0 then 9 else 0):=rfl
 refine Zh (Yl nev amg seen q.it) λR hR=>?_;rw[hR] at E ⊢;refine QG.of_W func133 Z ntmps133 results133 (by simp) ?_;refine Qc<|xl Z<|QR (us:=Zm q) Z λb4 w1 hv hH h6=>xl Z<|QR (us:=[.int .i64 nev]) Z λb5 w2 Y hI h7=>Qf ?_;have ha:=hv.trans Y;have hc:=h6.ext Y;refine Qg<|Qh<|Qc<|x (Qa Z)<|x (Qd hc Z Z)<|xl Z<|xf<|(qt q.nm h3 w2).mono ?_;rintro r3 w3 ⟨rfl,rfl⟩
 refine x (Zs Z)<|Qf<|QW Z (λhk=>?_) (λhk=>?_)
 ·have H:Xq q.nm=false:=by simpa using hk
  rw[if_pos H] at E;subst E;refine Qc<|Qf ?_;exact Ql ⟨[_],Lb,Z,ha.any,λe=>absurd e (by decide)⟩
 have H:¬Xq q.nm=false:=by simpa using hk
 rw[if_neg H] at E;have hw:=hm.ext ha;refine Qc<|Qb<|x (Qa Z)<|x (Qd hc Z Z)<|x (Qcd hw Z Z)<|Qf<|Q3 Z (λhf=>?_) (λhf=>?_)
 ·rw[if_pos hf] at E;subst E;refine Qc<|Qf ?_;exact Ql ⟨[_],Lb,Z,ha.any,λe=>absurd e (by decide)⟩
 rw[if_neg hf] at E;refine Qi ?_;have hJ:=hm.lt;refine Qc<|Qb<|x (Qa Z)<|x (Qd hc Z Z)<|xl Z<|Y1 (k:=q.nm) hw Z Z λw4 hl hy=>xe ?_;rw[show ev _ _=Value.bool true from rfl,Qfm hf] at hy;have I:Step [bm] w w4:=ha.any.trans' hl;have hK:=hv.size;have hh:=hc.step hl (by simp;omega);have h8:=h7.step hl (by simp;omega)
 have hi:Zq L w4.heap q.p.va q.p.vm q.p.ve q.p.a:=hA.st (I.mono (λb hb=>by simp at hb;subst hb;exact h4));have h9:QL L' w4.heap vg amg:=hg.st (I.mono (λb hb=>by simp at hb;subst hb;exact h5));refine Qg<|Qc<|x (Qa Z)<|x (ZI (us:=Zc q.p) hh Z Z Z)<|xl Z<|xf<|(Xn hi).mono ?_;rintro r5 w5 ⟨rfl,hj⟩;refine Qf<|Qc<|Qb<|x (Q8 Z Z)<|xe<|Q3 rfl (λJ=>?_) (λJ=>?_)
 ·rw[if_pos J] at E;subst E;refine Qc<|Qb<|Qf ?_;exact Ql ⟨[_],Lb,Z,I.trans hj,λe=>absurd e J⟩
 rw[if_neg J] at E;have hB:=(Zv q.p.a).1 (Lo.1 J);refine Qi<|Qg<|Qh<|Qc<|x (Qa Z)<|x (ZI (us:=Zc q.p) (hh.ext hj) Z Z Z)<|xl Z<|xf<|(Qku (hi.ext hj)).mono ?_;rintro r6 w6 ⟨rfl,hC⟩;have U:=hj.trans hC;have hz:=I.trans U;have h0:=hh.ext U;refine x (Zs Z)<|Qf<|QW Z (λho=>?_) (λho=>?_)
 ·have H:K5 q.p.a=false:=by simpa using ho
  rw[if_pos H] at E;subst E;refine Qc<|Qf ?_;exact Ql ⟨[_],Lb,Z,hz,λe=>absurd e (by decide)⟩
 have H:¬K5 q.p.a=false:=by simpa using ho
 rw[if_neg H] at E;refine Qc<|x (Qa Z)<|x (Qa Z)<|x (Qd h0 Z Z)<|x (Zr Z Z)<|Qf<|Q3 Z (λhp=>?_) (λhp=>?_)
 ·have hq:q.p.a.st=0:=hp;rw[if_pos hq] at E;subst E;refine Qc<|Qf ?_;exact Ql ⟨[_],Lb,Z,hz,λe=>absurd e (by decide)⟩
 have hq:¬q.p.a.st=0:=hp;rw[if_neg hq] at E;refine Qc<|x (Qa Z)<|x (Qa Z)<|x (Qd h0 Z Z)<|x Zo<|xl Z<|xf<|(Qoy (q:=λe=>decide ((nev:Int)≤e)) (cap:=[.pointer (some ⟨b5,0,none⟩)]) (QL.fl (hi.al.ext U)) (λe he w2 Y=>Qi8 ((h8.ext U).ext Y))).mono ?_;rintro r7 w7 ⟨rfl,hD⟩;have V:=U.trans hD;have hE:=I.trans V;refine Qf<|QW Z (λhs=>?_) (λhs=>?_)
 ·rw[if_pos hs] at E;subst E;refine Qc<|Qf ?_;exact Ql ⟨[_],Lb,Z,hE,λe=>absurd e (by decide)⟩
 rw[if_neg (by rw[hs];decide)] at E;have hL:=hB.al_le;refine Qc<|x (Qa Z)<|x (Qa Z)<|x (Qd (hh.ext V) Z Z)<|Qb<|xl Z<|xf<|(Qg3 (hi.al.ext V) (h9.ext V) (by omega)).mono ?_;rintro r8 w8 ⟨hF,rfl⟩;have h1:=V.trans hF;have h2:=I.trans h1;refine x (zC Z)<|Qf<|Q3 Z (λht=>?_) (λht=>?_)
 ·have hu:(mns q.p.a.al amg).length≠0:=λe=>ht (Lt e);rw[if_pos hu] at E;subst E;refine Qc<|Qf ?_;exact Ql ⟨[_],Lb,Z,h2,λe=>absurd e (by decide)⟩
 have hu:¬(mns q.p.a.al amg).length≠0:=λe=>ht (λh=>e (by rw[show mns q.p.a.al amg=[] from h];rfl));rw[if_neg hu] at E;subst E;refine Qi<|Qc<|Qf ?_;exact Ql ⟨[_],Lb,Z,h2,λ_=>hy.ext h1⟩
theorem QgW {L:LN}{w:World}{v:Value}{l:List (Int×Int)}(h:P2s L w.heap v l) :
  QG prog 180 [v] w λr w'=>Step [] w w'∧w'.ownsRow w.heap.size 101 2 r l.length (l.flatMap Zb):=by
 have hb:=h.le;refine QG.of_W func180 Z ntmps180 results180 (by simp) ?_;refine Qc<|Qf ?_;obtain ⟨ao,cap,E⟩:=h.shape;refine Qg<|Qc<|Qb<|x (Uh (show ev _ _=_ from E) Z)<|xe<|QW rfl (λh4=>?_) (λh4=>?_)
 ·refine Qc<|Qf<|Ql ⟨[nS],Lb,Step.refl _ _,?_⟩;rcases h.2.2 with ⟨h1,h2⟩ | ⟨a,c,h1,_⟩
  ·have:l=[]:=Lt h2;subst this;exact QP _ _ _ _
  rw[h1] at E;cases E;cases h4
 rcases h.2.2 with ⟨h1,h2⟩ | ⟨a,c,h1,h2,h3⟩
 ·rw[h1] at E;injection E with e1;subst e1;cases h4
 refine Qi<|Qc ?_;have U:∀u∈l.flatMap Zb,u.oneCell'=true:=by
  intro u hu;obtain ⟨p,_,hp⟩:=MJ.1 hu;simp only[List.mem_cons,List.not_mem_nil,or_false] at hp;rcases hp with rfl | rfl <;> rfl
 refine xl rfl<|U6 λb5 w1 H I J=>Qb<|xl Z<|Q6 (base:=w.heap.size) (J.own (n:=0) (sz:=2) Z (by omega) I) Z (show ev _ _=_ from h1) h.1 (h3.ext H) U (by omega) (by have:=J.lt;omega) λV w2 Y ha hc=>Qf<|Ql ⟨[V],Lb,H.then1 ha I,?_⟩;simpa[tup] using Y
theorem QgV {L:LN}{w:World}{v:Value}{l:List (Int×Int)}(h:P2s L w.heap v l) :
  QG prog 181 [v] w λr w'=>Step [] w w'∧w'.ownsRow w.heap.size 155 2 r l.length (l.flatMap Zb):=by
 have hb:=h.le;refine QG.of_W func181 Z ntmps181 results181 (by simp) ?_;refine Qc<|Qf ?_;obtain ⟨ao,cap,E⟩:=h.shape;refine Qg<|Qc<|Qb<|x (Uh (show ev _ _=_ from E) Z)<|xe<|QW rfl (λh4=>?_) (λh4=>?_)
 ·refine Qc<|Qf<|Ql ⟨[nS],Lb,Step.refl _ _,?_⟩;rcases h.2.2 with ⟨h1,h2⟩ | ⟨a,c,h1,_⟩
  ·have:l=[]:=Lt h2;subst this;exact QP _ _ _ _
  rw[h1] at E;cases E;cases h4
 rcases h.2.2 with ⟨h1,h2⟩ | ⟨a,c,h1,h2,h3⟩
 ·rw[h1] at E;injection E with e1;subst e1;cases h4
 refine Qi<|Qc ?_;have U:∀u∈l.flatMap Zb,u.oneCell'=true:=by
  intro u hu;obtain ⟨p,_,hp⟩:=MJ.1 hu;simp only[List.mem_cons,List.not_mem_nil,or_false] at hp;rcases hp with rfl | rfl <;> rfl
 refine xl rfl<|U6 λb5 w1 H I J=>Qb<|xl Z<|Q6 (base:=w.heap.size) (J.own (n:=0) (sz:=2) Z (by omega) I) Z (show ev _ _=_ from h1) h.1 (h3.ext H) U (by omega) (by have:=J.lt;omega) λV w2 Y ha hc=>Qf<|Ql ⟨[V],Lb,H.then1 ha I,?_⟩;simpa[tup] using Y
theorem Z7.low {base:Nat}{av X:LN}{w w':World}{v:Value}{n sz:Nat}{cs:LV}(h:Z7 base av w.heap v n sz cs) (hs:Step X w w') (E:∀b∈X,b<base):Z7 base av w'.heap v n sz cs:=by
 intro L H;have h1:ZA (X++L) w.heap v n sz cs:=h _ (λb hb=>by
  rcases Lp.1 hb with hb | hb
  ·exact .inl (E b hb)
  exact H b hb)
 exact (h1.step hs (λb hb=>Lp.2 (.inl hb))).up (λb hb=>.inl (Lp.2 (.inr hb)))
theorem Yh.low {α:Type}{g:α→LV}{sz T:Nat}{p:α→Value×Nat×Nat×LV}{base:Nat}{X:LN}{w w':World}{v:Value}{l:List α}(h:Yh g sz T p base w v l) (hs:Step X w w') (E:∀b∈X,b<base):Yh g sz T p base w' v l :=
 ⟨Qk h.own hs (λb hb hm=>by have:=(Qq h.own b hb).1;have:=E b hm;omega),λq hq=>(h.each q hq).low hs E⟩
theorem Yh.arr {α:Type}{g:α→LV}{sz T:Nat}{p:α→Value×Nat×Nat×LV}{base:Nat}{w:World}{v:Value}{l:List α}{L:LN}(h:Yh g sz T p base w v l) (E:l.length≤1099511627776) (H:∀b∈L,b<base):ZA L w.heap v l.length sz (l.flatMap g) :=
 QX h.own E (λb hb I=>by have:=(Qq h.own b hb).1;have:=H b I;omega)
abbrev xvP (q:XV):Value×Nat×Nat×LV:=(q.v,q.ls.length,2,q.ls.flatMap Zb)
abbrev kvP (q:KV):Value×Nat×Nat×LV:=(q.v,q.ts.length,2,q.ts.flatMap Zb)
abbrev XvN (base:Nat) (w:World) (v:Value) (l:List XV):Prop:=Yh ZH 2 99 xvP base w v l
abbrev KvN (base:Nat) (w:World) (v:Value) (l:List KV):Prop:=Yh ZK 3 153 kvP base w v l
theorem XvN.xcs {base:Nat}{w:World}{v:Value}{l:List XV}{qs:List XV}{L:LN}(h:XvN base w v l) (he:l.map (·.x)=qs.map (·.x)) (hq:∀q∈qs,yW q.nm) (I:l.length≤1099511627776) (E:∀b∈L,b<base):zc L w.heap v l:=by
 refine ⟨h.arr I E,λq hq=>h.each q hq L (λb hb=>.inl (E b hb)),λq hm=>?_⟩;have h1:q.x∈qs.map (·.x):=by rw[←he];exact LW hm
 obtain ⟨H,J,e⟩:=Lq.1 h1;have h2:=hq H J;have h3:H.nm=q.nm:=congrArg Exc.nm e;rw[h3] at h2;exact h2
theorem KvN.kcs {base:Nat}{w:World}{v:Value}{l:List KV}{qs:List KV}{L:LN}(h:KvN base w v l) (he:l.map (·.k)=qs.map (·.k)) (hq:∀q∈qs,yW q.nm) (I:l.length≤1099511627776) (E:∀b∈L,b<base):Kcs L w.heap v l:=by
 refine ⟨h.arr I E,λq hq=>h.each q hq L (λb hb=>.inl (E b hb)),λq hm=>?_⟩;have h1:q.k∈qs.map (·.k):=by rw[←he];exact LW hm
 obtain ⟨H,J,e⟩:=Lq.1 h1;have h2:=hq H J;have h3:H.nm=q.nm:=congrArg JF.nm e;rw[h3] at h2;exact h2
theorem QO {w:World}{base e sz n:Nat}{v:Value}{cs:LV}(h:w.ownsRow base e sz v n cs):v.oneCell'=true:=by
 rcases h.2 with ⟨h1,_⟩ | ⟨g,cap,cur,h1,_⟩ <;> subst h1 <;> rfl
theorem Zp {w:World}{base e sz n:Nat}{v:Value}{cs:LV}(h:w.ownsRow base e sz v n cs):v.cells=[v].toArray:=by
 rcases h.2 with ⟨h1,_⟩ | ⟨g,cap,cur,h1,_⟩ <;> subst h1 <;> rfl
theorem Qan {q:XV}(h:q.v.oneCell'=true):∀u∈ZH q,u.oneCell'=true:=by
 intro u hu;simp only[List.mem_cons,List.not_mem_nil,or_false] at hu;rcases hu with rfl | rfl
 ·rfl
 exact h
theorem QfD {q:KV}(h:q.v.oneCell'=true):∀u∈ZK q,u.oneCell'=true:=by
 intro u hu;simp only[List.mem_cons,List.not_mem_nil,or_false] at hu;rcases hu with rfl | rfl | rfl
 ·rfl
 ·exact h
 rfl
def QqK (N:Nat) (w:World) (r:Value) (sz:LI) (ex:List Exc) (cs:List JF):Prop:=∃vs vx vk qx ks,r=.agg #[vs,vx,vk]∧qx.map (·.x)=ex∧ks.map (·.k)=cs∧∀L:LN,(∀b∈L,b<N)→QL L w.heap vs sz∧zc L w.heap vx qx∧Kcs L w.heap vk ks
set_option maxHeartbeats 4000000 in
theorem Qae {L:LN}{w:World}{c:CL}(h:ZS L w.heap c) :
  QG prog 135 [c.val] w λr w'=>Step [] w w'∧QqK w.heap.size w' r (szs c.cel.co) c.cel.ex c.cel.cs:=by
 have m8:=h.co.arr.le;have m9:=h.ex.arr.le;have pa:=h.cs.arr.le;refine QG.of_W func135 Z ntmps135 results135 (by simp) ?_;refine Qc<|xl Z<|QR (us:=c.cells) Z λb1 w1 ga pc gb=>xl Z<|Qu (us:=[nS,nS,nS]) Z λb2 w2 gc pd ge=>xe ?_;have pf:=ga.size;have pg:=gb.lt;have ph:=ge.lt
 refine Qc<|x (QN La)<|xl Z<|Qu (us:=[nS,nS,nS]) Z λE w3 ka kb h8=>xl Z<|Qn (us:=[nS,nS,nS]) h8 Z Z Z Z ⟨Z,Z,Z,La⟩ λw4 kc h8 =>
  xe ?_
 have pj:=h8.lt;have hf:Step [] w2 w4:=ka.then1 kc kb;have gg:Step [] w w4:=(ga.trans gc).trans hf;have gh:=(gb.ext gc).ext hf;have ke:=ge.ext hf;have h4:=h.ext gg;have pn:b1<E:=by omega
 have po:b2<E:=by omega
 have kf:w.heap.size≤E:=by omega
 have hJ:∀{wa wb:World},Step [E] wa wb→Step [] w wa→Step [] w wb:=λha hb=>hb.then1 ha kf;refine Qg<|Qc<|x (Qa Z)<|x (Qd gh Z Z)<|x (Qr h4.co.arr Z)<|Qb<|xe ?_
 refine Qh<|Qz (α:=Nat×Value) [(5,5),(14,26)] (λz=>[(14,.int .i64 z.1)]) (λz w'=>z.1≤c.co.length∧Step [E] w4 w'∧QT w'.heap E 240 [z.2,nS,nS]∧Qs 3 w4.heap.size w' z.2 ((c.co.take z.1).map (·.p.a.st))) (λz=>c.co.length - z.1) (by rfl) (0,nS) Lb
  ⟨Ln _,Step.refl _ _,h8,QP _ _ _ _⟩ ?_
 rintro ⟨k,vs⟩ g w5 ⟨hk,hv,h9,I⟩;simp only[] at hk h9 I;have gi:=hJ hv gg;have h5:=h.ext gi;have gj:=gh.step hv (by simp;omega);have kg:=ke.step hv (by simp;omega);have pp:=hv.size;refine Qc<|x (QA Z Z)<|xe<|Qg<|QC Z (λhK=>?_) (λhK=>?_)
 ·refine Qy ?_;have kh:c.co.length≤k:=by have U:¬(k:Int)<(c.co.length:Int):=hK;omega
  rw[Ls kh] at I;refine Qg<|Qc<|x (Qa Z)<|x (Qd gj Z Z)<|x (Qr h5.ex.arr Z)<|Qb<|xe<|Qh<|Qz (α:=Nat×Value×List XV) [(7,7),(30,45)] (λz=>[(30,.int .i64 z.1)]) (λz w'=>z.1≤c.ex.length∧Step [E] w5 w'∧QT w'.heap E 240 [vs,z.2.1,nS]∧XvN w5.heap.size w' z.2.1 z.2.2∧z.2.2.map (·.x)=(c.ex.take z.1).map (·.x)) (λz=>c.ex.length - z.1) (by rfl) (0,nS,[]) Lb
   ⟨Ln _,Step.refl _ _,h9,Yh.nil,Z⟩ ?_
  rintro ⟨j,vx,qx⟩ g w6 ⟨hj,hg,hM,hh,hn⟩;simp only[] at hj hM hh hn;have gk:=hJ hg gi;have h6:=h.ext gk;have ki:=gj.step hg (by simp;omega);have kj:=kg.step hg (by simp;omega);have pt:=hg.size;have pu:qx.length=j:=by have:=congrArg List.length hn;simp at this;omega
  refine Qc<|x (QA Z Z)<|xe<|Qg<|QC Z (λhN=>?_) (λhN=>?_)
  ·refine Qy ?_;have kk:c.ex.length≤j:=by have U:¬(j:Int)<(c.ex.length:Int):=hN;omega
   rw[Ls kk] at hn;refine Qg<|Qc<|x (Qa Z)<|x (Qd ki Z Z)<|x (Qr h6.cs.arr Z)<|Qb<|xe<|Qh<|Qz (α:=Nat×Value×List KV) [(9,9),(49,66)] (λz=>[(49,.int .i64 z.1)]) (λz w'=>z.1≤c.cs.length∧Step [E] w6 w'∧QT w'.heap E 240 [vs,vx,z.2.1]∧KvN w6.heap.size w' z.2.1 z.2.2∧z.2.2.map (·.k)=(c.cs.take z.1).map (·.k)) (λz=>c.cs.length - z.1) (by rfl) (0,nS,[]) Lb
    ⟨Ln _,Step.refl _ _,hM,Yh.nil,Z⟩ ?_
   rintro ⟨i,vk,ks⟩ g w7 ⟨hi,ho,hO,hp,hr⟩;simp only[] at hi hO hp hr;have gl:=hJ ho gk;have h7:=h.ext gl;have kn:=kj.step ho (by simp;omega);have pw:=ho.size;have pz:ks.length=i:=by have:=congrArg List.length hr;simp at this;omega
   refine Qc<|x (QA Z Z)<|xe<|Qg<|QC Z (λhP=>?_) (λhP=>?_)
   ·refine Qy ?_;have ko:c.cs.length≤i:=by have U:¬(i:Int)<(c.cs.length:Int):=hP;omega
    rw[Ls ko] at hr;have kp:ZP [vs,vx,vk]:=⟨QO I,QO hh.own,QO hp.own,La⟩;refine Qc<|x (Qp hO Z Z)<|xl Z<|Qn (us:=[vs,vx,vk]) kn Z Z Z Z kp λw8 hA kq=>xe ?_;refine Ql ⟨[.agg #[vs,vx,vk]],⟨⟨_,Z,Qw Z (kq.at (L:=[]) (by simp)).cells⟩,La⟩,gl.then1 hA (by omega),?_⟩
    have kr:=Qk ((Qk I hg (λb hb hm=>by have:=(Qq I b hb).1;simp at hm;omega))) ho (λb hb hm=>by have:=(Qq I b hb).1;simp at hm;omega);have kt:=Qk kr hA (λb hb hm=>by have:=(Qq I b hb).1;simp at hm;omega);have ku:=(Yh.low hh ho (by simp;omega)).low hA (by simp;omega);have kv:=Yh.low hp hA (by simp;omega)
    refine ⟨vs,vx,vk,qx,ks,Z,hn,hr,λL hL=>⟨?_,XvN.xcs ku hn h.ex.nm (by omega) (λb hb=>by have:=hL b hb;omega),KvN.kcs kv hr h.cs.nm (by omega) (λb hb=>by have:=hL b hb;omega)⟩⟩;have he:szs c.cel.co=c.co.map (·.p.a.st):=by show ((c.co.map IV.it).map _)=_;rw[Mf];rfl
    rw[he];exact Qs.ints kt (by rw[Li];omega) (λb hb=>by have:=hL b hb;omega)
   have hs:i<c.cs.length:=by have U:(i:Int)<(c.cs.length:Int):=hP;omega
   have gm:=Le hs;have gn:c.cs.take (i+1)=c.cs.take i++[c.cs[i]'hs]:=Lj hs;refine Qi<|Qg<|Qh<|Qc<|xig Kn h7.cs.arr Z Z hs λp0 gq=>?_;refine Zh (c.cs[i]'hs) λq hq=>?_;rw[hq] at gq gm gn;have H:=h7.cs.each q gm
   refine x (QJ gq Z Z)<|xl Z<|Qu (us:=[.string .empty,nS,.int .i64 0]) Z λb9 w9 kw kx hw=>xl Z<|Qn (us:=ZK q) hw Z Z Z Z ⟨Z,H.one,Z,La⟩ λV kz hw =>
    xe ?_
   have hB:Step [] w7 V:=kw.then1 kz kx;have gr:=hO.ext hB;have hQ:=Qq hp.own;have J:E∉ob vk:=λhm=>by have:=(hQ E hm).1;omega
   have hR:b9∉ob vk:=λhm=>by have:=(hQ b9 hm).2;omega
   refine QU (Step (ob vk) V) [(0,true),(1,true),(2,true),(3,true),(4,true),(5,true),(7,true),(8,true),(6,false),(9,true),(10,false),(11,false),(12,true),(13,false)] mixed (by rfl) (by kernel_rfl) (Step.drew _ _) ?_;have k0:=hB.trans (Step.drew [] V);refine p (λ_=>Qa Z)<|pq (λ_ hc=>Qd (gr.step hc J) Z Z)<|p (λ_=>Qa Z)<|pq (λ_ hc=>Qd (hw.step hc hR) Z Z) <|
    p (λ_=>Qa Z)<|pq (λ_ hc=>Qd (hw.step hc hR) Z Z)<|p (λ_=>Qa Z)<|pq (λ_ hc=>Qd (hw.step hc hR) Z Z) <|
    pk<|xf<|(QgV (H.ext k0)).mono ?_
   rintro hy p4 ⟨k4,hS⟩;have hz:=(Step.drew [] V).trans k4;refine ⟨hz.any,?_⟩;refine p (λ_=>QN ⟨Z,Zp hS,Z,La⟩)<|pk<|QH (us:=[ZK ⟨q.nm,hy,q.ts,q.bd⟩]) Z Z (by decide) (by simp) ⟨rfl,rfl,La⟩ λp5 p6 h0 p7 k5=>⟨(hz.trans h0).any,?_⟩;have hC:=(hB.trans hz).trans h0;have hT:V.heap.size=({ V with drawn:=V.drawn+1 }:World).heap.size:=rfl
   have p8:=hB.size;have p9:=hC.size;refine pk<|Q6 (news:=ZK ⟨q.nm,hy,q.ts,q.bd⟩) (L:=[]) (Qt hp.own hC) Z Z Z (k5.at (by simp)) (QfD (q:=⟨q.nm,hy,q.ts,q.bd⟩) (QO hS)) (by omega) (by omega) λhU gs gt hD k6=>⟨((hz.trans h0).any (L:=ob vk)).trans' hD,?_⟩
   have k7:KvN w6.heap.size gs hU (ks++[⟨q.nm,hy,q.ts,q.bd⟩]):=Yh.app hp hC (Qt hS h0) H.le (by rw[←hT];omega) (by omega) gt hD k6;have k8:=(gr.step ((hz.trans h0).any (L:=ob vk)) J).step hD J;refine p (λ_=>Qa Z)<|pkl (hl:=by kernel_rfl)<|QF (j:=2) (u:=hU) k8 Z Z (by simp) (QO gt) λqc gu k9=>pe ?_
   have ma:Step [E] w6 gs:=(ho.trans hC).then hD (λb hb=>.inr (hQ b hb).1);refine Qx<|QQ Z Z<|Qb<|xe<|⟨(i+1,hU,ks++[⟨q.nm,hy,q.ts,q.bd⟩]),by simp only[];omega,Lb,hs,?_,k9,Yh.low k7 gu (by simp;omega),?_⟩
   ·exact ma.trans' gu
   simp only[];rw[Ly,hr,gn,Ly];rfl
  have ht:j<c.ex.length:=by have U:(j:Int)<(c.ex.length:Int):=hN;omega
  have gv:=Le ht;have gx:c.ex.take (j+1)=c.ex.take j++[c.ex[j]'ht]:=Lj ht;refine Qi<|Qg<|Qh<|Qc<|xig KK h6.ex.arr Z Z ht λqo gy=>?_;refine Zh (c.ex[j]'ht) λq hq=>?_;rw[hq] at gy gv gx;have H:=h6.ex.each q gv
  refine x (QJ gy Z Z)<|xl Z<|Qu (us:=[.string .empty,nS]) Z λb7 qr mc mf hE=>xl Z<|Qn (us:=ZH q) hE Z Z Z Z ⟨Z,H.one,La⟩ λY mg hE =>
   xe ?_
  have hF:Step [] w6 Y:=mc.then1 mg mf;have gz:=hM.ext hF;have hV:=Qq hh.own;have J:E∉ob vx:=λhm=>by have:=(hV E hm).1;omega
  have g0:b7∉ob vx:=λhm=>by have:=(hV b7 hm).2;omega
  refine QU (Step (ob vx) Y) [(0,true),(1,true),(2,true),(3,true),(4,true),(5,true),(6,false),(7,true),(8,false),(9,false),(10,true),(11,false)] mixed (by rfl) (by kernel_rfl) (Step.drew _ _) ?_;have mh:=hF.trans (Step.drew [] Y);refine p (λ_=>Qa Z)<|pq (λ_ hc=>Qd (gz.step hc J) Z Z)<|p (λ_=>Qa Z)<|pq (λ_ hc=>Qd (hE.step hc g0) Z Z) <|
   p (λ_=>Qa Z)<|pq (λ_ hc=>Qd (hE.step hc g0) Z Z)<|pk<|xf<|(QgW (H.ext mh)).mono ?_
  rintro h1 q0 ⟨mj,hW⟩;have h2:=(Step.drew [] Y).trans mj;refine ⟨h2.any,?_⟩;refine p (λ_=>QN ⟨Z,Zp hW,La⟩)<|pk<|QH (us:=[ZH ⟨q.nm,h1,q.ls⟩]) Z Z (by decide) (by simp) ⟨rfl,rfl,La⟩ λq4 q9 h3 j1 mo=>⟨(h2.trans h3).any,?_⟩;have hG:=(hF.trans h2).trans h3;have hT:Y.heap.size=({ Y with drawn:=Y.drawn+1 }:World).heap.size:=rfl
  have j2:=hF.size;have j3:=hG.size;refine pk<|Q6 (news:=ZH ⟨q.nm,h1,q.ls⟩) (L:=[]) (Qt hh.own hG) Z Z Z (mo.at (by simp)) (Qan (q:=⟨q.nm,h1,q.ls⟩) (QO hW)) (by omega) (by omega) λhX g1 g2 hH mq=>⟨((h2.trans h3).any (L:=ob vx)).trans' hH,?_⟩
  have ms:XvN w5.heap.size g1 hX (qx++[⟨q.nm,h1,q.ls⟩]):=Yh.app hh hG (Qt hW h3) H.le (by rw[←hT];omega) (by omega) g2 hH mq;have mt:=(gz.step ((h2.trans h3).any (L:=ob vx)) J).step hH J;have mu:Step [E] w5 g1:=(hg.trans hG).then hH (λb hb=>.inr (hV b hb).1)
  refine p (λ_=>Qa Z)<|pkl (hl:=by kernel_rfl)<|QF (j:=1) (u:=hX) mt Z Z (by simp) (QO g2) λj4 g3 mv=>pe ?_;refine Qx<|QQ Z Z<|Qb<|xe<|⟨(j+1,hX,qx++[⟨q.nm,h1,q.ls⟩]),by simp only[];omega,Lb,ht,?_,mv,Yh.low ms g3 (by simp;omega),?_⟩
  ·exact mu.trans' g3
  simp only[];rw[Ly,hn,gx,Ly];rfl
 have hu:k<c.co.length:=by have U:(k:Int)<(c.co.length:Int):=hK;omega
 have g4:=Le hu;have g5:c.co.take (k+1)=c.co.take k++[c.co[k]'hu]:=Lj hu;have za:((c.co.take k).map (·.p.a.st)).length=k:=by simp;omega
 refine Qi<|Qg<|Qh<|Qc<|xig X0 h5.co.arr Z Z hu λzb U=>?_;refine Zh (c.co[k]'hu) λq hq=>?_;rw[hq] at U g4 g5;have H:=h5.co.each q g4;refine x (QJ U Z Z)<|xl Z<|Qu (us:=[.string .empty,nS,.int .i64 0,nS,nS]) Z λb5 zv mw mx hY=>xl Z<|Qn (us:=Zm q) hY Z Z Z Z ⟨Z,H.al.one,Z,H.mr.one,H.ed.one,La⟩ λmy mz hY =>
  xe ?_
 have g6:Step [] w5 my:=mw.then1 mz mx;have m0:=h9.ext g6;refine Qx<|x (Qa Z)<|x (Qd m0 Z Z)<|x (Qa Z)<|x (Qa Z)<|x (Qd hY Z Z)<|xl Z<|QH (us:=[[.int .i64 q.p.a.st]]) Z Z (by decide) (by simp) ⟨rfl,rfl,La⟩ λz0 z1 m1 z2 m2=>?_;have hI:=g6.trans m1;have z3:=hI.size;have g7:=Qq I;have J:E∉ob vs:=λhm=>by have:=(g7 E hm).1;omega
 refine xl rfl<|Q6 (news:=[.int .i64 q.p.a.st]) (L:=[]) (Qt I hI) Z Z Z (m2.at (by simp)) (by simp[Value.oneCell']) (by omega) (by omega) λg8 m3 hZ hf z4=>?_;have m4:=(h9.ext hI).step hf J;have m5:Step [E] w4 m3:=(hv.trans hI).then hf (λb hb=>.inr (g7 b hb).1);refine x (Qa Z)<|xl Z<|QF (j:=0) (u:=g8) m4 Z Z (by simp) (QO hZ) λz5 g9 m6 =>
  xe ?_
 have m7:=Qk hZ g9 (λb hb hm=>by have:=(Qq hZ b hb).1;simp at hm;omega);refine Qx<|QQ Z Z<|Qb<|xe<|⟨(k+1,g8),by simp only[];omega,Lb,hu,m5.trans' g9,m6,?_⟩;simp only[];rw[g5,Ly];exact Qs.snoc (n:=q.p.a.st) m7
theorem Qhp (n:Nat):KJ (n+1)=KJ n++[(n:Int)]:=by unfold KJ;rw[List.range_succ,Ly];rfl
theorem Qar (n:Nat):(KJ n).length=n:=by unfold KJ;simp
theorem JO {k:Nat}{l:List IV}(h:k<l.length):(l.drop k).map (·.it)=(l[k]'h).it::(l.drop (k+1)).map (·.it):=by rw[Q7 h];rfl
theorem yv {n:Nat}{u:LI}{s:List ByteArray}{x:Yo}(h:Yl n u s x=0):QM x.a:=by
 unfold Yl at h;split at h
 ·cases h
 split at h
 ·cases h
 split at h
 ·rename_i h1 h2;exact absurd h h2
 rename_i h1;exact (Zv _).1 (Lo.1 h1)
theorem VY {n:Nat}{al:LI}{s:List ByteArray}{u:LI}{x:Yo}{l:List Yo}:Yq n al s u (x::l)=if Yl n al s x≠0 then (Yl n al s x,s,u) else Yq n al (s++[x.nm]) (mrg (· || ·) u x.a.al) l:=rfl
theorem yu {n:Nat}{u:LI}{s:List ByteArray}{x:Yo}{l:List Yo}:Kc n u s (x::l)=if Yl n u s x≠0 then Yl n u s x else Kc n u (s++[x.nm]) l:=rfl
set_option maxHeartbeats 4000000 in
theorem XB {L:LN}{w:World}{c:CL}(h:ZS L w.heap c) :
  QG prog 75 [c.val] w λr w'=>r=.int .i64 (Zf c.cel)∧Step [] w w':=by
 have kh:=h.co.arr.le;have ki:=h.rq.arr.le;have E:Zf c.cel=(if JD c.ev≠0 then JD c.ev else if c.co.length=0 then 12 else if 8<c.co.length∨12<c.co.length+c.rq.length then 3 else
  if (Yq c.ev.length (KJ c.ev.length) [] [] (c.co.map (·.it))).1≠0 then (Yq c.ev.length (KJ c.ev.length) [] [] (c.co.map (·.it))).1 else
  if Kc c.ev.length (Yq c.ev.length (KJ c.ev.length) [] [] (c.co.map (·.it))).2.2 (Yq c.ev.length (KJ c.ev.length) [] [] (c.co.map (·.it))).2.1 (c.rq.map (·.it))≠0 then Kc c.ev.length (Yq c.ev.length (KJ c.ev.length) [] [] (c.co.map (·.it))).2.2 (Yq c.ev.length (KJ c.ev.length) [] [] (c.co.map (·.it))).2.1 (c.rq.map (·.it)) else
  YW (szs c.cel.co) c.cel.ex c.cel.cs):=by
  unfold Zf;rw[show c.cel.co.length=c.co.length from Li ..,show c.cel.rq.length=c.rq.length from Li ..];rfl
 refine Zh (Zf c.cel) λR hR=>?_;rw[hR] at E ⊢;refine Zh (Yq c.ev.length (KJ c.ev.length) [] [] (c.co.map (·.it))) λCO h9=>?_;rw[h9] at E;refine QG.of_W func75 Z ntmps75 results75 (by simp) ?_;refine Qc<|xl Z<|QR (us:=c.cells) Z λb1 w1 hA kj hB=>Qf<|Qg<|Qc<|x (Qa Z)<|x (Qd hB Z Z)<|xl Z<|xf<|(yn (h.ev.ext hA)).mono ?_;rintro r2 w2 ⟨rfl,hC⟩;refine Qf ?_;have he:=hA.trans hC
 have hp:=hB.ext hC;have h2:=h.ext he;refine Qc<|Qb<|x (Q8 Z Z)<|xe<|Q3 rfl (λhs=>?_) (λhs=>?_)
 ·rw[if_pos hs] at E;subst E;refine Qc<|Qb<|Qf ?_;exact Ql ⟨[_],Lb,Z,he⟩
 rw[if_neg hs] at E;have kk:c.ev.length≤32:=by
  refine Lo.1 λhn=>?_;apply hs;unfold JD;rw[if_pos (by omega)];decide
 refine Qi<|Qg<|Qc<|x (Qa Z)<|x (Qd hp Z Z)<|x (Qr h2.co.arr Z)<|Qf<|Qh<|Qc<|Qb<|x (Zr Z Z)<|Qf<|Q3 Z (λhy=>?_) (λhy=>?_)
 ·have hz:c.co.length=0:=by have ga:(c.co.length:Int)=0:=hy;omega
  rw[if_pos hz] at E;subst E;refine Qc<|Qf ?_;exact Ql ⟨[_],Lb,Z,he⟩
 have hz:¬c.co.length=0:=by have ga:¬(c.co.length:Int)=0:=hy;omega
 rw[if_neg hz] at E;refine QZ (α:=Bool) [(27,37)] (λz=>[(27,.bool z)]) (λz w'=>w'=w2∧z=decide (8<c.co.length∨12<c.co.length+c.rq.length)) (by rfl) ?_ ?_
 ·refine Qx<|Qb<|xb (ZY Z Z) (λgb=>?_) (λgb=>?_)
  ·refine Qb<|xs Z<|xs Z<|xs Z<|xs Z<|xs Z<|xs Z<|x (Qo Z)<|Qf ?_;exact ⟨_,Lb,Z,bT (.inl (by omega))⟩
  refine Qb<|Qb<|x (Qa Z)<|x (Qd hp Z Z)<|x (Qr h2.rq.arr Z)<|x (JL Z Z ⟨by omega,by omega⟩) <|
   x (ZY rfl Z)<|x (Qo Z)<|Qf ?_
  exact ⟨_,Lb,Z,bD (by omega)⟩
 rintro z g w3 ⟨rfl,rfl⟩;refine Q3 rfl (λh0=>?_) (λh0=>?_)
 ·rw[if_pos h0] at E;subst E;refine Qc<|Qf ?_;exact Ql ⟨[_],Lb,Z,he⟩
 rw[if_neg h0] at E;refine Qi<|Qc<|xl Z<|Ya Js λbm w4 hD kn hE=>Qf ?_;have ko:=hE.lt;have kp:=hp.lt;have hG:=he.trans hD;have hH:=hp.ext hD;have hI:b1≠bm:=by omega
 have hge:w.heap.size≤bm:=by omega
 have hM:ZS [bm] w.heap c:=h.up (λb hb=>.inr (by simp at hb;omega));have hJ:=hM.ext hG;refine Qc<|x Qe<|Qf<|Qg<|Qc<|x (Qa Z)<|x (Qd hH Z Z)<|x (Qr hJ.ev.arr Z)<|Qb<|xe<|Qh<|Qz (α:=Nat×Value) [(6,6),(8,8),(42,49)] (λz=>[(6,z.2),(42,.int .i64 z.1)]) (λz w'=>z.1≤c.ev.length∧Step [] w4 w'∧Qs 3 w4.heap.size w' z.2 (KJ z.1)) (λz=>c.ev.length - z.1) (by rfl) (0,nS) ⟨Z,Z,La⟩
  ⟨Ln _,Step.refl _ _,QP _ _ _ _⟩ ?_
 rintro ⟨k,vg⟩ g w5 ⟨hk,hf,ht⟩;simp only[] at hk ht;have kq:=Qar k;refine Qc<|x (QA Z Z)<|xe<|Qg<|QC Z (λh1=>?_) (λh1=>?_)
 ·refine Qy ?_;have hg:k=c.ev.length:=by have hh:¬(k:Int)<(c.ev.length:Int):=h1;omega
  subst hg;have gc:QL [bm] w5.heap vg (KJ c.ev.length):=Qs.ints ht (by omega) (by simp;omega);have ge:=hE.ext hf;have hK:=hH.ext hf;have hL:=hJ.ext hf;have gg:=hG.trans hf;refine Qg<|Qc<|x (Qa Z)<|x (Qd hK Z Z)<|x (Qr hL.co.arr Z)<|Qb<|xe ?_
  refine Qh<|Qz (α:=Nat×Value×List ByteArray×LI) [(2,2),(7,7),(10,11),(53,72)] (λz=>[(7,z.2.1),(53,.int .i64 z.1)]) (λz w'=>z.1≤c.co.length∧Step [bm] w5 w'∧ZN Js w'.heap bm (nmM z.2.2.1)∧QL [bm] w'.heap z.2.1 z.2.2.2∧z.2.2.2.length≤32*z.1∧Yq c.ev.length (KJ c.ev.length) z.2.2.1 z.2.2.2 ((c.co.drop z.1).map (·.it))=CO) (λz=>c.co.length - z.1) (by rfl) (0,nS,[],[]) ⟨Z,Z,La⟩
   ⟨Ln _,Step.refl _ _,ge,ZA.nil _ _ _,by simp,h9⟩ ?_
  rintro ⟨k,vu,sn,u⟩ g w6 ⟨hk,hi,hu,h3,gh,I⟩;simp only[] at hk hu h3 gh I;have hN:Step [] w w6:=gg.then1 hi hge;have h4:=hK.step hi (by simpa using hI);have Y:=hL.st hi;refine Qc<|x (QA Z Z)<|xe<|Qg<|QC Z (λh5=>?_) (λh5=>?_)
  ·refine Qy ?_;have hg:k=c.co.length:=by have hh:¬(k:Int)<(c.co.length:Int):=h5;omega
   subst hg;rw[Lx (Lv _)] at I;have gi:CO=(0,sn,u):=I.symm;subst gi;rw[if_neg (by simp)] at E;simp only[] at E;refine Zh (Kc c.ev.length u sn (c.rq.map (·.it))) λRQ hO=>?_;rw[hO] at E;refine Qg<|Qc<|x (Qa Z)<|x (Qd h4 Z Z)<|x (Qr Y.rq.arr Z)<|Qb<|xe ?_
   refine Qh<|Qz (α:=Nat×List ByteArray) [(2,2),(13,14),(76,90)] (λz=>[(76,.int .i64 z.1)]) (λz w'=>z.1≤c.rq.length∧Step [bm] w6 w'∧ZN Js w'.heap bm (nmM z.2)∧Kc c.ev.length u z.2 ((c.rq.drop z.1).map (·.it))=RQ) (λz=>c.rq.length - z.1) (by rfl) (0,sn) Lb
    ⟨Ln _,Step.refl _ _,hu,hO⟩ ?_
   rintro ⟨k,sm⟩ g w7 ⟨hk,hj,hP,J⟩;simp only[] at hk hP J;have hQ:Step [] w w7:=hN.then1 hj hge;have hS:=h4.step hj (by simpa using hI);have hl:=Y.st hj;have gj:=h3.st hj;refine Qc<|x (QA Z Z)<|xe<|Qg<|QC Z (λh6=>?_) (λh6=>?_)
   ·refine Qy ?_;have hg:c.rq.length≤k:=by have hh:¬(k:Int)<(c.rq.length:Int):=h6;omega
    rw[Lx hg] at J;have gk:RQ=0:=J.symm;rw[if_neg (by rw[gk];decide)] at E;refine Qc<|x (Qp hS Z Z)<|xl Z<|xf<|(Qae hl).mono ?_;rintro r8 w8 ⟨gl,vs,vx,vk,qx,ks,rfl,gm,gn,hF⟩;obtain ⟨gq,gr,gs⟩:=hF [] (by simp);refine xl Z<|xf<|(yl gq gr gs).mono ?_;rintro r9 w9 ⟨rfl,gt⟩;rw[gm,gn,←E];refine Qf ?_;exact Ql ⟨[_],Lb,Z,(hQ.trans gl).trans gt⟩
   have H:k<c.rq.length:=by have hh:(k:Int)<(c.rq.length:Int):=h6;omega
   have V:=Le H;rw[JO H,yu] at J;refine Qi<|Qg<|Qh<|Qc<|xig X0 hl.rq.arr Z Z H λkr hT=>?_;refine Zh (c.rq[k]'H) λq hq=>?_;rw[hq] at hT V J;have U:=hl.rq.each q V
   refine x (QJ hT Z Z)<|xl Z<|Qu (us:=[.string .empty,nS,.int .i64 0,nS,nS]) Z λkt ku gu gv h7=>xl Z<|Qn (us:=Zm q) h7 Z Z Z Z ⟨Z,U.al.one,Z,U.mr.one,U.ed.one,La⟩ λgx gy h7 =>
    xe ?_
   have ha:Step [] w7 gx:=gu.then1 gy gv;refine Qc<|x (Qp h7 Z Z)<|x (Qa Z)<|x (Qd (hS.ext ha) Z Z)<|x (Qr (hl.ev.ext ha).arr Z)<|Qb<|Qb<|xl Z<|xf<|(QfK (U.ext ha) (hl.rq.nm q V) (gj.ext ha) (by omega) (hP.ext ha) (by simp) (by simp)).mono ?_;rintro kv kw ⟨rfl,hU,gz⟩;refine Qf<|Qc<|Qb<|x (Q8 Z Z)<|xe<|Q3 Z (λhm=>?_) (λhm=>?_)
   ·rw[if_pos hm] at J;rw[if_pos (by rw[←J];exact hm)] at E;refine Qc<|Qb<|Qf ?_;exact Ql ⟨[_],Lb,by rw[E,←J];rfl,(hQ.trans ha).then1 hU hge⟩
   rw[if_neg hm] at J;refine Qi<|Qx<|QQ Z Z<|Qb<|xe ?_;exact ⟨(k+1,sm++[q.nm]),by simp only[];omega,Lb,H,(hj.trans ha).trans' hU,gz (Lo.1 hm),J⟩
  have H:k<c.co.length:=by have hh:(k:Int)<(c.co.length:Int):=h5;omega
  have V:=Le H;rw[JO H,VY] at I;refine Qi<|Qg<|Qh<|Qc<|xig X0 Y.co.arr Z Z H λkx hV=>?_;refine Zh (c.co[k]'H) λq hq=>?_;rw[hq] at hV V I;have U:=Y.co.each q V;have g0:=gc.st hi
  refine x (QJ hV Z Z)<|xl Z<|Qu (us:=[.string .empty,nS,.int .i64 0,nS,nS]) Z λb10 kz g1 g2 hv=>xl Z<|Qn (us:=Zm q) hv Z Z Z Z ⟨Z,U.al.one,Z,U.mr.one,U.ed.one,La⟩ λg3 g4 hv =>
   xe ?_
  have hc:Step [] w6 g3:=g1.then1 g4 g2;have k0:=hu.lt;refine Qg<|Qc<|x (Qp hv Z Z)<|x (Qa Z)<|x (Qd (h4.ext hc) Z Z)<|x (Qr (Y.ev.ext hc).arr Z)<|Qb<|Qb<|xl Z<|xf<|(QfK (U.ext hc) (Y.co.nm q V) (g0.ext hc) (by omega) (hu.ext hc) (by simp) (by simp)).mono ?_;rintro k4 g5 ⟨rfl,h8,g6⟩;refine Qf<|Qc<|Qb<|x (Q8 Z Z)<|xe ?_
  refine Q3 Z (λho=>?_) (λho=>?_)
  ·rw[if_pos ho] at I;rw[if_pos (by rw[←I];exact ho)] at E;refine Qc<|Qb<|Qf ?_;exact Ql ⟨[_],Lb,by rw[E,←I];rfl,(hN.trans hc).then1 h8 hge⟩
  rw[if_neg ho] at I;have hW:Yl c.ev.length (KJ c.ev.length) sn q.it=0:=Lo.1 ho;have g7:=(yv hW).al_le;have k5:q.p.a.al.length≤32:=g7;refine Qi ?_;have hw:Step [bm] w6 g5:=hc.any.trans' h8;have g8:=h3.st hw;have k6:=hw.size
  refine Qx<|Qb<|x (Qa Z)<|x (Qa Z)<|x (Qd (hv.step h8 (by simp;omega)) Z Z)<|xl Z<|xf<|(yM g8 (Y.st hw |>.co.each q V |>.al) (by omega)).mono ?_;rintro g9 k7 ⟨hX,ka⟩;refine Qf ?_;have k8:=Um (· || ·) u q.p.a.al;refine Qx<|QQ Z Z<|Qb<|xe ?_
  exact ⟨(k+1,g9,sn++[q.nm],mrg (· || ·) u q.p.a.al),by simp only[];omega,⟨Z,Z,La⟩,H,(hi.trans' hw).trans hX,(g6 hW).ext hX,Qs.ints ka (by show (mrg _ _ _).length≤_;omega) (by simp;omega),by simp only[];omega,I⟩
 have H:k<c.ev.length:=by have hh:(k:Int)<(c.ev.length:Int):=h1;omega
 refine Qi<|Qg<|Qh<|Qc<|Qb<|Qf<|Qx<|Qb<|Qb<|xl Z<|QH (us:=[[.int .i64 k]]) Z Z (by decide) (by simp) ⟨rfl,rfl,La⟩ λk9 ma hY mc kb=>?_;have hZ:=hf.trans hY;have mf:=hZ.size;have kc:=Qq ht;refine xl rfl<|Q6 (news:=[.int .i64 k]) (L:=[]) (Qt ht hY) Z Z Z (kb.at (by simp)) (by simp[Value.oneCell']) (by omega) (by omega) λke mg kf kg mh =>
  Qf<|Qx<|QQ Z Z<|Qb<|xe ?_
 refine ⟨(k+1,ke),by simp only[];omega,⟨Z,Z,La⟩,H,hZ.then kg (λb hb=>.inr (kc b hb).1),?_⟩;simp only[];rw[Qhp];exact Qs.snoc (n:=(k:Int)) kf
end Go.Proofs.YtjcgijbhaemldaaGreatDoor
namespace Go.Lg
theorem Qqr {P:Program}{ops:List Oper}{K:Fr→World→Prop}{f:Fr}{w:World}{d:Option Nat}{ty:Nat}{ps:String}{af:Array Edge}{gd:Option (Nat×Bool)}{C:World→Prop}{pl:List (Nat×Bool)}{E:Nat}
  {t e sz bys:Nat} {z:Value} {x I J:Operand} {L:LN} {v:Value} {n:Nat} {cs:LV} {H:Array Obj} {k k':IntKind} {hi:Nat} [h:Sl P t e sz bys z]
  (U:QK ops E=⟨d,.slice t x none (some I) (some J),ty,ps,af,gd⟩) (V:ZA L H v n sz cs) (hx:ev f x=v) (Y:ev f I=.int k hi) (hm:ev f J=.int k' hi) (h1:hi≤n)
  (hK:∀v',ZA L H v' hi sz (cs.take (hi*sz))→XP P ops C K pl (QV f d v') w)
  (hg:Yi ops f (QK ops E)=true:=by rfl):XP P ops C K ((E,true)::pl) f w:=by
 obtain ⟨v',h3,h4⟩:=Qib (P:=P) (d:=d) (ty:=ty) (ps:=ps) (af:=af) (gd:=gd) (t:=t) V hx Y hm h1;exact Lg.p (λw'=>by rw[U];exact h4 w') (by rw[U];exact hK v' h3) hg
end Go.Lg
namespace Go.Proofs.YtjcgijbhaemldaaGreatDoor
open Go.Proofs.Tryz
open Go.Lg
structure Qkz (c:Q4):Prop where
 ev:c.ev.length≤32
 c0:c.co.length≠0
 c8:c.co.length≤8
 cr:c.co.length+c.rq.length≤12
 co:∀x∈c.co,QM x.a
 rq:∀x∈c.rq,QM x.a
 ce:∀x∈c.co,∀e∈x.a.al,e<(c.ev.length:Int)
 re:∀x∈c.rq,∀e∈x.a.al,e<(c.ev.length:Int)
 cd:YW (szs c.co) c.ex c.cs=0
 e0:JD c.ev=0
theorem Qc4 {n:Nat}{u:LI}{s:List ByteArray}{x:Yo}(h:Yl n u s x=0):∀e∈x.a.al,e<(n:Int):=by
 unfold Yl at h;split at h
 ·cases h
 split at h
 ·cases h
 split at h
 ·rename_i h1 h2;exact absurd h h2
 split at h
 ·cases h
 split at h
 ·cases h
 split at h
 ·cases h
 rename_i h1;intro e he;refine Lo.1 λE=>h1 ?_;rw[Mk];exact ⟨e,he,decide_eq_true (by omega)⟩
theorem Qc7 {n:Nat}{al:LI}:∀{l:List Yo}{s:List ByteArray}{u:LI},(Yq n al s u l).1=0→∀x∈l,QM x.a∧∀e∈x.a.al,e<(n:Int)
 | [],_,_,_,x,hx=>by cases hx
 | y::l,s,u,h,x,hx=>by
  rw[VY] at h;by_cases h1:Yl n al s y≠0
  ·rw[if_pos h1] at h;exact absurd h h1
  rw[if_neg h1] at h;have h2:Yl n al s y=0:=Lo.1 h1;rcases Lh.1 hx with rfl | hx
  ·exact ⟨yv h2,Qc4 h2⟩
  exact Qc7 h x hx
theorem Qc2 {n:Nat}{u:LI}:∀{l:List Yo}{s:List ByteArray},Kc n u s l=0→∀x∈l,QM x.a∧∀e∈x.a.al,e<(n:Int)
 | [],_,_,x,hx=>by cases hx
 | y::l,s,h,x,hx=>by
  rw[yu] at h;by_cases h1:Yl n u s y≠0
  ·rw[if_pos h1] at h;exact absurd h h1
  rw[if_neg h1] at h;have h2:Yl n u s y=0:=Lo.1 h1;rcases Lh.1 hx with rfl | hx
  ·exact ⟨yv h2,Qc4 h2⟩
  exact Qc2 h x hx
theorem Yd {c:Q4}(h:Zf c=0):Qkz c:=by
 unfold Zf at h;by_cases h1:JD c.ev≠0
 ·rw[if_pos h1] at h;exact absurd h h1
 rw[if_neg h1] at h;by_cases h2:c.co.length=0
 ·rw[if_pos h2] at h;cases h
 rw[if_neg h2] at h;by_cases h3:8<c.co.length∨12<c.co.length+c.rq.length
 ·rw[if_pos h3] at h;cases h
 rw[if_neg h3] at h;by_cases h4:(Yq c.ev.length (KJ c.ev.length) [] [] c.co).1≠0
 ·rw[if_pos h4] at h;exact absurd h h4
 rw[if_neg h4] at h;by_cases h5:Kc c.ev.length (Yq c.ev.length (KJ c.ev.length) [] [] c.co).2.2 (Yq c.ev.length (KJ c.ev.length) [] [] c.co).2.1 c.rq≠0
 ·rw[if_pos h5] at h;exact absurd h h5
 rw[if_neg h5] at h;have a4:=Qc7 (Lo.1 h4);have E:=Qc2 (Lo.1 h5);have H:c.ev.length≤32:=by
  refine Lo.1 λI=>?_;apply h1;unfold JD;rw[if_pos (by omega)];decide
 exact ⟨H,h2,by omega,by omega,λx hx=>(a4 x hx).1,λx hx=>(E x hx).1,λx hx=>(a4 x hx).2,λx hx=>(E x hx).2,h,Lo.1 h1⟩
theorem YA.e {N:Nat}{H:Array Obj}{aa:List QD}{va vt:Value}{c:Int}(h:YA N H aa va vt c):c=X9 aa:=by
 unfold YA at h;unfold X9;by_cases h1:JP aa≠0
 ·rw[if_pos h1] at h ⊢;exact h.1
 rw[if_neg h1] at h ⊢;cases hs:sync aa with
 | none=>rw[hs] at h;exact h.1
 | some z=>rw[hs] at h;exact h.1
theorem YA.bad {N:Nat}{H:Array Obj}{aa:List QD}{va vt:Value}{c:Int}(h:YA N H aa va vt c) (hc:c≠0):va=zA∧vt=Zg:=by
 unfold YA at h;by_cases h1:JP aa≠0
 ·rw[if_pos h1] at h;exact h.2
 rw[if_neg h1] at h;cases hs:sync aa with
 | none=>rw[hs] at h;exact h.2
 | some z=>rw[hs] at h;exact absurd h.1 hc
theorem YA.good {N:Nat}{H:Array Obj}{aa:List QD}{va vt:Value}{c:Int}(h:YA N H aa va vt c) (hc:c=0):JY N H va (UX aa)∧QeA N H vt (XG aa)∧sync aa=some (UX aa,XG aa)∧JP aa=0:=by
 unfold YA at h;unfold UX XG;by_cases h1:JP aa≠0
 ·rw[if_pos h1] at h;exact absurd (h.1.symm.trans hc) h1
 rw[if_neg h1] at h;cases hs:sync aa with
 | none=>rw[hs] at h;rw[h.1] at hc;cases hc
 | some z=>rw[hs] at h;exact ⟨h.2.1,h.2.2,Z,Lo.1 h1⟩
theorem YA.st1 {N b:Nat}{w w':World}{aa:List QD}{va vt:Value}{c:Int}(h:YA N w.heap aa va vt c) (hb:b<N) (hs:Step [b] w w'):YA N w'.heap aa va vt c:=by
 unfold YA at *;split
 ·rename_i h1;rw[if_pos h1] at h;exact h
 rename_i h1;rw[if_neg h1] at h;cases hq:sync aa with
 | none=>rw[hq] at h;exact h
 | some z=>rw[hq] at h;exact ⟨h.1,US h.2.1 hb hs,Qkm h.2.2 hb hs⟩
theorem YA.mono {N M:Nat}{H:Array Obj}{aa:List QD}{va vt:Value}{c:Int}(h:YA N H aa va vt c) (E:M≤N):YA M H aa va vt c:=by
 unfold YA at *;split
 ·rename_i h1;rw[if_pos h1] at h;exact h
 rename_i h1;rw[if_neg h1] at h;cases hq:sync aa with
 | none=>rw[hq] at h;exact h
 | some z=>rw[hq] at h;exact ⟨h.1,h.2.1.mono E,h.2.2.mono E⟩
theorem QkX (c:Q4):Xh c=if Zf c≠0 then Zf c else if X9 (auts c.co)≠0 then X9 (auts c.co) else X9 (auts c.co++auts c.rq):=by
 unfold Xh;split
 ·rfl
 have e:X9 (auts c.co)=if JP (auts c.co)≠0 then JP (auts c.co) else match sync (auts c.co) with | none=>3 | some _=>0:=rfl
 by_cases h1:JP (auts c.co)≠0
 ·rw[if_pos h1] at e;rw[if_pos h1,e,if_pos h1]
 rw[if_neg h1] at e;rw[if_neg h1];cases hs:sync (auts c.co) with
 | none=>rw[hs] at e;simp only[] at e;rw[e];rfl
 | some z=>rw[hs] at e;simp only[] at e;rw[e];rfl
theorem Qgk (c:CL):(c.co.map (·.p)).map (·.a)=auts c.cel.co:=by unfold auts;show _=(c.co.map IV.it).map _;rw[Mf,Mf];rfl
theorem QmG (c:CL):(c.rq.map (·.p)).map (·.a)=auts c.cel.rq:=by unfold auts;show _=(c.rq.map IV.it).map _;rw[Mf,Mf];rfl
theorem qU {ps:List AV}(h:∀p∈ps,QM p.a):∀p∈ps,p.a.st≤4096:=λp hp=>(h p hp).st1
def Qal (N:Nat) (H:Array Obj) (c:Q4) (va vt:Value) (e:Int):Prop:=if Zf c≠0 then e=Zf c∧va=zA∧vt=Zg else YA N H (auts c.co) va vt e
theorem Qkq {L:LN}{w:World}{c:CL}(h:ZS L w.heap c) (hh:Kb w 4096) :
  QG prog 183 [c.val] w λr w'=>Step [] w w'∧∃va vt e,r=.tuple #[va,vt,.int .i64 e]∧Qal w.heap.size w'.heap c.cel va vt e:=by
 refine QG.of_W func183 Z ntmps183 results183 (by simp) ?_;refine Qc<|xl Z<|QR (us:=c.cells) Z λb1 w1 Y hv hi=>xl Z<|Qu (us:=[nS,.int .i64 0,nS,nS]) Z λb2 w2 ha hw J=>x Qe<|Qf ?_;have hb:=Y.trans ha;have hy:=Y.size;have hc:=hi.ext ha;refine Qg<|Qc<|x (Qp hc Z Z)<|xl Z<|xf<|(XB (h.ext hb)).mono ?_;rintro r3 w3 ⟨rfl,E⟩;refine Qf ?_;have U:=hb.trans E
 have hz:=J.lt;refine Qc<|Qb<|x (Q8 Z Z)<|xe<|Q3 rfl (λh9=>?_) (λh9=>?_)
 ·refine Qc<|x (QN La)<|Qb<|xl Z<|Qn (us:=[nS,.int .i64 0,nS,nS]) (J.ext E) Z Z Z Z ⟨Z,Z,Z,Z,La⟩ λw4 hj hk=>x Qe<|Qf ?_;exact Ql ⟨[zA,Zg,.int .i64 (Zf c.cel)],⟨⟨_,Z,Qw Z (hk.at (L:=[]) (by simp)).cells⟩,rfl,rfl,La⟩,U.then1 hj (by omega),zA,Zg,_,rfl,by unfold Qal;rw[if_pos h9];exact ⟨Z,Z,Z⟩⟩
 have hl:=Yd (Lo.1 h9);refine Qi<|Qc ?_;have h3:=h.ext U;refine x (Qa Z)<|x (Qd (hc.ext E) Z Z)<|xl Z<|xf<|(Qeb h3.co).mono ?_;rintro r5 w5 ⟨V,hm⟩;have I:=U.trans V;have hn:∀p∈c.co.map (·.p),QM p.a:=λp hp=>by
  obtain ⟨q,hq,rfl⟩:=Lq.1 hp;exact hl.co q.it (LW hq)
 have h0:=h.co.arr.le;have ho:Xf [] w5.heap r5 (c.co.map (·.p)):=Qi9 hm (by rw[Li];omega) (by simp) (λp hp=>by
  obtain ⟨q,hq,rfl⟩:=Lq.1 hp;exact (((h.co.each q hq).up (L':=[]) (by simp)).ext I))
 refine xl rfl<|xf<|(UQ (km:=4096) ho (hh.ext I) (by decide) (qU hn)).mono ?_;rintro r6 w6 ⟨hf,va,vt,e,rfl,hR⟩;rw[Qgk] at hR;have hr:=I.trans hf;have hs:=I.size;have ht:∃us,va=.agg us.toArray∧us.length=4∧ZP us:=by
  by_cases he:e=0
  ·exact V6 (hR.good he).1
  exact ⟨[nS,.int .i64 0,nS,nS],(hR.bad he).1,Z,Z,Z,Z,Z,La⟩
 refine Exists.elim ht λus H=>?_;refine x (Qj Z Z)<|x (Qj Z Z)<|x (Qj Z Z)<|xl Z<|Qn (us:=us) ((J.ext E).ext (V.trans hf)) Z H.1 H.2.1 Z H.2.2 λw7 hg hu =>
  x Qe<|Qf<|Ql ⟨[.agg us.toArray,vt,.int .i64 e],⟨⟨_,Z,Qw H.2.1 (hu.at (L:=[]) (by simp)).cells⟩,rfl,rfl,La⟩,hr.then1 hg (by omega),va,vt,e,by rw[H.1];rfl,?_⟩
 unfold Qal;rw[if_neg h9];exact (hR.st1 (by have:=V.size;have:=E.size;omega) hg).mono hs
theorem Qgd {L:LN}{w:World}{v:Value}{l:LI}{m:Int}(h:QL L w.heap v l) (U:Kb w m) (hb:∀n∈l,0≤n∧n<m) (hl:l.length≤1000000) :
  QG prog 143 [v] w λr w'=>r=.string ⟨(JC l).toArray⟩∧Step [] w w':=by
 refine QG.of_W func143 Z ntmps143 results143 (by simp) ?_;refine Qc<|Qf<|Qc<|xl Z<|Qu (us:=[.pointer none,nS]) Z λI w1 he V hf=>xe ?_;refine Qg<|Qc<|Qb<|x (Qr h Z)<|Qb<|xe ?_
 refine Qh<|Qz (α:=Nat×Value) [(5,5),(8,16)] (λz=>[(8,.int .i64 z.1)]) (λz w'=>z.1≤l.length∧Step [] w w'∧(z.2=.pointer none∨z.2=me I)∧Bl z.2 I (JC (l.take z.1)) w'∧(JC (l.take z.1)).length≤8*z.1) (λz=>l.length - z.1) (by rfl) (0,.pointer none) Lb
  ⟨Ln _,he,.inl Z,⟨_,hf,QP _ _ _ _⟩,Lv _⟩ ?_
 rintro ⟨k,p⟩ g w2 ⟨hk,E,hp,H,hg⟩;simp only[] at hk hp H hg;refine Qc<|x (QA Z Z)<|xe<|Qg<|QC Z (λh9=>?_) (λh9=>?_)
 ·refine Qy<|Qc ?_;rw[Ls (by omega)] at H;refine xl Z<|xf<|(jt E V hp H).mono ?_;rintro r3 w3 ⟨rfl,hh⟩;refine Qf ?_;exact Ql ⟨[.string ⟨(JC l).toArray⟩],Lb,Z,hh⟩
 have J:k<l.length:=by omega
 have ho:=hb l[k] (Le J);obtain ⟨q,hq⟩:∃q:Nat,l[k]=q:=⟨l[k].toNat,by omega⟩;have hi:l[k].toNat=q:=by omega
 have hr:=qj 7 q (by have:=U.le;omega);have Y:JC (l.take (k+1))=JC (l.take k)++(Lib.decDigits q++[32]):=by
  rw[Lj J];unfold JC;rw[LH,List.flatMap_singleton,hi]
 refine Qi<|Qg<|Qh<|Qc<|xii (h.ext E) Z Z J λhs hj=>x (Qv hj Z)<|Qf<|Qx<|Qb<|xl Z<|xf ?_;refine (show QG _ _ [.int .i64 l[k]] _ _ by rw[hq];exact (QfJ q (by omega) w2 (U.ext E))).mono ?_;rintro r4 w4 ⟨rfl,ha⟩;have hm:(⟨(Lib.decDigits q).toArray⟩:ByteArray).size+(⟨#[32]⟩:ByteArray).size≤1000000000:=by show (Lib.decDigits q).toArray.size+1≤_;simp;omega
 refine x (Kg Z Z hm)<|xl Z<|xf<|(KM (E.trans ha) V hp (H.ext ha) ((⟨(Lib.decDigits q).toArray⟩:ByteArray)++(⟨#[32]⟩:ByteArray)) (by rw[ByteArray.size_append];show _+((Lib.decDigits q).toArray.size+1)≤_;simp;omega)).mono ?_;rintro r5 w5 ⟨hn,hc⟩;refine xe<|Qx<|QQ Z Z<|Qb<|xe<|⟨(k+1,me I),by simp only[];omega,Lb,by simp only[];omega,hn,.inr Z,?_,?_⟩
 ·simp only[];rw[Y];have e:((⟨(Lib.decDigits q).toArray⟩++⟨#[32]⟩:ByteArray)).data.toList=Lib.decDigits q++[32]:=by rw[ByteArray.data_append];simp
  rw[e] at hc;exact hc
 simp only[];rw[Y];simp;omega
structure Sty where
 c:CL
 p:AV
 vq:Value
 qs:List TV
 s:AV
 vt:Value
 ts:List TV
 vs:Value
 vx:Value
 vk:Value
 qx:List XV
 ks:List KV
 bm:Nat
 mm:List (ByteArray×Value)
abbrev Sty.cells (q:Sty):LV:=[q.c.ve,q.c.vc,q.c.vr,q.c.vx,q.c.vk,q.p.va,.int .i64 q.p.a.st,q.p.vm,q.p.ve,q.vq,q.s.va,.int .i64 q.s.a.st,q.s.vm,q.s.ve,q.vt,q.vs,q.vx,q.vk,.map (some q.bm)]
structure Vh (L:LN) (b:Nat) (H:Array Obj) (q:Sty):Prop where
 B:QT H b 259 q.cells
 bL:b∉L
 c:ZS L H q.c
 p:Zq L H q.p.va q.p.vm q.p.ve q.p.a
 s:Zq L H q.s.va q.s.vm q.s.ve q.s.a
 qs:JA L H q.vq q.qs
 ts:JA L H q.vt q.ts
 k1:QL L H q.vs (szs q.c.cel.co)
 k2:zc L H q.vx q.qx
 k3:Kcs L H q.vk q.ks
 mL:q.bm∉L
 m:ZN Js H q.bm q.mm
theorem Vh.ext {L:LN}{b:Nat}{w w':World}{q:Sty}(h:Vh L b w.heap q) (hs:Step [] w w'):Vh L b w'.heap q:=⟨h.B.ext hs,h.bL,h.c.ext hs,h.p.ext hs,h.s.ext hs,h.qs.ext hs,h.ts.ext hs,h.k1.ext hs,h.k2.ext hs,h.k3.ext hs,h.mL,h.m.ext hs⟩
theorem Vh.st {L:LN}{b:Nat}{w w':World}{q:Sty}(h:Vh L b w.heap q) (hs:Step L w w'):Vh L b w'.heap q:=⟨h.B.step hs h.bL,h.bL,h.c.st hs,h.p.st hs,h.s.st hs,h.qs.st hs,h.ts.st hs,h.k1.st hs,h.k2.st hs,h.k3.st hs,h.mL,h.m.step hs h.mL⟩
theorem Vh.up {L L':LN}{b:Nat}{H:Array Obj}{q:Sty}(h:Vh L b H q) (E:∀b∈L',b∈L∨H.size≤b):Vh L' b H q :=
 ⟨h.B,λhm=>by rcases E _ hm with h1 | h1;exact h.bL h1;have:=h.B.lt;omega,h.c.up E,h.p.up E,h.s.up E,h.qs.up E,h.ts.up E,h.k1.up E,h.k2.up E,h.k3.up E,λhm=>by rcases E _ hm with h1 | h1;exact h.mL h1;have:=h.m.lt;omega,h.m⟩
structure QqG (q:Sty):Prop where
 ok:Zf q.c.cel=0
 p:sync (auts q.c.cel.co)=some (q.p.a,q.qs.map (·.2))
 s:sync (auts q.c.cel.co++auts q.c.cel.rq)=some (q.s.a,q.ts.map (·.2))
 ex:q.qx.map (·.x)=q.c.cel.ex
 cs:q.ks.map (·.k)=q.c.cel.cs
 m:qq q.c.co.length q.mm (q.qs.map (·.2))
theorem XN {l:List Yo}(h:∀x∈l,QM x.a):∀a∈auts l,QM a:=λa ha=>by
 obtain ⟨x,hx,rfl⟩:=Lq.1 ha;exact h x hx
def stp (a:QD) (s v:Int):Int×Bool×Int:=if cks a s≠0 then (0,false,cks a s) else if v∉a.al then (0,false,9) else if 0≤nxt a.ed s v then (nxt a.ed s v,true,0) else (0,false,0)
theorem Qki {L:LN}{w:World}{va vm ve:Value}{a:QD}(h:Zq L w.heap va vm ve a) (s v:Int) :
  QG prog 219 [.agg #[va,.int .i64 a.st,vm,ve],.int .i64 s,.int .i64 v] w λr w'=>r=.tuple #[.int .i64 (stp a s v).1,.bool (stp a s v).2.1,.int .i64 (stp a s v).2.2]∧Step [] w w':=by
 have E:stp a s v=(if cks a s≠0 then (0,false,cks a s) else if v∉a.al then (0,false,9) else if 0≤nxt a.ed s v then (nxt a.ed s v,true,0) else (0,false,0)):=rfl
 refine Zh (stp a s v) λR hR=>?_;rw[hR] at E ⊢;refine QG.of_W func219 Z ntmps219 results219 (by simp) ?_;refine Qc<|xl Z<|QR (us:=[va,.int .i64 a.st,vm,ve]) Z λb3 w1 hb hf J=>x Qe<|x Qe<|Qf<|Qg<|Qc<|x (Qp J Z Z)<|Qb<|xl Z<|xf<|(JW (h.ext hb) s).mono ?_;rintro r2 w2 ⟨rfl,U⟩;refine Qf ?_;have H:=hb.trans U;refine Qc<|Qb<|x (Q8 Z Z)<|xe<|Q3 rfl (λI=>?_) (λI=>?_)
 ·rw[if_pos I] at E;subst E;refine Qc<|Qb<|x Qe<|x Qe<|Qf ?_;exact Ql ⟨[_,_,_],⟨Z,Z,Z,La⟩,Z,H⟩
 rw[if_neg I] at E;refine Qi<|Qg<|Qc<|x (Qa Z)<|x (Qd (J.ext U) Z Z)<|Qb<|xl Z<|xf<|(YN (h.al.ext H) v).mono ?_;rintro r3 w3 ⟨rfl,rfl⟩;refine x (zC Z)<|xe<|Q3 rfl (λV=>?_) (λV=>?_)
 ·rw[if_pos V] at E;subst E;refine Qc<|x Qe<|x Qe<|Qf ?_;exact Ql ⟨[_,_,_],⟨Z,Z,Z,La⟩,Z,H⟩
 rw[if_neg V] at E;refine Qi ?_;have hc:cks a s=0:=Lo.1 I;have hck:XM a=0:=by
  unfold cks at hc;refine Lo.1 λY=>?_;rw[if_pos Y] at hc;exact Y hc
 have hsr:0≤s∧s<a.st:=by
  unfold cks at hc;rw[if_neg (by rw[hck];decide)] at hc;refine Lo.1 λY=>?_;rw[if_pos (by omega)] at hc;cases hc
 refine Qg<|Qc<|x (Qp (J.ext U) Z Z)<|Qb<|Qb<|xl Z<|xf<|(Qdi (h.ed.ext H) ((Zv a).1 hck) s v hsr.1 hsr.2).mono ?_;rintro r4 w4 ⟨rfl,he⟩;refine Qf<|Qc<|Qb<|x (ZZ Z Z)<|xe<|Q3 rfl (λha=>?_) (λha=>?_)
 ·rw[if_pos ha] at E;subst E;refine Qc<|Qb<|x Qe<|x Qe<|Qf ?_;exact Ql ⟨[_,_,_],⟨Z,Z,Z,La⟩,Z,H.trans he⟩
 rw[if_neg ha] at E;subst E;refine Qi<|Qc<|x Qe<|x Qe<|Qf ?_;exact Ql ⟨[_,_,_],⟨Z,Z,Z,La⟩,Z,H.trans he⟩
theorem Qiu (es:List Ed) (s v:Int):nxt es s v=(eget es s v).getD (-1):=by
 induction es with
 | nil=>rfl
 | cons e es ih =>
  rw[nxt,eget];by_cases h:e.1=s∧e.2.1=v
  ·rw[if_pos h,if_pos h];rfl
  rw[if_neg h,if_neg h];exact ih
theorem Qnu {a:QD}(h:QM a) {s v:Int}(H:0≤s) (h1:s<a.st) (E:v∈a.al):(stp a s v).2.1=(eget a.ed s v).isSome:=by
 have hc:cks a s=0:=by unfold cks;rw[if_neg (by rw[(Zv a).2 h];decide),if_neg (by omega)]
 unfold stp;rw[if_neg (by rw[hc];decide),if_neg (by simpa using E),Qiu];cases he:eget a.ed s v with
 | none=>rfl
 | some t =>
  have:=(h.ed _ (ZV he)).2.2.2.1;rw[Option.getD_some,if_pos (by simpa using this)];rfl
theorem QhT {L L':LN}{w:World}{b:Nat}{q:Sty}{vt:Value}{t:LI}(hS:Vh L b w.heap q) (ht:QL L' w.heap vt t) (I:q.c.co.length≤t.length) :
  QG prog 142 [.pointer (some ⟨b,0,none⟩),vt] w λr w'=>Step [] w w'∧∃E H,r=.tuple #[E,H]∧QL L' w'.heap E (t.take q.c.co.length)∧QL L' w'.heap H (t.drop q.c.co.length):=by
 refine QG.of_W func142 Z ntmps142 results142 (by simp) ?_;refine Qc<|x Qe<|Qf<|Qc<|Qb<|x (QE Z)<|x (Qa Z)<|x (Qa Z)<|x (Qd hS.B Z Z)<|x (Qr hS.c.co.arr Z)<|Qf<|Qg<|QU (Step [] w) [(0,true),(1,true),(2,true),(3,true),(4,true),(5,true),(6,true),(7,true),(8,true)] mixed (by rfl) (by kernel_rfl) (Step.drew _ _) ?_
 refine p (λ_=>Qm)<|p (λ_=>Qm)<|p (λ_=>Qm)<|Qqr (hi:=q.c.co.length) Z ht Z Z Z I λE h1=>p (λ_=>Qm)<|p (λ_=>Qm)<|QnH (lo:=q.c.co.length) Z ht Z Z I λH h2 =>
  p (λ_=>Qe)<|p (λ_=>Qe)<|pe ?_
 refine Ql ⟨[_,_],⟨Z,Z,La⟩,Step.drew _ _,E,H,Z,?_,?_⟩
 ·rw[Nat.mul_one,←List.map_take] at h1;have e:(t.take q.c.co.length).length=q.c.co.length:=by rw[LD];omega
  unfold QL;rw[e];exact h1
 exact QL.drop h2
theorem Uf {v:Int}{i:Nat}{y:Yo}{l:List Yo}{s:Int}{ss:LI}:rfr v i (y::l) (s::ss)=if v∈y.a.al∧(eget y.a.ed s v).isSome=false then (i:Int) else rfr v (i+1) l ss:=rfl
set_option maxHeartbeats 1000000 in
theorem QdK {L L':LN}{w:World}{b:Nat}{q:Sty}{vr:Value}{rs:LI}{v:Int}(hS:Vh L b w.heap q) (hr:QL L' w.heap vr rs) (hq:∀x∈q.c.rq,QM x.p.a) (hv:Vt (auts q.c.cel.rq) rs) :
  QG prog 189 [.pointer (some ⟨b,0,none⟩),vr,.int .i64 v] w λr w'=>r=.int .i64 (rfr v 0 q.c.cel.rq rs)∧Step [] w w':=by
 have h6:=hS.c.rq.arr.le;have h7:rs.length=q.c.rq.length:=by rw[hv.1];unfold auts;show ((q.c.rq.map IV.it).map _).length=_;simp
 refine Zh (rfr v 0 q.c.cel.rq rs) λR hR=>?_;rw[hR];refine QG.of_W func189 Z ntmps189 results189 (by simp) ?_;refine Qc<|Qf<|Qg<|Qc<|Qb<|x (QE Z)<|x (Qa Z)<|x (Qa Z)<|x (Qd hS.B Z Z)<|x (Qr hS.c.rq.arr Z)<|Qb<|xe ?_
 refine Qh<|Qz (α:=Nat) [(6,11),(18,44)] (λz=>[(18,.int .i64 z)]) (λz w'=>z≤q.c.rq.length∧Step [] w w'∧rfr v z ((q.c.rq.drop z).map (·.it)) (rs.drop z)=R) (λz=>q.c.rq.length - z) (by rfl) 0 Lb
  ⟨Ln _,Step.refl _ _,hR⟩ ?_
 rintro k g w1 ⟨hk,J,E⟩;refine Qc<|x (QA Z Z)<|xe<|Qg<|QC Z (λhb=>?_) (λhb=>?_)
 ·refine Qy ?_;have hs:q.c.rq.length≤k:=by have ht:¬(k:Int)<(q.c.rq.length:Int):=hb;omega
  rw[Lx hs] at E;have hu:R=-1:=E.symm;refine Qc<|Qf ?_;exact Ql ⟨[_],Lb,by rw[hu];rfl,J⟩
 have H:k<q.c.rq.length:=by have ht:(k:Int)<(q.c.rq.length:Int):=hb;omega
 have I:k<rs.length:=by omega
 have he:=Le H;rw[JO H,Q7 I,Uf] at E;have U:∀hz:k<(auts q.c.cel.rq).length,0≤rs[k]'I∧rs[k]'I<((auts q.c.cel.rq)[k]'hz).st:=λhz=>hv.2 k I hz;have hi:k<(auts q.c.cel.rq).length:=by unfold auts;show k<((q.c.rq.map IV.it).map _).length;simpa using H
 have U:=U hi;have hw:(auts q.c.cel.rq)[k]'hi=(q.c.rq[k]'H).p.a:=by unfold auts;show ((q.c.rq.map IV.it).map _)[k]'_=_;simp[IV.it]
 rw[hw,Q9 I] at U;rw[Q9 I] at E;refine Qi<|Qg<|Qh<|Qc<|Qb<|xig X0 (hS.c.rq.arr.ext J) Z Z H λh8 hj=>?_;refine Zh (q.c.rq[k]'H) λy hy=>?_;rw[hy] at hj he E U;have V:=(hS.c.rq.each y he).ext J;have hl:=hq y he;refine x (QJ hj Z Z)<|xl Z<|Qu (us:=[.string .empty,nS,.int .i64 0,nS,nS]) Z λb8 w2 h0 h1 ha=>x Qe <|
  xl rfl<|Qn (us:=Zm y) ha Z Z Z Z ⟨Z,V.al.one,Z,V.mr.one,V.ed.one,La⟩ λw3 h2 ha=>xe ?_
 have Y:Step [] w1 w3:=h0.then1 h2 h1;refine Qg<|Qc<|x (Qa Z)<|x (Qa Z)<|x (Qd ha Z Z)<|Qb<|xl Z<|xf<|(Y3 (V.al.ext Y) hl.ali v).mono ?_;rintro r4 w4 ⟨rfl,rfl⟩;refine x (zC Z)<|xe<|Q3 rfl (λhf=>?_) (λhf=>?_)
 ·rw[if_neg (λe=>hf e.1)] at E;refine Qy<|Qx<|QQ Z Z<|Qb<|xe ?_;exact ⟨k+1,by omega,Lb,H,J.trans Y,E⟩
 have hm:v∈y.p.a.al:=Lo.1 hf;have hn:=Qnu hl U.1 U.2 hm;refine Qi ?_;have h3:=(hr.ext J).ext Y;refine Qg<|QU (Step [] w4) [(0,true),(1,true),(2,true),(3,true),(4,true),(5,true),(6,true),(7,false),(8,true),(9,true),(10,true),(11,true),(12,true),(13,true),(14,true)] mixed (by rfl) (by kernel_rfl) (Step.drew _ _) ?_
 refine p (λ_=>Qa Z)<|pq (λ_ hc=>ZI (us:=Zc y.p) (ha.step hc (by simp)) rfl rfl rfl)<|p (λ_=>Qm)<|p (λ_=>Qm)<|pic (i:=k) rfl h3 rfl rfl I λh9 h4 =>
  pq (λ_ hc=>Qv (h4.ext hc) Z)<|p (λ_=>Qm)<|pk<|xf<|(Qki ((V.ext Y).ext (Step.drew _ _)) (cget rs k) v).mono ?_
 rintro r5 w5 ⟨rfl,h5⟩;have ho:=(Step.drew [] w4).trans h5;refine ⟨ho,?_⟩;refine p (λ_=>Qm)<|p (λ_=>Qj Z Z)<|p (λ_=>Qj Z Z)<|p (λ_=>Qj Z Z)<|p (λ_=>Qe) <|
  p (λ_=>Qe)<|p (λ_=>Qe)<|pe ?_
 have hp:=(J.trans Y).trans ho;refine Qc<|Qb<|x (Zs Z)<|xe<|QW rfl (λhg=>?_) (λhg=>?_)
 ·have hh:(eget y.p.a.ed (cget rs k) v).isSome=false:=by rw[←hn];simpa using hg
  rw[if_pos ⟨hm,hh⟩] at E;refine Qc<|Qb<|Qf ?_;exact Ql ⟨[_],Lb,by rw[←E];rfl,hp⟩
 have hh:¬(eget y.p.a.ed (cget rs k) v).isSome=false:=by rw[←hn];simpa using hg
 rw[if_neg (λe=>hh e.2)] at E;refine Qi<|Qx<|QQ Z Z<|Qb<|xe ?_;exact ⟨k+1,by omega,Lb,H,hp,E⟩
end Go.Proofs.YtjcgijbhaemldaaGreatDoor
namespace Go.Lg
open Go.RowKit
def JF (L:LN) (W W':World):Prop:=∀(k:Nat) (o:Obj),k∉L→W.heap[k]?=some o→o.isCells=true→W'.heap[k]?=some o
theorem JF.refl (L:LN) (W:World):JF L W W:=λ_ _ _ h _=>h
theorem JF.trans {L:LN}{A B C:World}(h:JF L A B) (k:JF L B C):JF L A C:=λi o E H hc=>k i o E (h i o E H hc) hc
theorem At.cst {L:LN}{W W':World}{a:Addr}{us:LV}(h:At L W.heap a us) (hc:JF L W W') (H:W.heap.size≤W'.heap.size):At L W'.heap a us:=by
 refine ⟨h.out,λu hu=>Mc (h.lt u hu) H,λj u hu=>?_⟩;have h1:=h.cell j u hu;unfold cel at h1 ⊢;rw[Ym] at h1 ⊢;cases E:W.heap[a.block]? with
 | none=>rw[E] at h1;cases h1
 | some o =>
  rw[E] at h1;cases o with
  | cells c t m=>rw[hc a.block _ (h.out u (Mr hu)) E rfl];exact h1
  | _=>cases h1
theorem ZA.cst {L:LN}{W W':World}{v:Value}{n sz:Nat}{cs:LV}(h:ZA L W.heap v n sz cs) (hc:JF L W W') (E:W.heap.size≤W'.heap.size):ZA L W'.heap v n sz cs :=
 ⟨h.1,h.2.1,h.2.2.imp id λ⟨a,cap,h1,h2,h3⟩=>⟨a,cap,h1,h2,h3.cst hc E⟩⟩
structure LwC (B:Nat) (L:LN) (W W':World):Prop where
 lw:Lw B L W W'
 cst:JF L W W'
theorem LwC.trans {B:Nat}{L:LN}{E w w':World}(h:LwC B L E w) (k:LwC B L w w'):LwC B L E w':=⟨h.lw.trans k.lw,h.cst.trans k.cst⟩
def rdC {α:Type}(B:Nat) (L:LN) (I:List α→World→Prop) (X:Exit→List α→World→Prop) (xs:List α) (W:World):Exit→LN→Fr→World→Prop
 | .normal,_,_,W'=>Jn B L W W'∧JF L W W'∧I xs W'
 | .ret,_,_,W'=>Jn B L W W'∧X .ret xs W'
 | .exit i,_,_,W'=>Jn B L W W'∧X (.exit i) xs W'
 | _,_,_,_=>False
theorem Qkw {α:Type}{m:Nat}{P:Program}{n:Nat}{Q:Exit→LN→Fr→World→Prop}{ds:LN}{f:Fr}{w:World}{g:Operand}{ps:LN}{assign body:Code}(L:LN) (h1:1≤m)
  {gf:Nat} {fn:Func} [hF:Fu P gf fn] {capt:LV} (hg:ev f g=.func (.func gf) #[] capt.toArray) {encs:α→LV} {S Sp:List α→Prop} {N:Nat} (hp:∀p∈ps,p<n) (hf:∀x,(encs x).length=ps.length)
  (hh:SeqStopsK (fen none) (m - 1) P gf capt.toArray (λx=>(encs x).toArray) (LwC w.heap.size L) S Sp N w)
  (I:List α→World→Prop) (hI:∀s,Yg w.heap.size (I s)) (X:Exit→List α→World→Prop) (hX:∀e s,Yg w.heap.size (X e s)) (h0:I [] w) (A:Fr→α→Fr→World→Prop) (hA:∀x E,Yg w.heap.size (A f x E))
  (V:∀l pre x W,I pre W→WG (some l) (m - 1 - 1) P n assign (Qdx (λJ E W'=>J=[]∧Jn w.heap.size L W W'∧JF L W W'∧I pre W'∧A f x E W') (λ_ _ _ _=>False)) [] (Qdw f ps (encs x)) W)
  (Y:∀l pre x E W,I pre W→A f x E W→pre.length<N→WG (some l) (m - 1 - 1) P n body (rdC w.heap.size L I X (pre++[x]) W) [] E W)
  (hj:∀D xs W,w.heap.size≤D→S xs→I xs W→W.heap[D]?=some (.deferred (some []))→Q .normal (D::ds) f W)
  (hb:∀D e pre W,w.heap.size≤D→Sp pre→X e pre W→W.heap[D]?=some (.deferred (some []))→(e=.ret∨∃i,e=.exit i)→Q e (D::ds) f W) :
  WG none m P n (.rangeFunc g ps.toArray assign body) Q ds f w:=by
 unfold WG at V Y ⊢;intro a ha;have eg:∀args w,(callFunc gf args).run P w=.ok (.enter gf args) w:=by
  intro args w;have h1:¬fn.name = "runtime.NumGoroutine" := by simpa using hF.nm
  have h2:¬fn.body=none:=by have:=hF.b;intro e;rw[e] at this;cases this
  simp[callFunc,hF.f,h1,h2]
 have keep:∀{W W':World},Jn w.heap.size L W W'→KeepsFrom w.heap.size W W':=λh=>⟨h.lw.size,λk o _ hk U=>h.other k o hk U⟩;refine wpIn_rangeFunc_ownH (F:=fen none) Z h1 (gf:=gf) (lb:=capt.toArray) (by rw[ha.eval];exact hg) La eg hh (λh k=>h.trans k)
  (λW l o o' hl U hm _=>⟨⟨Z,Z,Z,by simp,λk hk _=>World.putObj_heap_other (by omega)⟩,λk o2 _ hk hc=>by
   have hn:k≠l:=λe=>by subst e;rw[U] at hk;cases hk;rw[hm] at hc;cases hc
   rw[World.putObj_heap_other hn];exact hk⟩) (Below.refl _ _) (λx=>by simp[hf x]) I
  (λc pre W=>match c with | .ret=>X .ret pre W | .exit i=>X (.exit i) pre W | _=>False) (Yg.own hI) (λc=>Yg.own λs=>?_) h0
  (λx H W=>∃E,YU n [] H E∧A f x E W) (λx H=>Yg.own λ_=>Yg.ex λE=>Yg.and (Yg.pure _) (hA x E)) ?_ ?_ ?_ ?_
 ·cases c <;> first | exact hX _ s | exact Yg.pure _
 ·intro l pre x W K hi hK;have hr:YU n [] { tmps:=(ps.toArray.zip (encs x).toArray).foldl (λt (p,v)=>t.setIfInBounds p v) a.tmps,defers:=[] } (Qdw f ps (encs x)):=by
   have h2:YU n [] { a with defers:=[] } f:=⟨ha.size,Z,ha.get⟩
   have h3:=U3 ps (encs x) _ _ h2 hp;have e:(ps.toArray.zip (encs x).toArray).foldl (λt (p,v)=>t.setIfInBounds p v) a.tmps=(ps.zip (encs x)).foldl (λt (x:Nat×Value)=>t.setIfInBounds x.1 x.2) a.tmps:=by simp
   rw[e];exact h3
  refine wpIn_mono (V l pre x W hi _ hr) ?_;rintro e H W' ⟨J,E,h2,_,h3⟩;cases e with
  | normal=>obtain ⟨rfl,h4,hq,h5,h6⟩:=h3;exact hK H W' (keep h4) ⟨h4.lw,hq⟩ h5 ⟨E,h2,h6⟩
  | exit id=>exact h3.elim
  | goto l=>exact h3.elim
  | ret=>exact h3.elim
  | panic ch=>exact h3.elim
  | outgrown=>exact h3.elim
 ·rintro l pre x H W _ _ hi ⟨E,h2,h3⟩ hs;refine wpIn_mono (Y l pre x E W hi h3 hs H h2) ?_;rintro e ht W' ⟨J,hu,h4,_,h5⟩;cases e with
  | normal=>exact ⟨keep h5.1,⟨h5.1.lw,h5.2.1⟩,h5.2.2⟩
  | exit id=>exact ⟨keep h5.1,h5.2⟩
  | goto l=>exact h5.elim
  | ret=>exact ⟨keep h5.1,h5.2⟩
  | panic ch=>exact h5.elim
  | outgrown=>exact h5.elim
 ·intro D xs W hD hS hi hd;exact ⟨D::ds,f,⟨ha.size,by rw[show coll (D::ds)={ target:=.collected D,args:=#[] }::coll ds from rfl,ha.defers],ha.get⟩,λ_ _=>rfl,hj D xs W hD hS hi hd⟩
 intro D c pre W hD hS hx hd;have he:YU n (D::ds) { a with defers:={ target:=.collected D,args:=#[] }::a.defers } f:=⟨ha.size,by rw[show coll (D::ds)={ target:=.collected D,args:=#[] }::coll ds from rfl,ha.defers],ha.get⟩
 cases c with
 | ret=>exact wpIn_ret ⟨_,f,he,λ_ _=>Z,hb D .ret pre W hD hS hx hd (.inl Z)⟩
 | exit i=>exact wpIn_exit ⟨_,f,he,λ_ _=>Z,hb D (.exit i) pre W hD hS hx hd (.inr ⟨i,Z⟩)⟩
 | _=>exact hx.elim
theorem xy2 {m:Nat}{P:Program}{ops:List Oper}{rest:List Oper}{f:Fr}{w:World}{K:Fr→World→Prop}{d:Option Nat}{ty:Nat}{ps:String}{af:Array Edge}{gd:Option (Nat×Bool)}{x y z:Operand}{at_:Array Nat}{l:Nat}{R:Ending→World→Prop}
  (hx:ev f x=.func (.yield l) #[] #[]) (hy:YieldAt (fen none) (m - 1) P l #[ev f y,ev f z] w R) (E:∀e w',R e w'→∃v,e=.returned v∧JE P m ops K rest (QV f d v) w')
  (H:Yi ops f ⟨d,.call ⟨.value x,[y,z].toArray,at_⟩,ty,ps,af,gd⟩=true:=by rfl) :
  JE P m ops K (⟨d,.call ⟨.value x,[y,z].toArray,at_⟩,ty,ps,af,gd⟩::rest) f w:=by
 obtain ⟨fn,tmps,assign,body,h1,h2⟩:=hy;have I:(execOp (ev f) ⟨d,.call ⟨.value x,[y,z].toArray,at_⟩,ty,ps,af,gd⟩).run P w=.ok (.round l fn tmps assign body) w:=by
  simp[execOp,resolve,hx,Deferred.ofValue,invoke,h1]
 unfold JE;rw[H];simp only[XOY,I,upY,cond_true];exact h2.mono λe w' h=>by obtain ⟨v,rfl,hk⟩:=E e w' h;exact hk
end Go.Lg
namespace Go.Proofs.YtjcgijbhaemldaaGreatDoor
open Go.Proofs.Tryz
open Go.Lg
def wrf (rq:List Yo) (rs:LI):LI→List (Int×Int)
 | []=>[]
 | v::l=>if 0≤rfr v 0 rq rs then (v,rfr v 0 rq rs)::wrf rq rs l else wrf rq rs l
theorem QbN (rq:List Yo) (rs:LI) (v:Int):∀l,wrf rq rs (l++[v])=wrf rq rs l++if 0≤rfr v 0 rq rs then [(v,rfr v 0 rq rs)] else []
 | []=>by simp only[List.nil_append,wrf]
 | a::l=>by
  simp only[List.cons_append,wrf,QbN rq rs v l];by_cases h:0≤rfr a 0 rq rs
  ·rw[if_pos h,if_pos h];rfl
  rw[if_neg h,if_neg h]
theorem VN (rq:List Yo) (rs:LI) (b:LI):∀a,wrf rq rs (a++b)=wrf rq rs a++wrf rq rs b
 | []=>rfl
 | x::a=>by
  simp only[List.cons_append,wrf,VN rq rs b a];by_cases h:0≤rfr x 0 rq rs
  ·rw[if_pos h,if_pos h];rfl
  rw[if_neg h,if_neg h]
theorem QkK (rq:List Yo) (rs:LI) (l:LI) (k:Nat):(wrf rq rs (l.take k)).length≤(wrf rq rs l).length:=by
 have h:=VN rq rs (l.drop k) (l.take k);rw[ML] at h;rw[h,Ll];omega
theorem Qhg {rq:List Yo}{rs:LI}{l:LI}{k:Nat}(h:k<l.length):wrf rq rs (l.take (k+1))=wrf rq rs (l.take k)++if 0≤rfr (cget l k) 0 rq rs then [(cget l k,rfr (cget l k) 0 rq rs)] else []:=by
 rw[Lj h,QbN,Q9 h]
theorem Qap {rq:List Yo}{rs:LI}{x:Int×Int}:∀{l:LI},x∈wrf rq rs l↔x.1∈l∧0≤x.2∧x.2=rfr x.1 0 rq rs
 | []=>by simp[wrf]
 | v::l=>by
  rw[wrf];have ih:=Qap (rq:=rq) (rs:=rs) (x:=x) (l:=l);by_cases h:0≤rfr v 0 rq rs
  ·rw[if_pos h,Lh,ih,Lh];constructor
   ·rintro (rfl | ⟨h1,h2⟩)
    ·exact ⟨.inl Z,h,Z⟩
    exact ⟨.inr h1,h2⟩
   rintro ⟨h1 | h1,h2,h3⟩
   ·exact .inl (by rw[←h1];exact Prod.ext_iff.2 ⟨Z,h3⟩)
   exact .inr ⟨h1,h2,h3⟩
  rw[if_neg h,ih,Lh];constructor
  ·rintro ⟨h1,h2⟩;exact ⟨.inr h1,h2⟩
  rintro ⟨h1 | h1,h2,h3⟩
  ·exact absurd (by rw[←h1,←h3];exact h2) h
  exact ⟨h1,h2,h3⟩
theorem Qb7 {w:World}{b:Nat}{st:Int}{vr:Value}(U:vr.cells=[vr].toArray) :
  QG prog 145 [.pointer (some ⟨b,0,none⟩),.int .i64 st,vr] w λr w'=>Step [] w w'∧∃b1 b2 E,r=.func (.func 188) #[] #[.pointer (some ⟨b1,0,none⟩),.pointer (some ⟨b2,0,none⟩),.pointer (some ⟨E,0,none⟩)] ∧
   w.heap.size≤b1∧w.heap.size≤b2∧w.heap.size≤E∧QT w'.heap b1 255 [.pointer (some ⟨b,0,none⟩)]∧QT w'.heap b2 3 [.int .i64 st]∧QT w'.heap E 39 [vr]:=by
 refine QG.of_W func145 Z ntmps145 results145 (by simp) ?_;refine Qc<|xl Z<|QR (us:=[.pointer (some ⟨b,0,none⟩)]) Z λE w1 J V Y=>xl Z<|QR (us:=[.int .i64 st]) Z λb4 w2 H hc ha=>xl Z<|QR (us:=[vr]) U λb5 w3 I he hb=>x Qe <|
  xe ?_
 have hf:=J.size;have hg:=H.size;refine Qc<|x Zo<|Qf ?_;exact Ql ⟨[_],Lb,(J.trans H).trans I,E,b4,b5,Z,V,by omega,by omega,(Y.ext H).ext I,ha.ext I,hb⟩
set_option maxHeartbeats 4000000 in
theorem QaM {L:LN}{w:World}{U b2 V b m:Nat}{q:Sty}{vr:Value}{rs es:LI}{st:Int}{fl:List (Int×Int)}(hw:QT w.heap U 255 [.pointer (some ⟨b,0,none⟩)]) (h8:QT w.heap b2 3 [.int .i64 st]) (hA:QT w.heap V 39 [vr])
  (hB:U∉L) (hC:V∉L) (hD:∀x∈L,x<w.heap.size) (hS:Vh L b w.heap q) (hr:QL L w.heap vr rs) (hE:∀x∈q.c.rq,QM x.p.a) (hv:Vt (auts q.c.cel.rq) rs) (hc:cks q.p.a st=0) (hy:enb q.p.a st=es) (hl:wrf q.c.cel.rq rs es=fl) :
  SeqStopsK (fen none) m prog 188 [.pointer (some ⟨U,0,none⟩),.pointer (some ⟨b2,0,none⟩),.pointer (some ⟨V,0,none⟩)].toArray (λx:{ x:Int×Int // x∈fl }=>[Value.int .i64 x.1.1,.int .i64 x.1.2].toArray) (LwC w.heap.size L)
   (λE=>E.map (·.1)=fl) (λpre=>pre.map (·.1) <+: fl) fl.length w:=by
 intro l J Jx W hF hJ hG hY h0;have hg:Step [] w W:=Step.of_below hF;have ab:∀{E:List { x:Int×Int // x∈fl }} {W1 W2:World},J E W1→Step [] W1 W2→J E W2:=λ{E W1 W2} hj hh=>hJ E W1 W2 none hj ⟨hh.os,hh.tape,hh.output,hh.size,λk hk _=>hh.block k hk (by simp)⟩ (λr e=>by cases e);have hH:es.length≤1099511627776:=by
  have h1:=hS.p.ed.le;have h2:=J4 q.p.a.ed st;rw[←hy];unfold enb;rw[Li];omega
 have hI:=QkK q.c.cel.rq rs es;rw[hl] at hI;have key:QG prog 188 [.func (.yield l) #[] #[],.pointer (some ⟨U,0,none⟩),.pointer (some ⟨b2,0,none⟩),.pointer (some ⟨V,0,none⟩)] W (λ_ W'=>(∃E,E.map (·.1)=fl∧J E W')∨(∃pre,pre.map (·.1) <+: fl∧Jx pre W')):=by
  refine QG.of_G m func188 Z ntmps188 results188 (by simp) ?_;have hK:=hw.ext hg;have hL:=h8.ext hg;have hz:=hS.ext hg;refine Q0<|QbG (Step [] W) [(0,true),(1,true),(2,true),(3,true),(4,true),(5,false),(6,true),(7,true),(8,true),(9,true),(10,true)] mixed (by rfl) (by rfl) (by kernel_rfl) (Step.drew _ _) ?_
  refine pq (λ_ hc=>Qd (hK.ext hc) Z Z)<|p (λ_=>QE Z)<|p (λ_=>Qa Z)<|pq (λ_ hc=>ZI (us:=Zc q.p) (hz.B.ext hc) Z Z Z)<|pq (λ_ hc=>Qd (hL.ext hc) Z Z)<|pk<|xf<|(V4 (hz.p.ext (Step.drew _ _)) st).mono ?_;rintro r1 w1 ⟨hM,ve,rfl,_,hm⟩;have hm:=hm hc;have hs:=(Step.drew [] W).trans hM;refine ⟨hs,?_⟩;refine p (λ_=>Qm)<|p (λ_=>Qj Z Z)<|p (λ_=>Qj Z Z)<|p (λ_=>Qe)<|p (λ_=>Qe)<|pe ?_
  have hQ:=hg.size;have hR:({ W with drawn:=W.drawn+1 }:World).heap.size=W.heap.size:=rfl
  rw[hy] at hm;have h3:QL L w1.heap ve es:=Qs.ints hm hH (λx hx=>by have:=hD x hx;omega);refine Q0<|QI (by rfl) (by rfl) ?_;refine Qb<|x (Qr h3 Z)<|Qb<|xe ?_
  refine ZU<|V3 (α:=Nat×List { x:Int×Int // x∈fl }) [(8,9),(21,38)] (λz=>[(21,.int .i64 z.1)]) (λz ds W'=>ds=[]∧z.1≤es.length∧Step L w W'∧QL L W'.heap ve es∧z.2.map (·.1)=wrf q.c.cel.rq rs (es.take z.1)∧J z.2 W') (λz=>es.length - z.1) (by rfl) (0,[]) Lb
   ⟨Z,Ln _,(hg.trans hs).any,h3,Z,ab h0 hs⟩ ?_
  rintro ⟨k,E⟩ g ds w2 ⟨rfl,hk,Y,hn,ha,ho⟩;simp only[] at hk hn ha ho;refine Q0<|QI (by rfl) (by rfl) ?_;refine x (QA Z Z)<|xe<|Q0<|yR Z (λht=>?_) (λht=>?_)
  ·refine Ku ?_;have hN:es.length≤k:=by have hp:¬(k:Int)<(es.length:Int):=ht;omega
   rw[Ls hN,hl] at ha;exact ⟨λ_ h=>(by cases h),MC,[],λW' H=>⟨La,.inl ⟨E,ha,ab ho H⟩⟩⟩
  refine Yn ?_;have hb:k<es.length:=by have hp:(k:Int)<(es.length:Int):=ht;omega
  have I:=Qhg (rq:=q.c.cel.rq) (rs:=rs) hb;have h4:cget es k∈es:=by rw[←Q9 hb];exact Le hb
  refine Zh (cget es k) λv h5=>?_;rw[h5] at I h4;refine Zh (rfr v 0 q.c.cel.rq rs) λj hj=>?_;rw[hj] at I;refine Q0<|ZU<|Q0<|QI (by rfl) (by rfl) ?_;refine xic (i:=k) hn Z Z hb λhT hp=>?_;rw[h5] at hp;refine x (Qv hp Z)<|Qf<|Q0<|QI (by rfl) (by rfl) ?_
  refine x (Qd (hw.step Y hB) Z Z)<|x (Qd (hA.step Y hC) Z Z)<|Qb<|xl Z<|xf<|(QdK (v:=v) (hS.st Y) (hr.st Y) hE hv).mono ?_;rintro r3 w3 ⟨h6,hf⟩;rw[hj] at h6;subst h6;refine Qf<|Q0<|VB (by rfl) ?_;refine JE.pre3 ?_;refine Qb<|xb (ZZ Z Z) (λhu=>?_) (λhu=>?_)
  ·have hq:0≤j:=hu;have hi:(v,j)∈fl:=by rw[←hl];exact Qap.2 ⟨h4,hq,hj.symm⟩
   rw[if_pos hq] at I;have h7:(E++[(⟨(v,j),hi⟩:{ x:Int×Int // x∈fl })]).map (·.1) <+: fl:=by
    rw[Ly,ha,show [(⟨(v,j),hi⟩:{ x:Int×Int // x∈fl })].map (·.1)=[(v,j)] from rfl,←I,←hl];have h9:=VN q.c.cel.rq rs (es.drop (k+1)) (es.take (k+1));rw[ML] at h9;exact ⟨_,h9.symm⟩
   have hO:E.length<fl.length:=by have h1:=h7.length_le;rw[Li,Ll,LG] at h1;omega
   refine Qb<|xe<|JE.pre3 ?_;refine Qb<|Qb<|Qb<|xe<|xy2 (l:=l) Z (hY E ⟨(v,j),hi⟩ w3 (ab ho hf) hO) λen W3 hP=>Or.elim hP (λh1=>⟨.bool true,h1.1,?_⟩) (λh1=>⟨.bool false,h1.1,?_⟩)
   ·refine JE.of_XL<|x (Zs Z)<|x (Qo Z)<|xe<|VC Z<|Yn ?_;refine QI (by rfl) (by rfl) ?_;refine QQ Z Z<|Qb<|xe ?_;exact ⟨(k+1,E++[⟨(v,j),hi⟩]),by simp only[];omega,Lb,Z,hb,(Y.trans hf).lw h1.2.2.lw,(hn.ext hf).cst h1.2.2.cst h1.2.2.lw.size,by simp only[];rw[I,Ly,ha];rfl,h1.2.1⟩
   refine JE.of_XL<|x (Zs Z)<|x (Qo Z)<|xe<|QbF Z ?_;refine Vl ⟨λ_ h=>(by cases h),MC,[],λW' H=>⟨La,.inr ⟨E++[⟨(v,j),hi⟩],h7,?_⟩⟩⟩;exact hG _ W3 W' none h1.2 ⟨H.os,H.tape,H.output,H.size,λk hk _=>H.block k hk (by simp)⟩ (λr e=>by cases e)
  have hq:¬0≤j:=hu;rw[if_neg hq,LS] at I;refine Qb<|xe<|JE.of_XL<|xs Z<|xs Z<|xs Z<|xs Z<|xs Z<|x (Qo Z)<|xe<|VC Z<|Yn ?_;refine QI (by rfl) (by rfl) ?_;refine QQ Z Z<|Qb<|xe ?_;exact ⟨(k+1,E),by simp only[];omega,Lb,Z,hb,Y.trans hf,hn.ext hf,by simp only[];rw[I,ha],ab ho hf⟩
 refine (callsIn_wide (n:=m)).2 ?_;have ea:(#[.func (.yield l) #[] #[]]++[.pointer (some ⟨U,0,none⟩),.pointer (some ⟨b2,0,none⟩),.pointer (some ⟨V,0,none⟩)].toArray:Array Value)=[.func (.yield l) #[] #[],.pointer (some ⟨U,0,none⟩),.pointer (some ⟨b2,0,none⟩),.pointer (some ⟨V,0,none⟩)].toArray:=by simp
 rw[ea];unfold QG at key;refine Calls.mono key λe w' he=>?_;cases e with
 | returned v=>exact ⟨⟨v,Z⟩,he⟩
 | panicked c=>exact he.elim
 | outgrown=>exact he.elim
end Go.Proofs.YtjcgijbhaemldaaGreatDoor
namespace Go.Lg
section
variable {P:Program} {K:Fr→World→Prop} {f:Fr} {w:World} {d:Option Nat} {ty:Nat} {ps:String} {af:Array Edge} {gd:Option (Nat×Bool)}
theorem Vu {t sz:Nat}[h1:Ag P t sz] {x y:Operand}{b T o:Nat}{cs us E:LV}(H:QT w.heap b T cs) (hx:ev f x=.pointer (some ⟨b,o,none⟩)) (hy:ev f y=.agg us.toArray) (hl:us.length=sz) (hj:o+sz≤cs.length) (hu:ZP us) (he:cs.take o++us++cs.drop (o+sz)=E)
  (J:∀w',Step [b] w w'→QT w'.heap b T E→K (QV f d undef) w'):XO P ⟨d,.store t x y,ty,ps,af,gd⟩ f w K:=by
 have I:=run_storeCells_at P b o T us 0 cs.toArray w H (by simp;omega) hu.all;subst hl;simp only[Nat.add_zero,he] at I;refine xk (w':=w.setRow b E.toArray) ?_ (J _ (Step.setRow _ _ _) (VU H));simp[execOp,hx,hy,Instr.storeAt,Instr.sureAddr,storeVar,UZ (sz:=us.length),Value.cells,I]
end
end Go.Lg
namespace Go.Proofs.YtjcgijbhaemldaaGreatDoor
open Go.Proofs.Tryz
open Go.Lg
instance:Bw prog 259 [nS,nS,nS,nS,nS,nS,.int .i64 0,nS,nS,nS,nS,.int .i64 0,nS,nS,nS,nS,nS,nS,.map none] [(0,5),(5,4),(9,1),(10,4),(14,1),(15,3),(18,1)]:=⟨by kernel_rfl,by decide⟩
theorem YA.shape {N:Nat}{H:Array Obj}{aa:List QD}{v vt:Value}{c:Int}(h:YA N H aa v vt c):∃(a:QD) (va vm ve:Value) (qs:List TV),v=.agg #[va,.int .i64 a.st,vm,ve]∧ZP [va,.int .i64 a.st,vm,ve]∧vt.oneCell'=true ∧
  (c=0→sync aa=some (a,qs.map (·.2))∧JP aa=0∧∀L:LN,(∀b∈L,b<N)→Zq L H va vm ve a∧JA L H vt qs):=by
 by_cases hc:c=0
 ·obtain ⟨⟨va,vm,ve,h1,h2⟩,⟨qs,h3,h4⟩,h5,h6⟩:=h.good hc;have E:=h2 [] (by simp);exact ⟨UX aa,va,vm,ve,qs,h1,⟨E.al.one,Z,E.mr.one,E.ed.one,La⟩,(h4 [] (by simp)).arr.one,λ_=>⟨by rw[h3];exact h5,h6,λL I=>⟨h2 L I,h4 L I⟩⟩⟩
 obtain ⟨h1,h2⟩:=h.bad hc;exact ⟨⟨[],0,[],[]⟩,Zg,Zg,Zg,[],h1,⟨Z,Z,Z,Z,La⟩,by rw[h2];rfl,λe=>absurd e hc⟩
def plE (c:Q4):Int:=if Zf c≠0 then Zf c else X9 (auts c.co)
theorem Qal.shape {N:Nat}{H:Array Obj}{c:Q4}{v vt:Value}{e:Int}(h:Qal N H c v vt e):e=plE c∧∃(a:QD) (va vm ve:Value) (qs:List TV),v=.agg #[va,.int .i64 a.st,vm,ve]∧ZP [va,.int .i64 a.st,vm,ve]∧vt.oneCell'=true ∧
  (e=0→Zf c=0∧sync (auts c.co)=some (a,qs.map (·.2))∧JP (auts c.co)=0∧∀L:LN,(∀b∈L,b<N)→Zq L H va vm ve a∧JA L H vt qs):=by
 unfold Qal at h;unfold plE;by_cases hc:Zf c≠0
 ·rw[if_pos hc] at h ⊢;obtain ⟨h1,h2,h3⟩:=h;exact ⟨h1,⟨[],0,[],[]⟩,Zg,Zg,Zg,[],h2,⟨Z,Z,Z,Z,La⟩,by rw[h3];rfl,λe=>absurd (h1.symm.trans e) hc⟩
 rw[if_neg hc] at h ⊢;obtain ⟨a,va,vm,ve,qs,h1,h2,h3,h4⟩:=h.shape;exact ⟨h.e,a,va,vm,ve,qs,h1,h2,h3,λe=>⟨Lo.1 hc,h4 e⟩⟩
theorem QkW (c:Q4):Xh c=if plE c≠0 then plE c else X9 (auts c.co++auts c.rq):=by
 rw[QkX];unfold plE;by_cases h:Zf c≠0
 ·rw[if_pos h,if_pos h,if_pos h]
 rw[if_neg h,if_neg h]
theorem QmF {L:LN}{H:Array Obj}{ps:List AV}(h:∀p∈ps,Zq L H p.va p.vm p.ve p.a):∀u∈ps.flatMap Zc,u.oneCell'=true:=by
 intro u hu;obtain ⟨p,hp,I⟩:=MJ.1 hu;have E:=h p hp;simp only[List.mem_cons,List.not_mem_nil,or_false] at I;rcases I with rfl | rfl | rfl | rfl
 ·exact E.al.one
 ·rfl
 ·exact E.mr.one
 exact E.ed.one
theorem Qok {F:LN→Array Obj→Prop}(st:∀{L:LN}{w w':World},F L w.heap→Step L w w'→F L w'.heap) (up:∀{L L':LN}{H:Array Obj},F L H→(∀b∈L',b∈L∨H.size≤b)→F L' H) {N b:Nat}{w w':World}
  (h:∀L:LN,(∀x∈L,x<N)→F L w.heap) (hb:b<N) (hs:Step [b] w w'):∀L:LN,(∀x∈L,x<N)→F L w'.heap:=λL E =>
 up (st (h (b::L) (λx hx=>by
  rcases Lh.1 hx with rfl | hx
  ·exact hb
  exact E x hx)) (hs.mono (λx hx=>by simp only[List.mem_singleton] at hx;subst hx;exact Lm))) (λx hx=>.inl (Lk _ hx))
theorem qq.nil (n:Nat):qq n [] []:=λu _ _=>by simp[mget]
set_option maxHeartbeats 8000000 in
theorem Qkb {L:LN}{w:World}{c:CL}(h0:ZS L w.heap c) (h4:Kb w 4096) :
  QG prog 141 [c.val] w λr w'=>Step [] w w'∧∃vp,r=.tuple #[vp,.int .i64 (Xh c.cel)]∧(Xh c.cel≠0→vp=.pointer none) ∧
   (Xh c.cel=0→∃b q,vp=.pointer (some ⟨b,0,none⟩)∧q.c=c∧QqG q∧Vh [] b w'.heap q∧∀L:LN,(∀x∈L,x<w.heap.size)→Zq L w'.heap q.s.va q.s.vm q.s.ve q.s.a∧(ZS L w.heap c→Vh L b w'.heap q)):=by
 have h:=h0.up (L':=[]) (by simp);have hE:=QkW c.cel;refine Zh (Xh c.cel) λE gu=>?_;rw[gu] at hE ⊢;refine QG.of_W func141 Z ntmps141 results141 (by simp) ?_;refine Qc<|xl Z<|QR (us:=c.cells) Z λb1 w1 gv mj h6=>x Qe<|Qf ?_;have mo:=h6.lt
 refine Qc<|x (Qp h6 Z Z)<|x (ZF [(0,c.cells)] ⟨Z,Z,La⟩)<|xl Z<|QR (us:=[c.ve,c.vc,c.vr,c.vx,c.vk,nS,.int .i64 0,nS,nS,nS,nS,.int .i64 0,nS,nS,nS,nS,nS,nS,.map none]) Z λb10 w2 hQ mq I=>Qf ?_;have h7:=gv.trans hQ;have gx:=I.lt;have hS:=h6.ext hQ;have h2:=h.ext h7;have hge:w.heap.size≤b10:=by omega
 have ms:b1≠b10:=by omega
 refine Qc<|Qf<|Qg<|Qc<|Qb<|Qb<|x (Qp hS Z Z)<|xl Z<|xf<|(Qkq h2 (h4.ext h7)).mono ?_;rintro r3 w3 ⟨hh,v3,vq,e3,rfl,hP⟩;obtain ⟨h8,pa,pva,pvm,pve,qs,rfl,gy,gz,g0⟩:=hP.shape;have g1:=h7.trans hh;refine Qb<|x (Qj Z Z)<|x (Qj Z Z)<|x (Qj Z Z)<|x (QE Z)<|x (Qa Z)<|xl Z<|Vu (us:=[pva,.int .i64 pa.st,pvm,pve]) (I.ext hh) Z Z Z (by simp) gy rfl λw4 g2 I =>
  x (QE rfl)<|x (Qa Z)<|xl Z<|QF (j:=9) (u:=vq) I Z Z (by simp) gz λU g3 I=>Qf ?_
 have hi:Step [b10] w3 U:=g2.trans' g3;have hj:Step [] w U:=g1.then1 hi hge;refine Qc<|Qb<|x (Q8 Z Z)<|xe<|Q3 rfl (λhn=>?_) (λhn=>?_)
 ·have g4:plE c.cel≠0:=by rw[←h8];exact hn
  rw[if_pos g4,←h8] at hE;subst hE;refine Qc<|Qb<|x Qe<|Qf ?_;exact Ql ⟨[_,_],⟨Z,Z,La⟩,hj,.pointer none,Z,λ_=>Z,λe=>absurd e hn⟩
 have hT:e3=0:=Lo.1 hn;rw[if_neg (by rw[←h8,hT];decide)] at hE;obtain ⟨hck,hA,mt,g5⟩:=g0 hT;have he:=Yd hck;refine Qi ?_;have hB:=(hS.ext hh).step hi (by simp;omega);have h5:=h.ext hj;have mu:=h.co.arr.le;have mv:=h.rq.arr.le;have mw:c.co.length≤8:=by have:=he.c8;have e:c.cel.co.length=c.co.length:=Li ..;omega
 have mx:c.co.length+c.rq.length≤12:=by have:=he.cr;have e:c.cel.co.length=c.co.length:=Li ..;have e':c.cel.rq.length=c.rq.length:=Li ..;omega
 refine Qg<|Qg<|QU (Step [] U) [(0,true),(1,true),(2,true),(3,true),(5,true),(6,true),(4,false),(7,false),(8,false),(9,false),(10,true),(11,true),(12,true),(13,true),(14,true),(15,true),(16,false),(17,true),(18,true),(19,false),(20,true)] mixed (by rfl) (by kernel_rfl) (Step.drew _ _) ?_
 refine p (λ_=>Qm)<|p (λ_=>Qm)<|p (λ_=>Qa Z)<|pq (λ_ hc=>Qd (hB.step hc (by simp)) rfl rfl)<|p (λ_=>Qa rfl) <|
  pq (λ_ hc=>Qd (hB.step hc (by simp)) rfl rfl)<|pk<|xf<|(Qeb (h5.co.ext (Step.drew _ _))).mono ?_
 rintro r6 w6 ⟨hU,hV⟩;have hC:=(Step.drew [] U).trans hU;refine ⟨hC,?_⟩;refine pk<|xf<|(Qeb (h5.rq.ext hC)).mono ?_;rintro r7 w7 ⟨hD,g6⟩;have hW:=hC.trans hD;refine ⟨hW,?_⟩;have my:=hU.size;have mz:=hD.size;have m0:({ U with drawn:=U.drawn+1 }:World).heap.size=U.heap.size:=rfl
 have g7:ZA [] w7.heap r7 (c.rq.map (·.p)).length 4 ((c.rq.map (·.p)).flatMap Zc):=QX g6 (by rw[Li];omega) (by simp);have g8:=Qq hV;refine pk<|Qiq (Qt hV hD) Z g7 Z (QmF λp hp=>by
   obtain ⟨q,hq,rfl⟩:=Lq.1 hp;exact (h.rq.each q hq)) (by rw[Li,Li];omega) (by omega) λv8 w8 hX g9 m1=>?_
 have ho:Step [] U w8:=hW.then g9 (λb hb=>.inr (by have:=(g8 b hb).1;omega));refine ⟨ho,?_⟩;have hF:=hj.trans ho;have m2:=ho.size;have ka:Xf [] w8.heap v8 (c.co.map (·.p)++c.rq.map (·.p)):=by
  rw[←Ll,←LH] at hX;exact Qi9 hX (by rw[Ll,Li,Li];omega) (by simp) (λp hp=>by
   rcases Lp.1 hp with hp | hp
   ·obtain ⟨q,hq,rfl⟩:=Lq.1 hp;exact (h.co.each q hq).ext hF
   obtain ⟨q,hq,rfl⟩:=Lq.1 hp;exact (h.rq.each q hq).ext hF)
 have kb:∀p∈c.co.map (·.p)++c.rq.map (·.p),QM p.a:=λp hp=>by
   rcases Lp.1 hp with hp | hp
   ·obtain ⟨q,hq,rfl⟩:=Lq.1 hp;exact he.co q.it (LW hq)
   obtain ⟨q,hq,rfl⟩:=Lq.1 hp;exact he.rq q.it (LW hq)
 refine pk<|xf<|(UQ (km:=4096) ka (h4.ext hF) (by decide) (qU kb)).mono ?_;rintro r9 w9 ⟨kc,v9,vt,e9,rfl,hR⟩;rw[Ly,Qgk,QmG] at hR;have hY:=hR.e;obtain ⟨sa,sva,svm,sve,ts,rfl,ke,kf,kg⟩:=hR.shape;have hG:=ho.trans kc;refine ⟨hG,?_⟩;refine p (λ_=>Qm)<|p (λ_=>Qj Z Z)<|p (λ_=>Qj Z Z)<|p (λ_=>Qj Z Z)<|p (λ_=>QE Z) <|
  p (λ_=>Qa Z)<|pkl (hl:=by kernel_rfl)<|Vu (us:=[sva,.int .i64 sa.st,svm,sve]) (I.ext hG) Z Z Z (by simp) ke rfl λm3 kh I=>p (λ_=>QE rfl)<|p (λ_=>Qa rfl) <|
  pkl (hl:=by kernel_rfl)<|QF (j:=14) (u:=vt) I Z Z (by simp) kf λhr ki I=>p (λ_=>Qe)<|pe ?_
 have hZ:Step [b10] w9 hr:=kh.trans' ki;have ht:Step [b10] U hr:=hG.any.trans' hZ;have hu:Step [] w hr:=hj.then1 ht hge;refine Qc<|Qb<|x (Q8 Z Z)<|xe<|Q3 rfl (λhH=>?_) (λhH=>?_)
 ·rw[←hY] at hE;subst hE;refine Qc<|Qb<|x Qe<|Qf ?_;exact Ql ⟨[_,_],⟨Z,Z,La⟩,hu,.pointer none,Z,λ_=>Z,λe=>absurd e hH⟩
 have ga:e9=0:=Lo.1 hH;have gb:E=0:=by rw[hE,←hY,ga]
 obtain ⟨kj,m4,kk⟩:=kg ga;refine Qi ?_;have kn:=hB.step ht (by simp;omega);refine Qc<|Qb<|Qb<|x (Qp kn Z Z)<|xl Z<|xf<|(Qae (h.ext hu)).mono ?_;rintro m5 V ⟨hg,vs,vx,vk,qx,ks,rfl,ko,kp,gc⟩;have hI:=gc [] (by simp)
 refine xl rfl<|Ya Js λbm kq ge m6 kr=>x (QE Z)<|x (Qa Z)<|xl Z<|Vu (us:=[vs,vx,vk]) ((I.ext hg).ext ge) Z Z Z (by simp) ⟨hI.1.one,hI.2.1.arr.one,hI.2.2.arr.one,La⟩ rfl λm7 gg I =>
  x (QE rfl)<|x (Qa Z)<|xl Z<|QF (j:=18) (u:=.map (some bm)) I Z Z (by simp) rfl λhJ gh I=>xe ?_
 have m8:=hu.size;have m9:=hg.size;have pc:=ht.size;have pd:=hi.size;have pf:=hh.size;have pg:b10<V.heap.size:=by omega
 have kt:bm≠b10:=by omega
 have gi:Step [b10] V hJ:=(ge.any.trans' gg).trans' gh;have ku:Step [b10] kq hJ:=gg.trans' gh;have kv:ZN Js hJ.heap bm []:=kr.step ku (by simpa using kt);have kw:Step [b10] w3 V:=(hi.trans' ht).trans hg;have kx:Step [b10] w9 V:=hZ.trans hg;have kz:=hu.trans hg
 have fP:∀{w':World},Step [b10] V w'→∀L:LN,(∀x∈L,x<w2.heap.size)→Zq L w'.heap pva pvm pve pa∧JA L w'.heap vq qs:=λhs =>
  Qok (F:=λL H=>Zq L H pva pvm pve pa∧JA L H vq qs) (λh hs=>⟨h.1.st hs,h.2.st hs⟩) (λh J=>⟨h.1.up J,h.2.up J⟩) g5 gx (kw.trans' hs)
 have fS:∀{w':World},Step [b10] V w'→∀L:LN,(∀x∈L,x<w8.heap.size)→Zq L w'.heap sva svm sve sa∧JA L w'.heap vt ts:=λhs =>
  Qok (F:=λL H=>Zq L H sva svm sve sa∧JA L H vt ts) (λh hs=>⟨h.1.st hs,h.2.st hs⟩) (λh J=>⟨h.1.up J,h.2.up J⟩) kk (by omega) (kx.trans' hs)
 have fC:∀{w':World},Step [b10] V w'→∀L:LN,(∀x∈L,x<hr.heap.size)→QL L w'.heap vs (szs c.cel.co)∧zc L w'.heap vx qx∧Kcs L w'.heap vk ks:=λhs =>
  Qok (F:=λL H=>QL L H vs (szs c.cel.co)∧zc L H vx qx∧Kcs L H vk ks) (λh hs=>⟨h.1.st hs,h.2.1.st hs,h.2.2.st hs⟩) (λh J=>⟨h.1.up J,h.2.1.up J,h.2.2.up J⟩) gc (by omega) hs
 have gj:=(Qau (XN he.co) hA).1;have k0:=(Yj (XN he.co) hA).1.nd;simp only[] at gj;have k4:(auts c.cel.co).length=c.co.length:=by unfold auts;show ((c.co.map IV.it).map _).length=_;simp
 have gk:=(fP gi [] (by simp)).2;have ph:=gk.arr.le;refine Qg<|Qc<|Qb<|x (QE Z)<|x (Qa Z)<|x (Qd I Z Z)<|x (Qr gk.arr Z)<|Qb<|xe ?_
 refine Qh<|Qz (α:=Nat×List (ByteArray×Value)) [(6,7),(61,73)] (λz=>[(61,.int .i64 z.1)]) (λz w'=>z.1≤qs.length∧Step [b10] V w'∧QT w'.heap b10 259 [c.ve,c.vc,c.vr,c.vx,c.vk,pva,.int .i64 pa.st,pvm,pve,vq,sva,.int .i64 sa.st,svm,sve,vt,vs,vx,vk,.map (some bm)]∧ZN Js w'.heap bm z.2∧qq c.co.length z.2 ((qs.take z.1).map (·.2))) (λz=>qs.length - z.1) (by rfl) (0,[]) Lb
  ⟨Ln _,gi,I,kv,qq.nil _⟩ ?_
 rintro ⟨k,mm⟩ g hK ⟨hk,Y,hv,hw,hy⟩;simp only[] at hk hw hy;have hz:Step [] w hK:=kz.then1 Y hge;refine Qc<|x (QA Z Z)<|xe<|Qg<|QC Z (λhM=>?_) (λhM=>?_)
 ·refine Qy ?_;have k5:qs.length≤k:=by have k6:¬(k:Int)<(qs.length:Int):=hM;omega
  rw[Ls k5] at hy;refine Qc<|Qb<|x Qe<|Qf ?_;have aP:=fP Y [] (by simp);have aS:=fS Y [] (by simp);have aC:=fC Y [] (by simp)
  refine Ql ⟨[_,_],⟨Z,Z,La⟩,hz,.pointer (some ⟨b10,0,none⟩),by rw[gb];rfl,λe=>absurd gb e,λ_=>⟨b10,⟨c,⟨pva,pvm,pve,pa⟩,vq,qs,⟨sva,svm,sve,sa⟩,vt,ts,vs,vx,vk,qx,ks,bm,mm⟩,Z,Z,⟨hck,hA,kj,ko,kp,hy⟩,⟨hv,by simp,h.ext hz,aP.1,aS.1,aP.2,aS.2,aC.1,aC.2.1,aC.2.2,by simp,hw⟩,λL J=>?_⟩⟩;have bP:=fP Y L (λb hb=>by have:=J b hb;omega);have bS:=fS Y L (λb hb=>by have:=J b hb;omega)
  have bC:=fC Y L (λb hb=>by have:=J b hb;omega);exact ⟨bS.1,λk7=>⟨hv,λhm=>by have:=J _ hm;omega,k7.ext hz,bP.1,bS.1,bP.2,bS.2,bC.1,bC.2.1,bC.2.2,λhm=>by have h9:bm<w.heap.size:=J bm hm;omega,hw⟩⟩
 have hf:k<qs.length:=by have k6:(k:Int)<(qs.length:Int):=hM;omega
 have gl:=(fP Y [] (by simp)).2;have hN:=Le hf;have hO:(qs.take (k+1)).map (·.2)=(qs.take k).map (·.2)++[(qs[k]'hf).2]:=by rw[Lj hf,Ly];rfl
 have gm:(qs[k]'hf).2∉(qs.take k).map (·.2):=by
  have h1:((qs.take (k+1)).map (·.2)).Nodup:=by
   rw[List.map_take];exact k0.sublist (List.take_sublist _ _)
  rw[hO] at h1;intro hm;exact (Mu.1 h1).2.2 _ hm _ (Lc.2 Z) Z
 have k8:((qs.take k).map (·.2)).length=k:=by rw[Li,LD];omega
 refine Qi<|Qg<|Qh<|Qc<|Qb<|xig (g:=Yt) Qas gl.arr Z Z hf λpj gn=>?_;refine Zh (qs[k]'hf) λq hq=>?_;rw[hq] at gn hN hO gm;have k9:=gl.each q hN;have gq:=gj q.2 (LW hN);have gr:=gq.bd (m:=4096) (λa ha=>(XN he.co a ha).st1);have pn:q.2.length=c.co.length:=by rw[gq.1,k4]
 refine x (Qv gn Z)<|x Qe<|Qf<|QU (Step [] hK) [(0,true),(1,true),(2,true),(3,true),(4,true),(6,true),(5,false),(7,false)] mixed (by rfl) (by kernel_rfl) (Step.drew _ _) ?_;refine p (λ_=>Qm)<|p (λ_=>QE Z)<|p (λ_=>Qa Z)<|pq (λ_ hc=>Qd (hv.step hc (by simp)) rfl rfl) <|
  p (λ_=>Qm)<|p (λ_=>Qm)<|pk<|xf<|(Qgd (k9.ext (Step.drew _ _)) ((h4.ext hz).ext (Step.drew _ _)) gr (by omega)).mono ?_
 rintro po pp ⟨rfl,ma⟩;have h3:=(Step.drew [] hK).trans ma;refine ⟨h3,?_⟩;refine pkl (hl:=by kernel_rfl)<|Y1 (k:=VF q.2) (hw.ext h3) Z Z λmc gs mf=>pe ?_;have mg:Step [b10] V mc:=(Y.trans h3).then1 gs (by omega);have mh:=(hv.ext h3).step gs (by simp;omega);have gt:=hy.add gm (λx hx=>(gr x hx).1);rw[k8] at gt;refine Qx<|QQ Z Z<|Qb<|xe ?_
 exact ⟨(k+1,mput mm (VF q.2) (.int .i64 (k:Int))),by simp only[];omega,Lb,hf,mg,mh,mf,by simp only[];rw[hO];exact gt⟩
structure PI (w0:World) (b4 b7 b10 b11 bS n:Nat) (gc:LV) (pf:Value) (bi i:Nat) (vs:Value) (st:List Ed) (W:World):Prop where
 stp:Step [] w0 W
 B4:QT W.heap b4 171 gc
 B7:QT W.heap b7 178 [pf]
 B10:QT W.heap b10 244 [vs]
 B11:QT W.heap b11 175 [.slice (some ⟨bS,0,none⟩) n n]
 BS:QT W.heap bS 4 ((flg n (stS st)).map Value.bool)
 BI:QT W.heap bi 3 [.int .i64 i]
 R:Ye 243 w0.heap.size W vs st
 ne:∀b∈ob vs,b≠b4∧b≠b7∧b≠b10∧b≠b11∧b≠bS∧b≠bi
theorem PI.ext {E:World}{H I b10 b11 bS n:Nat}{gc:LV}{pf:Value}{bi i:Nat}{vs:Value}{st:List Ed}{W W':World}(h:PI E H I b10 b11 bS n gc pf bi i vs st W) (hs:Step [] W W'):PI E H I b10 b11 bS n gc pf bi i vs st W' :=
 ⟨h.stp.trans hs,h.B4.ext hs,h.B7.ext hs,h.B10.ext hs,h.B11.ext hs,h.BS.ext hs,h.BI.ext hs,Qt h.R hs,h.ne⟩
theorem PI.stb {H:World}{I J b10 b11 bS n:Nat}{gc:LV}{pf:Value}{bi i:Nat}{vs:Value}{st:List Ed}{B:Nat}(U:H.heap.size≤B):Yg B (λW=>PI H I J b10 b11 bS n gc pf bi i vs st W):=λW W' X h hs E =>
 ⟨Yg.step U W W' X h.stp hs E,Yg.blk W W' X h.B4 hs E,Yg.blk W W' X h.B7 hs E,Yg.blk W W' X h.B10 hs E,Yg.blk W W' X h.B11 hs E,Yg.blk W W' X h.BS hs E,Yg.blk W W' X h.BI hs E,Yg.row W W' X h.R hs E,h.ne⟩
def VE (lo hi:Nat) (ds:LN) (W:World):Prop:=ds.Nodup∧∀D∈ds,lo≤D∧D<hi∧W.heap[D]?=some (.deferred (some []))
theorem VE.step {lo hi:Nat}{ds:LN}{W W':World}{X:LN}(h:VE lo hi ds W) (hs:Step X W W') (E:∀b∈X,∃o:Obj,W.heap[b]?=some o∧o.isCells=true):VE lo hi ds W':=by
 refine ⟨h.1,λD hD=>⟨(h.2 D hD).1,(h.2 D hD).2.1,?_⟩⟩;have h3:=(h.2 D hD).2.2;refine (hs.block D (LK.1 h3).1 (λhx=>?_)).trans h3;obtain ⟨o,h4,h5⟩:=E D hx;rw[h3] at h4;cases h4;cases h5
theorem VE.ext {lo hi:Nat}{ds:LN}{W W':World}(h:VE lo hi ds W) (hs:Step [] W W'):VE lo hi ds W':=h.step hs (λ_ hb=>by cases hb)
theorem VE.blk {lo hi:Nat}{ds:LN}{W W':World}{b T:Nat}{cs:LV}(h:VE lo hi ds W) (hs:Step [b] W W') (hb:QT W.heap b T cs):VE lo hi ds W' :=
 h.step hs (λc hc=>by
  have e:c=b:=by simpa using hc
  subst e;exact hb.cells)
theorem VE.up {lo hi E:Nat}{ds:LN}{W:World}(h:VE lo hi ds W) (H:hi≤E):VE lo E ds W:=⟨h.1,λD hD=>⟨(h.2 D hD).1,by have:=(h.2 D hD).2.1;omega,(h.2 D hD).2.2⟩⟩
theorem VE.cons {lo hi:Nat}{ds:LN}{W:World}{D:Nat}(h:VE lo hi ds W) (hl:lo≤hi) (hD:hi≤D) (hd:W.heap[D]?=some (.deferred (some []))):VE lo W.heap.size (D::ds) W:=by
 have H:=(LK.1 hd).1;refine ⟨List.nodup_cons.2 ⟨λhm=>by have:=(h.2 D hm).2.1;omega,h.1⟩,λE hE=>?_⟩;rcases Lh.1 hE with rfl | hE
 ·exact ⟨by omega,H,hd⟩
 have:=h.2 E hE;exact ⟨this.1,(LK.1 this.2.2).1,this.2.2⟩
theorem VE.stb {lo hi B:Nat}{ds:LN}(H:hi≤B):Yg B (λW=>VE lo hi ds W):=λW W' X h hs E=>by
 refine ⟨h.1,λD hD=>⟨(h.2 D hD).1,(h.2 D hD).2.1,?_⟩⟩;have h3:=(h.2 D hD).2.2;refine (hs.block D (LK.1 h3).1 (λhx=>?_)).trans h3;have:=(E D hx).1;have:=(h.2 D hD).2.1;omega
theorem VE.own {lo hi:Nat}{ds:LN}{W:World}{base e sz n:Nat}{v:Value}{cs:LV}(h:VE lo hi ds W) (E:W.ownsRow base e sz v n cs):∀b∈ob v,b∉ds:=λb hb hd=>by
 obtain ⟨o,h1,h2⟩:=Go.Lg.Zp E b hb;rw[(h.2 b hd).2.2] at h1;cases h1;cases h2
theorem VE.rst {lo hi B:Nat}{L ds:LN}{W W':World}(h:VE lo hi ds W) (hs:Jn B L W W'):VE lo hi ds W':=⟨h.1,λD hD=>⟨(h.2 D hD).1,(h.2 D hD).2.1,hs.other D _ (h.2 D hD).2.2 Z⟩⟩
theorem PI.add {H:World}{I J b10 b11 bS n:Nat}{gc:LV}{pf:Value}{bi i:Nat}{v v':Value}{st:List Ed}{x:Ed}{W W1 W2 W3 W4:World}{B:Nat}{L0:LN}(h:PI H I J b10 b11 bS n gc pf bi i v st W)
  (hd:bS≠I∧bS≠J∧bS≠b10∧bS≠b11∧bS≠bi∧b10≠I∧b10≠J∧b10≠b11∧b10≠bi) (Y:B≤W.heap.size) (ha:H.heap.size≤bS) (he:H.heap.size≤b10) (hj:I<W.heap.size∧J<W.heap.size∧b11<W.heap.size∧bi<W.heap.size)
  (h1:Step [bS] W W1) (hS:QT W1.heap bS 4 ((flg n (stS (st++[x]))).map Value.bool)) (h2:Step [] W1 W2) (h3:Step (ob v) W2 W3) (hR:Ye 243 H.heap.size W3 v' (st++[x])) (U:∀b∈ob v',b∈ob v∨W2.heap.size≤b)
  (h4:Step [b10] W3 W4) (hf:QT W4.heap b10 244 [v']) (V:∀b∈ob v,b∈L0∨B≤b) :
  PI H I J b10 b11 bS n gc pf bi i v' (st++[x]) W4∧Jn B (bS::b10::L0) W W4∧(∀b∈ob v',b∈L0∨B≤b):=by
 have hk:=h1.size;have hl:=h2.size;have ho:=h3.size;have hp:=h.BS.lt;have hq:=h.B10.lt;have key:∀b T cs,QT W.heap b T cs→b≠bS→b∉ob v→b≠b10→QT W4.heap b T cs:=λb T cs hb e1 e2 e3=>(((hb.step h1 (by simpa using e1)).ext h2).step h3 e2).step h4 (by simpa using e3);have E:=h.ne;have nin:∀b,(∀c∈ob v,c≠b)→b∉ob v:=λb hb hm=>hb b hm Z;have hg:b10∉ob v:=nin _ λc hc=>(E c hc).2.2.1
 have hh:bS∉ob v:=nin _ λc hc=>(E c hc).2.2.2.2.1;have hi:W2.ownsRow H.heap.size 243 3 v st.length (st.flatMap QB):=Qt (Qk h.R h1 (λb hb=>by have:=(E b hb).2.2.2.2.1;simpa using this)) h2;have hge:∀b∈ob v',b≠I∧b≠J∧b≠b10∧b≠b11∧b≠bS∧b≠bi:=λb hb=>by
  rcases U b hb with hb | hb
  ·exact E b hb
  omega
 refine ⟨⟨?_,key _ _ _ h.B4 hd.1.symm (nin _ λc hc=>(E c hc).1) hd.2.2.2.2.2.1.symm,key _ _ _ h.B7 hd.2.1.symm (nin _ λc hc=>(E c hc).2.1) hd.2.2.2.2.2.2.1.symm,hf,
  key _ _ _ h.B11 hd.2.2.2.1.symm (nin _ λc hc=>(E c hc).2.2.2.1) hd.2.2.2.2.2.2.2.1.symm,((hS.ext h2).step h3 hh).step h4 (by have:=hd.2.2.1;simpa using this),key _ _ _ h.BI hd.2.2.2.2.1.symm (nin _ λc hc=>(E c hc).2.2.2.2.2) hd.2.2.2.2.2.2.2.2.symm,
  Qk hR h4 (λb hb=>by have:=(hge b hb).2.2.1;simpa using this),hge⟩,?_,λb hb=>?_⟩
 ·exact (((h.stp.then1 h1 ha).trans h2).then h3 (λb hb=>.inr (Qq h.R b hb).1)).then1 h4 he
 ·have r1:Jn B (bS::b10::L0) W W1:=Jn.blk h1 Y h.BS (.inl (by simp));have r2:Jn B (bS::b10::L0) W1 W2:=Jn.ext h2 (by omega);have r3:Jn B (bS::b10::L0) W2 W3:=Jn.step h3 (by omega) (λb hb=>⟨(V b hb).imp (λh=>by simp[h]) id,Go.Lg.Zp hi b hb⟩)
  have r4:Jn B (bS::b10::L0) W3 W4:=Jn.blk h4 (by omega) ((((h.B10.step h1 (by have:=hd.2.2.1;simpa using this.symm)).ext h2).step h3 hg)) (.inl (by simp));exact ((r1.trans r2).trans r3).trans r4
 rcases U b hb with hb | hb
 ·exact V b hb
 exact .inr (by omega)
theorem Qbh {n:Nat}{l:LI}{x:Int}(H:0≤x) (h1:x<(n:Int)):((flg n l).map Value.bool)[0+x.toNat*1]?=some (.bool (decide (x∈l))):=by
 have E:x.toNat<(flg n l).length:=by rw[qX];omega
 have e:((x.toNat:Nat):Int)=x:=by omega
 simp only[Nat.zero_add,Nat.mul_one,List.getElem?_map,List.getElem?_eq_getElem E,Option.map_some,Qbg,e]
theorem Qlg {w:World}{va vm ve:Value}{a:QD}{n bF from0 gw gp:Nat}{fw fp:Func}[Fu prog gw fw] [Fu prog gp fp] {cw cp:LV}{wt:Int→Bool}{pm:Ed→Bool}
  (hA:Zq [] w.heap va vm ve a) (hn:a.st=(n:Int)) (kn:n≤4096) (ko:∀e∈a.ed,0≤e.2.2∧e.2.2<(n:Int)) (kp:a.ed.Pairwise λx y=>x.1≤y.1) (kq:QT w.heap bF 3 ((gA (n+1) (fS a.ed)).map (Value.int .i64))) (hf:from0<n)
  (kr:∀(s:Int) (w':World),0≤s→s<(n:Int)→Step [] w w'→QG prog gw (.int .i64 s::cw) w' λr hQ=>r=.bool (wt s)∧Step [] w' hQ)
  (kt:∀(e:Ed) (w':World),e∈a.ed→Step [] w w'→QG prog gp (.agg (QB e).toArray::cp) w' λr hQ=>r=.bool (pm e)∧Step [] w' hQ) :
  QG prog 81 [.agg #[va,.int .i64 a.st,vm,ve,.slice (some ⟨bF,0,none⟩) (n+1) (n+1)],.int .i64 from0,.func (.func gw) #[] cw.toArray,.func (.func gp) #[] cp.toArray] w λr w' =>
   Step [] w w'∧∃v,r=.tuple #[v,.bool (pth wt pm a.ed n from0).2]∧Qs 3 w.heap.size w' v (pth wt pm a.ed n from0).1:=by
 refine QG.of_G 3 func81 Z ntmps81 results81 (by simp) ?_;refine Q0<|QI (by rfl) (by rfl) ?_;refine xl rfl<|QR (us:=[va,.int .i64 a.st,vm,ve,.slice (some ⟨bF,0,none⟩) (n+1) (n+1)]) Z λb4 w1 ku q4 hR=>xl Z<|QR (us:=[.func (.func gp) #[] cp.toArray]) Z λb7 w2 kv q9 gk=>x Qe<|Qf<|Q0<|QI (by rfl) (by rfl) ?_
 refine Qb<|x (QN ⟨Z,Z,Z,La⟩)<|xl Z<|QH (us:=[[.int .i64 from0,.int .i64 (-1),.int .i64 (-1)]]) Z Z (by decide) (by simp) ⟨rfl,rfl,La⟩ λbL w3 gl j1 gm =>
  xl rfl<|Qu (us:=[nS]) Z λb10 w4 hS j2 gn=>xl Z<|QF (u:=.slice (some ⟨bL,0,none⟩) 1 1) gn Z Z (by decide) Z λw5 hB hC=>xe ?_
 have j3:=hR.lt;have j4:=gk.lt;have za:=gm.lt;have zb:=gn.lt;have zv:=hB.size;have hT:Step [] w1 w5:=((kv.trans gl).trans hS).then1 hB (by omega);have kw:Step [] w2 w5:=(gl.trans hS).then1 hB (by omega);have kx:Step [] w3 w5:=hS.then1 hB (by omega);refine Q0<|QI (by rfl) (by rfl) ?_
 refine x (Qa Z)<|x (Qa Z)<|x (Qd (hR.ext hT) Z Z)<|xl Z<|XZ (n:=n) (congrArg (Value.int .i64) hn) (congrArg (Value.int .i64) hn) (by omega) λbS w6 kz z0 gq=>xl Z<|Qu (us:=[nS]) Z λb11 w7 gr z1 gs =>
  xl rfl<|QF (u:=.slice (some ⟨bS,0,none⟩) n n) gs Z Z (by decide) Z λw8 hU gt=>xe ?_
 have z2:=gq.lt;have z3:=gs.lt;have z4:=hU.size;have h3:Step [] w5 w8:=(kz.trans gr).then1 hU (by omega);have k0:Step [] w6 w8:=gr.then1 hU (by omega);have k4:QT w6.heap bS 4 ((flg n []).map Value.bool):=by
  have e:(List.replicate n (Value.bool false).cells.toList).flatten=(flg n []).map Value.bool:=by
   simp only[flg,List.not_mem_nil,decide_false,List.map_map];apply LX
   ·simp[Value.cells]
   intro i h1 h2;simp[Value.cells]
  rw[←e];exact gq
 refine Q0<|QI (by rfl) (by rfl) ?_;refine x (Qd gt Z Z)<|Qb<|x (QS (i:=from0) Z Z hf)<|xl Z<|QF (j:=0+from0*1) (u:=.bool true) (k4.ext k0) Z Z (by rw[Li,qX];omega) Z λw9 hl k5=>xe ?_;have z5:=hl.size;have k6:QT w9.heap bS 4 ((flg n [(from0:Int)]).map Value.bool):=by
  have e1:=Qbf (n:=n) (l:=[]) (x:=(from0:Int)) (by omega);rw[Mt] at e1;rw[←e1,Nu];simpa using k5
 refine Q0<|Q0<|QI (by rfl) (by rfl) ?_;refine xl rfl<|Qu (us:=[.int .i64 0]) Z λgu z9 k7 k8 gv=>xl Z<|QF (u:=.int .i64 0) gv Z Z (by decide) Z λhE gx k9=>xe ?_;have hl12:=gv.lt;have hz11:=gx.size;have ho:Step [] w9 hE:=k7.then1 gx k8;have ma:Step [] w hE:=(((ku.trans hT).trans h3).then1 hl (by omega)).trans ho
 have mc:PI w b4 b7 b10 b11 bS n [va,.int .i64 a.st,vm,ve,.slice (some ⟨bF,0,none⟩) (n+1) (n+1)] (.func (.func gp) #[] cp.toArray) gu 0 (.slice (some ⟨bL,0,none⟩) 1 1) [((from0:Int),-1,-1)] hE:=by
  refine ⟨ma,(((hR.ext hT).ext h3).step hl (by simp;omega)).ext ho,(((gk.ext kw).ext h3).step hl (by simp;omega)).ext ho,((hC.ext h3).step hl (by simp;omega)).ext ho,
   (gt.step hl (by simp;omega)).ext ho,k6.ext ho,k9,?_,λb hb=>?_⟩
  ·have mf:=(((gm.ext kx).ext h3).step hl (by simp;omega)).ext ho;exact mf.own (n:=1) (sz:=3) Z (by omega) (by omega)
  have e:b=bL:=by simpa[ob] using hb
  subst e;omega
 refine ZU<|V3 (α:=Nat×Nat×Nat×Value×List Ed) [(8,9),(12,15),(26,68),(70,94)] (λz=>[(12,.pointer (some ⟨z.2.1,0,none⟩))])
  (λz ds W=>PI w b4 b7 b10 b11 bS n [va,.int .i64 a.st,vm,ve,.slice (some ⟨bF,0,none⟩) (n+1) (n+1)] (.func (.func gp) #[] cp.toArray) z.2.1 z.1 z.2.2.2.1 z.2.2.2.2 W∧QeE n z.2.2.2.2∧VE w.heap.size W.heap.size ds W∧hE.heap.size≤W.heap.size ∧
   (z.2.1≠b4∧z.2.1≠b7∧z.2.1≠b10∧z.2.1≠b11∧z.2.1≠bS)∧w.heap.size≤z.2.1∧z.1≤z.2.2.2.2.length∧n+1≤z.2.2.1+z.1∧QgH wt pm a.ed z.2.2.1 z.1 z.2.2.2.2=pth wt pm a.ed n from0)
  (λz=>n+1 - z.1) (by rfl) (0,gu,n+1,.slice (some ⟨bL,0,none⟩) 1 1,[((from0:Int),-1,-1)]) Lb
  ⟨mc,QnF hf,⟨MC,λ_ h=>by cases h⟩,Lv _,by simp only[];omega,by simp only[];omega,by simp,by simp,rfl⟩ ?_
 rintro ⟨i,bi,fu,vs,st⟩ g ds hF ⟨hP,h4,h5,hz12,mg,mh,mj,mo,U⟩;simp only[] at hP h4 h5 mg mh mj mo U;have hstl:=h4.le;refine Q0<|Q0<|QI (by rfl) (by rfl) ?_;refine x (Qd hP.BI Z Z)<|x (Qd hP.B10 Z Z)<|x (Qr (QX (L:=[]) hP.R (by omega) (by simp)) rfl)<|x (QA rfl rfl)<|xe<|yR rfl (λhV=>?_) (λhV=>?_)
 ·refine Ku ?_;have mq:¬i<st.length:=by have ms:¬(i:Int)<(st.length:Int):=hV;omega
  rw[QgG mq] at U;refine Q0<|QI (by rfl) (by rfl) ?_;refine x Qe<|Qf<|Vl ⟨λD hD=>(h5.2 D hD).2.2,h5.1,[nS,.bool false],λw' hG=>⟨⟨Z,Z,La⟩,hP.stp.then hG (λD hD=>.inr (h5.2 D hD).1),_,by rw[←U];rfl,?_⟩⟩;rw[←U];exact QP _ _ _ _
 have hq:i<st.length:=by have ms:(i:Int)<(st.length:Int):=hV;omega
 refine Exists.elim (MR (show fu≠0 by omega)) λmt hW=>?_;subst hW;rw[QgH,if_pos hq] at U;have hX:=h4.rg _ (Qoe hq);have hge:=Qje hq;refine Zh (gE st i) λs0 mu=>?_;rw[mu] at U hX hge;refine Yn<|Q0<|ZU<|Q0<|Q0<|QI (by rfl) (by rfl) ?_
 refine Qb<|x (Qd hP.B10 Z Z)<|x (Qd hP.BI Z Z)<|xie (i:=i) (QX (L:=[]) hP.R (by omega) (by simp)) rfl rfl hq λa35 gy=>?_;rw[hge] at gy;refine x (Zj Z)<|x (Qv (gy.fld 0 (.int .i64 s0.1) Z) Z)<|xl Z<|xc (first:=[]) (capt:=cw) Z<|(kr s0.1 _ hX.1 hX.2 hP.stp).mono ?_;rintro r13 hj ⟨rfl,hY⟩;have hz13:=hY.size;have hk:=hP.ext hY;have gz:=h5.ext hY;refine xe ?_
 refine Vm rfl (λhZ=>?_) (λhZ=>?_)
 ·rw[if_pos hZ] at U;have mv:VE w.heap.size hF.heap.size ds hj:=gz;refine Q0<|QI (by rfl) (by rfl) ?_;refine Qf<|Q0<|Q0<|QI (by rfl) (by rfl) ?_;refine x (Qd hk.BI Z Z)<|Qf<|ZU<|V3 (α:=Nat×Nat×Value×LI) [(13,14),(40,58)] (λz=>[(13,z.2.2.1),(14,.int .i64 z.2.1)])
   (λz g0 W=>g0=ds∧Step [] hj W∧VE w.heap.size hF.heap.size ds W∧z.2.1<z.1∧z.2.1<st.length∧Qs 3 hj.heap.size W z.2.2.1 z.2.2.2∧z.2.2.2.length+z.1≤i+1∧z.2.2.2++wrd st z.1 z.2.1=wrd st (i+1) i)
   (λz=>z.1) (by rfl) (i+1,i,nS,[]) ⟨Z,Z,La⟩ ⟨Z,Step.refl _ _,mv,by simp,hq,QP _ _ _ _,by simp,rfl⟩ ?_
  rintro ⟨f,k,v,acc⟩ g g0 hh ⟨rfl,h6,hH,mw,hw,hr,mx,ht⟩;simp only[] at mw hw hr mx ht;refine Exists.elim (MR (show f≠0 by omega)) λf' hW=>?_;subst hW;rw[wrd] at ht;have hI:=Qje hw;have my:=h4.par k hw;refine Zh (gE st k) λs1 mz=>?_;rw[mz] at ht hI my;have J:=hk.ext h6;have m0:=h6.size;refine Q0<|Q0<|QI (by rfl) (by rfl) ?_
  refine x (Qd J.B10 Z Z)<|Qb<|xie (i:=k) (QX (L:=[]) J.R (by omega) (by simp)) rfl rfl hw λa42 g1=>?_;rw[hI] at g1;refine x (Zj Z)<|x (Qv (g1.fld 1 (.int .i64 s1.2.1) Z) Z)<|x (ZZ Z Z)<|xe<|yR Z (λga=>?_) (λga=>?_)
  ·refine Ku ?_;rw[if_neg ga,LS] at ht;refine Q0<|QI (by rfl) (by rfl) ?_;refine Qb<|xl Z<|xf<|(yP hr (by omega)).mono ?_;rintro r15 g2 ⟨g3,ha⟩;have hJ:=hH.step ha (Go.Lg.Zp hr);refine xe<|Q0<|QI (by rfl) (by rfl) ?_;refine Qb<|x Qe<|Qf<|Vl ⟨λD hD=>(hJ.2 D hD).2.2,hJ.1,[v,.bool true],λw' hG=>⟨⟨Z,Z,La⟩,?_,v,by rw[←U];rfl,?_⟩⟩
   ·exact ((J.stp).then ha (λb hb=>.inr (by have:=(Qq hr b hb).1;omega))).then hG (λD hD=>.inr (hJ.2 D hD).1)
   rw[←U,←ht];exact Zi (Qk g3 hG (hJ.own g3)) (by omega)
  rw[if_pos ga] at ht;refine Yn<|Q0<|ZU<|QI (by rfl) (by rfl) ?_;refine Qb<|x (Qd J.B10 Z Z)<|Qb<|xie (i:=k) (QX (L:=[]) J.R (by omega) (by simp)) rfl rfl hw λa54 g4=>?_;rw[hI] at g4
  refine x (Zj Z)<|x (Qv (g4.fld 2 (.int .i64 s1.2.2) Z) Z)<|xl Z<|QH (us:=[[.int .i64 s1.2.2]]) Z Z (by decide) (by simp) ⟨rfl,rfl,La⟩ λb57 h7 I hb57 m1=>xl rfl<|Q6 (m:=1) (news:=[.int .i64 s1.2.2]) (Qt hr I) rfl rfl rfl (m1.at (L:=[]) (by simp)) (by simp[Value.oneCell']) (by omega) (by have:=I.size;omega) λm2 g5 m3 hu hn17 =>
   Qf ?_
  have g6:Step [] hj g5:=(h6.trans I).then hu (λb hb=>.inr (Qq hr b hb).1);have g7:=hk.ext g6;have m4:=(hH.ext I).step hu (Go.Lg.Zp (Qt hr I));refine QI (by rfl) (by rfl) ?_;refine x (Qd g7.B10 Z Z)<|Qb<|xie (i:=k) (QX (L:=[]) g7.R (by omega) (by simp)) rfl rfl hw λa48 g8=>?_;rw[hI] at g8
  refine x (Zj Z)<|x (Qv (g8.fld 1 (.int .i64 s1.2.1) Z) Z)<|Qf ?_;have m5:s1.2.1=(s1.2.1.toNat:Int):=by omega
  refine ⟨(f',s1.2.1.toNat,m2,acc++[s1.2.2]),by simp only[];omega,⟨Z,congrArg (Value.int .i64) m5,La⟩,Z,g6,m4,by simp only[];omega,by simp only[];omega,Qs.snoc m3,?_,?_⟩
  ·simp only[List.length_append,List.length_singleton];omega
  rw[LC];exact ht
 rw[if_neg (by rw[hZ];decide)] at U;have g9:s0.1=(s0.1.toNat:Int):=by omega
 refine Yn ?_;have m6:Step [] hj { hj with drawn:=hj.drawn+1 }:=Step.drew _ _
 refine Q0<|QbG (Step [] hj) [(0,true),(1,true),(2,true),(3,true),(4,true),(5,true),(6,false)] mixed (by rfl) (by rfl) (by kernel_rfl) (Step.drew _ _) ?_;refine pq (λ_ hc=>Qp (hk.B4.ext hc) Z Z)<|pq (λ_ hc=>Qd (hk.B10.ext hc) Z Z)<|pq (λ_ hc=>Qd (hk.BI.ext hc) Z Z) <|
  pie (i:=i) Z (QX (L:=[]) hk.R (by omega) (by simp)) rfl rfl hq λa65 ka=>?_
 rw[hge] at ka;refine p (λ_=>Zj Z)<|pq (λ_ hc=>Qv ((ka.fld 0 (.int .i64 s0.1) Z).ext hc) Z)<|pk<|xf<|(QjI (va:=va) (vm:=vm) (ve:=ve) (vf:=.slice (some ⟨bF,0,none⟩) (n+1) (n+1)) (st:=a.st) (s:=s0.1)).mono ?_;rintro r18 hh ⟨h6,b1,b2,rfl,hb1,hb2,m7,kb⟩;have hK:=m6.trans h6;refine ⟨hK,pe ?_⟩;have J:=hk.ext hK;have hH:VE w.heap.size hF.heap.size ds hh:=gz.ext hK
 have m0:=hK.size;have m8:zf (bS::b10::ob vs) hh.heap ve a.ed:=by
  refine (hA.ed.up (L':=bS::b10::ob vs) (λb hb=>.inr ?_)).step J.stp (λ_ hb=>by cases hb);rcases Lh.1 hb with rfl | hb
  ·omega
  rcases Lh.1 hb with rfl | hb
  ·omega
  exact (Qq J.R b hb).1
 rw[g9] at kb;have m9:w.heap.size≤hh.heap.size:=J.stp.size;have gb:bS≠b4∧bS≠b7∧bS≠b10∧bS≠b11∧bS≠bi∧b10≠b4∧b10≠b7∧b10≠b11∧b10≠bi:=by omega
 have hqS:=J.BS.lt;have hqi:=J.BI.lt;refine ZU<|QmR (α:={ e:Ed // e∈a.ed }) (bS::b10::ob vs) (by omega) (capt:=[.pointer (some ⟨b1,0,none⟩),.pointer (some ⟨b2,0,none⟩)]) Z (enc:=λx=>.agg (QB x.1).toArray) (by decide)
  (Qej m7 kb (kq.ext J.stp) m8 kp (by omega) kn)
  (λpre W=>∃v,PI w b4 b7 b10 b11 bS n [va,.int .i64 a.st,vm,ve,.slice (some ⟨bF,0,none⟩) (n+1) (n+1)] (.func (.func gp) #[] cp.toArray) bi i v ((pre.map (·.1)).foldl (KG pm i) st) W∧QeE n ((pre.map (·.1)).foldl (KG pm i) st)∧i<((pre.map (·.1)).foldl (KG pm i) st).length ∧
   (∀b∈ob v,b∈ob vs∨hh.heap.size≤b)∧VE w.heap.size hF.heap.size ds W∧hh.heap.size≤W.heap.size)
  (λpre=>Yg.ex λv=>(PI.stb m9).and ((Yg.pure _).and ((Yg.pure _).and ((Yg.pure _).and ((VE.stb (by omega)).and (λW W' X h hs _=>LT h hs.size))))))
  ⟨vs,J,h4,hq,λb hb=>.inl hb,hH,Lv _⟩
  (λf x f' W=>∃b,f'=upd (upd f 69 (.agg (QB x.1).toArray)) 15 (.pointer (some ⟨b,0,none⟩))∧hh.heap.size≤b∧QT W.heap b 129 (QB x.1))
  (λx f'=>Yg.ex λb=>(Yg.pure _).and ((Yg.pure _).and Yg.blk)) ?_ ?_ ?_
 ·rintro l pre ⟨e,he⟩ W ⟨v,E,V,hg,hy,hv,hz⟩;refine QI (by rfl) (by rfl) ?_;refine xl Z<|Qu (us:=[.int .i64 0,.int .i64 0,.int .i64 0]) Z λb15 g2 ha kc h0=>xl Z<|Qn (us:=QB e) h0 Z Z Z Z ⟨Z,Z,Z,La⟩ λh7 I pa=>xe ?_;have hL:Step [] W h7:=ha.then1 I kc;have pc:=hL.size
  exact ⟨Z,Jn.ext hL hz,⟨v,E.ext hL,V,hg,hy,hv.ext hL,by omega⟩,b15,Z,by omega,pa⟩
 ·rintro l pre ⟨e,he⟩ f' W ⟨v,E,V,hg,hy,hv,hz⟩ ⟨b15,rfl,kc,h0⟩ _;have h8:((pre++[(⟨e,he⟩:{ e:Ed // e∈a.ed })]).map (·.1)).foldl (KG pm i) st=KG pm i ((pre.map (·.1)).foldl (KG pm i) st) e:=by rw[Ly,Mv];rfl
  refine Zh ((pre.map (·.1)).foldl (KG pm i) st) λH gc=>?_;rw[gc] at E V hg h8;have hM:=ko e he;have ge:e.2.2=(e.2.2.toNat:Int):=by omega
  have gg:=QmI (pm:=pm) V hg hM;have hN:=Qbh (l:=stS H) hM.1 hM.2;have pd:=V.le;have pc:=E.stp.size;refine ZU<|Q0<|QI (by rfl) (by rfl) ?_;by_cases hO:e.2.2∈stS H
  ·rw[decide_eq_true hO] at hN;have h9:KG pm i H e=H:=by unfold KG;rw[if_neg (λh=>h.1 hO)]
   refine x (Qd E.B11 Z Z)<|x (Qa Z)<|x (Qd h0 Z Z)<|x (QS (i:=e.2.2.toNat) Z (congrArg (Value.int .i64) ge) (by omega))<|x (Qd E.BS Z hN)<|x (Zs Z)<|x Qm <|
    xs rfl<|xs Z<|xs Z<|x (Qo Z)<|xe ?_
   refine VC Z<|Yn ?_;refine ⟨Jn.refl _ _ _,v,?_⟩;rw[h8,h9];exact ⟨E,V,hg,hy,hv,hz⟩
  rw[decide_eq_false hO] at hN;refine x (Qd E.B11 Z Z)<|x (Qa Z)<|x (Qd h0 Z Z)<|x (QS (i:=e.2.2.toNat) Z (congrArg (Value.int .i64) ge) (by omega))<|x (Qd E.BS Z hN)<|x (Zs Z)<|x Qm <|
   x (Qd E.B7 Z Z)<|x (Qp h0 Z Z)<|xl Z<|xc (first:=[]) (capt:=cp) Z<|(kt e _ he E.stp).mono ?_
  rintro r19 g2 ⟨rfl,ha⟩;refine x (Qo Z)<|xe ?_;have hi:=E.ext ha;have hz15:=ha.size;refine Vm Z (λhp=>?_) (λhp=>?_)
  ·have h9:KG pm i H e=H++[(e.2.2,(i:Int),e.2.1)]:=by unfold KG;rw[if_pos ⟨hO,hp⟩]
   rw[h9] at h8 gg;have ke:=h0.ext ha;refine Q0<|QI (by rfl) (by rfl) ?_;refine x (Qd hi.B11 Z Z)<|x (Qa Z)<|x (Qd ke Z Z)<|x (QS (i:=e.2.2.toNat) Z (congrArg (Value.int .i64) ge) (by omega))<|xl Z<|QF (j:=0+e.2.2.toNat*1) (u:=.bool true) hi.BS Z Z (by rw[Li,qX];omega) Z λh7 I pf=>xe ?_
   have pg:QT h7.heap bS 4 ((flg n (stS (H++[(e.2.2,(i:Int),e.2.1)]))).map Value.bool):=by
    have e1:=Qbf (n:=n) (l:=stS H) hM.1;have e2:stS (H++[(e.2.2,(i:Int),e.2.1)])=stS H++[e.2.2]:=by unfold stS;rw[Ly];rfl
    rw[e2,←e1,Nu];simpa using pf
   have hz16:=I.size;have hC:=hi.B10.step I (by have:=gb.2.2.1;simpa using this.symm);have ph:=hi.BI.step I (by have:=gb.2.2.2.2.1;simpa using this.symm);have pj:Ye 243 w.heap.size h7 v H:=Qk hi.R I (λb hb=>by have:=(hi.ne b hb).2.2.2.2.1;simpa using this);have kf:=ke.step I (by simp;omega);refine QI (by rfl) (by rfl) ?_
   refine x (Qd hC Z Z)<|x (Qa Z)<|x (Qd kf Z Z)<|x (Qd ph Z Z)<|x (Qa Z)<|x (Qd kf Z Z)<|x (QN ⟨Z,Z,Z,La⟩) <|
    xl rfl<|QH (us:=[[.int .i64 e.2.2,.int .i64 i,.int .i64 e.2.1]]) Z Z (by decide) (by simp) ⟨rfl,rfl,La⟩ λb92 g5 hu hb92 pn =>
    xl rfl<|Q6 (m:=1) (news:=[.int .i64 e.2.2,.int .i64 i,.int .i64 e.2.1]) (Qt pj hu) Z Z Z (pn.at (L:=[]) (by simp)) (by simp[Value.oneCell']) (by omega) (by have:=hu.size;omega) λkg w18 kh ki po=>?_
   have pp:b10∉ob v:=λhm=>(hi.ne b10 hm).2.2.1 Z;refine xl Z<|QF (u:=kg) ((hC.ext hu).step ki pp) Z Z (by simp) (QX (L:=[]) kh (by omega) (by simp)).one λpt pu pw=>xe ?_;have gh:=hi.add (B:=hh.heap.size) (L0:=ob vs) gb (by omega) (by omega) (by omega) ⟨by omega,by omega,by omega,by omega⟩ I pg hu ki (Ye.snoc kh) po pu pw hy
   have gi:Jn hh.heap.size (bS::b10::ob vs) W pt:=(Jn.ext ha hz).trans gh.2.1;have hzf:=gi.lw.size;refine ⟨gi,kg,?_⟩;rw[h8];exact ⟨gh.1,gg.1,gg.2,gh.2.2,hv.rst gi,by omega⟩
  have h9:KG pm i H e=H:=by unfold KG;rw[if_neg (λh=>by rw[hp] at h;exact absurd h.2 (by decide))]
  refine Yn<|⟨Jn.ext ha hz,v,?_⟩;rw[h8,h9];exact ⟨hi,V,hg,hy,hv.ext ha,by omega⟩
 rintro D xs W hD pz ⟨v,E,V,hg,hy,hv,hz⟩ p0;rw[pz,←g9] at E V hg;refine Zh ((ZE a.ed s0.1).foldl (KG pm i) st) λH gc=>?_;rw[gc] at E V hg U;have pd:=V.le;have p4:=hv.cons (by omega) (by omega) p0;refine Q0<|Q0<|QI (by rfl) (by rfl) ?_;refine x (Qd E.BI Z Z)<|xe<|QI (by rfl) (by rfl) ?_
 refine xl Z<|Qu (us:=[.int .i64 0]) Z λbj w20 p5 kj p6=>xl Z<|QF (u:=.int .i64 i) p6 Z Z (by simp) rfl λw21 p7 kk=>xe ?_;refine QI (by rfl) (by rfl) ?_;refine x (Qd kk Z Z)<|QQ Z Z<|xl Z<|QF (u:=.int .i64 ((i:Int)+1)) kk Z Z (by simp) rfl λp8 p9 qc=>xe ?_;have gj:Step [] W p8:=(p5.then1 p7 kj).then1 p9 kj;have qo:=gj.size;have Y:=E.ext gj
 have qr:=(p4.ext gj).up qo;have q0:∀b∈ob v,b≠bj:=λb hb e=>by have:=Q2 E.R b hb;omega
 refine ⟨(i+1,bj,mt,v,H),by simp only[];omega,Lb,⟨Y.stp,Y.B4,Y.B7,Y.B10,Y.B11,Y.BS,qc,Y.R,λb hb=>⟨(Y.ne b hb).1,(Y.ne b hb).2.1,(Y.ne b hb).2.2.1,(Y.ne b hb).2.2.2.1,(Y.ne b hb).2.2.2.2.1,q0 b hb⟩⟩,V,qr,by omega,?_,by simp only[];omega,hg,by simp only[];omega,U⟩;have t4:=E.B4.lt;have t7:=E.B7.lt;have t10:=E.B10.lt;have t11:=E.B11.lt;have tS:=E.BS.lt
 simp only[];omega
end Go.Proofs.YtjcgijbhaemldaaGreatDoor
namespace Go.Lg
theorem qT {W W':World}{base e sz n:Nat}{v:Value}{cs:LV}(h:W.ownsRow base e sz v n cs) (hc:JF [] W W'):W'.ownsRow base e sz v n cs :=
 ⟨h.1,h.2.imp id λ⟨g,cap,cur,h1,h2,h3,h4⟩=>⟨g,cap,cur,h1,h2,hc g _ (by simp) h3 rfl,h4⟩⟩
theorem JF.mono {L L':LN}{W W':World}(h:JF L W W') (E:∀b∈L,b∈L'):JF L' W W':=λk o H=>h k o (λhm=>H (E k hm))
theorem JF.nonc {X:LN}{W W':World}(hs:Step X W W') (E:∀r∈X,∃o:Obj,W.heap[r]?=some o∧o.isCells=false):JF [] W W':=λk o _ hk hc =>
 (hs.block k (LK.1 hk).1 (λhx=>by
  obtain ⟨H,h1,h2⟩:=E k hx;rw[hk] at h1;cases h1;rw[hc] at h2;cases h2)).trans hk
theorem Yg.cst {B:Nat}{I:World→Prop}(h:∀W W',I W→JF [] W W'→W.heap.size≤W'.heap.size→I W'):Yg B I:=λW W' _ hi hs E=>h W W' hi (JF.nonc hs (λr H=>(E r H).2)) hs.size
end Go.Lg
namespace Go.Proofs.YtjcgijbhaemldaaGreatDoor
open Go.Lg
theorem Z7.cst {base:Nat}{av:LN}{W W':World}{v:Value}{n sz:Nat}{cs:LV}(h:Z7 base av W.heap v n sz cs) (hc:Lg.JF [] W W') (E:W.heap.size≤W'.heap.size):Z7 base av W'.heap v n sz cs:=λL H=>(h L H).cst (hc.mono (by simp)) E
abbrev YO (r:Rsn):LV:=[.int .i64 r.st,.int .i64 r.kd,.int .i64 r.ix,.int .i64 r.ev]
structure Ke (base:Nat) (w:World) (v1 v2 v3 v4:Value) (cos rqs:List TV) (pls:LI) (fbs:List Rsn):Prop where
 o1:w.ownsRow base 39 1 v1 cos.length (cos.flatMap Yt)
 o2:w.ownsRow base 39 1 v2 rqs.length (rqs.flatMap Yt)
 o3:Qs 3 base w v3 pls
 o4:w.ownsRow base 190 4 v4 fbs.length (fbs.flatMap YO)
 d12:Dj v1 v2
 d13:Dj v1 v3
 d14:Dj v1 v4
 d23:Dj v2 v3
 d24:Dj v2 v4
 d34:Dj v3 v4
 e1:∀p∈cos,Z7 base (ob v1++(ob v2++(ob v3++ob v4))) w.heap p.1 p.2.length 1 (p.2.map (.int .i64))
 e2:∀p∈rqs,Z7 base (ob v1++(ob v2++(ob v3++ob v4))) w.heap p.1 p.2.length 1 (p.2.map (.int .i64))
theorem qh {v:Value}:Dj (nS) v:=λb hb=>by simp[ob] at hb
theorem Ke.nil (base:Nat) (w:World):Ke base w (nS) (nS) (nS) (nS) [] [] [] [] :=
 ⟨QP _ _ _ _,QP _ _ _ _,QP _ _ _ _,QP _ _ _ _,qh,qh,qh,qh,qh,qh,λp hp=>(by cases hp),λp hp=>(by cases hp)⟩
variable {base:Nat} {w w7 w8:World} {v1 v2 v3 v4 v':Value} {cos rqs:List TV} {pls:LI} {fbs:List Rsn}
theorem Ke.ext (h:Ke base w v1 v2 v3 v4 cos rqs pls fbs) (hs:Step [] w w7):Ke base w7 v1 v2 v3 v4 cos rqs pls fbs :=
 ⟨Qt h.o1 hs,Qt h.o2 hs,Qt h.o3 hs,Qt h.o4 hs,h.d12,h.d13,h.d14,h.d23,h.d24,h.d34,λp hp=>(h.e1 p hp).ext hs,λp hp=>(h.e2 p hp).ext hs⟩
theorem Ke.low {X:LN}(h:Ke base w v1 v2 v3 v4 cos rqs pls fbs) (hs:Step X w w7) (E:∀b∈X,b<base):Ke base w7 v1 v2 v3 v4 cos rqs pls fbs:=by
 have k:∀{e sz n:Nat} {v:Value} {cs:LV},w.ownsRow base e sz v n cs→w7.ownsRow base e sz v n cs:=λo=>Qk o hs (λb hb hm=>by have:=(Qq o b hb).1;have:=E b hm;omega);exact ⟨k h.o1,k h.o2,k h.o3,k h.o4,h.d12,h.d13,h.d14,h.d23,h.d24,h.d34,λp hp=>(h.e1 p hp).low hs E,λp hp=>(h.e2 p hp).low hs E⟩
theorem Ke.cst (h:Ke base w v1 v2 v3 v4 cos rqs pls fbs) (hc:Lg.JF [] w w7) (E:w.heap.size≤w7.heap.size):Ke base w7 v1 v2 v3 v4 cos rqs pls fbs :=
 ⟨qT h.o1 hc,qT h.o2 hc,qT h.o3 hc,qT h.o4 hc,h.d12,h.d13,h.d14,h.d23,h.d24,h.d34,λp hp=>(h.e1 p hp).cst hc E,λp hp=>(h.e2 p hp).cst hc E⟩
theorem qi {a b E:Value}{n:Nat}(h:Dj a b) (H:∀x∈ob E,x∈ob a∨n≤x) (hb:∀x∈ob b,x<n):Dj E b:=λx hx hm=>by
 rcases H x hx with h1 | h1
 ·exact h x h1 hm
 have:=hb x hm;omega
theorem VA {a b b':Value}{n:Nat}(h:Dj a b) (E:∀x∈ob b',x∈ob b∨n≤x) (ha:∀x∈ob a,x<n):Dj a b':=λx hx hm=>by
 rcases E x hm with h1 | h1
 ·exact h x hx h1
 have:=ha x hx;omega
theorem Ke.lt (h:Ke base w v1 v2 v3 v4 cos rqs pls fbs):(∀x∈ob v1,x<w.heap.size)∧(∀x∈ob v2,x<w.heap.size)∧(∀x∈ob v3,x<w.heap.size)∧∀x∈ob v4,x<w.heap.size:=⟨Q2 h.o1,Q2 h.o2,Q2 h.o3,Q2 h.o4⟩
theorem Qcn {a b c d:LN}{x:Nat}(h:x∈a++(b++(c++d))):x∈a∨x∈b∨x∈c∨x∈d:=by simpa using h
theorem yb {a b c d:LN}{x:Nat}(h:x∈a∨x∈b∨x∈c∨x∈d):x∈a++(b++(c++d)):=by simpa using h
theorem Ke.a1 {N e:Nat}{q:TV}(h:Ke base w v1 v2 v3 v4 cos rqs pls fbs) (hs:Step [] w w7) (hq:w7.ownsRow N e 1 q.1 q.2.length (q.2.map (.int .i64))) (J:q.2.length≤1099511627776) (V:w.heap.size≤N) (hb:base≤w.heap.size) (U:w8.ownsRow base 39 1 v' (cos.length+1) (cos.flatMap Yt++Yt q))
  (H:Step (ob v1) w7 w8) (I:∀b∈ob v',b∈ob v1∨w7.heap.size≤b):Ke base w8 v' v2 v3 v4 (cos++[q]) rqs pls fbs:=by
 have l:=h.lt;have Y:=hs.size;have E:=h.ext hs;have av:∀b∈ob v'++(ob v2++(ob v3++ob v4)),b∈ob v1++(ob v2++(ob v3++ob v4))∨w7.heap.size≤b:=by
  intro b hb;rcases Qcn hb with h1 | h1 | h1 | h1
  ·rcases I b h1 with h2 | h2
   ·exact .inl (yb (.inl h2))
   exact .inr h2
  ·exact .inl (yb (.inr (.inl h1)))
  ·exact .inl (yb (.inr (.inr (.inl h1))))
  exact .inl (yb (.inr (.inr (.inr h1))))
 have st:Step (ob v1++(ob v2++(ob v3++ob v4))) w7 w8:=H.mono (λb hb=>yb (.inl hb));have g:∀{v:Value} {n sz:Nat} {cs:LV},Z7 base (ob v1++(ob v2++(ob v3++ob v4))) w7.heap v n sz cs→Z7 base (ob v'++(ob v2++(ob v3++ob v4))) w8.heap v n sz cs:=λa=>a.app st av
 refine ⟨by rw[Ll,LH];simpa using U,Qk E.o2 H (λb hb hm=>h.d12 b hm hb),Qk E.o3 H (λb hb hm=>h.d13 b hm hb),Qk E.o4 H (λb hb hm=>h.d14 b hm hb),qi h.d12 I (λx hx=>by have:=l.2.1 x hx;omega),qi h.d13 I (λx hx=>by have:=l.2.2.1 x hx;omega),qi h.d14 I (λx hx=>by have:=l.2.2.2 x hx;omega),h.d23,h.d24,h.d34,?_,?_⟩
 ·exact λp hp=>by
   rcases Lp.1 hp with hp | hp
   ·exact g (E.e1 p hp)
   simp only[List.mem_singleton] at hp;subst hp;exact g (Z7.of_own hq J (by omega) (λb hb=>by
   rcases Qcn hb with h1 | h1 | h1 | h1
   ·have:=l.1 b h1;omega
   ·have:=l.2.1 b h1;omega
   ·have:=l.2.2.1 b h1;omega
   have:=l.2.2.2 b h1;omega))
 exact λp hp=>g (E.e2 p hp)
theorem Ke.a2 {N e:Nat}{q:TV}(h:Ke base w v1 v2 v3 v4 cos rqs pls fbs) (hs:Step [] w w7) (hq:w7.ownsRow N e 1 q.1 q.2.length (q.2.map (.int .i64))) (J:q.2.length≤1099511627776) (V:w.heap.size≤N) (hb:base≤w.heap.size) (U:w8.ownsRow base 39 1 v' (rqs.length+1) (rqs.flatMap Yt++Yt q))
  (H:Step (ob v2) w7 w8) (I:∀b∈ob v',b∈ob v2∨w7.heap.size≤b):Ke base w8 v1 v' v3 v4 cos (rqs++[q]) pls fbs:=by
 have l:=h.lt;have Y:=hs.size;have E:=h.ext hs;have av:∀b∈ob v1++(ob v'++(ob v3++ob v4)),b∈ob v1++(ob v2++(ob v3++ob v4))∨w7.heap.size≤b:=by
  intro b hb;rcases Qcn hb with h1 | h1 | h1 | h1
  ·exact .inl (yb (.inl h1))
  ·rcases I b h1 with h2 | h2
   ·exact .inl (yb (.inr (.inl h2)))
   exact .inr h2
  ·exact .inl (yb (.inr (.inr (.inl h1))))
  exact .inl (yb (.inr (.inr (.inr h1))))
 have st:Step (ob v1++(ob v2++(ob v3++ob v4))) w7 w8:=H.mono (λb hb=>yb (.inr (.inl hb)));have g:∀{v:Value} {n sz:Nat} {cs:LV},Z7 base (ob v1++(ob v2++(ob v3++ob v4))) w7.heap v n sz cs→Z7 base (ob v1++(ob v'++(ob v3++ob v4))) w8.heap v n sz cs:=λa=>a.app st av
 refine ⟨Qk E.o1 H (λb hb hm=>h.d12 b hb hm),by rw[Ll,LH];simpa using U,Qk E.o3 H (λb hb hm=>h.d23 b hm hb),Qk E.o4 H (λb hb hm=>h.d24 b hm hb),VA h.d12 I (λx hx=>by have:=l.1 x hx;omega),h.d13,h.d14,qi h.d23 I (λx hx=>by have:=l.2.2.1 x hx;omega),qi h.d24 I (λx hx=>by have:=l.2.2.2 x hx;omega),h.d34,?_,?_⟩
 ·exact λp hp=>g (E.e1 p hp)
 exact λp hp=>by
  rcases Lp.1 hp with hp | hp
  ·exact g (E.e2 p hp)
  simp only[List.mem_singleton] at hp;subst hp;exact g (Z7.of_own hq J (by omega) (λb hb=>by
  rcases Qcn hb with h1 | h1 | h1 | h1
  ·have:=l.1 b h1;omega
  ·have:=l.2.1 b h1;omega
  ·have:=l.2.2.1 b h1;omega
  have:=l.2.2.2 b h1;omega))
theorem Ke.a3 {q:Int}(h:Ke base w v1 v2 v3 v4 cos rqs pls fbs) (hs:Step [] w w7) (J:w8.ownsRow base 3 1 v' (pls.length+1) (pls.map (.int .i64)++[.int .i64 q]))
  (H:Step (ob v3) w7 w8) (I:∀b∈ob v',b∈ob v3∨w7.heap.size≤b):Ke base w8 v1 v2 v' v4 cos rqs (pls++[q]) fbs:=by
 have l:=h.lt;have U:=hs.size;have E:=h.ext hs;have av:∀b∈ob v1++(ob v2++(ob v'++ob v4)),b∈ob v1++(ob v2++(ob v3++ob v4))∨w7.heap.size≤b:=by
  intro b hb;rcases Qcn hb with h1 | h1 | h1 | h1
  ·exact .inl (yb (.inl h1))
  ·exact .inl (yb (.inr (.inl h1)))
  ·rcases I b h1 with h2 | h2
   ·exact .inl (yb (.inr (.inr (.inl h2))))
   exact .inr h2
  exact .inl (yb (.inr (.inr (.inr h1))))
 have st:Step (ob v1++(ob v2++(ob v3++ob v4))) w7 w8:=H.mono (λb hb=>yb (.inr (.inr (.inl hb))));have g:∀{v:Value} {n sz:Nat} {cs:LV},Z7 base (ob v1++(ob v2++(ob v3++ob v4))) w7.heap v n sz cs→Z7 base (ob v1++(ob v2++(ob v'++ob v4))) w8.heap v n sz cs:=λa=>a.app st av
 refine ⟨Qk E.o1 H (λb hb hm=>h.d13 b hb hm),Qk E.o2 H (λb hb hm=>h.d23 b hb hm),Qs.snoc J,Qk E.o4 H (λb hb hm=>h.d34 b hm hb),h.d12,VA h.d13 I (λx hx=>by have:=l.1 x hx;omega),h.d14,VA h.d23 I (λx hx=>by have:=l.2.1 x hx;omega),h.d24,qi h.d34 I (λx hx=>by have:=l.2.2.2 x hx;omega),?_,?_⟩
 ·exact λp hp=>g (E.e1 p hp)
 exact λp hp=>g (E.e2 p hp)
theorem Ke.a4 {q:Rsn}(h:Ke base w v1 v2 v3 v4 cos rqs pls fbs) (hs:Step [] w w7) (J:w8.ownsRow base 190 4 v' (fbs.length+1) (fbs.flatMap YO++YO q))
  (H:Step (ob v4) w7 w8) (I:∀b∈ob v',b∈ob v4∨w7.heap.size≤b):Ke base w8 v1 v2 v3 v' cos rqs pls (fbs++[q]):=by
 have l:=h.lt;have U:=hs.size;have E:=h.ext hs;have av:∀b∈ob v1++(ob v2++(ob v3++ob v')),b∈ob v1++(ob v2++(ob v3++ob v4))∨w7.heap.size≤b:=by
  intro b hb;rcases Qcn hb with h1 | h1 | h1 | h1
  ·exact .inl (yb (.inl h1))
  ·exact .inl (yb (.inr (.inl h1)))
  ·exact .inl (yb (.inr (.inr (.inl h1))))
  rcases I b h1 with h2 | h2
  ·exact .inl (yb (.inr (.inr (.inr h2))))
  exact .inr h2
 have st:Step (ob v1++(ob v2++(ob v3++ob v4))) w7 w8:=H.mono (λb hb=>yb (.inr (.inr (.inr hb))));have g:∀{v:Value} {n sz:Nat} {cs:LV},Z7 base (ob v1++(ob v2++(ob v3++ob v4))) w7.heap v n sz cs→Z7 base (ob v1++(ob v2++(ob v3++ob v'))) w8.heap v n sz cs:=λa=>a.app st av
 refine ⟨Qk E.o1 H (λb hb hm=>h.d14 b hb hm),Qk E.o2 H (λb hb hm=>h.d24 b hb hm),Qk E.o3 H (λb hb hm=>h.d34 b hb hm),by rw[Ll,LH];simpa using J,h.d12,h.d13,VA h.d14 I (λx hx=>by have:=l.1 x hx;omega),h.d23,VA h.d24 I (λx hx=>by have:=l.2.1 x hx;omega),VA h.d34 I (λx hx=>by have:=l.2.2.1 x hx;omega),?_,?_⟩
 ·exact λp hp=>g (E.e1 p hp)
 exact λp hp=>g (E.e2 p hp)
theorem jv (c:Q4) (pl:QD) (ps:List (LI)):∀(l:List (LI)) (i:Nat) (s:Spc),(l.zipIdx i).foldl (Qnw c pl ps) s =
  ⟨s.a,s.co++l.map (·.take c.co.length),s.rq++l.map (·.drop c.co.length),s.pl++l.map (λt=>plx ps (t.take c.co.length)),s.fb++(l.zipIdx i).filterMap (λp=>rsn c pl (plx ps (p.1.take c.co.length)) p.2 p.1)⟩
 | [],i,s=>by simp
 | t::l,i,s=>by
  rw[List.zipIdx_cons,LM,jv c pl ps l (i+1)];unfold Qnw;simp only[List.map_cons,List.append_assoc,List.cons_append,List.nil_append,List.filterMap_cons];cases rsn c pl (plx ps (t.take c.co.length)) i t with
  | none=>rfl
  | some r=>simp
theorem zy {c:Q4}{rs:LI}:∀{l:LI},(∀x∈wrf c.rq rs l,(c.ev.getD x.1.toNat ⟨.empty,false,false,false,0⟩).co=true)→rfd c rs l=none
 | [],_=>rfl
 | v::l,h=>by
  rw[wrf] at h;rw[rfd];by_cases h1:0≤rfr v 0 c.rq rs
  ·rw[if_pos h1] at h;have h2:=h _ Lm;simp only[] at h2;rw[if_neg (λe=>by rw[h2] at e;cases e.2)];exact zy λx hx=>h x (Lk _ hx)
  rw[if_neg h1] at h;rw[if_neg (λe=>h1 e.1)];exact zy h
theorem zx {c:Q4}{rs:LI}{x:Int×Int}{t:List (Int×Int)}:∀{l:LI}{p:List (Int×Int)},wrf c.rq rs l=p++x::t→(∀y∈p,(c.ev.getD y.1.toNat ⟨.empty,false,false,false,0⟩).co=true)→(c.ev.getD x.1.toNat ⟨.empty,false,false,false,0⟩).co=false→rfd c rs l=some (x.2,x.1)
 | [],p,h,_,_=>by simp[wrf] at h
 | v::l,p,h,hp,hx=>by
  rw[wrf] at h;rw[rfd];by_cases h1:0≤rfr v 0 c.rq rs
  ·rw[if_pos h1] at h;cases p with
   | nil =>
    simp only[List.nil_append,List.cons.injEq] at h;obtain ⟨h2,_⟩:=h;subst h2;rw[if_pos ⟨h1,hx⟩]
   | cons y p =>
    simp only[List.cons_append,List.cons.injEq] at h;obtain ⟨h2,h3⟩:=h;have h4:=hp y Lm;subst h2;rw[if_neg (λe=>by simp only[] at h4;rw[h4] at e;cases e.2)];exact zx h3 (λy hy=>hp y (Lk _ hy)) hx
  rw[if_neg h1] at h;rw[if_neg (λe=>h1 e.1)];exact zx h hp hx
theorem Qhl (c:Q4) (t:LI):vio c t=if (y8 c.ex c.cs t).2.2=true then some ((y8 c.ex c.cs t).1,(y8 c.ex c.cs t).2.1) else none:=by
 unfold vio y8;by_cases h1:0≤fix (JZ t) 0 c.ex
 ·rw[if_pos h1,if_pos h1];rfl
 rw[if_neg h1,if_neg h1];by_cases h2:0≤fix (KA t) 0 c.cs
 ·rw[if_pos h2,if_pos h2];rfl
 rw[if_neg h2,if_neg h2];rfl
def QqI (N:Nat) (H:Array Obj) (v:Value) (s:Spc):Prop:=∃va vm ve v1 v2 v3 v4 cos rqs,v=.agg #[va,.int .i64 s.a.st,vm,ve,v1,v2,v3,v4]∧cos.map (·.2)=s.co∧rqs.map (·.2)=s.rq ∧
 ∀L:LN,(∀b∈L,b<N)→Zq L H va vm ve s.a∧JA L H v1 cos∧JA L H v2 rqs∧QL L H v3 s.pl∧ZA L H v4 s.fb.length 4 (s.fb.flatMap YO)
end Go.Proofs.YtjcgijbhaemldaaGreatDoor
namespace Go.Lg
open Go.RowKit
def sl (d:Option Nat) (f:Fr):Value:=match d with | some d=>f d | none=>undef
def ow:Value→LN
 | .slice (some a) _ _=>[a.block]
 | .pointer (some a)=>[a.block]
 | .map (some b)=>[b]
 | _=>[]
def Fa (p:Nat→Prop):LN→Prop
 | []=>True
 | i::l=>p i∧Fa p l
theorem Fa.all {p:Nat→Prop}:∀{l:LN},Fa p l→∀i∈l,p i
 | [],_,_,hi=>by cases hi
 | j::l,h,i,hi=>by
  rcases Lh.1 hi with rfl | hi
  ·exact h.1
  exact Fa.all h.2 i hi
theorem Fa.of {p:Nat→Prop}:∀{l:LN},(∀i∈l,p i)→Fa p l
 | [],_=>trivial
 | i::_,h=>⟨h i Lm,Fa.of λj hj=>h j (Lk _ hj)⟩
def zG (all:Array Oper) (opn:LN) (rest:List (Nat×Bool)):Nat→Array Bool→Bool
 | 0,ls=>Y9 all rest ls && opn.all λi=>ls.getD i false
 | k+1,ls=>!(Region.ready .any all ls).isEmpty && (Region.ready .any all ls).all λi=>opn.contains i && zG all opn rest k (ls.setIfInBounds i true)
def qu (all:List Oper) (D:List (Nat×Nat)):LN→Bool
 | []=>true
 | i::l=>(QK all i).guard.isNone && (match (QK all i).dst with | some d=>Xp D d && l.all (λj=>!((QK all j).dst == some d)) | none=>false) && !l.contains i && qu all D l
theorem Yf {all:List Oper}{D:List (Nat×Nat)}:∀{l:LN},qu all D l=true→(∀i∈l,(QK all i).guard=none∧∃d,(QK all i).dst=some d∧Xp D d=true)∧∀i∈l,∀j∈l,i≠j→(QK all i).dst≠(QK all j).dst
 | [],_=>⟨λ_ h=>(by cases h),λ_ h=>(by cases h)⟩
 | i::l,h=>by
  simp only[qu,Bool.and_eq_true,Option.isNone_iff_eq_none] at h;obtain ⟨⟨⟨J,hd⟩,hc⟩,hl⟩:=h;have ih:=Yf hl;cases E:(QK all i).dst with
  | none=>rw[E] at hd;cases hd
  | some d =>
   rw[E] at hd;simp only[Bool.and_eq_true,List.all_eq_true,Bool.not_eq_true',beq_eq_false_iff_ne,ne_eq] at hd;have H:∀j∈l,(QK all j).dst≠some d:=λj hj=>hd.2 j hj;refine ⟨λj hj=>?_,λj hj k hk I=>?_⟩
   ·rcases Lh.1 hj with rfl | hj
    ·exact ⟨J,d,E,hd.1⟩
    exact ih.1 j hj
   rcases Lh.1 hj with hj1 | hj1
   ·rcases Lh.1 hk with hk1 | hk1
    ·exact absurd (hj1.trans hk1.symm) I
    rw[hj1,E];exact λe=>H k hk1 e.symm
   rcases Lh.1 hk with hk1 | hk1
   ·rw[hk1,E];exact H j hj1
   exact ih.2 j hj1 k hk1 I
def QpJ (all:List Oper) (pre:List (Nat×Bool)) (opn:LN) (rest:List (Nat×Bool)) (D:List (Nat×Nat)):Bool :=
 Region.noSelect all.toArray && (pre.length+(opn.length+rest.length) == all.length) && XI all.toArray pre (Array.replicate all.length false) && qu all D opn && zG all.toArray opn rest opn.length (Zu pre (Array.replicate all.length false))
  && opn.all λi=>!((Zu pre (Array.replicate all.length false)).getD i false)
section
variable {P:Program} {n:Nat} {f:Fr} {w:World} {all:List Oper} {C:World→Prop} {K:Fr→World→Prop}
theorem Ju {o:Oper}(h:o.guard=none):Yi all f o=true:=by unfold Yi;rw[h]
theorem Qgq {α:Type}{D:List (Nat×Nat)}{opn:LN}{rest:List (Nat×Bool)}{Φ:Nat→Value→World→Prop}{S:α→List (Nat×Value)}{I:α→World→Prop}{f1:Fr}(hs:Region.noSelect all.toArray=true) (ha:qu all D opn=true)
  (hm:∀w w',C w→Step [] w w'→C w') (stab:∀i v w w',Φ i v w→Step [] w w'→Φ i v w')
  (hn:∀(g:Fr) w,Fa (λi=>Φ i (sl (QK all i).dst g) w) opn→(∀i∈opn,∀j∈opn,i≠j→∀b∈ow (sl (QK all i).dst g),b∉ow (sl (QK all j).dst g))→∃z,Y4 g (S z)∧I z w)
  (spec:Fa (λi=>∀g w,C w→XO P (QK all i) (mix D f1 g) w (λf' w'=>Step [] w w'∧Φ i (sl (QK all i).dst f') w'∧∀b∈ow (sl (QK all i).dst f'),w.heap.size≤b∧b<w'.heap.size)) opn)
  (fin:∀z g w,C w→I z w→XP P all C K rest (VP (S z) (mix D f1 g)) w) :
  ∀(k:Nat) (ls:Array Bool) (f:Fr) (w:World),ls.size=all.length→C w→zG all.toArray opn rest k ls=true→(∀t,Xp D t=false→f t=f1 t)→(∀i∈opn,ls.getD i false=true→Φ i (sl (QK all i).dst f) w) →
   (∀i∈opn,ls.getD i false=true→(∀b∈ow (sl (QK all i).dst f),b<w.heap.size)∧∀j∈opn,ls.getD j false=true→i≠j→∀b∈ow (sl (QK all i).dst f),b∉ow (sl (QK all j).dst f))→XA P all C K (k+rest.length) ls f w
 | 0,ls,f,w,he,hC,hp,hf,hh,H=>by
  simp only[zG,Bool.and_eq_true,List.all_eq_true] at hp;obtain ⟨z,h1,h2⟩:=hn f w (Fa.of λi hi=>hh i hi (hp.2 i hi)) (λi hi j hj E=>(H i hi (hp.2 i hi)).2 j hj (hp.2 j hj) E);have h3:=fin z f w hC h2;rw[Xk hf,YB h1] at h3;rw[LR];exact Zy hs rest ls f w he (.inl hC) hp.1 h3
 | k+1,ls,f,w,he,hC,hp,hf,hh,H=>by
  simp only[zG,Bool.and_eq_true,List.all_eq_true,List.contains_iff_mem] at hp;obtain ⟨hc,hp⟩:=hp;rw[Nat.add_right_comm];refine Y7 (λh0=>(by rw[h0] at hc;cases hc)) ?_;intro i hi o ho;obtain ⟨hl,hw⟩:=hp i hi;obtain ⟨hg,d,hd,hy⟩:=(Yf ha).1 i hl;have h4:=(Yf ha).2;have hsp:=Fa.all spec i hl f w hC;rw[Xk hf] at hsp;have J:=Zd ho;rw[J] at hg hd hsp;rw[Ju hg,cond_true]
  refine hsp.mono λv w' hx=>?_;have hq:=hm w w' hC hx.1;have hz:=hx.1.size;have old:∀j∈opn,j≠i→sl (QK all j).dst (QV f o.dst v)=sl (QK all j).dst f:=λj hj E=>by
   obtain ⟨_,dj,hr,_⟩:=(Yf ha).1 j hj;have hc:o.dst≠some dj:=λe=>h4 j hj i hl E (by rw[hr,J];exact e.symm);rw[hr];exact Z1 hc v
  have lsj:∀j,j≠i→(ls.setIfInBounds i true).getD j false=true→ls.getD j false=true:=λj E h=>by rw[getD_set_ne false (Ne.symm E)] at h;exact h
  refine ⟨.inr (.inr hq),Qgq hs ha hm stab hn spec fin k _ _ _ (by simpa using he) hq hw (λt ht=>?_) (λj hj Y=>?_) (λj hj Y=>⟨λb hb=>?_,λk hk hu hv b hb U=>?_⟩)⟩
  ·rw[Z1 (by rw[hd];intro e;cases e;rw[hy] at ht;cases ht)];exact hf t ht
  ·by_cases E:j=i
   ·subst E;have h2:=hx.2.1;rw[J];exact h2
   rw[old j hj E];exact stab _ _ _ _ (hh j hj (lsj j E Y)) hx.1
  ·by_cases E:j=i
   ·subst E;rw[J] at hb;exact (hx.2.2 b hb).2
   rw[old j hj E] at hb;have:=(H j hj (lsj j E Y)).1 b hb;omega
  by_cases E:j=i
  ·subst E;have V:k≠j:=Ne.symm hv;rw[old k hk V] at U;rw[J] at hb;have h1:=(H k hk (lsj k V hu)).1 b U;have h2:=(hx.2.2 b hb).1;omega
  rw[old j hj E] at hb;have h1:=(H j hj (lsj j E Y)).1 b hb;by_cases V:k=i
  ·subst V;rw[J] at U;have h2:=(hx.2.2 b U).1;omega
  rw[old k hk V] at U;exact (H j hj (lsj j E Y)).2 k hk (lsj k V hu) hv b hb U
theorem Qgr {α:Type}{Q:Exit→Fr→World→Prop}{id:Nat}(C:World→Prop) (pre:List (Nat×Bool)) (opn:LN) (rest:List (Nat×Bool)) (D:List (Nat×Nat)) (Φ:Nat→Value→World→Prop) (S:α→List (Nat×Value)) (I:α→World→Prop)
  (hm:P.follows .mixedOrders=true) (U:Xs n all=true) (hp:QpJ all pre opn rest D=true) (hC:C { w with drawn:=w.drawn+1 }) (V:∀w w',C w→Step [] w w'→C w') (stab:∀i v w w',Φ i v w→Step [] w w'→Φ i v w')
  (Y:∀(g:Fr) w,Fa (λi=>Φ i (sl (QK all i).dst g) w) opn→(∀i∈opn,∀j∈opn,i≠j→∀b∈ow (sl (QK all i).dst g),b∉ow (sl (QK all j).dst g))→∃z,Y4 g (S z)∧I z w)
  (h:XP P all C (λf1 _=>Fa (λi=>∀g w,C w→XO P (QK all i) (mix D f1 g) w (λE w'=>Step [] w w'∧Φ i (sl (QK all i).dst E) w'∧∀b∈ow (sl (QK all i).dst E),w.heap.size≤b∧b<w'.heap.size)) opn ∧
   ∀z g w,C w→I z w→XP P all C (λf w=>Q .normal f w) rest (VP (S z) (mix D f1 g)) w) pre f { w with drawn:=w.drawn+1 }):W P n (.region id all.toArray true) Q f w:=by
 simp only[QpJ,Bool.and_eq_true,beq_iff_eq,List.all_eq_true,Bool.not_eq_true'] at hp;obtain ⟨⟨⟨⟨⟨hs,hl⟩,hq⟩,ha⟩,hb⟩,H⟩:=hp;refine Xe C hm U ?_;rw[←hl];have hc:(Array.replicate all.length false).size=all.length:=by simp
 have h1:=ZR (K:=λf w=>Q .normal f w) (m:=opn.length+rest.length) hs pre (Array.replicate all.length false) f _ hC hq (λf1 J=>Qgq (P:=P) (C:=C) hs ha V stab Y J.1 J.2 opn.length (Zu pre (Array.replicate all.length false)) f1 _ (by rw[ZQ];exact hc) hC hb (λ_ _=>Z) (λi hi ht=>by rw[H i hi] at ht;cases ht) (λi hi ht=>by rw[H i hi] at ht;cases ht)) h;rw[hl] at h1 ⊢;exact h1
end
def yh (all:Array Oper) (i:Nat) (rest:List (Nat×Bool)):List (Nat×Bool)→Array Bool→Bool
 | [],ls=>Region.ready .any all ls == [i] && Y9 all rest (ls.setIfInBounds i true)
 | (j,true)::l,ls=>(Region.ready .any all ls).contains j && Region.free .any all ls j && yh all i rest l (ls.setIfInBounds j true)
 | (j,false)::l,ls=>!(Region.ready .any all ls).isEmpty && (Region.ready .any all ls).all (λk=>k == j || k == i) && Y9 all ((j,false)::(l++rest)) (ls.setIfInBounds i true) && yh all i rest l (ls.setIfInBounds j true)
def Yv (all:List Oper) (d:Nat) (l:List (Nat×Bool)):Bool:=l.all λp=>!((QK all p.1).looksAt all.toArray).contains d && !((QK all p.1).dst == some d)
def Qjl (all:List Oper) (pre l:List (Nat×Bool)) (i:Nat) (rest:List (Nat×Bool)):Bool :=
 Region.noSelect all.toArray && (pre.length+(l.length+1+rest.length) == all.length) && XI all.toArray pre (Array.replicate all.length false) && yh all.toArray i rest l (Zu pre (Array.replicate all.length false))
  && (QK all i).guard.isNone && (match (QK all i).dst with | some d=>Yv all d l | none=>false)
def XF (P:Program) (all:List Oper) (C:World→Prop) (K:Fr→World→Prop):List (Nat×Bool)→LN→Fr→World→Prop
 | [],_,f,w=>K f w
 | (j,true)::l,own,f,w=>Yi all f (QK all j)=true∧∃v,(∀w',(yV (QK all j)=true→C w')→(execOp (ev f) (QK all j)).run P w'=.ok (.value v) w')∧XF P all C K l own (QV f (QK all j).dst v) w
 | (j,false)::l,own,f,w=>Yi all f (QK all j)=true∧∀w1,Step [] w w1→C w1→XO P (QK all j) f w1 λE w'=>C w'∧∃own',Step own w1 w'∧(∀b∈own',b∈own∨(w1.heap.size≤b∧b<w'.heap.size))∧XF P all C K l own' E w'
section
variable {P:Program} {n:Nat} {f:Fr} {w:World} {all:List Oper} {C:World→Prop} {K KF:Fr→World→Prop}
theorem XF.ext (E:∀f w w',KF f w→Step [] w w'→KF f w'):∀{l:List (Nat×Bool)}{own:LN}{f:Fr}{w w':World},XF P all C KF l own f w→Step [] w w'→XF P all C KF l own f w'
 | [],_,_,_,_,h,hs=>E _ _ _ h hs
 | (_,true)::_,_,_,_,_,h,hs=>by
  obtain ⟨H,v,I,hx⟩:=h;exact ⟨H,v,I,XF.ext E hx hs⟩
 | (_,false)::_,_,_,_,_,h,hs=>⟨h.1,λJ h1 hc=>h.2 J (hs.trans h1) hc⟩
attribute [local semireducible] XO in
theorem Qgn {o:Oper}(hs:∀cs b,o.op≠.select cs b) {d:Nat}{v:Value}{K':Fr→World→Prop}(h1:d∉o.looksAt all.toArray) (h2:o.dst≠some d) (E:∀u w',K (QV f o.dst u) w'→K' (QV (QV f o.dst u) (some d) v) w')
  (h:XO P o f w K):XO P o (QV f (some d) v) w K':=by
 have hc:∀u,QV (QV f (some d) v) o.dst u=QV (QV f o.dst u) (some d) v:=λu=>Vr f v u (λe he=>by cases he;exact h2);unfold XO at *;rw[XW (all:=all) hs f (some d) v (λe he=>by cases he;exact h1)];generalize (execOp (ev f) o).run P w=r at *;cases r with
 | ok nx w' =>
  cases nx <;> simp only[upF] at h ⊢
  case value u=>rw[hc];exact E u w' h
  case skip=>rw[hc];exact E _ w' h
  case enter g args =>
   refine Calls.mono h λe H he=>?_;cases e with
   | returned u=>simp only at he ⊢;rw[hc];exact E u H he
   | panicked c=>exact he.elim
   | outgrown=>exact he.elim
 | halt x w'=>exact h.elim
theorem K3 {D:List (Nat×Nat)}{f E:Fr}{dst:Option Nat}{v:Value}(hd:inD D dst=true) (h:∀t,Xp D t=false→f t=E t):∀t,Xp D t=false→QV f dst v t=E t:=λt ht =>
 (Z1 (λe=>by rw[e] at hd;simp only[inD] at hd;rw[hd] at ht;cases ht) v).trans (h t ht)
def Yr (all:List Oper) (D:List (Nat×Nat)) (l:List (Nat×Bool)):Bool:=l.all λp=>inD D (QK all p.1).dst
structure Fl (P:Program) (all:List Oper) (C:World→Prop) (K KF:Fr→World→Prop) (i d:Nat) (rest:List (Nat×Bool)) (Φ:Value→World→Prop) (Dc:List (Nat×Nat)) (f1:Fr):Prop where
 stab:∀v (own:LN) w w',Φ v w→Step own w w'→(∀b∈ow v,b∉own)→Φ v w'
 spec:∀f w,(∀t,Xp Dc t=false→f t=f1 t)→C w→XO P (QK all i) f w λf' w'=>Step [] w w'∧C w'∧Φ (f' d) w'∧∀b∈ow (f' d),w.heap.size≤b∧b<w'.heap.size
 fin:∀f w,KF f w→∀v,C w→Φ v w→XP P all C K rest (QV f (some d) v) w
 mono:∀f w w',KF f w→Step [] w w'→KF f w'
attribute [local semireducible] XP in
theorem yJ {i d:Nat}{rest:List (Nat×Bool)}{Φ:Value→World→Prop}{Dc:List (Nat×Nat)}{f1:Fr}(H:Fl P all C K KF i d rest Φ Dc f1) (hs:Region.noSelect all.toArray=true) {v:Value}:∀(l:List (Nat×Bool)) (own:LN) (f:Fr) (w:World),Yv all d l=true→XF P all C KF l own f w→C w→Φ v w →
  (∀b∈ow v,b∉own∧b<w.heap.size)→XP P all C K (l++rest) (QV f (some d) v) w
 | [],own,f,w,_,h,hC,I,_=>H.fin f w h v hC I
 | (j,q)::l,own,f,w,hfr,h,hC,I,hb=>by
  simp only[Yv,List.all_cons,Bool.and_eq_true,Bool.not_eq_true',List.contains_eq_mem,decide_eq_false_iff_not,beq_eq_false_iff_ne,ne_eq] at hfr;obtain ⟨⟨h1,h2⟩,hfr⟩:=hfr;have J:Yv all d l=true:=by simpa[Yv] using hfr
  have V:∀cs b,(QK all j).op≠.select cs b:=by
   intro cs b;cases U:all[j]? with
   | none =>
    have:QK all j=default:=by
     clear h h1 h2 hfr J;have key:∀(l:List Oper) (j:Nat),l[j]?=none→QK l j=default:=by
      intro l;induction l with
      | nil=>intro j _;rfl
      | cons a l ih=>intro j hj;cases j with | zero=>simp at hj | succ j=>exact ih j (by simpa using hj)
     exact key all j U
    rw[this];intro e;cases e
   | some o=>rw[Zd U];exact Region.noSelect_spec hs j o cs b (by simpa using U)
  have hd:∀e,some d=some e→e∉(QK all j).looksAt all.toArray:=λe he=>by cases he;exact h1
  cases q with
  | true =>
   obtain ⟨hg,u,hu,hx⟩:=h;simp only[List.cons_append,XP];rw[J8 (QK all j) f (some d) v hd,hg,cond_true,cond_true];refine ⟨u,λw' hc=>?_,?_⟩
   ·rw[XW (all:=all) V f (some d) v hd];exact hu w' hc
   rw[Vr f v u (λe he=>by cases he;exact h2)];exact yJ H hs l own _ w J hx hC I hb
  | false =>
   simp only[List.cons_append,XP];rw[J8 (QK all j) f (some d) v hd,h.1,cond_true,cond_false];refine Qgn (all:=all) V h1 h2 (λu w' hx=>?_) (h.2 w (Step.refl _ _) hC);obtain ⟨Y,own',ha,hf,hx⟩:=hx;refine ⟨.inr (.inr Y),yJ H hs l own' _ w' J hx Y (H.stab v own w w' I ha (λb E=>(hb b E).1)) (λb E=>⟨λhm=>?_,Mc (hb b E).2 ha.size⟩)⟩
   rcases hf b hm with h3 | h3
   ·exact (hb b E).1 h3
   exact Nat.lt_irrefl _ (Mc (hb b E).2 h3.1)
theorem Qkk {i d:Nat}{rest:List (Nat×Bool)}{Φ:Value→World→Prop}{Dc:List (Nat×Nat)}{f1:Fr}(H:Fl P all C K KF i d rest Φ Dc f1) (hs:Region.noSelect all.toArray=true) (U:(QK all i).guard=none) (hd:(QK all i).dst=some d):∀(l:List (Nat×Bool)) (ls:Array Bool) (own:LN) (f:Fr) (w:World),ls.size=all.length→Yv all d l=true→Yr all Dc l=true→(∀t,Xp Dc t=false→f t=f1 t) →
  XF P all C KF l own f w→C w→(∀b∈own,b<w.heap.size)→yh all.toArray i rest l ls=true→XA P all C K (l.length+1+rest.length) ls f w
 | [],ls,own,f,w,V,hfr,I,hk1,h,hC,Y,hp=>by
  simp only[yh,Bool.and_eq_true,beq_iff_eq] at hp;obtain ⟨J,hp⟩:=hp;rw[show ([]:List (Nat×Bool)).length+1+rest.length=rest.length+1 by simp;omega];refine Y7 (λh0=>(by rw[h0] at J;cases J)) ?_;rw[J];intro k hk o E;have hc:k=i:=by simpa using hk
  subst hc;have ha:=Zd E;have hx:=H.spec f w hk1 hC;rw[ha] at U hd hx;rw[Ju U,cond_true];refine hx.mono λv w' hx=>?_;rw[hd] at hx ⊢;obtain ⟨h1,h2,h3,h4⟩:=hx;simp only[QV,Y0] at h3 h4;refine ⟨.inr (.inr h2),Zy hs rest _ _ _ (by simpa using V) (.inl h2) hp (H.fin f w' (H.mono f w w' h h1) v h2 h3)⟩
 | (j,true)::l,ls,own,f,w,V,hfr,I,hk1,h,hC,Y,hp=>by
  simp only[yh,Bool.and_eq_true] at hp;obtain ⟨⟨J,hf⟩,he⟩:=hp;have hl:j∈Region.ready .any all.toArray ls:=by simpa using J
  have e:(List.length ((j,true)::l))+1+rest.length=(l.length+1+rest.length)+1:=by simp;omega
  rw[e];have hh:Yv all d l=true:=by simp only[Yv,List.all_cons,Bool.and_eq_true] at hfr;exact hfr.2
  simp only[Yr,List.all_cons,Bool.and_eq_true] at I;have hi:Yr all Dc l=true:=I.2;cases E:all[j]? with
  | none =>
   exfalso;obtain ⟨_,o,hw,_⟩:=mem_ready.1 hl;simp[E] at hw
  | some o =>
   obtain ⟨hn,v,hv,hx⟩:=h;rw[Zd E] at hn hv hx;have hy:∀(j:Nat) (o:Oper) cs b,all[j]?=some o→o.op≠.select cs b:=λj o cs b hj=>Region.noSelect_spec hs j o cs b (by simpa using hj);have hz:=λk ok hk=>Region.free_spec (ops:=all.toArray) (md:=.any) (i:=j) (oi:=o) (listed:=ls) (by simpa using E) hf k ok (by simpa using hk)
   exact XX (v:=v) (D:=λw=>yV o=true→C w) E (λ_ h=>h) hy _ ls f w (λ_=>hC) hz hl (.inl ⟨hn,hv⟩) (Qkk H hs U hd l _ own _ w (by simpa using V) hh hi (by have:=K3 (v:=v) I.1 hk1;rw[Zd E] at this;exact this) hx hC Y he)
 | (j,false)::l,ls,own,f,w,V,hfr,I,hk1,h,hC,Y,hp=>by
  simp only[yh,Bool.and_eq_true,List.all_eq_true,Bool.or_eq_true,beq_iff_eq,Bool.not_eq_true'] at hp;obtain ⟨⟨⟨hq,J⟩,h5⟩,he⟩:=hp;have e:(List.length ((j,false)::l))+1+rest.length=(l.length+1+rest.length)+1:=by simp;omega
  rw[e];have hh:Yv all d l=true:=by simp only[Yv,List.all_cons,Bool.and_eq_true] at hfr;exact hfr.2
  simp only[Yr,List.all_cons,Bool.and_eq_true] at I;have hi:Yr all Dc l=true:=I.2;refine Y7 (λh0=>(by rw[h0] at hq;cases hq)) ?_;intro k hk o E;have ha:=Zd E;have ht:(ls.setIfInBounds k true).size=all.length:=by simpa using V
  by_cases hc:k=i
  ·subst hc;have hx:=H.spec f w hk1 hC;rw[ha] at U hd hx;rw[Ju U,cond_true];refine hx.mono λv w' hx=>?_;rw[hd] at hx ⊢;obtain ⟨h1,h2,h3,h4⟩:=hx;simp only[QV,Y0] at h3 h4;refine ⟨.inr (.inr h2),?_⟩;have hx:=yJ H hs ((j,false)::l) own f w' hfr (XF.ext H.mono h h1) h2 h3 (λb hb=>⟨λhm=>Nat.lt_irrefl _ (Mc (Y b hm) (h4 b hb).1),(h4 b hb).2⟩)
   have:=Zy hs ((j,false)::(l++rest)) _ _ _ ht (.inl h2) h5 hx;rw[show ((j,false)::(l++rest)).length=l.length+1+rest.length by simp;omega] at this;exact this
  have h6:k=j:=(J k hk).resolve_right hc;subst h6;have h1:=h.1;have h2:=h.2 w (Step.refl _ _) hC;rw[ha] at h1 h2;rw[h1,cond_true];refine h2.mono λv w' hx=>?_;obtain ⟨hu,own',h7,h8,hx⟩:=hx;refine ⟨.inr (.inr hu),Qkk H hs U hd l _ own' _ w' ht hh hi (by have:=K3 (v:=v) I.1 hk1;rw[ha] at this;exact this) hx hu (λb hb=>?_) he⟩;rcases h8 b hb with h3 | h3
  ·exact Mc (Y b h3) h7.size
  exact h3.2
theorem QmS {ro:Option Nat}{m:Nat}{ds:LN}{Q:Exit→LN→Fr→World→Prop}{id:Nat}(C:World→Prop) (pre l:List (Nat×Bool)) (i d:Nat) (rest:List (Nat×Bool)) (own:LN) (KF:Fr→World→Prop) (Φ:Value→World→Prop) (Dc:List (Nat×Nat)) (hm:P.follows .mixedOrders=true) (I:Xs n all=true) (J:Qcj all=true)
  (hp:Qjl all pre l i rest=true) (U:Yr all Dc l=true) (hd:(QK all i).dst=some d) (hC:C { w with drawn:=w.drawn+1 }) (V:∀b∈own,b<w.heap.size)
  (h:XP P all C (λf1 _=>Fl P all C (λf w=>Q .normal ds f w) KF i d rest Φ Dc f1∧XF P all C KF l own f1 { w with drawn:=w.drawn+1 }) pre f { w with drawn:=w.drawn+1 }):WG ro m P n (.region id all.toArray true) Q ds f w:=by
 unfold WG;intro a ha;simp only[Qjl,Bool.and_eq_true,beq_iff_eq,Option.isNone_iff_eq_none] at hp;obtain ⟨⟨⟨⟨⟨hs,hl⟩,hq⟩,Y⟩,hg⟩,hfr⟩:=hp;rw[hd] at hfr;refine wpIn_region_any hm ?_;have h1:=ZR (K:=λf w=>Q .normal ds f w) (m:=l.length+1+rest.length) hs pre (Array.replicate all.length false) f _ hC hq
  (λf1 H=>Qkk H.1 hs hg hd l (Zu pre (Array.replicate all.length false)) own f1 _ (by rw[ZQ];simp) hfr U (λ_ _=>rfl) H.2 hC V Y) h
 rw[hl] at h1;have h2:=zd (ro:=ro) (m:=m) (n:=n) (ds:=ds) (Q:=λe a' w'=>∃ds' E,YU n ds' a' E∧(∀t,ZW all t=false→E t=f t)∧Q e ds' E w') (Xa I) (VV J) f
  (λa E w hr hk hq=>⟨ds,E,hr,hk,hq⟩) _ _ a f _ ha (λ_ _=>Z) h1
 simpa[XY] using h2
theorem XP.keeps_mono {K':Fr→World→Prop}:∀(l:List (Nat×Bool)) (f:Fr) (w:World),XP P all C K l f w→(∀f w,K f w→K' f w)→XP P all C K' l f w
 | [],f,w,h,hk=>by simp only[XP] at h ⊢;exact hk _ _ h
 | (j,q)::l,f,w,h,hk=>by
  simp only[XP] at h ⊢;cases E:Yi all f (QK all j) with
  | false=>rw[E] at h;exact XP.keeps_mono l _ _ h hk
  | true =>
   rw[E] at h;cases q with
   | true=>obtain ⟨v,H,hx⟩:=h;exact ⟨v,H,XP.keeps_mono l _ _ hx hk⟩
   | false=>exact XO.mono (λv w' hx=>⟨hx.1,XP.keeps_mono l _ _ hx.2 hk⟩) h
theorem XP.keeps {D:List (Nat×Nat)}{I:Fr}:∀(l:List (Nat×Bool)) (f:Fr) (w:World),Yr all D l=true→(∀t,Xp D t=false→f t=I t)→XP P all C K l f w→XP P all C (λJ w'=>(∀t,Xp D t=false→J t=I t)∧K J w') l f w
 | [],f,w,_,E,h=>by simp only[XP] at h ⊢;exact ⟨E,h⟩
 | (j,q)::l,f,w,hd,E,h=>by
  simp only[Yr,List.all_cons,Bool.and_eq_true] at hd;have H:Yr all D l=true:=hd.2;simp only[XP] at h ⊢;cases U:Yi all f (QK all j) with
  | false=>rw[U] at h;exact XP.keeps l _ _ H (K3 hd.1 E) h
  | true =>
   rw[U] at h;cases q with
   | true=>obtain ⟨v,V,hx⟩:=h;exact ⟨v,V,XP.keeps l _ _ H (K3 hd.1 E) hx⟩
   | false=>exact XO.mono (λv w' hx=>⟨hx.1,XP.keeps l _ _ H (K3 hd.1 E) hx.2⟩) h
theorem XF.keeps {D:List (Nat×Nat)}{H:Fr}:∀(l:List (Nat×Bool)) (own:LN) (f:Fr) (w:World),Yr all D l=true→(∀t,Xp D t=false→f t=H t)→XF P all C K l own f w→XF P all C (λI w'=>(∀t,Xp D t=false→I t=H t)∧K I w') l own f w
 | [],own,f,w,_,E,h=>⟨E,h⟩
 | (j,true)::l,own,f,w,hd,E,h=>by
  simp only[Yr,List.all_cons,Bool.and_eq_true] at hd;obtain ⟨J,v,U,hx⟩:=h;exact ⟨J,v,U,XF.keeps l own _ _ hd.2 (K3 hd.1 E) hx⟩
 | (j,false)::l,own,f,w,hd,E,h=>by
  simp only[Yr,List.all_cons,Bool.and_eq_true] at hd;refine ⟨h.1,λV h1 hc=>XO.mono (λv w' hx=>?_) (h.2 V h1 hc)⟩;obtain ⟨Y,own',ha,hb,hx⟩:=hx;exact ⟨Y,own',ha,hb,XF.keeps l own' _ _ hd.2 (K3 hd.1 E) hx⟩
theorem Qkx {ro:Option Nat}{m:Nat}{ds:LN}{Q:Exit→LN→Fr→World→Prop}{id:Nat}{α:Type}(C:World→Prop) (pre l:List (Nat×Bool)) (i d:Nat) (rest:List (Nat×Bool)) (own:LN) (D Dc:List (Nat×Nat)) (S:α→List (Nat×Value)) (I:α→World→Prop) (Φ:Value→World→Prop) (hm:P.follows .mixedOrders=true) (U:Xs n all=true) (V:Qcj all=true)
  (hp:Qjl all pre l i rest=true) (H:(Yr all D pre && Yr all D l && Yr all Dc l)=true) (hd:(QK all i).dst=some d) (hC:C { w with drawn:=w.drawn+1 }) (Y:∀b∈own,b<w.heap.size)
  (stab:∀v (own:LN) w w',Φ v w→Step own w w'→(∀b∈ow v,b∉own)→Φ v w') (mono:∀z w w',I z w→Step [] w w'→I z w')
  (fin:∀z g w v,I z w→C w→Φ v w→XP P all C (λf w=>Q .normal ds f w) rest (QV (VP (S z) (mix D f g)) (some d) v) w)
  (h:XP P all C (λf1 _=>(∀g w,C w→XO P (QK all i) (mix Dc f1 g) w λE w'=>Step [] w w'∧C w'∧Φ (E d) w'∧∀b∈ow (E d),w.heap.size≤b∧b<w'.heap.size)∧XF P all C (λE w'=>∃z,Y4 E (S z)∧I z w') l own f1 { w with drawn:=w.drawn+1 }) pre f { w with drawn:=w.drawn+1 }):WG ro m P n (.region id all.toArray true) Q ds f w:=by
 rw[Lu,Lu] at H;refine QmS C pre l i d rest own (λE w'=>(∀t,Xp D t=false→E t=f t)∧∃z,Y4 E (S z)∧I z w') Φ Dc hm U V hp H.2 hd hC Y ?_;refine XP.keeps_mono _ _ _ (XP.keeps pre f _ H.1.1 (λ_ _=>Z) h) (λf1 w1 hx=>⟨⟨stab,?_,?_,?_⟩,XF.keeps l own _ _ H.1.2 hx.1 hx.2.2⟩)
 ·intro E w' hk J;have:=hx.2.1 E w' J;rw[Xk hk] at this;exact this
 ·rintro E w' ⟨hk,z,hs,hi⟩ v J hv;have:=fin z E w' v hi J hv;rw[Xk hk,YB hs] at this;exact this
 rintro E w' hb ⟨hk,z,hs,hi⟩ ha;exact ⟨hk,z,hs,mono z _ _ hi ha⟩
theorem fp {j:Nat}{l:List (Nat×Bool)}{own:LN}{v:Value}(E:∀w',(execOp (ev f) (QK all j)).run P w'=.ok (.value v) w') (h:XF P all C K l own (QV f (QK all j).dst v) w)
  (H:Yi all f (QK all j)=true:=by rfl):XF P all C K ((j,true)::l) own f w:=⟨H,v,λw' _=>E w',h⟩
theorem fk {j:Nat}{l:List (Nat×Bool)}{own:LN}(h:∀w1,Step [] w w1→C w1→XO P (QK all j) f w1 λE w'=>C w'∧∃own',Step own w1 w'∧(∀b∈own',b∈own∨(w1.heap.size≤b∧b<w'.heap.size))∧XF P all C K l own' E w')
  (H:Yi all f (QK all j)=true:=by rfl):XF P all C K ((j,false)::l) own f w:=⟨H,h⟩
theorem fe {own:LN}(h:K f w):XF P all C K [] own f w:=h
end
attribute [irreducible] XF
end Go.Lg
namespace Go.Proofs.YtjcgijbhaemldaaGreatDoor
open Go.Proofs.Tryz
open Go.Lg
instance:Bw prog 115 [nS,.int .i64 0,nS,nS,nS,nS,nS,nS] [(0,4),(4,1),(5,1),(6,1),(7,1)]:=⟨by kernel_rfl,by decide⟩
def spF (c:Q4) (pl:QD) (ps:List (LI)) (l:List (LI)):List Rsn:=l.zipIdx.filterMap (λp=>rsn c pl (plx ps (p.1.take c.co.length)) p.2 p.1)
theorem QhV {c:Q4}{pl:QD}{ps:List (LI)}{l:List (LI)}{k:Nat}(h:k<l.length):spF c pl ps (l.take (k+1))=spF c pl ps (l.take k)++(rsn c pl (plx ps ((l[k]'h).take c.co.length)) k (l[k]'h)).toList:=by
 unfold spF;rw[Lj h,List.zipIdx_append,List.filterMap_append];have e:0+(l.take k).length=k:=by rw[LD];omega
 rw[e];simp only[List.zipIdx_cons,List.zipIdx_nil,List.filterMap_cons,List.filterMap_nil];cases rsn c pl (plx ps ((l[k]'h).take c.co.length)) k (l[k]'h) <;> rfl
theorem Qe1 (c:Q4) (pl:QD) (ps:List (LI)) (l:List (LI)):(spF c pl ps l).length≤l.length:=by
 unfold spF;refine LT (List.length_filterMap_le _ _) ?_;rw[List.length_zipIdx];exact Lv _
theorem QdG {c:Q4}{pl sa:QD}{ps ts:List (LI)}(hp:sync (auts c.co)=some (pl,ps)) (hs:sync (auts c.co++auts c.rq)=some (sa,ts)) :
  spc c=⟨sa,ts.map (·.take c.co.length),ts.map (·.drop c.co.length),ts.map (λt=>plx ps (t.take c.co.length)),spF c pl ps ts⟩:=by
 unfold spc UX XG;rw[hp,hs];simp only[];rw[jv];simp[spF]
theorem Qj3 {n:Nat}{u:LI}{s:List ByteArray}{x:Yo}(h:Yl n u s x=0):x.a.st≠0:=by
 unfold Yl at h;split at h
 ·cases h
 split at h
 ·cases h
 split at h
 ·rename_i h1 h2;exact absurd h h2
 split at h
 ·cases h
 split at h
 ·cases h
 assumption
theorem Qc6 {n:Nat}{al:LI}:∀{l:List Yo}{s:List ByteArray}{u:LI},(Yq n al s u l).1=0→∀x∈l,x.a.st≠0
 | [],_,_,_,x,hx=>by cases hx
 | y::l,s,u,h,x,hx=>by
  rw[VY] at h;by_cases h1:Yl n al s y≠0
  ·rw[if_pos h1] at h;exact absurd h h1
  rw[if_neg h1] at h;have h2:Yl n al s y=0:=Lo.1 h1;rcases Lh.1 hx with rfl | hx
  ·exact Qj3 h2
  exact Qc6 h x hx
theorem Qj4 {c:Q4}(h:Zf c=0):∀x∈c.co,x.a.st≠0:=by
 unfold Zf at h;by_cases h1:JD c.ev≠0
 ·rw[if_pos h1] at h;exact absurd h h1
 rw[if_neg h1] at h;by_cases h2:c.co.length=0
 ·rw[if_pos h2] at h;cases h
 rw[if_neg h2] at h;by_cases h3:8<c.co.length∨12<c.co.length+c.rq.length
 ·rw[if_pos h3] at h;cases h
 rw[if_neg h3] at h;by_cases h4:(Yq c.ev.length (KJ c.ev.length) [] [] c.co).1≠0
 ·rw[if_pos h4] at h;exact absurd h h4
 exact Qc6 (Lo.1 h4)
theorem Qim {c:Q4}(h:Zf c=0) {A:QD}{Q:List (LI)}(hs:sync (auts c.co)=some (A,Q)):QM A∧A.st=(Q.length:Int)∧0<Q.length∧∀e∈A.al,0≤e∧e<(c.ev.length:Int):=by
 have E:=Yd h;have H:=XN E.co;have hsp:=Yj H hs;refine ⟨hsp.1.okay H,hsp.1.st,?_,λe he=>?_⟩
 ·refine Nat.pos_of_ne_zero λI=>?_;obtain ⟨a,ha,h1⟩:=hsp.2.1 I;obtain ⟨x,hx,rfl⟩:=Lq.1 ha;exact Qj4 h x hx h1
 rw[hsp.1.al] at he;obtain ⟨a,ha,h1⟩:=(ZC H e).1 he;obtain ⟨x,hx,rfl⟩:=Lq.1 ha;exact ⟨((E.co x hx).al e h1).1,E.ce x hx e h1⟩
theorem QnJ {Q:List (LI)}(h:0<Q.length) (t:LI):0≤plx Q t∧plx Q t<(Q.length:Int):=by
 unfold plx;split
 ·rename_i hm;have:=LU hm;omega
 omega
theorem Vt.take {a b:List QD}{t:LI}(h:Vt (a++b) t):Vt a (t.take a.length):=by
 have hl:=h.1;rw[Ll] at hl;refine ⟨by rw[LD];omega,λi h1 h2=>?_⟩;have:=h.2 i (by omega) (by rw[Ll];omega);rw[L7 h2] at this;rw[Nb];exact this
theorem Vt.drop {a b:List QD}{t:LI}(h:Vt (a++b) t):Vt b (t.drop a.length):=by
 have hl:=h.1;rw[Ll] at hl;refine ⟨by rw[Ms];omega,λi h1 h2=>?_⟩;have:=h.2 (a.length+i) (by omega) (by rw[Ll];omega);rw[MH (by omega)] at this;rw[List.getElem_drop];simpa using this
theorem Vt.tpOk {l:List Yo}{t:LI}(h:Vt (auts l) t):QmN (szs l) t:=by
 have hl:=h.1;unfold auts at hl;rw[Li] at hl;refine ⟨by unfold szs;rw[Li];exact hl,λi hi=>?_⟩;have h1:=h.2 i hi (by unfold auts;rw[Li];omega);have E:i<(szs l).length:=by unfold szs;rw[Li];omega
 rw[←Q9 hi,←Q9 E];unfold auts szs at *;simpa using h1
theorem Ke.add {base H T:Nat}{W I J U:World}{V Y v3 E v' c0 c1 c2 c3:Value}{cos rqs:List TV}{pls:LI}{fbs:List Rsn}{q:Rsn}(hB:QT W.heap H T [c0,c1,c2,c3,V,Y,v3,E]) (hS:Ke base W V Y v3 E cos rqs pls fbs) (ha:H<base) (h1:Step [] W I)
  (ho:J.ownsRow base 190 4 v' (fbs.length+1) (fbs.flatMap YO++YO q)) (h2:Step (ob E) I J) (hn:∀b∈ob v',b∈ob E∨I.heap.size≤b) (h3:Step [H] J U) :
  Step (H::ob E) W U∧Ke base U V Y v3 v' cos rqs pls (fbs++[q])∧(∀x∈H::ob E,∃o:Obj,W.heap[x]?=some o∧o.isCells=true):=by
 refine ⟨((h1.any).trans' (h2.mono λx hx=>Lk _ hx)).trans' (h3.mono λx hx=>?_),(hS.a4 h1 ho h2 hn).low h3 (λx hx=>?_),λx hx=>?_⟩
 ·simp only[List.mem_singleton] at hx;subst hx;exact Lm
 ·simp only[List.mem_singleton] at hx;subst hx;exact ha
 rcases Lh.1 hx with rfl | hx
 ·exact hB.cells
 exact Go.Lg.Zp hS.o4 x hx
set_option maxHeartbeats 40000000 in
theorem QeB {L:LN}{w:World}{c:CL}(h0:ZS L w.heap c) (mw:Kb w 4096) :
  QG prog 90 [c.val] w λr w'=>Step [] w w'∧∃v,r=.tuple #[v,.int .i64 (Xh c.cel)]∧(∃us,v=.agg us.toArray∧us.length=8∧ZP us)∧(Xh c.cel=0→QqI w.heap.size w'.heap v (spc c.cel)):=by
 have h:=h0.up (L':=[]) (by simp);refine Zh (Xh c.cel) λE hE=>?_;refine QG.of_G 20 func90 Z ntmps90 results90 (by simp) ?_;refine Q0<|QI (by rfl) (by rfl) ?_;refine xl rfl<|QR (us:=c.cells) Z λb1 w1 hI hb1 mx=>xl Z<|Qu (us:=[nS,.int .i64 0,nS,nS,nS,nS,nS,nS]) Z λb2 w2 hF hb2 g0=>Qf ?_;have ki:=hI.trans hF;have my:=mx.lt;have kj:=g0.lt;have mz:=mx.ext hF
 refine Q0<|QI (by rfl) (by rfl) ?_;refine x (Qp mz Z Z)<|xl Z<|xf<|(Qkb (h.ext ki) (mw.ext ki)).mono ?_;rintro r3 w3 ⟨h6,vp,rfl,z2,m0⟩;rw[hE] at z2 m0 ⊢;have m1:=ki.trans h6;refine Qb<|x (Qj Z Z)<|x (Qj Z Z)<|x Qe<|Qf<|Q0<|Q0<|QI (by rfl) (by rfl) ?_;refine Qb<|x (Q8 Z Z)<|xe<|QoS Z (λkk=>?_) (λkk=>?_)
 ·refine Q0<|QI (by rfl) (by rfl) ?_
  refine x (ZF [] La)<|Qb<|xl Z<|Qn (us:=[nS,.int .i64 0,nS,nS,nS,nS,nS,nS]) (g0.ext h6) Z Z Z Z ⟨Z,Z,Z,Z,Z,Z,Z,Z,La⟩ λw4 hN z3=>Qf<|Vl ⟨λ_ h=>(by cases h),MC,[.agg [nS,.int .i64 0,nS,nS,nS,nS,nS,nS].toArray,.int .i64 E],λW' hO=>⟨⟨⟨_,rfl,Qw rfl ((z3.ext hO).at (L:=[]) (by simp)).cells⟩,rfl,La⟩,(m1.then1 hN (by omega)).trans hO,_,rfl,⟨_,rfl,rfl,rfl,rfl,rfl,rfl,rfl,rfl,rfl,rfl,La⟩,λe=>absurd e kk⟩⟩
 have m2:E=0:=Lo.1 kk;obtain ⟨b,q,rfl,rfl,hQ,hq,z4⟩:=m0 m2;refine Yn<|Q0<|QI (by rfl) (by rfl) ?_;refine Qb<|x (QE Z)<|x (Qa Z)<|x (ZI (us:=Zc q.s) hq.B Z Z Z)<|x (ZF [(0,Zc q.s)] ⟨Z,Z,La⟩)<|xl Z<|Qu (us:=[nS,.int .i64 0,nS,nS,nS,nS,nS,nS]) Z λH w5 hY kn h7 =>
  xl rfl<|Qn (us:=[q.s.va,.int .i64 q.s.a.st,q.s.vm,q.s.ve,nS,nS,nS,nS]) h7 Z Z Z Z ⟨hq.s.al.one,Z,hq.s.mr.one,hq.s.ed.one,Z,Z,Z,Z,La⟩ λI g1 h7=>xe ?_
 have m3:Step [] w3 I:=hY.then1 g1 kn;have ko:=h7.lt;have m4:=hq.ext m3;have hz3:=h6.size;refine Q0<|Q0<|QI (by rfl) (by rfl) ?_;refine Qb<|x (QE Z)<|x (Qa Z)<|x (Qd m4.B Z Z)<|x (Qr m4.ts.arr Z)<|Qb<|xe ?_;have m5:=(Qau (λa ha=>by
  rcases Lp.1 ha with ha | ha
  ·exact XN (Yd hQ.ok).co a ha
  exact XN (Yd hQ.ok).rq a ha) hQ.s)
 have kp:=m5.1;have m6:=m5.2;simp only[] at kp m6;have hZ:=Yd hQ.ok;have hckc:=hZ.c8;have ga:q.c.cel.co.length=q.c.co.length:=Li ..;have z5:q.c.cel.rq.length=q.c.rq.length:=Li ..;have hcr:=hZ.cr;have z9:(auts q.c.cel.co++auts q.c.cel.rq).length=q.c.co.length+q.c.rq.length:=by rw[Ll];unfold auts;rw[Li,Li,ga,z5]
 refine Zh (q.ts.map (·.2)) λT hT=>?_;rw[hT] at kp m6;have hTn:q.ts.length=T.length:=by rw[←hT,Li]
 refine ZU<|V3 (α:=Nat×(Value×Value×Value×Value)×List TV×List TV×LI) [(7,17),(37,99),(100,118)] (λz=>[(37,.int .i64 z.1)]) (λz ds W'=>z.1≤q.ts.length∧Step [H] I W'∧VE I.heap.size W'.heap.size ds W'∧QT W'.heap H 115 [q.s.va,.int .i64 q.s.a.st,q.s.vm,q.s.ve,z.2.1.1,z.2.1.2.1,z.2.1.2.2.1,z.2.1.2.2.2] ∧
  Ke I.heap.size W' z.2.1.1 z.2.1.2.1 z.2.1.2.2.1 z.2.1.2.2.2 z.2.2.1 z.2.2.2.1 z.2.2.2.2 (spF q.c.cel q.p.a (q.qs.map (·.2)) (T.take z.1))∧z.2.2.1.map (·.2)=(T.take z.1).map (·.take q.c.co.length)∧z.2.2.2.1.map (·.2)=(T.take z.1).map (·.drop q.c.co.length)∧z.2.2.2.2=(T.take z.1).map (λt=>plx (q.qs.map (·.2)) (t.take q.c.co.length)))
  (λz=>q.ts.length - z.1) (by rfl) (0,(nS,nS,nS,nS),[],[],[]) Lb
  ⟨Ln _,Step.refl _ _,⟨MC,λD hD=>by cases hD⟩,h7,Ke.nil _ _,rfl,rfl,rfl⟩ ?_
 rintro ⟨k,⟨v1,v2,v3,J⟩,cos,rqs,pls⟩ g ds w7 ⟨hk,kq,m7,kr,U,gi,gj,gk⟩;simp only[] at hk kr U gi gj gk;have gl:Step [] w3 w7:=m3.then1 kq kn;have m8:=m1.trans gl;have hz7:=kq.size;have g2:(T.take k).length=k:=by rw[LD];omega
 have hcosl:cos.length=k:=by have:=congrArg List.length gi;rw[Li,Li,g2] at this;exact this
 have hrqsl:rqs.length=k:=by have:=congrArg List.length gj;rw[Li,Li,g2] at this;exact this
 have hplsl:pls.length=k:=by rw[gk,Li,g2]
 have m9:=Qe1 q.c.cel q.p.a (q.qs.map (·.2)) (T.take k);rw[g2] at m9;refine Zh (spF q.c.cel q.p.a (q.qs.map (·.2)) (T.take k)) λfbs g3=>?_;rw[g3] at U m9;refine Zh (ob v1++(ob v2++(ob v3++ob J))) λav gm=>?_;have gb:∀x∈av,I.heap.size≤x∧x<w7.heap.size:=λx hx=>by
  rw[←gm] at hx;rcases Qcn hx with h1 | h1 | h1 | h1
  ·exact Qq U.o1 x h1
  ·exact Qq U.o2 x h1
  ·exact Qq U.o3 x h1
  exact Qq U.o4 x h1
 have g4:H∉av:=λhm=>by have:=(gb H hm).1;omega
 have kt:∀x∈av,x∈H::av:=λx hx=>Lk _ hx;have g5:Vh (H::av) b w7.heap q:=(hq.up (λx hx=>.inr (by
  rcases Lh.1 hx with rfl | hx
  ·exact kn
  have:=(gb x hx).1;omega))).ext gl
 refine Q0<|QI (by rfl) (by rfl) ?_;refine x (QA Z Z)<|xe<|Q0<|yR Z (λpa=>?_) (λpa=>?_)
 ·refine Ku ?_;rw[Ls (by omega)] at gi gj gk g3;have hsp:=QdG hQ.p hQ.s;rw[hT,ga,←gi,←gj,←gk,g3] at hsp;have pc:=h6.trans gl;refine Q0<|QI (by rfl) (by rfl) ?_
  refine x (Qp kr Z Z)<|xl Z<|Qn (us:=[q.s.va,.int .i64 q.s.a.st,q.s.vm,q.s.ve,v1,v2,v3,J]) (g0.ext pc) Z Z Z Z ⟨hq.s.al.one,Z,hq.s.mr.one,hq.s.ed.one,QO U.o1,QO U.o2,QO U.o3,QO U.o4,La⟩ λw8 g6 hB8=>Qf ?_;have hb2w:b2<I.heap.size:=by omega
  have gn:VE I.heap.size w7.heap.size ds w8:=m7.blk g6 (g0.ext pc);have hb2d:b2∉ds:=λhm=>by have:=(gn.2 b2 hm).1;omega
  have hS8:=U.low g6 (λx hx=>by simp only[List.mem_singleton] at hx;subst hx;exact hb2w);refine Vl ⟨λD hD=>(gn.2 D hD).2.2,gn.1,[.agg [q.s.va,.int .i64 q.s.a.st,q.s.vm,q.s.ve,v1,v2,v3,J].toArray,.int .i64 E],λW' hO=>?_⟩;have g7:Lg.JF [] w8 W':=Lg.JF.nonc hO (λD hD=>⟨_,(gn.2 D hD).2.2,Z⟩);have gc:=hO.size;have h8:=hS8.cst g7 gc
  refine ⟨⟨⟨_,Z,Qw Z ((hB8.step hO hb2d).at (L:=[]) (by simp)).cells⟩,congrArg (Value.int .i64) m2.symm,La⟩,(m8.then1 g6 (by omega)).then hO (λD hD=>.inr (by have:=(gn.2 D hD).1;omega)),_,Z,⟨_,Z,Z,hq.s.al.one,Z,hq.s.mr.one,hq.s.ed.one,QO U.o1,QO U.o2,QO U.o3,QO U.o4,La⟩,λ_=>?_⟩;have hl9:pls.length≤1099511627776:=by omega
  have hl8:fbs.length≤1099511627776:=by omega
  rw[hsp];refine ⟨q.s.va,q.s.vm,q.s.ve,v1,v2,v3,J,cos,rqs,Z,Z,Z,λL hL=>⟨?_,⟨QX h8.o1 (by omega) (λx hx hm=>?_),λp hp=>h8.e1 p hp L (λx hx=>?_)⟩,⟨QX h8.o2 (by omega) (λx hx hm=>?_),λp hp=>h8.e2 p hp L (λx hx=>?_)⟩,QX h8.o3 hl9 (λx hx hm=>?_),QX h8.o4 hl8 (λx hx hm=>?_)⟩⟩
  ·have h1:=((z4 (b2::L) (λx hx=>by
    rcases Lh.1 hx with rfl | hx
    ·exact kj
    have:=hL x hx;omega)).1.ext gl).st (g6.mono (λx hx=>by simp only[List.mem_singleton] at hx;subst hx;exact Lm))
   have h2:=h1.up (L':=L) (λx hx=>.inl (Lk _ hx));exact ⟨h2.al.cst (g7.mono (by simp)) gc,h2.mr.cst (g7.mono (by simp)) gc,h2.ed.cst (g7.mono (by simp)) gc⟩
  ·have:=(Qq h8.o1 x hx).1;have:=hL x hm;omega
  ·exact .inl (by have:=hL x hx;omega)
  ·have:=(Qq h8.o2 x hx).1;have:=hL x hm;omega
  ·exact .inl (by have:=hL x hx;omega)
  ·have:=(Qq h8.o3 x hx).1;have:=hL x hm;omega
  have:=(Qq h8.o4 x hx).1;have:=hL x hm;omega
 have gq:k<q.ts.length:=by have h39:(k:Int)<(q.ts.length:Int):=pa;omega
 have gr:k<T.length:=by omega
 have pd:=Le gq;have hTe:T[k]'gr=(q.ts[k]'gq).2:=by subst hT;simp
 have hr:=QhV (c:=q.c.cel) (pl:=q.p.a) (ps:=q.qs.map (·.2)) gr;have gs:T.take (k+1)=T.take k++[T[k]'gr]:=Lj gr;have ge:=kp _ (Le gr);rw[g3] at hr;rw[hTe] at hr gs ge;refine Yn ?_
 refine Qnf (α:=(Value×Value×Value×Value)×List TV×List TV×LI) [(7,17),(38,117)] (λz=>[(37,.int .i64 k)]) (λz hR W'=>Step [H] I W'∧VE I.heap.size W'.heap.size hR W'∧QT W'.heap H 115 [q.s.va,.int .i64 q.s.a.st,q.s.vm,q.s.ve,z.1.1,z.1.2.1,z.1.2.2.1,z.1.2.2.2] ∧
  Ke I.heap.size W' z.1.1 z.1.2.1 z.1.2.2.1 z.1.2.2.2 z.2.1 z.2.2.1 z.2.2.2 (spF q.c.cel q.p.a (q.qs.map (·.2)) (T.take (k+1)))∧z.2.1.map (·.2)=(T.take (k+1)).map (·.take q.c.co.length)∧z.2.2.1.map (·.2)=(T.take (k+1)).map (·.drop q.c.co.length)∧z.2.2.2=(T.take (k+1)).map (λt=>plx (q.qs.map (·.2)) (t.take q.c.co.length))) (by rfl) ?_ ?_
 rotate_left
 ·rintro ⟨⟨u1,u2,u3,u4⟩,cos',rqs',pls'⟩ g hR W ⟨hsW,hDW,hBW,hSW,h1,h2,h3⟩;refine QI (by rfl) (by rfl) ?_;refine QQ Z Z<|Qb<|xe ?_;exact ⟨(k+1,(u1,u2,u3,u4),cos',rqs',pls'),by simp only[];omega,Lb,gq,hsW,hDW,hBW,hSW,h1,h2,h3⟩
 refine ZU<|Q0<|QI (by rfl) (by rfl) ?_;refine Qb<|xig (g:=Yt) Qas g5.ts.arr Z Z gq λa40 pf=>?_;refine Zh (q.ts[k]'gq) λt ht=>?_;rw[ht] at pf pd hr gs ge;have htI:=g5.ts.each t pd;have htl:t.2.length=q.c.co.length+q.c.rq.length:=by rw[ge.1,z9]
 refine x (Qv pf Z)<|xl Z<|Qu (us:=[.int .i64 0]) Z λb7 w9 hs9 hb7 hB9=>xl Z<|QF (j:=0) (u:=.int .i64 k) hB9 Z Z (by decide) Z λw10 hs10 hB10 =>
  Qf ?_
 have ku:Step [] w7 w10:=hs9.then1 hs10 hb7;refine Q0<|QI (by rfl) (by rfl) ?_;refine Qb<|Qb<|xl Z<|xf<|(QhT (g5.ext ku) (htI.ext ku) (by omega)).mono ?_;rintro r11 pg ⟨ph,v9,pj,rfl,hJ,hw⟩;refine Qb<|x (Qj Z Z)<|x (Qj Z Z)<|x Qe<|Qf ?_;have kv:=ku.trans ph;have kw:=g5.ext kv;refine Zh (t.2.take q.c.co.length) λtc hU=>?_
 refine Zh (t.2.drop q.c.co.length) λtr gt=>?_;rw[ga] at hr;rw[hU] at hJ hr;rw[gt] at hw;have htcl:tc.length=q.c.co.length:=by rw[←hU,LD];omega
 have htrl:tr.length=q.c.rq.length:=by rw[←gt,Ms];omega
 have hbdt:=ge.bd (m:=4096) (λa ha=>by
  rcases Lp.1 ha with ha | ha
  ·exact (XN hZ.co a ha).st1
  exact (XN hZ.rq a ha).st1)
 have pn:∀x∈tc,0≤x∧x<4096:=λx hx=>hbdt x (L2 (by rw[hU];exact hx));refine Q0<|QbG (Step [] pg) [(0,true),(1,true),(2,true),(3,true),(4,true),(5,false),(6,true),(7,true)] mixed (by rfl) (by rfl) (by kernel_rfl) (Step.drew _ _) ?_
 refine p (λ_=>Qm)<|p (λ_=>QE Z)<|p (λ_=>Qa Z)<|pq (λ_ hc=>Qd (kw.B.ext hc) Z Z)<|p (λ_=>Qm)<|pk<|xf<|(Qgd (hJ.ext (Step.drew _ _)) ((mw.ext (m8.trans kv)).ext (Step.drew _ _)) pn (by omega)).mono ?_;rintro r12 hf ⟨rfl,hs12⟩;have gg:=(Step.drew [] pg).trans hs12;refine ⟨gg,?_⟩
 have po:(match mget q.mm (VF tc) with | some u=>u | none=>.int .i64 0)=Value.int .i64 (plx (q.qs.map (·.2)) tc):=by
  rw[hQ.m tc htcl (λx hx=>(pn x hx).1)];unfold plx;by_cases hm:tc∈q.qs.map (·.2)
  ·rw[if_pos hm,if_pos hm]
  rw[if_neg hm,if_neg hm]
 refine Zh (plx (q.qs.map (·.2)) tc) λpi kx=>?_;rw[kx] at po hr;refine pq (λ_ hc=>(J3 (k:=VF tc) (kw.m.ext hc) Z Z).trans (congrArg (λv=>Result.ok (Next.value v) _) po))<|p (λ_=>Qe)<|pe ?_;have gh:=kv.trans gg;have hJ:=hJ.ext gg;have hw:=hw.ext gg;have h7:=kr.ext gh;have gu:=U.ext gh;have hS12d:=gu.ext (Step.drew [] hf);have hz712:=gh.size
 have hzd:({ hf with drawn:=hf.drawn+1 }:World).heap.size=hf.heap.size:=rfl
 have hC0:Step av hf { hf with drawn:=hf.drawn+1 }:=Step.drew _ _
 have fin:∀{hg hh ho hi hj:Value} {wx wy:World},Step av hf wx→Ke I.heap.size wx hg hh ho J (cos++[(hi,tc)]) (rqs++[(hj,tr)]) (pls++[pi]) fbs→Step [H] wx wy→QT wy.heap H 115 [q.s.va,.int .i64 q.s.a.st,q.s.vm,q.s.ve,hg,hh,ho,J] →
   Step (H::av) hf wy∧QT wy.heap H 115 [q.s.va,.int .i64 q.s.a.st,q.s.vm,q.s.ve,hg,hh,ho,J]∧Ke I.heap.size wy hg hh ho J (cos++[(hi,tc)]) (rqs++[(hj,tr)]) (pls++[pi]) fbs:=λhC hP hs hB =>
  ⟨(hC.mono kt).trans' (hs.mono (λx hx=>by simp only[List.mem_singleton] at hx;subst hx;exact Lm)),hB,hP.low hs (λx hx=>by simp only[List.mem_singleton] at hx;subst hx;exact ko)⟩
 have hkl:k≤4096:=by omega
 have htr16:tr.length≤16:=by omega
 have htc40:tc.length≤1099511627776:=by omega
 have htr40:tr.length≤1099511627776:=by omega
 have my:cos.length+1≤1099511627776:=by omega
 have kj:rqs.length+1≤1099511627776:=by omega
 have hl3:pls.length+1≤1099511627776:=by omega
 have gv:I.heap.size≤hf.heap.size:=by omega
 refine Qnf (α:=Value×Value×Value×Value×Value) [(55,74)] (λ_=>[]) (λz hR w'=>hR=ds∧Step (H::av) hf w'∧QT w'.heap H 115 [q.s.va,.int .i64 q.s.a.st,q.s.vm,q.s.ve,z.1,z.2.1,z.2.2.1,J]∧Ke I.heap.size w' z.1 z.2.1 z.2.2.1 J (cos++[(z.2.2.2.1,tc)]) (rqs++[(z.2.2.2.2,tr)]) (pls++[pi]) fbs) (by rfl) ?_ ?_
 ·refine Qkx (α:=Value×Value×Value×Value) (Step av hf) [(0,true),(1,true),(2,true),(6,true),(7,true),(8,true),(12,true),(13,true),(14,true)] [(3,false),(4,false),(5,false),(17,true),(9,false),(10,false),(11,false)] 15 70
   [(16,false),(18,false),(19,true),(20,false),(21,true),(22,false)] av [(55,74)] [(58,60),(64,66),(72,72)] (λz=>[(60,z.1),(66,z.2.1),(68,v3),(72,.pointer (some ⟨H,4,none⟩))]) (λz w'=>Step av hf w'∧Ke I.heap.size w' z.1 z.2.1 v3 J (cos++[(z.2.2.1,tc)]) (rqs++[(z.2.2.2,tr)]) pls fbs)
   (λv w'=>∃b,v=.slice (some ⟨b,0,none⟩) 1 1∧QT w'.heap b 3 [.int .i64 pi]) mixed (by rfl) (by rfl) (by kernel_rfl) (by rfl) Z hC0 (λx hx=>Mc (gb x hx).2 hz712) ?_ ?_ ?_ ?_
  ·rintro v own w w' ⟨b,rfl,hB⟩ hs hn;exact ⟨b,Z,hB.step hs (hn b (by simp[ow]))⟩
  ·rintro z w w' ⟨h1,h2⟩ hs;exact ⟨h1.trans hs,h2.ext hs⟩
  ·rintro ⟨hg,hh,hi,hj⟩ g wz v ⟨pp,hP⟩ _ ⟨b15,rfl,g8⟩;simp only[] at hP;have hcz:=pp.size;refine pk<|Q6 (news:=[.int .i64 pi]) (L:=[]) hP.o3 Z Z Z (g8.at (by simp)) (by simp[Value.oneCell']) hl3 (LT gv hcz) λho y1 g9 hI hn1=>?_;have Q1:=Ke.a3 (q:=pi) hP (Step.refl [] _) g9 hI hn1
   have kz:Step av hf y1:=pp.trans' (hI.mono (λb hb=>by rw[←gm];exact yb (.inr (.inr (.inl hb)))));refine ⟨kz,?_⟩;refine pkl (hl:=by kernel_rfl)<|QF (j:=4) (u:=hg) (h7.step kz g4) Z Z (by simp) (QO Q1.o1) λy2 hF k0=>p (λ_=>Qa rfl) <|
    pkl (hl:=by kernel_rfl)<|QF (j:=5) (u:=hh) k0 Z Z (by simp) (QO Q1.o2) λy3 h6 hB3'=>p (λ_=>Qa rfl) <|
    pkl (hl:=by kernel_rfl)<|QF (j:=6) (u:=ho) hB3' Z Z (by simp) (QO Q1.o3) λy4 hN hB4'=>pe ?_
   exact ⟨(hg,hh,ho,hi,hj),La,Z,fin kz Q1 ((hF.trans' h6).trans' hN) hB4'⟩
  refine p (λ_=>Qa Z)<|pq (λ_ hc=>Qd (h7.step hc g4) Z Z)<|p (λ_=>Qm)<|p (λ_=>Qa Z)<|pq (λ_ hc=>Qd (h7.step hc g4) Z Z)<|p (λ_=>Qm) <|
   p (λ_=>Qa Z)<|pq (λ_ hc=>Qd (h7.step hc g4) Z Z)<|p (λ_=>Qm)<|pe ⟨λg wf hCf=>QH (us:=[[.int .i64 pi]]) Z Z (by decide) (by simp) ⟨rfl,rfl,La⟩ λb wf' pt hbf pu=>⟨pt,hCf.trans pt,⟨b,rfl,pu⟩,λx hx=>?_⟩,?_⟩
  ·have hxe:x=b:=by
    have hx':x∈[b]:=hx;simpa using hx'
   subst hxe;exact ⟨hbf,pu.lt⟩
  have pw:∀{X:LN},(∀x∈X,x∈ob v1∨x∈ob v2)→∀x∈X,x∈av:=λhX x hx=>by rw[←gm];exact yb ((hX x hx).imp id .inl)
  refine fk λx1 p1 c1=>xf<|(Y2 (hJ.step c1 kt)).mono ?_;rintro hi y1 ⟨hI,g9⟩;have P1:=hS12d.ext p1;have pb1:=LT gv c1.size;refine ⟨c1.trans hI,av,hI.any,λb hb=>.inl hb,?_⟩;refine fk λx2 p2 c2=>QH (us:=[[hi]]) Z Z (by decide) (by simp) ⟨Zp g9,rfl,La⟩ λb2' y2 hF hb2' k0=>⟨c2.trans hF,av,hF.any,λb hb=>.inl hb,?_⟩;refine fk λx3 p3 c3=>?_
  have pz:=((hI.trans p2).trans hF).trans p3;have p0:=Qt g9 ((p2.trans hF).trans p3);refine Q6 (news:=[hi]) (L:=[]) (Qt P1.o1 pz) Z Z Z ((k0.ext p3).at (by simp)) (λu hu=>by rw[List.mem_singleton] at hu;subst hu;exact QO p0) my (LT gv c3.size) λhg y3 ho4 h6 hn3=>?_;have P2:=Ke.a1 (q:=(hi,tc)) P1 pz p0 htc40 (Lv _) pb1 ho4 h6 hn3
  have p7:Step av x3 y3:=h6.mono (pw λx hx=>.inl hx);refine ⟨c3.trans' p7,av,p7,λb hb=>.inl hb,?_⟩;refine fp (λ_=>Qa Z) ?_;refine fk λx4 p4 c4=>xf<|(Y2 (hw.step c4 kt)).mono ?_;rintro hj y4 ⟨hN,p8⟩;have P3:=P2.ext p4;have pb3:=LT gv c4.size;refine ⟨c4.trans hN,av,hN.any,λb hb=>.inl hb,?_⟩
  refine fk λx5 p5 c5=>QH (us:=[[hj]]) Z Z (by decide) (by simp) ⟨Zp p8,rfl,La⟩ λb5' y5 hY hb5' hB5'=>⟨c5.trans hY,av,hY.any,λb hb=>.inl hb,?_⟩;refine fk λx6 p6 c6=>?_;have p9:=((hN.trans p5).trans hY).trans p6;have qc:=Qt p8 ((p5.trans hY).trans p6)
  refine Q6 (news:=[hj]) (L:=[]) (Qt P3.o2 p9) Z Z Z ((hB5'.ext p6).at (by simp)) (λu hu=>by rw[List.mem_singleton] at hu;subst hu;exact QO qc) kj (LT gv c6.size) λhh y6 ho7 g1 hn6=>?_;have P4:=Ke.a2 (q:=(hj,tr)) P3 p9 qc htr40 (Lv _) pb3 ho7 g1 hn6;have k4:Step av x6 y6:=g1.mono (pw λx hx=>.inr hx);refine ⟨c6.trans' k4,av,k4,λb hb=>.inl hb,?_⟩
  exact fe ⟨(hg,hh,hi,hj),⟨Z,Z,Z,Z,La⟩,c6.trans' k4,P4⟩
 rintro ⟨hg,hh,ho,hi,hj⟩ g hR k5 ⟨rfl,hK,qo,qr⟩;simp only[] at qo qr;have hz13:=hK.size;have q0:=(kw.ext gg).st hK;have hJ:=hJ.st hK;have hw:=hw.st hK;have ka:Vh [] b k5.heap q:=q0.up (by simp);have hcell:∀x∈H::av,∃o:Obj,hf.heap[x]?=some o∧o.isCells=true:=λx hx=>by
  rcases Lh.1 hx with rfl | hx
  ·exact h7.cells
  rw[←gm] at hx;rcases Qcn hx with h1 | h1 | h1 | h1
  ·exact Go.Lg.Zp gu.o1 x h1
  ·exact Go.Lg.Zp gu.o2 x h1
  ·exact Go.Lg.Zp gu.o3 x h1
  exact Go.Lg.Zp gu.o4 x h1
 have hD13:VE I.heap.size w7.heap.size hR k5:=((m7.up (Lv _)).ext gh).step hK hcell;have hb7n:b7∉H::av:=λhm=>by
  rcases Lh.1 hm with h1 | h1
  ·omega
  have:=(gb _ h1).2;omega
 have hb1n:b1∉H::av:=λhm=>by
  rcases Lh.1 hm with h1 | h1
  ·omega
  have:=(gb _ h1).1;omega
 have kb:=((hB10.ext ph).ext gg).step hK hb7n;have k6:=((mz.ext (h6.trans gl)).ext gh).step hK hb1n;have hs613:Step [H] I k5:=(kq.trans gh).then hK (λx hx=>by
  rcases Lh.1 hx with h1 | h1
  ·subst h1;exact .inl Lm
  exact .inr (gb x h1).1)
 have k7:(cos++[(hi,tc)]).map (·.2)=(T.take (k+1)).map (·.take q.c.co.length):=by rw[gs,Ly,Ly,gi,Mx,Mx,hU]
 have k8:(rqs++[(hj,tr)]).map (·.2)=(T.take (k+1)).map (·.drop q.c.co.length):=by rw[gs,Ly,Ly,gj,Mx,Mx,gt]
 have k9:pls++[pi]=(T.take (k+1)).map (λt=>plx (q.qs.map (·.2)) (t.take q.c.co.length)):=by rw[gs,Ly,gk,Mx,hU,kx]
 have hVc:Vt (auts q.c.cel.co) tc:=by
  have h1:=ge.take;rw[show (auts q.c.cel.co).length=q.c.co.length by unfold auts;rw[Li];exact ga,hU] at h1;exact h1
 have hVr:Vt (auts q.c.cel.rq) tr:=by
  have h1:=ge.drop;rw[show (auts q.c.cel.co).length=q.c.co.length by unfold auts;rw[Li];exact ga,gt] at h1;exact h1
 have gx:=Qim hQ.ok hQ.p;have hpr:=QnJ gx.2.2.1 tc;rw[kx,←gx.2.1] at hpr;have hckp:cks q.p.a pi=0:=by
  unfold cks;rw[if_neg (by rw[(Zv q.p.a).2 gx.1];decide),if_neg (by omega)]
 have hvo:=Qdp ka.k1 ka.k2 ka.k3 (hJ.up (L':=[]) (by simp)) (by rw[hQ.ex,hQ.cs];exact hZ.cd) hVc.tpOk;have h4:rsn q.c.cel q.p.a pi k t.2=(match vio q.c.cel tc with | some (kd,j)=>some ⟨k,kd,j,-1⟩ | none=>match rfd q.c.cel tr (VW q.p.a pi) with | some (j,v)=>some ⟨k,3,j,v⟩ | none=>none):=by unfold rsn;rw[ga,hU,gt];rfl
 rw[Qhl] at h4;rw[hQ.ex,hQ.cs] at hvo;refine Zh (y8 q.c.cel.ex q.c.cel.cs tc) λV hV=>?_;rw[hV] at hvo h4;refine Q0<|Q0<|QI (by rfl) (by rfl) ?_;refine Qb<|x (QE Z)<|x (Qa Z)<|x (ZI (us:=[q.vs,q.vx,q.vk]) ka.B Z Z Z)<|Qb<|xl Z<|xf<|hvo.mono ?_;rintro r14 ma ⟨hA,rfl⟩;refine Qb<|x (Qj Z Z)<|x (Qj Z Z)<|x (Qj Z Z)<|x (Qj Z Z)<|x Qe<|x Qe<|x Qe<|Qf ?_;have kc:=qo.ext hA
 have hM:=qr.ext hA;have q4:=hD13.ext hA;have q9:=hs613.trans hA;have hz14:=hA.size;have j1:fbs.length+1≤1099511627776:=by omega
 have hb014:I.heap.size≤ma.heap.size:=by omega
 have hz714:w7.heap.size≤ma.heap.size:=by omega
 refine Q0<|QI (by rfl) (by rfl) ?_;refine Qb<|xe<|Vm rfl (λmc=>?_) (λmc=>?_)
 ·rw[if_pos mc] at h4;simp only[] at h4;rw[h4] at hr;refine Q0<|QI (by rfl) (by rfl) ?_;refine x (Qa Z)<|x (Qd kc Z Z)<|x (Qd (kb.ext hA) Z Z)<|Qb<|Qb<|x (QN ⟨Z,Z,Z,Z,La⟩) <|
   xl rfl<|QH (us:=[YO ⟨k,V.1,V.2.1,-1⟩]) Z Z (by decide) (by simp) ⟨rfl,rfl,La⟩ λb93 y1 hG hb93 mf=>?_
  have j2:=hG.size;refine xl Z<|Q6 (m:=1) (news:=YO ⟨k,V.1,V.2.1,-1⟩) (L:=[]) (Qt hM.o4 hG) Z Z Z (mf.at (by simp)) (by simp[Value.oneCell']) j1 (LT hb014 j2) λu4 y2 gy gz mg=>?_;have mh:H∉ob J:=λhm=>by have:=(Qq hM.o4 _ hm).1;omega
  refine x (Qa Z)<|xl Z<|QF (j:=7) (u:=u4) ((kc.ext hG).step gz mh) Z Z (by simp) (QO gy) λy3 mj mo=>xe ?_;have h5:=Ke.add (q:=⟨k,V.1,V.2.1,-1⟩) kc hM ko hG gy gz mg mj;refine Ku<|⟨((hg,hh,ho,u4),cos++[(hi,tc)],rqs++[(hj,tr)],pls++[pi]),Lb,q9.then h5.1 (λx hx=>?_),((q4.step h5.1 h5.2.2).up (LT hz714 h5.1.size)),mo,?_,k7,k8,k9⟩
  ·rcases Lh.1 hx with h1 | h1
   ·subst h1;exact .inl Lm
   exact .inr (Qq hM.o4 x h1).1
  simp only[];rw[hr];exact h5.2.1
 rw[if_neg (by rw[mc];decide)] at h4;simp only[] at h4;refine Yn ?_;have hA14:=q0.ext hA;have hw:=hw.ext hA;refine Q0<|QI (by rfl) (by rfl) ?_;refine Qb<|Qb<|Qb<|xl Z<|xf<|(Qb7 (b:=b) (st:=pi) (vr:=pj) hw.cells).mono ?_;rintro r15 ke ⟨hH,c1,c2,c3,rfl,hc1,hc2,hc3,hR1,hR2,hR3⟩;refine xe ?_;have hz15:=hH.size;have g8:=kc.ext hH;have j3:=hM.ext hH
 have j4:=q4.ext hH;have za:=q9.trans hH;have hA15:=hA14.ext hH;have kb:=kb.ext (hA.trans hH);have k6:=k6.ext (hA.trans hH);have hw:=hw.ext hH;refine Zh (wrf q.c.cel.rq tr (enb q.p.a pi)) λfl kf=>?_;have zb:∀x∈H::ob J,x∈H::av:=λx hx=>by
  rcases Lh.1 hx with rfl | hx
  ·exact Lm
  exact Lk _ (by rw[←gm];exact yb (.inr (.inr (.inr hx))))
 have mq:∀x∈H::ob J,x<ma.heap.size:=λx hx=>by
  rcases Lh.1 hx with rfl | hx
  ·omega
  exact (Qq hM.o4 x hx).2
 have zv:Vh (H::ob J) b ke.heap q:=hA15.up (λx hx=>.inl (zb x hx));have hIr15:QL (H::ob J) ke.heap pj tr:=hw.up (λx hx=>.inl (zb x hx));have hEv:∀p∈fl,0≤p.1∧p.1<(q.c.ev.length:Int):=λp hp=>by
  rw[←kf] at hp;have h1:=(Qap.1 hp).1;unfold enb at h1;obtain ⟨e,he,h2⟩:=Lq.1 h1;have h3:=gx.2.2.2 _ (gx.1.ed e (Yy he).1).2.2.1;rw[h2] at h3;exact h3
 refine ZU<|Qkw (α:={ x:Int×Int // x∈fl }) (H::ob J) (by omega) (capt:=[.pointer (some ⟨c1,0,none⟩),.pointer (some ⟨c2,0,none⟩),.pointer (some ⟨c3,0,none⟩)]) Z (encs:=λx=>[.int .i64 x.1.1,.int .i64 x.1.2]) (by decide) (λ_=>Z)
  (QaM hR1 hR2 hR3 (λhm=>by have:=mq _ hm;omega) (λhm=>by have:=mq _ hm;omega) (λx hx=>by have:=mq _ hx;omega) zv hIr15 (λx hx=>hZ.rq x.it (LW hx)) hVr hckp Z kf)
  (λpre W=>(∀y∈pre,(q.c.cel.ev.getD y.1.1.toNat ⟨.empty,false,false,false,0⟩).co=true)∧Step [] ke W) (λpre=>(Yg.pure _).and (Yg.step (Lv _)))
  (λe pre W=>e=.exit 2∧(∃p y,pre=p++[y]∧(∀y∈p,(q.c.cel.ev.getD y.1.1.toNat ⟨.empty,false,false,false,0⟩).co=true)∧(q.c.cel.ev.getD y.1.1.toNat ⟨.empty,false,false,false,0⟩).co=false ∧
   ∃u4,Step (H::ob J) ke W∧QT W.heap H 115 [q.s.va,.int .i64 q.s.a.st,q.s.vm,q.s.ve,hg,hh,ho,u4]∧Ke I.heap.size W hg hh ho u4 (cos++[(hi,tc)]) (rqs++[(hj,tr)]) (pls++[pi]) (fbs++[⟨k,3,y.1.2,y.1.1⟩])∧VE I.heap.size w7.heap.size hR W))
  (λe pre=>(Yg.pure _).and (Yg.ex λp=>Yg.ex λy=>(Yg.pure _).and ((Yg.pure _).and ((Yg.pure _).and (Yg.ex λu4=>(Yg.step (Lv _)).and (Yg.blk.and ((Yg.cst λW W' h hc hz=>h.cst hc hz).and (VE.stb (by omega)))))))))
  ⟨λy hy=>(by cases hy),Step.refl _ _⟩
  (λf x f' W=>f'=upd (upd (upd (upd f 100 (.int .i64 x.1.1)) 101 (.int .i64 x.1.2)) 16 (.int .i64 x.1.1)) 17 (.int .i64 x.1.2)) (λx f'=>Yg.pure _) ?_ ?_ ?_ ?_
 ·rintro l pre ⟨⟨e,i⟩,he⟩ W Y;refine Q0<|QI (by rfl) (by rfl) ?_;refine Qf<|QI (by rfl) (by rfl) ?_;refine Qf ?_;exact ⟨Z,Jn.refl _ _ _,Lg.JF.refl _ _,Y,Z⟩
 ·rintro l pre ⟨⟨e,i⟩,he⟩ f' W ⟨kg,Y⟩ rfl _;have hee:=hEv _ he;simp only[] at hee;have hen:e=(e.toNat:Int):=by omega
  have kh:e.toNat<q.c.ev.length:=by omega
  have hAW:=zv.ext Y;refine ZU<|Q0<|QI (by rfl) (by rfl) ?_;refine x (Qa Z)<|x (Qd (k6.ext Y) Z Z)<|Qb<|xig (g:=Zt) (i:=e.toNat) Qbk hAW.c.ev.arr Z (congrArg (Value.int .i64) hen) kh λa105 z0=>?_;have hge:q.c.cel.ev.getD e.toNat ⟨.empty,false,false,false,0⟩=q.c.ev[e.toNat]'kh:=by
   show q.c.ev.getD e.toNat _=_;simp[List.getD,kh]
  refine Zh (q.c.ev[e.toNat]'kh) λv hv=>?_;rw[hv] at z0 hge;refine x (Zj Z)<|x (Qv (z0.fld 1 (.bool v.co) Z) Z)<|x (Zs Z)<|xe<|Vm Z (λms=>?_) (λms=>?_)
  ·have mt:v.co=false:=by simpa using ms
   have hS:=j3.ext Y;have hB:=g8.ext Y;have gc:=Y.size;refine Q0<|QI (by rfl) (by rfl) ?_;refine x (Qa Z)<|x (Qd hB Z Z)<|x (Qd (kb.ext Y) Z Z)<|Qb<|Qb<|x (QN ⟨Z,Z,Z,Z,La⟩) <|
    xl rfl<|QH (us:=[YO ⟨k,3,i,e⟩]) Z Z (by decide) (by simp) ⟨rfl,rfl,La⟩ λb93 y1 hG hb93 mf=>?_
   have j2:=hG.size;refine xl Z<|Q6 (m:=1) (news:=YO ⟨k,3,i,e⟩) (L:=[]) (Qt hS.o4 hG) Z Z Z (mf.at (by simp)) (by simp[Value.oneCell']) j1 (by omega) λu4 y2 gy gz mg=>?_;have mh:H∉ob J:=λhm=>by have:=(Qq hM.o4 _ hm).1;omega
   refine x (Qa Z)<|xl Z<|QF (j:=7) (u:=u4) ((hB.ext hG).step gz mh) Z Z (by simp) (QO gy) λy3 mj mo=>xe ?_;have h5:=Ke.add (q:=⟨k,3,i,e⟩) hB hS ko hG gy gz mg mj;refine Ku ?_;exact ⟨Jn.step h5.1 gc (λx hx=>⟨.inl hx,h5.2.2 x hx⟩),Z,pre,_,Z,kg,by simp only[];rw[hge];exact mt,u4,Y.any.trans' h5.1,mo,h5.2.1,(j4.ext Y).step h5.1 h5.2.2⟩
  have mt:v.co=true:=by simpa using ms
  refine Yn<|⟨Jn.refl _ _ _,Lg.JF.refl _ _,λy hy=>?_,Y⟩;rcases Lp.1 hy with h1 | h1
  ·exact kg y h1
  simp only[List.mem_singleton] at h1;subst h1;simp only[];rw[hge];exact mt
 ·rintro D xs W hD hxs ⟨kg,Y⟩ mu;have mv:rfd q.c.cel tr (VW q.p.a pi)=none:=zy λx hx=>by
   rw[show wrf q.c.cel.rq tr (VW q.p.a pi)=fl from kf,←hxs] at hx;obtain ⟨y,hy,rfl⟩:=Lq.1 hx;exact kg y hy
  rw[mv] at h4;rw[h4] at hr;refine ⟨((hg,hh,ho,J),cos++[(hi,tc)],rqs++[(hj,tr)],pls++[pi]),Lb,za.trans Y,(j4.ext Y).cons (by omega) (by omega) mu,g8.ext Y,?_,k7,k8,k9⟩;simp only[];rw[hr];have h9:=j3.ext Y;simpa using h9
 rintro D e pre W hD hSp ⟨rfl,p,y,rfl,hp,hy,u4,hst,hBu,hSu,hDu⟩ mu _;have mv:rfd q.c.cel tr (VW q.p.a pi)=some (y.1.2,y.1.1):=by
  obtain ⟨rs,z1⟩:=hSp;rw[Ly] at z1;refine zx (x:=y.1) (t:=rs) (p:=p.map (·.1)) ?_ (λz hz=>?_) hy
  ·exact (show wrf q.c.cel.rq tr (VW q.p.a pi)=fl from kf).trans (z1.symm.trans (by simp))
  obtain ⟨z',hz',rfl⟩:=Lq.1 hz;exact hp z' hz'
 rw[mv] at h4;simp only[] at h4;rw[h4] at hr;refine ⟨((hg,hh,ho,u4),cos++[(hi,tc)],rqs++[(hj,tr)],pls++[pi]),Lb,za.then hst (λx hx=>?_),hDu.cons (by omega) (by omega) mu,hBu,?_,k7,k8,k9⟩
 ·rcases Lh.1 hx with h1 | h1
  ·subst h1;exact .inl Lm
  exact .inr (Qq hM.o4 x h1).1
 simp only[];rw[hr];exact hSu
end Go.Proofs.YtjcgijbhaemldaaGreatDoor
