/- Merged out of 52 texts. -/
import Derived.Test.YtdffckgdcegpaaaGreatDoorKnc
import Derived.Shelf.SlSortCmp.NoneTotal
import Derived.Tactics
import Derived.Sort.Grow
import Derived.Deep.Draws
import Derived.Sort.Statements
import Derived.Shelf.Lay
import Derived.Tactics2
import Derived.Laws.IdiomStrings
import Derived.Shelf.SortM.Plain
import Derived.Shelf.SortM.SortNone
import Derived.Shelf.SlicesE.Compact
import Derived.Shelf.SlicesE.DeleteFunc
import Derived.Ground.SlgmProg
import Derived.Ground.SlgnProg
import Derived.Ground.SlgfProg
namespace Go.Lg
open Go.RowKit
def Kh (L:LN) (W W':World):Prop:=∀(k:Nat) (o:Obj),k∉L→W.heap[k]?=some o→o.isCells=true→W'.heap[k]?=some o
theorem Kh.refl (L:LN) (W:World):Kh L W W:=λ_ _ _ h _=>h
theorem Kh.trans {L:LN}{A B C:World}(h:Kh L A B) (k:Kh L B C):Kh L A C:=λi o E G hc=>k i o E (h i o E G hc) hc
theorem At.cst {L:LN}{W W':World}{a:Addr}{us:LV}(h:At L W.heap a us) (hc:Kh L W W') (G:W.heap.size≤W'.heap.size):At L W'.heap a us:=by
 refine ⟨h.out,λu hu=>MC (h.lt u hu) G,λj u hu=>?_⟩;have h1:=h.cell j u hu;unfold cel at h1 ⊢;rw[Yk] at h1 ⊢;cases E:W.heap[a.block]? with
 | none=>rw[E] at h1;cases h1
 | some o =>
  rw[E] at h1;cases o with
  | cells c t m=>rw[hc a.block _ (h.out u (Ml hu)) E rfl];exact h1
  | _=>cases h1
theorem Zz.cst {L:LN}{W W':World}{v:Value}{n sz:Nat}{cs:LV}(h:Zz L W.heap v n sz cs) (hc:Kh L W W') (E:W.heap.size≤W'.heap.size):Zz L W'.heap v n sz cs :=
 ⟨h.1,h.2.1,h.2.2.imp id λ⟨a,cap,h1,h2,h3⟩=>⟨a,cap,h1,h2,h3.cst hc E⟩⟩
structure LwC (B:Nat) (L:LN) (W W':World):Prop where
 lw:Lw B L W W'
 cst:Kh L W W'
theorem LwC.trans {B:Nat}{L:LN}{E w w':World}(h:LwC B L E w) (k:LwC B L w w'):LwC B L E w':=⟨h.lw.trans k.lw,h.cst.trans k.cst⟩
def rdC {α:Type}(B:Nat) (L:LN) (I:List α→World→Prop) (X:Exit→List α→World→Prop) (xs:List α) (W:World):Exit→LN→Fr→World→Prop
 | .normal,_,_,W'=>Jj B L W W'∧Kh L W W'∧I xs W'
 | .ret,_,_,W'=>Jj B L W W'∧X .ret xs W'
 | .exit i,_,_,W'=>Jj B L W W'∧X (.exit i) xs W'
 | _,_,_,_=>False
theorem Qjb {α:Type}{m:Nat}{P:Program}{n:Nat}{Q:Exit→LN→Fr→World→Prop}{ds:LN}{f:Fr}{w:World}{g:Operand}{ps:LN}{assign body:Code}(L:LN) (h1:1≤m)
  {gf:Nat} {fn:Func} [hF:Fu P gf fn] {capt:LV} (hg:ev f g=.func (.func gf) #[] capt.toArray) {encs:α→LV} {S Sp:List α→Prop} {N:Nat} (hp:∀p∈ps,p<n) (he:∀x,(encs x).length=ps.length)
  (hf:SeqStopsK (fen none) (m - 1) P gf capt.toArray (λx=>(encs x).toArray) (LwC w.heap.size L) S Sp N w)
  (I:List α→World→Prop) (hI:∀s,Yf w.heap.size (I s)) (X:Exit→List α→World→Prop) (hX:∀e s,Yf w.heap.size (X e s)) (h0:I [] w) (A:Fr→α→Fr→World→Prop) (hA:∀x E,Yf w.heap.size (A f x E))
  (V:∀l pre x W,I pre W→WG (some l) (m - 1 - 1) P n assign (QcX (λJ E W'=>J=[]∧Jj w.heap.size L W W'∧Kh L W W'∧I pre W'∧A f x E W') (λ_ _ _ _=>False)) [] (QcU f ps (encs x)) W)
  (Y:∀l pre x E W,I pre W→A f x E W→pre.length<N→WG (some l) (m - 1 - 1) P n body (rdC w.heap.size L I X (pre++[x]) W) [] E W)
  (hh:∀D xs W,w.heap.size≤D→S xs→I xs W→W.heap[D]?=some (.deferred (some []))→Q .normal (D::ds) f W)
  (Z:∀D e pre W,w.heap.size≤D→Sp pre→X e pre W→W.heap[D]?=some (.deferred (some []))→(e=.ret∨∃i,e=.exit i)→Q e (D::ds) f W) :
  WG none m P n (.rangeFunc g ps.toArray assign body) Q ds f w:=by
 unfold WG at V Y ⊢;intro a ha;have eg:∀args w,(callFunc gf args).run P w=.ok (.enter gf args) w:=by
  intro args w;have h1:¬fn.name = "runtime.NumGoroutine" := by simpa using hF.nm
  have h2:¬fn.body=none:=by have:=hF.b;intro e;rw[e] at this;cases this
  simp[callFunc,hF.f,h1,h2]
 have keep:∀{W W':World},Jj w.heap.size L W W'→KeepsFrom w.heap.size W W':=λh=>⟨h.lw.size,λk o _ hk U=>h.other k o hk U⟩;refine wpIn_rangeFunc_ownH (F:=fen none) O h1 (gf:=gf) (lb:=capt.toArray) (by rw[ha.eval];exact hg) La eg hf (λh k=>h.trans k)
  (λW l o o' hl U hj _=>⟨⟨O,O,O,by simp,λk hk _=>World.putObj_heap_other (by omega)⟩,λk o2 _ hk hc=>by
   have hm:k≠l:=λe=>by subst e;rw[U] at hk;cases hk;rw[hj] at hc;cases hc
   rw[World.putObj_heap_other hm];exact hk⟩) (Below.refl _ _) (λx=>by simp[he x]) I
  (λc pre W=>match c with | .ret=>X .ret pre W | .exit i=>X (.exit i) pre W | _=>False) (Yf.own hI) (λc=>Yf.own λs=>?_) h0
  (λx G W=>∃E,YP n [] G E∧A f x E W) (λx G=>Yf.own λ_=>Yf.ex λE=>Yf.and (Yf.pure _) (hA x E)) ?_ ?_ ?_ ?_
 ·cases c <;> first | exact hX _ s | exact Yf.pure _
 ·intro l pre x W K hi hK;have hr:YP n [] { tmps:=(ps.toArray.zip (encs x).toArray).foldl (λt (p,v)=>t.setIfInBounds p v) a.tmps,defers:=[] } (QcU f ps (encs x)):=by
   have h2:YP n [] { a with defers:=[] } f:=⟨ha.size,O,ha.get⟩
   have h3:=UJ ps (encs x) _ _ h2 hp;have e:(ps.toArray.zip (encs x).toArray).foldl (λt (p,v)=>t.setIfInBounds p v) a.tmps=(ps.zip (encs x)).foldl (λt (x:Nat×Value)=>t.setIfInBounds x.1 x.2) a.tmps:=by simp
   rw[e];exact h3
  refine wpIn_mono (V l pre x W hi _ hr) ?_;rintro e G W' ⟨J,E,h2,_,h3⟩;cases e with
  | normal=>obtain ⟨rfl,h4,hn,h5,h6⟩:=h3;exact hK G W' (keep h4) ⟨h4.lw,hn⟩ h5 ⟨E,h2,h6⟩
  | exit id=>exact h3.elim
  | goto l=>exact h3.elim
  | ret=>exact h3.elim
  | panic ch=>exact h3.elim
  | outgrown=>exact h3.elim
 ·rintro l pre x G W _ _ hi ⟨E,h2,h3⟩ hq;refine wpIn_mono (Y l pre x E W hi h3 hq G h2) ?_;rintro e hs W' ⟨J,ht,h4,_,h5⟩;cases e with
  | normal=>exact ⟨keep h5.1,⟨h5.1.lw,h5.2.1⟩,h5.2.2⟩
  | exit id=>exact ⟨keep h5.1,h5.2⟩
  | goto l=>exact h5.elim
  | ret=>exact ⟨keep h5.1,h5.2⟩
  | panic ch=>exact h5.elim
  | outgrown=>exact h5.elim
 ·intro D xs W hD H hi hd;exact ⟨D::ds,f,⟨ha.size,by rw[show coll (D::ds)={ target:=.collected D,args:=#[] }::coll ds from rfl,ha.defers],ha.get⟩,λ_ _=>rfl,hh D xs W hD H hi hd⟩
 intro D c pre W hD H hx hd;have hb:YP n (D::ds) { a with defers:={ target:=.collected D,args:=#[] }::a.defers } f:=⟨ha.size,by rw[show coll (D::ds)={ target:=.collected D,args:=#[] }::coll ds from rfl,ha.defers],ha.get⟩
 cases c with
 | ret=>exact wpIn_ret ⟨_,f,hb,λ_ _=>O,Z D .ret pre W hD H hx hd (.inl O)⟩
 | exit i=>exact wpIn_exit ⟨_,f,hb,λ_ _=>O,Z D (.exit i) pre W hD H hx hd (.inr ⟨i,O⟩)⟩
 | _=>exact hx.elim
theorem xy2 {m:Nat}{P:Program}{ops:List Oper}{rest:List Oper}{f:Fr}{w:World}{K:Fr→World→Prop}{d:Option Nat}{ty:Nat}{ps:String}{af:Array Edge}{gd:Option (Nat×Bool)}{x y z:Operand}{at_:Array Nat}{l:Nat}{R:Ending→World→Prop}
  (hx:ev f x=.func (.yield l) #[] #[]) (hy:YieldAt (fen none) (m - 1) P l #[ev f y,ev f z] w R) (E:∀e w',R e w'→∃v,e=.returned v∧Jy P m ops K rest (Q4 f d v) w')
  (G:YD ops f ⟨d,.call ⟨.value x,[y,z].toArray,at_⟩,ty,ps,af,gd⟩=true:=by rfl) :
  Jy P m ops K (⟨d,.call ⟨.value x,[y,z].toArray,at_⟩,ty,ps,af,gd⟩::rest) f w:=by
 obtain ⟨fn,tmps,assign,body,h1,h2⟩:=hy;have H:(execOp (ev f) ⟨d,.call ⟨.value x,[y,z].toArray,at_⟩,ty,ps,af,gd⟩).run P w=.ok (.round l fn tmps assign body) w:=by
  simp[execOp,resolve,hx,Deferred.ofValue,invoke,h1]
 unfold Jy;rw[G];simp only[XOY,H,upY,cond_true];exact h2.mono λe w' h=>by obtain ⟨v,rfl,hk⟩:=E e w' h;exact hk
end Go.Lg
namespace Go.Proofs.YtdffckgdcegpaaaGreatDoor
open Go.Proofs.Tryz
open Go.Lg
def wrf (rq:List Kx) (rs:LI):LI→List (Int×Int)
 | []=>[]
 | v::l=>if 0≤rfr v 0 rq rs then (v,rfr v 0 rq rs)::wrf rq rs l else wrf rq rs l
theorem Qbd (rq:List Kx) (rs:LI) (v:Int):∀l,wrf rq rs (l++[v])=wrf rq rs l++if 0≤rfr v 0 rq rs then [(v,rfr v 0 rq rs)] else []
 | []=>by simp only[List.nil_append,wrf]
 | a::l=>by
  simp only[List.cons_append,wrf,Qbd rq rs v l];by_cases h:0≤rfr a 0 rq rs
  ·rw[if_pos h,if_pos h];rfl
  rw[if_neg h,if_neg h]
theorem VH (rq:List Kx) (rs:LI) (b:LI):∀a,wrf rq rs (a++b)=wrf rq rs a++wrf rq rs b
 | []=>rfl
 | x::a=>by
  simp only[List.cons_append,wrf,VH rq rs b a];by_cases h:0≤rfr x 0 rq rs
  ·rw[if_pos h,if_pos h];rfl
  rw[if_neg h,if_neg h]
theorem Qjq (rq:List Kx) (rs:LI) (l:LI) (k:Nat):(wrf rq rs (l.take k)).length≤(wrf rq rs l).length:=by
 have h:=VH rq rs (l.drop k) (l.take k);rw[MT] at h;rw[h,Lk];omega
theorem Qgq {rq:List Kx}{rs:LI}{l:LI}{k:Nat}(h:k<l.length):wrf rq rs (l.take (k+1))=wrf rq rs (l.take k)++if 0≤rfr (cget l k) 0 rq rs then [(cget l k,rfr (cget l k) 0 rq rs)] else []:=by
 rw[Ll h,Qbd,Q5 h]
theorem Qag {rq:List Kx}{rs:LI}{x:Int×Int}:∀{l:LI},x∈wrf rq rs l↔x.1∈l∧0≤x.2∧x.2=rfr x.1 0 rq rs
 | []=>by simp[wrf]
 | v::l=>by
  rw[wrf];have ih:=Qag (rq:=rq) (rs:=rs) (x:=x) (l:=l);by_cases h:0≤rfr v 0 rq rs
  ·rw[if_pos h,Li,ih,Li];constructor
   ·rintro (rfl | ⟨h1,h2⟩)
    ·exact ⟨.inl O,h,O⟩
    exact ⟨.inr h1,h2⟩
   rintro ⟨h1 | h1,h2,h3⟩
   ·exact .inl (by rw[←h1];exact Prod.ext_iff.2 ⟨O,h3⟩)
   exact .inr ⟨h1,h2,h3⟩
  rw[if_neg h,ih,Li];constructor
  ·rintro ⟨h1,h2⟩;exact ⟨.inr h1,h2⟩
  rintro ⟨h1 | h1,h2,h3⟩
  ·exact absurd (by rw[←h1,←h3];exact h2) h
  exact ⟨h1,h2,h3⟩
theorem Qbt {w:World}{b:Nat}{st:Int}{vr:Value}(J:vr.cells=[vr].toArray) :
  QM prog 74 [.pointer (some ⟨b,0,none⟩),.int .i64 st,vr] w λr w'=>Step [] w w'∧∃b1 b2 b3,r=.func (.func 151) #[] #[.pointer (some ⟨b1,0,none⟩),.pointer (some ⟨b2,0,none⟩),.pointer (some ⟨b3,0,none⟩)] ∧
   w.heap.size≤b1∧w.heap.size≤b2∧w.heap.size≤b3∧QX w'.heap b1 147 [.pointer (some ⟨b,0,none⟩)]∧QX w'.heap b2 3 [.int .i64 st]∧QX w'.heap b3 37 [vr]:=by
 refine QM.of_W func74 O ntmps74 results74 (by simp) ?_;refine Qd<|xl O<|QS (us:=[.pointer (some ⟨b,0,none⟩)]) O λb3 w1 H S U=>xl O<|QS (us:=[.int .i64 st]) O λV w2 E hb Y=>xl O<|QS (us:=[vr]) J λZ w3 G hc ha=>x Qe <|
  xe ?_
 have he:=H.size;have hf:=E.size;refine Qd<|x ZF<|Qf ?_;exact Qs ⟨[_],Lb,(H.trans E).trans G,b3,V,Z,O,S,by omega,by omega,(U.ext E).ext G,Y.ext G,ha⟩
set_option maxHeartbeats 4000000 in
theorem Qao {L:LN}{w:World}{b1 b2 b3 b m:Nat}{q:Sty}{vr:Value}{rs es:LI}{st:Int}{fl:List (Int×Int)}(hs:QX w.heap b1 147 [.pointer (some ⟨b,0,none⟩)]) (h5:QX w.heap b2 3 [.int .i64 st]) (h6:QX w.heap b3 37 [vr])
  (h7:b1∉L) (h8:b3∉L) (hA:∀x∈L,x<w.heap.size) (hS:K8 L b w.heap q) (hr:QO L w.heap vr rs) (hB:∀x∈q.c.rq,QK x.p.a) (hv:Vt (auts q.c.cel.rq) rs) (hc:cks q.p.a st=0) (ht:enb q.p.a st=es) (hf:wrf q.c.cel.rq rs es=fl) :
  SeqStopsK (fen none) m prog 151 [.pointer (some ⟨b1,0,none⟩),.pointer (some ⟨b2,0,none⟩),.pointer (some ⟨b3,0,none⟩)].toArray (λx:{ x:Int×Int // x∈fl }=>[Value.int .i64 x.1.1,.int .i64 x.1.2].toArray) (LwC w.heap.size L)
   (λE=>E.map (·.1)=fl) (λpre=>pre.map (·.1) <+: fl) fl.length w:=by
 intro l J Jx W hC hJ hD hY h0;have Z:Step [] w W:=Step.of_below hC;have ab:∀{E:List { x:Int×Int // x∈fl }} {W1 W2:World},J E W1→Step [] W1 W2→J E W2:=λ{E W1 W2} hj ha=>hJ E W1 W2 none hj ⟨ha.os,ha.tape,ha.output,ha.size,λk hk _=>ha.block k hk (by simp)⟩ (λr e=>by cases e);have hE:es.length≤1099511627776:=by
  have h1:=hS.p.ed.le;have h2:=JX q.p.a.ed st;rw[←ht];unfold enb;rw[Lo];omega
 have hF:=Qjq q.c.cel.rq rs es;rw[hf] at hF;have key:QM prog 151 [.func (.yield l) #[] #[],.pointer (some ⟨b1,0,none⟩),.pointer (some ⟨b2,0,none⟩),.pointer (some ⟨b3,0,none⟩)] W (λ_ W'=>(∃E,E.map (·.1)=fl∧J E W')∨(∃pre,pre.map (·.1) <+: fl∧Jx pre W')):=by
  refine QM.of_G m func151 O ntmps151 results151 (by simp) ?_;have hG:=hs.ext Z;have hH:=h5.ext Z;have hu:=hS.ext Z;refine Q2<|Qa3 (Step [] W) [(0,true),(1,true),(2,true),(3,true),(4,true),(5,false),(6,true),(7,true),(8,true),(9,true),(10,true)] mixed (by rfl) (by rfl) (by kernel_rfl) (Step.drew _ _) ?_
  refine pq (λ_ hc=>Qc (hG.ext hc) O O)<|p (λ_=>Qr O)<|p (λ_=>Qa O)<|pq (λ_ hc=>Xd (us:=Zg q.p) (hu.B.ext hc) O O O)<|pq (λ_ hc=>Qc (hH.ext hc) O O)<|pk<|xf<|(QdV (hu.p.ext (Step.drew _ _)) st).mono ?_;rintro r1 w1 ⟨hI,ve,rfl,_,hg⟩;have hg:=hg hc;have ho:=(Step.drew [] W).trans hI;refine ⟨ho,?_⟩;refine p (λ_=>Ql)<|p (λ_=>Qk O O)<|p (λ_=>Qk O O)<|p (λ_=>Qe)<|p (λ_=>Qe)<|pe ?_
  have hN:=Z.size;have hO:({ W with drawn:=W.drawn+1 }:World).heap.size=W.heap.size:=rfl
  rw[ht] at hg;have hw:QO L w1.heap ve es:=Qn.ints hg hE (λx hx=>by have:=hA x hx;omega);refine Q2<|QJ (by rfl) (by rfl) ?_;refine Qb<|x (Qw hw O)<|Qb<|xe ?_
  refine ZN<|VS (α:=Nat×List { x:Int×Int // x∈fl }) [(8,9),(21,38)] (λz=>[(21,.int .i64 z.1)]) (λz ds W'=>ds=[]∧z.1≤es.length∧Step L w W'∧QO L W'.heap ve es∧z.2.map (·.1)=wrf q.c.cel.rq rs (es.take z.1)∧J z.2 W') (λz=>es.length - z.1) (by rfl) (0,[]) Lb
   ⟨O,Lm _,(Z.trans ho).any,hw,O,ab h0 ho⟩ ?_
  rintro ⟨k,E⟩ g ds w2 ⟨rfl,hk,S,hh,U,hl⟩;simp only[] at hk hh U hl;refine Q2<|QJ (by rfl) (by rfl) ?_;refine x (QD O O)<|xe<|Q2<|yL O (λhp=>?_) (λhp=>?_)
  ·refine Ky ?_;have hK:es.length≤k:=by have hm:¬(k:Int)<(es.length:Int):=hp;omega
   rw[Lq hK,hf] at U;exact ⟨λ_ h=>(by cases h),MN,[],λW' G=>⟨La,.inl ⟨E,U,ab hl G⟩⟩⟩
  refine Yl ?_;have V:k<es.length:=by have hm:(k:Int)<(es.length:Int):=hp;omega
  have H:=Qgq (rq:=q.c.cel.rq) (rs:=rs) V;have hy:cget es k∈es:=by rw[←Q5 V];exact Lj V
  refine Zs (cget es k) λv hz=>?_;rw[hz] at H hy;refine Zs (rfr v 0 q.c.cel.rq rs) λj hj=>?_;rw[hj] at H;refine Q2<|ZN<|Q2<|QJ (by rfl) (by rfl) ?_;refine xic (i:=k) hh O O V λhP hm=>?_;rw[hz] at hm;refine x (Qv hm O)<|Qf<|Q2<|QJ (by rfl) (by rfl) ?_
  refine x (Qc (hs.step S h7) O O)<|x (Qc (h6.step S h8) O O)<|Qb<|xl O<|xf<|(Qc5 (v:=v) (hS.st S) (hr.st S) hB hv).mono ?_;rintro r3 w3 ⟨h3,Y⟩;rw[hj] at h3;subst h3;refine Qf<|Q2<|Vu (by rfl) ?_;refine Jy.pre3 ?_;refine Qb<|xb (Yg O O) (λhq=>?_) (λhq=>?_)
  ·have hn:0≤j:=hq;have hb:(v,j)∈fl:=by rw[←hf];exact Qag.2 ⟨hy,hn,hj.symm⟩
   rw[if_pos hn] at H;have h4:(E++[(⟨(v,j),hb⟩:{ x:Int×Int // x∈fl })]).map (·.1) <+: fl:=by
    rw[LA,U,show [(⟨(v,j),hb⟩:{ x:Int×Int // x∈fl })].map (·.1)=[(v,j)] from rfl,←H,←hf];have h9:=VH q.c.cel.rq rs (es.drop (k+1)) (es.take (k+1));rw[MT] at h9;exact ⟨_,h9.symm⟩
   have hL:E.length<fl.length:=by have h1:=h4.length_le;rw[Lo,Lk,LD] at h1;omega
   refine Qb<|xe<|Jy.pre3 ?_;refine Qb<|Qb<|Qb<|xe<|xy2 (l:=l) O (hY E ⟨(v,j),hb⟩ w3 (ab hl Y) hL) λen W3 hM=>Or.elim hM (λh1=>⟨.bool true,h1.1,?_⟩) (λh1=>⟨.bool false,h1.1,?_⟩)
   ·refine Jy.of_XL<|x (Zh O)<|x (Qp O)<|xe<|Vv O<|Yl ?_;refine QJ (by rfl) (by rfl) ?_;refine QN O O<|Qb<|xe ?_;exact ⟨(k+1,E++[⟨(v,j),hb⟩]),by simp only[];omega,Lb,O,V,(S.trans Y).lw h1.2.2.lw,(hh.ext Y).cst h1.2.2.cst h1.2.2.lw.size,by simp only[];rw[H,LA,U];rfl,h1.2.1⟩
   refine Jy.of_XL<|x (Zh O)<|x (Qp O)<|xe<|Qa2 O ?_;refine Vc ⟨λ_ h=>(by cases h),MN,[],λW' G=>⟨La,.inr ⟨E++[⟨(v,j),hb⟩],h4,?_⟩⟩⟩;exact hD _ W3 W' none h1.2 ⟨G.os,G.tape,G.output,G.size,λk hk _=>G.block k hk (by simp)⟩ (λr e=>by cases e)
  have hn:¬0≤j:=hq;rw[if_neg hn,LU] at H;refine Qb<|xe<|Jy.of_XL<|xs O<|xs O<|xs O<|xs O<|xs O<|x (Qp O)<|xe<|Vv O<|Yl ?_;refine QJ (by rfl) (by rfl) ?_;refine QN O O<|Qb<|xe ?_;exact ⟨(k+1,E),by simp only[];omega,Lb,O,V,S.trans Y,hh.ext Y,by simp only[];rw[H,U],ab hl Y⟩
 refine (callsIn_wide (n:=m)).2 ?_;have ea:(#[.func (.yield l) #[] #[]]++[.pointer (some ⟨b1,0,none⟩),.pointer (some ⟨b2,0,none⟩),.pointer (some ⟨b3,0,none⟩)].toArray:Array Value)=[.func (.yield l) #[] #[],.pointer (some ⟨b1,0,none⟩),.pointer (some ⟨b2,0,none⟩),.pointer (some ⟨b3,0,none⟩)].toArray:=by simp
 rw[ea];unfold QM at key;refine Calls.mono key λe w' he=>?_;cases e with
 | returned v=>exact ⟨⟨v,O⟩,he⟩
 | panicked c=>exact he.elim
 | outgrown=>exact he.elim
end Go.Proofs.YtdffckgdcegpaaaGreatDoor
namespace Go.Lg
section
variable {P:Program} {K:Fr→World→Prop} {f:Fr} {w:World} {d:Option Nat} {ty:Nat} {ps:String} {af:Array Edge} {gd:Option (Nat×Bool)}
theorem JY {t sz:Nat}[h1:Ag P t sz] {x y:Operand}{b T o:Nat}{cs us E:LV}(G:QX w.heap b T cs) (hx:ev f x=.pointer (some ⟨b,o,none⟩)) (hy:ev f y=.agg us.toArray) (hl:us.length=sz) (hj:o+sz≤cs.length) (hu:Y0 us) (he:cs.take o++us++cs.drop (o+sz)=E)
  (J:∀w',Step [b] w w'→QX w'.heap b T E→K (Q4 f d undef) w'):XO P ⟨d,.store t x y,ty,ps,af,gd⟩ f w K:=by
 have H:=run_storeCells_at P b o T us 0 cs.toArray w G (by simp;omega) hu.all;subst hl;simp only[Nat.add_zero,he] at H;refine xk (w':=w.setRow b E.toArray) ?_ (J _ (Step.setRow _ _ _) (Kl G));simp[execOp,hx,hy,Instr.storeAt,Instr.sureAddr,storeVar,UI (sz:=us.length),Value.cells,H]
end
end Go.Lg
namespace Go.Proofs.YtdffckgdcegpaaaGreatDoor
open Go.Proofs.Tryz
open Go.Lg
instance:Bw prog 154 [nS,nS,nS,nS,nS,nS,.int .i64 0,nS,nS,nS,nS,.int .i64 0,nS,nS,nS,nS,nS,nS,.map none] [(0,5),(5,4),(9,1),(10,4),(14,1),(15,3),(18,1)]:=⟨by kernel_rfl,by decide⟩
theorem Ye.shape {N:Nat}{H:Array Obj}{aa:List QE}{v vt:Value}{c:Int}(h:Ye N H aa v vt c):∃(a:QE) (va vm ve:Value) (qs:List TV),v=.agg #[va,.int .i64 a.st,vm,ve]∧Y0 [va,.int .i64 a.st,vm,ve]∧vt.oneCell'=true ∧
  (c=0→sync aa=some (a,qs.map (·.2))∧VF aa=0∧∀L:LN,(∀b∈L,b<N)→Zi L H va vm ve a∧XB L H vt qs):=by
 by_cases hc:c=0
 ·obtain ⟨⟨va,vm,ve,h1,h2⟩,⟨qs,h3,h4⟩,h5,J⟩:=h.good hc;have E:=h2 [] (by simp);exact ⟨yV aa,va,vm,ve,qs,h1,⟨E.al.one,O,E.mr.one,E.ed.one,La⟩,(h4 [] (by simp)).arr.one,λ_=>⟨by rw[h3];exact h5,J,λL G=>⟨h2 L G,h4 L G⟩⟩⟩
 obtain ⟨h1,h2⟩:=h.bad hc;exact ⟨⟨[],0,[],[]⟩,Zr,Zr,Zr,[],h1,⟨O,O,O,O,La⟩,by rw[h2];rfl,λe=>absurd e hc⟩
def plE (c:Yz):Int:=if Yn c≠0 then Yn c else Qbl (auts c.co)
theorem qv.shape {N:Nat}{H:Array Obj}{c:Yz}{v vt:Value}{e:Int}(h:qv N H c v vt e):e=plE c∧∃(a:QE) (va vm ve:Value) (qs:List TV),v=.agg #[va,.int .i64 a.st,vm,ve]∧Y0 [va,.int .i64 a.st,vm,ve]∧vt.oneCell'=true ∧
  (e=0→Yn c=0∧sync (auts c.co)=some (a,qs.map (·.2))∧VF (auts c.co)=0∧∀L:LN,(∀b∈L,b<N)→Zi L H va vm ve a∧XB L H vt qs):=by
 unfold qv at h;unfold plE;by_cases hc:Yn c≠0
 ·rw[if_pos hc] at h ⊢;obtain ⟨h1,h2,h3⟩:=h;exact ⟨h1,⟨[],0,[],[]⟩,Zr,Zr,Zr,[],h2,⟨O,O,O,O,La⟩,by rw[h3];rfl,λe=>absurd (h1.symm.trans e) hc⟩
 rw[if_neg hc] at h ⊢;obtain ⟨a,va,vm,ve,qs,h1,h2,h3,h4⟩:=h.shape;exact ⟨h.e,a,va,vm,ve,qs,h1,h2,h3,λe=>⟨Lt.1 hc,h4 e⟩⟩
theorem Qjx (c:Yz):XZ c=if plE c≠0 then plE c else Qbl (auts c.co++auts c.rq):=by
 rw[Qjy];unfold plE;by_cases h:Yn c≠0
 ·rw[if_pos h,if_pos h,if_pos h]
 rw[if_neg h,if_neg h]
theorem QkS {L:LN}{H:Array Obj}{ps:List AV}(h:∀p∈ps,Zi L H p.va p.vm p.ve p.a):∀u∈ps.flatMap Zg,u.oneCell'=true:=by
 intro u hu;obtain ⟨p,hp,G⟩:=MP.1 hu;have E:=h p hp;simp only[List.mem_cons,List.not_mem_nil,or_false] at G;rcases G with rfl | rfl | rfl | rfl
 ·exact E.al.one
 ·rfl
 ·exact E.mr.one
 exact E.ed.one
theorem Qmn {F:LN→Array Obj→Prop}(st:∀{L:LN}{w w':World},F L w.heap→Step L w w'→F L w'.heap) (up:∀{L L':LN}{H:Array Obj},F L H→(∀b∈L',b∈L∨H.size≤b)→F L' H) {N b:Nat}{w w':World}
  (h:∀L:LN,(∀x∈L,x<N)→F L w.heap) (hb:b<N) (hs:Step [b] w w'):∀L:LN,(∀x∈L,x<N)→F L w'.heap:=λL E =>
 up (st (h (b::L) (λx hx=>by
  rcases Li.1 hx with rfl | hx
  ·exact hb
  exact E x hx)) (hs.mono (λx hx=>by simp only[List.mem_singleton] at hx;subst hx;exact Lh))) (λx hx=>.inl (Le _ hx))
theorem U6.nil (n:Nat):U6 n [] []:=λu _ _=>by simp[mget]
set_option maxHeartbeats 8000000 in
theorem QiN {L:LN}{w:World}{c:CL}(h0:Jz L w.heap c) (h7:Kb w 4096) :
  QM prog 70 [c.val] w λr w'=>Step [] w w'∧∃vp,r=.tuple #[vp,.int .i64 (XZ c.cel)]∧(XZ c.cel≠0→vp=.pointer none) ∧
   (XZ c.cel=0→∃b q,vp=.pointer (some ⟨b,0,none⟩)∧q.c=c∧Qn5 q∧K8 [] b w'.heap q∧∀L:LN,(∀x∈L,x<w.heap.size)→Zi L w'.heap q.s.va q.s.vm q.s.ve q.s.a∧(Jz L w.heap c→K8 L b w'.heap q)):=by
 have h:=h0.up (L':=[]) (by simp);have hE:=Qjx c.cel;refine Zs (XZ c.cel) λE gy=>?_;rw[gy] at hE ⊢;refine QM.of_W func70 O ntmps70 results70 (by simp) ?_;refine Qd<|xl O<|QS (us:=c.cells) O λb1 w1 hQ ms h8=>x Qe<|Qf ?_;have mt:=hQ.size;have mu:=h8.lt;have mv:=h.ones
 refine Qd<|x (Qo h8 O O)<|x (Yv [(0,c.cells)] ⟨O,O,La⟩)<|xl O<|QS (us:=[c.ve,c.vc,c.vr,c.vx,c.vk,nS,.int .i64 0,nS,nS,nS,nS,.int .i64 0,nS,nS,nS,nS,nS,nS,.map none]) O λG w2 hS mw J=>Qf ?_;have hg:=hQ.trans hS;have my:=hg.size;have gz:=J.lt;have hT:=h8.ext hS;have h2:=h.ext hg;have hge:w.heap.size≤G:=by omega
 have mz:b1≠G:=by omega
 refine Qd<|Qf<|Qg<|Qd<|Qb<|Qb<|x (Qo hT O O)<|xl O<|xf<|(QcM h2 (h7.ext hg)).mono ?_;rintro r3 w3 ⟨hh,v3,vq,e3,rfl,hP⟩;obtain ⟨hA,pa,pva,pvm,pve,qs,rfl,g0,g1,g2⟩:=hP.shape;have g3:=hg.trans hh;refine Qb<|x (Qk O O)<|x (Qk O O)<|x (Qk O O)<|x (Qr O)<|x (Qa O)<|xl O<|JY (us:=[pva,.int .i64 pa.st,pvm,pve]) (J.ext hh) O O O (by simp) g0 rfl λw4 g4 J =>
  x (Qr rfl)<|x (Qa O)<|xl O<|QH (j:=9) (u:=vq) J O O (by simp) g1 λV g5 J=>Qf ?_
 have hj:Step [G] w3 V:=g4.trans' g5;have hn:Step [] w V:=g3.then1 hj hge;refine Qd<|Qb<|x (Zj O O)<|xe<|Zc rfl (λho=>?_) (λho=>?_)
 ·have g6:plE c.cel≠0:=by rw[←hA];exact ho
  rw[if_pos g6,←hA] at hE;subst hE;refine Qd<|Qb<|x Qe<|Qf ?_;exact Qs ⟨[_,_],⟨O,O,La⟩,hn,.pointer none,O,λ_=>O,λe=>absurd e ho⟩
 have hU:e3=0:=Lt.1 ho;rw[if_neg (by rw[←hA,hU];decide)] at hE;obtain ⟨hV,hB,m0,g7⟩:=g2 hU;have Z:=Jr hV;refine Qj ?_;have hC:=(hT.ext hh).step hj (by simp;omega);have h5:=h.ext hn;have m2:=h.co.arr.le;have m3:=h.rq.arr.le;have m4:c.co.length≤8:=by have:=Z.c8;have e:c.cel.co.length=c.co.length:=Lo ..;omega
 have m5:c.co.length+c.rq.length≤12:=by have:=Z.cr;have e:c.cel.co.length=c.co.length:=Lo ..;have e':c.cel.rq.length=c.rq.length:=Lo ..;omega
 refine Qg<|Qg<|QV (Step [] V) [(0,true),(1,true),(2,true),(3,true),(5,true),(6,true),(4,false),(7,false),(8,false),(9,false),(10,true),(11,true),(12,true),(13,true),(14,true),(15,true),(16,false),(17,true),(18,true),(19,false),(20,true)] mixed (by rfl) (by kernel_rfl) (Step.drew _ _) ?_
 refine p (λ_=>Ql)<|p (λ_=>Ql)<|p (λ_=>Qa O)<|pq (λ_ hc=>Qc (hC.step hc (by simp)) rfl rfl)<|p (λ_=>Qa rfl) <|
  pq (λ_ hc=>Qc (hC.step hc (by simp)) rfl rfl)<|pk<|xf<|(Qdo (h5.co.ext (Step.drew _ _))).mono ?_
 rintro r6 w6 ⟨hW,hX⟩;have hD:=(Step.drew [] V).trans hW;refine ⟨hD,?_⟩;refine pk<|xf<|(Qdo (h5.rq.ext hD)).mono ?_;rintro r7 w7 ⟨hF,g8⟩;have hY:=hD.trans hF;refine ⟨hY,?_⟩;have m6:=hW.size;have m7:=hF.size;have m8:({ V with drawn:=V.drawn+1 }:World).heap.size=V.heap.size:=rfl
 have g9:Zz [] w7.heap r7 (c.rq.map (·.p)).length 4 ((c.rq.map (·.p)).flatMap Zg):=QW g8 (by rw[Lo];omega) (by simp);have ka:=Qm hX;refine pk<|Qdh (Qt hX hF) O g9 O (QkS λp hp=>by
   obtain ⟨q,hq,rfl⟩:=Lz.1 hp;exact (h.rq.each q hq)) (by rw[Lo,Lo];omega) (by omega) λv8 w8 hZ kb m9=>?_
 have hr:Step [] V w8:=hY.then kb (λb hb=>.inr (by have:=(ka b hb).1;omega));refine ⟨hr,?_⟩;have hG:=hn.trans hr;have pc:=hr.size;have kc:JA [] w8.heap v8 (c.co.map (·.p)++c.rq.map (·.p)):=by
  rw[←Lk,←LL] at hZ;exact QhP hZ (by rw[Lk,Lo,Lo];omega) (by simp) (λp hp=>by
   rcases Lp.1 hp with hp | hp
   ·obtain ⟨q,hq,rfl⟩:=Lz.1 hp;exact (h.co.each q hq).ext hG
   obtain ⟨q,hq,rfl⟩:=Lz.1 hp;exact (h.rq.each q hq).ext hG)
 have ke:∀p∈c.co.map (·.p)++c.rq.map (·.p),QK p.a:=λp hp=>by
   rcases Lp.1 hp with hp | hp
   ·obtain ⟨q,hq,rfl⟩:=Lz.1 hp;exact Z.co q.it (LX hq)
   obtain ⟨q,hq,rfl⟩:=Lz.1 hp;exact Z.rq q.it (LX hq)
 refine pk<|xf<|(Ux (km:=4096) kc (h7.ext hG) (by decide) (Qev ke)).mono ?_;rintro r9 w9 ⟨kf,v9,vt,e9,rfl,hR⟩;rw[LA,Qfi,QkT] at hR;have ga:=hR.e;obtain ⟨sa,sva,svm,sve,ts,rfl,kg,kh,ki⟩:=hR.shape;have ht:=hr.trans kf;refine ⟨ht,?_⟩;refine p (λ_=>Ql)<|p (λ_=>Qk O O)<|p (λ_=>Qk O O)<|p (λ_=>Qk O O)<|p (λ_=>Qr O) <|
  p (λ_=>Qa O)<|pkl (hl:=by kernel_rfl)<|JY (us:=[sva,.int .i64 sa.st,svm,sve]) (J.ext ht) O O O (by simp) kg rfl λpd kj J=>p (λ_=>Qr rfl)<|p (λ_=>Qa rfl) <|
  pkl (hl:=by kernel_rfl)<|QH (j:=14) (u:=vt) J O O (by simp) kh λhu kk J=>p (λ_=>Qe)<|pe ?_
 have gc:Step [G] w9 hu:=kj.trans' kk;have hv:Step [G] V hu:=ht.any.trans' gc;have hw:Step [] w hu:=hn.then1 hv hge;refine Qd<|Qb<|x (Zj O O)<|xe<|Zc rfl (λhH=>?_) (λhH=>?_)
 ·rw[←ga] at hE;subst hE;refine Qd<|Qb<|x Qe<|Qf ?_;exact Qs ⟨[_,_],⟨O,O,La⟩,hw,.pointer none,O,λ_=>O,λe=>absurd e hH⟩
 have ge:e9=0:=Lt.1 hH;have gg:E=0:=by rw[hE,←ga,ge]
 obtain ⟨kn,pf,ko⟩:=ki ge;refine Qj ?_;have kq:=hC.step hv (by simp;omega);refine Qd<|Qb<|Qb<|x (Qo kq O O)<|xl O<|xf<|(j7 (h.ext hw)).mono ?_;rintro pg Y ⟨hf,vs,vx,vk,qx,ks,rfl,kr,kt,gh⟩;have hI:=gh [] (by simp)
 refine xl rfl<|ZM Jp λbm ku gi ph kv=>x (Qr O)<|x (Qa O)<|xl O<|JY (us:=[vs,vx,vk]) ((J.ext hf).ext gi) O O O (by simp) ⟨hI.1.one,hI.2.1.arr.one,hI.2.2.arr.one,La⟩ rfl λpj gj J =>
  x (Qr rfl)<|x (Qa O)<|xl O<|QH (j:=18) (u:=.map (some bm)) J O O (by simp) rfl λhJ gk J=>xe ?_
 have pn:=hw.size;have pp:=hf.size;have pt:=hv.size;have pu:=hj.size;have pw:=hh.size;have pz:=ht.size;have p0:G<Y.heap.size:=by omega
 have kw:bm≠G:=by omega
 have gl:Step [G] Y hJ:=(gi.any.trans' gj).trans' gk;have kx:Step [G] ku hJ:=gj.trans' gk;have kz:ZE Jp hJ.heap bm []:=kv.step kx (by simpa using kw);have k0:Step [G] w3 Y:=(hj.trans' hv).trans hf;have k4:Step [G] w9 Y:=gc.trans hf;have k5:=hw.trans hf
 have fP:∀{w':World},Step [G] Y w'→∀L:LN,(∀x∈L,x<w2.heap.size)→Zi L w'.heap pva pvm pve pa∧XB L w'.heap vq qs:=λhs =>
  Qmn (F:=λL H=>Zi L H pva pvm pve pa∧XB L H vq qs) (λh hs=>⟨h.1.st hs,h.2.st hs⟩) (λh S=>⟨h.1.up S,h.2.up S⟩) g7 gz (k0.trans' hs)
 have fS:∀{w':World},Step [G] Y w'→∀L:LN,(∀x∈L,x<w8.heap.size)→Zi L w'.heap sva svm sve sa∧XB L w'.heap vt ts:=λhs =>
  Qmn (F:=λL H=>Zi L H sva svm sve sa∧XB L H vt ts) (λh hs=>⟨h.1.st hs,h.2.st hs⟩) (λh S=>⟨h.1.up S,h.2.up S⟩) ko (by omega) (k4.trans' hs)
 have fC:∀{w':World},Step [G] Y w'→∀L:LN,(∀x∈L,x<hu.heap.size)→QO L w'.heap vs (szs c.cel.co)∧Xcs L w'.heap vx qx∧yP L w'.heap vk ks:=λhs =>
  Qmn (F:=λL H=>QO L H vs (szs c.cel.co)∧Xcs L H vx qx∧yP L H vk ks) (λh hs=>⟨h.1.st hs,h.2.1.st hs,h.2.2.st hs⟩) (λh S=>⟨h.1.up S,h.2.1.up S,h.2.2.up S⟩) gh (by omega) hs
 have gm:=(qK (XG Z.co) hB).1;have k6:=(Xs (XG Z.co) hB).1.nd;simp only[] at gm;have k7:(auts c.cel.co).length=c.co.length:=by unfold auts;show ((c.co.map IV.it).map _).length=_;simp
 have gn:=(fP gl [] (by simp)).2;have p1:=gn.arr.le;refine Qg<|Qd<|Qb<|x (Qr O)<|x (Qa O)<|x (Qc J O O)<|x (Qw gn.arr O)<|Qb<|xe ?_
 refine Qh<|QC (α:=Nat×List (ByteArray×Value)) [(6,7),(61,73)] (λz=>[(61,.int .i64 z.1)]) (λz w'=>z.1≤qs.length∧Step [G] Y w'∧QX w'.heap G 154 [c.ve,c.vc,c.vr,c.vx,c.vk,pva,.int .i64 pa.st,pvm,pve,vq,sva,.int .i64 sa.st,svm,sve,vt,vs,vx,vk,.map (some bm)]∧ZE Jp w'.heap bm z.2∧U6 c.co.length z.2 ((qs.take z.1).map (·.2))) (λz=>qs.length - z.1) (by rfl) (0,[]) Lb
  ⟨Lm _,gl,J,kz,U6.nil _⟩ ?_
 rintro ⟨k,mm⟩ g hK ⟨hk,U,hy,hz,h3⟩;simp only[] at hk hz h3;have h4:Step [] w hK:=k5.then1 U hge;refine Qd<|x (QD O O)<|xe<|Qg<|QI O (λhM=>?_) (λhM=>?_)
 ·refine Qy ?_;have k8:qs.length≤k:=by have k9:¬(k:Int)<(qs.length:Int):=hM;omega
  rw[Lq k8] at h3;refine Qd<|Qb<|x Qe<|Qf ?_;have aP:=fP U [] (by simp);have aS:=fS U [] (by simp);have aC:=fC U [] (by simp)
  refine Qs ⟨[_,_],⟨O,O,La⟩,h4,.pointer (some ⟨G,0,none⟩),by rw[gg];rfl,λe=>absurd gg e,λ_=>⟨G,⟨c,⟨pva,pvm,pve,pa⟩,vq,qs,⟨sva,svm,sve,sa⟩,vt,ts,vs,vx,vk,qx,ks,bm,mm⟩,O,O,⟨hV,hB,kn,kr,kt,h3⟩,⟨hy,by simp,h.ext h4,aP.1,aS.1,aP.2,aS.2,aC.1,aC.2.1,aC.2.2,by simp,hz⟩,λL S=>?_⟩⟩;have bP:=fP U L (λb hb=>by have:=S b hb;omega);have bS:=fS U L (λb hb=>by have:=S b hb;omega)
  have bC:=fC U L (λb hb=>by have:=S b hb;omega);exact ⟨bS.1,λma=>⟨hy,λhm=>by have:=S _ hm;omega,ma.ext h4,bP.1,bS.1,bP.2,bS.2,bC.1,bC.2.1,bC.2.2,λhm=>by have h9:bm<w.heap.size:=S bm hm;omega,hz⟩⟩
 have he:k<qs.length:=by have k9:(k:Int)<(qs.length:Int):=hM;omega
 have gq:=(fP U [] (by simp)).2;have hN:=Lj he;have hO:(qs.take (k+1)).map (·.2)=(qs.take k).map (·.2)++[(qs[k]'he).2]:=by rw[Ll he,LA];rfl
 have gr:(qs[k]'he).2∉(qs.take k).map (·.2):=by
  have h1:((qs.take (k+1)).map (·.2)).Nodup:=by
   rw[List.map_take];exact k6.sublist (List.take_sublist _ _)
  rw[hO] at h1;intro hm;exact (M7.1 h1).2.2 _ hm _ (Lc.2 O) O
 have mc:((qs.take k).map (·.2)).length=k:=by rw[Lo,LF];omega
 refine Qj<|Qg<|Qh<|Qd<|Qb<|xig (g:=Yo) Qah gq.arr O O he λp2 gs=>?_;refine Zs (qs[k]'he) λq hq=>?_;rw[hq] at gs hN hO gr;have mf:=gq.each q hN;have gt:=gm q.2 (LX hN);have gu:=gt.bd (m:=4096) (λa ha=>(XG Z.co a ha).st1);have p3:q.2.length=c.co.length:=by rw[gt.1,k7]
 refine x (Qv gs O)<|x Qe<|Qf<|QV (Step [] hK) [(0,true),(1,true),(2,true),(3,true),(4,true),(6,true),(5,false),(7,false)] mixed (by rfl) (by kernel_rfl) (Step.drew _ _) ?_;refine p (λ_=>Ql)<|p (λ_=>Qr O)<|p (λ_=>Qa O)<|pq (λ_ hc=>Qc (hy.step hc (by simp)) rfl rfl) <|
  p (λ_=>Ql)<|p (λ_=>Ql)<|pk<|xf<|(Qfc (mf.ext (Step.drew _ _)) ((h7.ext h4).ext (Step.drew _ _)) gu (by omega)).mono ?_
 rintro p4 p5 ⟨rfl,mg⟩;have h6:=(Step.drew [] hK).trans mg;refine ⟨h6,?_⟩;refine pkl (hl:=by kernel_rfl)<|Yx (k:=Vz q.2) (hz.ext h6) O O λmh gv mj=>pe ?_;have p6:=U.size;have mo:Step [G] Y mh:=(U.trans h6).then1 gv (by omega);have mq:=(hy.ext h6).step gv (by simp;omega);have gx:=h3.add gr (λx hx=>(gu x hx).1);rw[mc] at gx
 refine Qx<|QN O O<|Qb<|xe ?_;exact ⟨(k+1,mput mm (Vz q.2) (.int .i64 (k:Int))),by simp only[];omega,Lb,he,mo,mq,mj,by simp only[];rw[hO];exact gx⟩
structure PI (w0:World) (b4 b7 b10 b11 bS n:Nat) (gc:LV) (pf:Value) (bi i:Nat) (vs:Value) (st:List Ed) (W:World):Prop where
 stp:Step [] w0 W
 B4:QX W.heap b4 292 gc
 B7:QX W.heap b7 267 [pf]
 B10:QX W.heap b10 349 [vs]
 B11:QX W.heap b11 283 [.slice (some ⟨bS,0,none⟩) n n]
 BS:QX W.heap bS 4 ((flg n (stS st)).map Value.bool)
 BI:QX W.heap bi 3 [.int .i64 i]
 R:ZS 348 w0.heap.size W vs st
 ne:∀b∈ob vs,b≠b4∧b≠b7∧b≠b10∧b≠b11∧b≠bS∧b≠bi
theorem PI.ext {E:World}{G H J S bS n:Nat}{gc:LV}{pf:Value}{bi i:Nat}{vs:Value}{st:List Ed}{W W':World}(h:PI E G H J S bS n gc pf bi i vs st W) (hs:Step [] W W'):PI E G H J S bS n gc pf bi i vs st W' :=
 ⟨h.stp.trans hs,h.B4.ext hs,h.B7.ext hs,h.B10.ext hs,h.B11.ext hs,h.BS.ext hs,h.BI.ext hs,Qt h.R hs,h.ne⟩
theorem PI.stb {G:World}{H J S U bS n:Nat}{gc:LV}{pf:Value}{bi i:Nat}{vs:Value}{st:List Ed}{B:Nat}(V:G.heap.size≤B):Yf B (λW=>PI G H J S U bS n gc pf bi i vs st W):=λW W' X h hs E =>
 ⟨Yf.step V W W' X h.stp hs E,Yf.blk W W' X h.B4 hs E,Yf.blk W W' X h.B7 hs E,Yf.blk W W' X h.B10 hs E,Yf.blk W W' X h.B11 hs E,Yf.blk W W' X h.BS hs E,Yf.blk W W' X h.BI hs E,Yf.row W W' X h.R hs E,h.ne⟩
def Vw (lo hi:Nat) (ds:LN) (W:World):Prop:=ds.Nodup∧∀D∈ds,lo≤D∧D<hi∧W.heap[D]?=some (.deferred (some []))
theorem Vw.step {lo hi:Nat}{ds:LN}{W W':World}{X:LN}(h:Vw lo hi ds W) (hs:Step X W W') (E:∀b∈X,∃o:Obj,W.heap[b]?=some o∧o.isCells=true):Vw lo hi ds W':=by
 refine ⟨h.1,λD hD=>⟨(h.2 D hD).1,(h.2 D hD).2.1,?_⟩⟩;have h3:=(h.2 D hD).2.2;refine (hs.block D (LG.1 h3).1 (λhx=>?_)).trans h3;obtain ⟨o,h4,h5⟩:=E D hx;rw[h3] at h4;cases h4;cases h5
theorem Vw.ext {lo hi:Nat}{ds:LN}{W W':World}(h:Vw lo hi ds W) (hs:Step [] W W'):Vw lo hi ds W':=h.step hs (λ_ hb=>by cases hb)
theorem Vw.blk {lo hi:Nat}{ds:LN}{W W':World}{b T:Nat}{cs:LV}(h:Vw lo hi ds W) (hs:Step [b] W W') (hb:QX W.heap b T cs):Vw lo hi ds W' :=
 h.step hs (λc hc=>by
  have e:c=b:=by simpa using hc
  subst e;exact hb.cells)
theorem Vw.up {lo hi E:Nat}{ds:LN}{W:World}(h:Vw lo hi ds W) (G:hi≤E):Vw lo E ds W:=⟨h.1,λD hD=>⟨(h.2 D hD).1,by have:=(h.2 D hD).2.1;omega,(h.2 D hD).2.2⟩⟩
theorem Vw.cons {lo hi:Nat}{ds:LN}{W:World}{D:Nat}(h:Vw lo hi ds W) (hl:lo≤hi) (hD:hi≤D) (hd:W.heap[D]?=some (.deferred (some []))):Vw lo W.heap.size (D::ds) W:=by
 have G:=(LG.1 hd).1;refine ⟨List.nodup_cons.2 ⟨λhm=>by have:=(h.2 D hm).2.1;omega,h.1⟩,λE hE=>?_⟩;rcases Li.1 hE with rfl | hE
 ·exact ⟨by omega,G,hd⟩
 have:=h.2 E hE;exact ⟨this.1,(LG.1 this.2.2).1,this.2.2⟩
theorem Vw.stb {lo hi B:Nat}{ds:LN}(G:hi≤B):Yf B (λW=>Vw lo hi ds W):=λW W' X h hs E=>by
 refine ⟨h.1,λD hD=>⟨(h.2 D hD).1,(h.2 D hD).2.1,?_⟩⟩;have h3:=(h.2 D hD).2.2;refine (hs.block D (LG.1 h3).1 (λhx=>?_)).trans h3;have:=(E D hx).1;have:=(h.2 D hD).2.1;omega
theorem Vw.own {lo hi:Nat}{ds:LN}{W:World}{base e sz n:Nat}{v:Value}{cs:LV}(h:Vw lo hi ds W) (E:W.ownsRow base e sz v n cs):∀b∈ob v,b∉ds:=λb hb hd=>by
 obtain ⟨o,h1,h2⟩:=Go.Lg.ZI E b hb;rw[(h.2 b hd).2.2] at h1;cases h1;cases h2
theorem Vw.rst {lo hi B:Nat}{L ds:LN}{W W':World}(h:Vw lo hi ds W) (hs:Jj B L W W'):Vw lo hi ds W':=⟨h.1,λD hD=>⟨(h.2 D hD).1,(h.2 D hD).2.1,hs.other D _ (h.2 D hD).2.2 O⟩⟩
theorem PI.add {H:World}{J S E U bS n:Nat}{gc:LV}{pf:Value}{bi i:Nat}{v v':Value}{st:List Ed}{x:Ed}{W W1 W2 W3 W4:World}{B:Nat}{L0:LN}(h:PI H J S E U bS n gc pf bi i v st W)
  (hd:bS≠J∧bS≠S∧bS≠E∧bS≠U∧bS≠bi∧E≠J∧E≠S∧E≠U∧E≠bi) (Z:B≤W.heap.size) (ha:H.heap.size≤bS) (he:H.heap.size≤E) (hk:J<W.heap.size∧S<W.heap.size∧U<W.heap.size∧bi<W.heap.size)
  (h1:Step [bS] W W1) (hS:QX W1.heap bS 4 ((flg n (stS (st++[x]))).map Value.bool)) (h2:Step [] W1 W2) (h3:Step (ob v) W2 W3) (hR:ZS 348 H.heap.size W3 v' (st++[x])) (V:∀b∈ob v',b∈ob v∨W2.heap.size≤b)
  (h4:Step [E] W3 W4) (hf:QX W4.heap E 349 [v']) (Y:∀b∈ob v,b∈L0∨B≤b) :
  PI H J S E U bS n gc pf bi i v' (st++[x]) W4∧Jj B (bS::E::L0) W W4∧(∀b∈ob v',b∈L0∨B≤b):=by
 have hl:=h1.size;have ho:=h2.size;have hp:=h3.size;have hq:=h.BS.lt;have hr:=h.B10.lt;have key:∀b T cs,QX W.heap b T cs→b≠bS→b∉ob v→b≠E→QX W4.heap b T cs:=λb T cs hb e1 e2 e3=>(((hb.step h1 (by simpa using e1)).ext h2).step h3 e2).step h4 (by simpa using e3);have G:=h.ne;have nin:∀b,(∀c∈ob v,c≠b)→b∉ob v:=λb hb hm=>hb b hm O;have hg:E∉ob v:=nin _ λc hc=>(G c hc).2.2.1
 have hh:bS∉ob v:=nin _ λc hc=>(G c hc).2.2.2.2.1;have hj:W2.ownsRow H.heap.size 348 3 v st.length (st.flatMap Qz):=Qt (Qi h.R h1 (λb hb=>by have:=(G b hb).2.2.2.2.1;simpa using this)) h2;have hge:∀b∈ob v',b≠J∧b≠S∧b≠E∧b≠U∧b≠bS∧b≠bi:=λb hb=>by
  rcases V b hb with hb | hb
  ·exact G b hb
  omega
 refine ⟨⟨?_,key _ _ _ h.B4 hd.1.symm (nin _ λc hc=>(G c hc).1) hd.2.2.2.2.2.1.symm,key _ _ _ h.B7 hd.2.1.symm (nin _ λc hc=>(G c hc).2.1) hd.2.2.2.2.2.2.1.symm,hf,
  key _ _ _ h.B11 hd.2.2.2.1.symm (nin _ λc hc=>(G c hc).2.2.2.1) hd.2.2.2.2.2.2.2.1.symm,((hS.ext h2).step h3 hh).step h4 (by have:=hd.2.2.1;simpa using this),key _ _ _ h.BI hd.2.2.2.2.1.symm (nin _ λc hc=>(G c hc).2.2.2.2.2) hd.2.2.2.2.2.2.2.2.symm,
  Qi hR h4 (λb hb=>by have:=(hge b hb).2.2.1;simpa using this),hge⟩,?_,λb hb=>?_⟩
 ·exact (((h.stp.then1 h1 ha).trans h2).then h3 (λb hb=>.inr (Qm h.R b hb).1)).then1 h4 he
 ·have r1:Jj B (bS::E::L0) W W1:=Jj.blk h1 Z h.BS (.inl (by simp));have r2:Jj B (bS::E::L0) W1 W2:=Jj.ext h2 (by omega);have r3:Jj B (bS::E::L0) W2 W3:=Jj.step h3 (by omega) (λb hb=>⟨(Y b hb).imp (λh=>by simp[h]) id,Go.Lg.ZI hj b hb⟩)
  have r4:Jj B (bS::E::L0) W3 W4:=Jj.blk h4 (by omega) ((((h.B10.step h1 (by have:=hd.2.2.1;simpa using this.symm)).ext h2).step h3 hg)) (.inl (by simp));exact ((r1.trans r2).trans r3).trans r4
 rcases V b hb with hb | hb
 ·exact Y b hb
 exact .inr (by omega)
theorem QaJ {n:Nat}{l:LI}{x:Int}(G:0≤x) (h1:x<(n:Int)):((flg n l).map Value.bool)[0+x.toNat*1]?=some (.bool (decide (x∈l))):=by
 have E:x.toNat<(flg n l).length:=by rw[qX];omega
 have e:((x.toNat:Nat):Int)=x:=by omega
 simp only[Nat.zero_add,Nat.mul_one,List.getElem?_map,List.getElem?_eq_getElem E,Option.map_some,QaI,e]
theorem QjF {w:World}{va vm ve:Value}{a:QE}{n bF from0 gw gp:Nat}{fw fp:Func}[Fu prog gw fw] [Fu prog gp fp] {cw cp:LV}{wt:Int→Bool}{pm:Ed→Bool}
  (hA:Zi [] w.heap va vm ve a) (hn:a.st=(n:Int)) (kv:n≤4096) (kw:∀e∈a.ed,0≤e.2.2∧e.2.2<(n:Int)) (kx:a.ed.Pairwise λx y=>x.1≤y.1) (kz:QX w.heap bF 3 ((gA (n+1) (fS a.ed)).map (Value.int .i64))) (hf:from0<n)
  (k0:∀(s:Int) (w':World),0≤s→s<(n:Int)→Step [] w w'→QM prog gw (.int .i64 s::cw) w' λr hT=>r=.bool (wt s)∧Step [] w' hT)
  (k4:∀(e:Ed) (w':World),e∈a.ed→Step [] w w'→QM prog gp (.agg (Qz e).toArray::cp) w' λr hT=>r=.bool (pm e)∧Step [] w' hT) :
  QM prog 188 [.agg #[va,.int .i64 a.st,vm,ve,.slice (some ⟨bF,0,none⟩) (n+1) (n+1)],.int .i64 from0,.func (.func gw) #[] cw.toArray,.func (.func gp) #[] cp.toArray] w λr w' =>
   Step [] w w'∧∃v,r=.tuple #[v,.bool (pth wt pm a.ed n from0).2]∧Qn 3 w.heap.size w' v (pth wt pm a.ed n from0).1:=by
 refine QM.of_G 3 func188 O ntmps188 results188 (by simp) ?_;refine Q2<|QJ (by rfl) (by rfl) ?_;refine xl rfl<|QS (us:=[va,.int .i64 a.st,vm,ve,.slice (some ⟨bF,0,none⟩) (n+1) (n+1)]) O λb4 w1 gq q2 hU=>xl O<|QS (us:=[.func (.func gp) #[] cp.toArray]) O λb7 w2 gr q3 gs=>x Qe<|Qf<|Q2<|QJ (by rfl) (by rfl) ?_
 refine Qb<|x (QG ⟨O,O,O,La⟩)<|xl O<|QL (us:=[[.int .i64 from0,.int .i64 (-1),.int .i64 (-1)]]) O O (by decide) (by simp) ⟨rfl,rfl,La⟩ λbL w3 hV q4 gt =>
  xl rfl<|Qu (us:=[nS]) O λH w4 hC q5 gu=>xl O<|QH (u:=.slice (some ⟨bL,0,none⟩) 1 1) gu O O (by decide) O λw5 hE hF=>xe ?_
 have j1:=hU.lt;have j2:=gs.lt;have za:=gt.lt;have zb:=gu.lt;have z0:=gq.size;have z1:=gr.size;have z2:=hV.size;have z3:=hC.size;have z4:=hE.size;have hW:Step [] w1 w5:=((gr.trans hV).trans hC).then1 hE (by omega);have k5:Step [] w2 w5:=(hV.trans hC).then1 hE (by omega);have k6:Step [] w3 w5:=hC.then1 hE (by omega);refine Q2<|QJ (by rfl) (by rfl) ?_
 refine x (Qa O)<|x (Qa O)<|x (Qc (hU.ext hW) O O)<|xl O<|YG (n:=n) (congrArg (Value.int .i64) hn) (congrArg (Value.int .i64) hn) (by omega) λbS w6 gv z5 gx=>xl O<|Qu (us:=[nS]) O λhw w7 hX z6 gy =>
  xl rfl<|QH (u:=.slice (some ⟨bS,0,none⟩) n n) gy O O (by decide) O λw8 hY gz=>xe ?_
 have z9:=gx.lt;have hl11:=gy.lt;have hz6:=gv.size;have hz7:=hX.size;have hz8:=hY.size;have h4:Step [] w5 w8:=(gv.trans hX).then1 hY (by omega);have k7:Step [] w6 w8:=hX.then1 hY (by omega);have k8:QX w6.heap bS 4 ((flg n []).map Value.bool):=by
  have e:(List.replicate n (Value.bool false).cells.toList).flatten=(flg n []).map Value.bool:=by
   simp only[flg,List.not_mem_nil,decide_false,List.map_map];apply L9
   ·simp[Value.cells]
   intro i h1 h2;simp[Value.cells]
  rw[←e];exact gx
 refine Q2<|QJ (by rfl) (by rfl) ?_;refine x (Qc gz O O)<|Qb<|x (QP (i:=from0) O O hf)<|xl O<|QH (j:=0+from0*1) (u:=.bool true) (k8.ext k7) O O (by rw[Lo,qX];omega) O λw9 hl k9=>xe ?_;have hz9:=hl.size;have ma:QX w9.heap bS 4 ((flg n [(from0:Int)]).map Value.bool):=by
  have e1:=QaH (n:=n) (l:=[]) (x:=(from0:Int)) (by omega);rw[Mo] at e1;rw[←e1,Np];simpa using k9
 refine Q2<|Q2<|QJ (by rfl) (by rfl) ?_;refine xl rfl<|Qu (us:=[.int .i64 0]) O λg0 w10 g1 mc g2=>xl O<|QH (u:=.int .i64 0) g2 O O (by decide) O λhG g3 mf=>xe ?_;have hl12:=g2.lt;have hz10:=g1.size;have hz11:=g3.size;have ho:Step [] w9 hG:=g1.then1 g3 mc;have mg:Step [] w hG:=(((gq.trans hW).trans h4).then1 hl (by omega)).trans ho
 have mh:PI w b4 b7 H hw bS n [va,.int .i64 a.st,vm,ve,.slice (some ⟨bF,0,none⟩) (n+1) (n+1)] (.func (.func gp) #[] cp.toArray) g0 0 (.slice (some ⟨bL,0,none⟩) 1 1) [((from0:Int),-1,-1)] hG:=by
  refine ⟨mg,(((hU.ext hW).ext h4).step hl (by simp;omega)).ext ho,(((gs.ext k5).ext h4).step hl (by simp;omega)).ext ho,((hF.ext h4).step hl (by simp;omega)).ext ho,
   (gz.step hl (by simp;omega)).ext ho,ma.ext ho,mf,?_,λb hb=>?_⟩
  ·have mj:=(((gt.ext k6).ext h4).step hl (by simp;omega)).ext ho;exact mj.own (n:=1) (sz:=3) O (by omega) (by omega)
  have e:b=bL:=by simpa[ob] using hb
  subst e;omega
 have hel:=hA.ed.le;refine ZN<|VS (α:=Nat×Nat×Nat×Value×List Ed) [(8,9),(12,15),(26,68),(70,94)] (λz=>[(12,.pointer (some ⟨z.2.1,0,none⟩))])
  (λz ds W=>PI w b4 b7 H hw bS n [va,.int .i64 a.st,vm,ve,.slice (some ⟨bF,0,none⟩) (n+1) (n+1)] (.func (.func gp) #[] cp.toArray) z.2.1 z.1 z.2.2.2.1 z.2.2.2.2 W∧QdR n z.2.2.2.2∧Vw w.heap.size W.heap.size ds W∧hG.heap.size≤W.heap.size ∧
   (z.2.1≠b4∧z.2.1≠b7∧z.2.1≠H∧z.2.1≠hw∧z.2.1≠bS)∧w.heap.size≤z.2.1∧z.1≤z.2.2.2.2.length∧n+1≤z.2.2.1+z.1∧QfG wt pm a.ed z.2.2.1 z.1 z.2.2.2.2=pth wt pm a.ed n from0)
  (λz=>n+1 - z.1) (by rfl) (0,g0,n+1,.slice (some ⟨bL,0,none⟩) 1 1,[((from0:Int),-1,-1)]) Lb
  ⟨mh,QlM hf,⟨MN,λ_ h=>by cases h⟩,Lv _,by simp only[];omega,by simp only[];omega,by simp,by simp,rfl⟩ ?_
 rintro ⟨i,bi,fu,vs,st⟩ g ds hH ⟨hP,h5,h6,hz12,mo,mq,ms,mt,U⟩;simp only[] at hP h5 h6 mo mq ms mt U;have hstl:=h5.le;refine Q2<|Q2<|QJ (by rfl) (by rfl) ?_;refine x (Qc hP.BI O O)<|x (Qc hP.B10 O O)<|x (Qw (QW (L:=[]) hP.R (by omega) (by simp)) rfl)<|x (QD rfl rfl)<|xe<|yL rfl (λhZ=>?_) (λhZ=>?_)
 ·refine Ky ?_;have mu:¬i<st.length:=by have mv:¬(i:Int)<(st.length:Int):=hZ;omega
  rw[QfF mu] at U;refine Q2<|QJ (by rfl) (by rfl) ?_;refine x Qe<|Qf<|Vc ⟨λD hD=>(h6.2 D hD).2.2,h6.1,[nS,.bool false],λw' hI=>⟨⟨O,O,La⟩,hP.stp.then hI (λD hD=>.inr (h6.2 D hD).1),_,by rw[←U];rfl,?_⟩⟩;rw[←U];exact QR _ _ _ _
 have hq:i<st.length:=by have mv:(i:Int)<(st.length:Int):=hZ;omega
 refine Exists.elim (MI (show fu≠0 by omega)) λmw ga=>?_;subst ga;rw[QfG,if_pos hq] at U;have gc:=h5.rg _ (Qmh hq);have hge:=QhV hq;refine Zs (gE st i) λs0 my=>?_;rw[my] at U gc hge;refine Yl<|Q2<|ZN<|Q2<|Q2<|QJ (by rfl) (by rfl) ?_
 refine Qb<|x (Qc hP.B10 O O)<|x (Qc hP.BI O O)<|xie (i:=i) (QW (L:=[]) hP.R (by omega) (by simp)) rfl rfl hq λa35 g4=>?_;rw[hge] at g4;refine x (Zn O)<|x (Qv (g4.fld 0 (.int .i64 s0.1) O) O)<|xl O<|xc (first:=[]) (capt:=cw) O<|(k0 s0.1 _ gc.1 gc.2 hP.stp).mono ?_;rintro r13 hj ⟨rfl,ge⟩;have hz13:=ge.size;have hk:=hP.ext ge;have g5:=h6.ext ge;refine xe ?_
 refine Vd rfl (λgg=>?_) (λgg=>?_)
 ·rw[if_pos gg] at U;have mz:Vw w.heap.size hH.heap.size ds hj:=g5;refine Q2<|QJ (by rfl) (by rfl) ?_;refine Qf<|Q2<|Q2<|QJ (by rfl) (by rfl) ?_;refine x (Qc hk.BI O O)<|Qf<|ZN<|VS (α:=Nat×Nat×Value×LI) [(13,14),(40,58)] (λz=>[(13,z.2.2.1),(14,.int .i64 z.2.1)])
   (λz g6 W=>g6=ds∧Step [] hj W∧Vw w.heap.size hH.heap.size ds W∧z.2.1<z.1∧z.2.1<st.length∧Qn 3 hj.heap.size W z.2.2.1 z.2.2.2∧z.2.2.2.length+z.1≤i+1∧z.2.2.2++wrd st z.1 z.2.1=wrd st (i+1) i)
   (λz=>z.1) (by rfl) (i+1,i,nS,[]) ⟨O,O,La⟩ ⟨O,Step.refl _ _,mz,by simp,hq,QR _ _ _ _,by simp,rfl⟩ ?_
  rintro ⟨f,k,v,acc⟩ g g6 hg ⟨rfl,h7,hJ,m0,hy,hr,m2,ht⟩;simp only[] at m0 hy hr m2 ht;refine Exists.elim (MI (show f≠0 by omega)) λf' ga=>?_;subst ga;rw[wrd] at ht;have hK:=QhV hy;have m3:=h5.par k hy;refine Zs (gE st k) λs1 m4=>?_;rw[m4] at ht hK m3;have G:=hk.ext h7;have m5:=h7.size;refine Q2<|Q2<|QJ (by rfl) (by rfl) ?_
  refine x (Qc G.B10 O O)<|Qb<|xie (i:=k) (QW (L:=[]) G.R (by omega) (by simp)) rfl rfl hy λa42 g7=>?_;rw[hK] at g7;refine x (Zn O)<|x (Qv (g7.fld 1 (.int .i64 s1.2.1) O) O)<|x (Yg O O)<|xe<|yL O (λhL=>?_) (λhL=>?_)
  ·refine Ky ?_;rw[if_neg hL,LU] at ht;refine Q2<|QJ (by rfl) (by rfl) ?_;refine Qb<|xl O<|xf<|(yJ hr (by omega)).mono ?_;rintro r15 g8 ⟨g9,Z⟩;have hM:=hJ.step Z (Go.Lg.ZI hr);refine xe<|Q2<|QJ (by rfl) (by rfl) ?_;refine Qb<|x Qe<|Qf<|Vc ⟨λD hD=>(hM.2 D hD).2.2,hM.1,[v,.bool true],λw' hI=>⟨⟨O,O,La⟩,?_,v,by rw[←U];rfl,?_⟩⟩
   ·exact ((G.stp).then Z (λb hb=>.inr (by have:=(Qm hr b hb).1;omega))).then hI (λD hD=>.inr (hM.2 D hD).1)
   rw[←U,←ht];exact QT (Qi g9 hI (hM.own g9)) (by omega)
  rw[if_pos hL] at ht;have h46:0≤s1.2.1:=hL;refine Yl<|Q2<|ZN<|QJ (by rfl) (by rfl) ?_;refine Qb<|x (Qc G.B10 O O)<|Qb<|xie (i:=k) (QW (L:=[]) G.R (by omega) (by simp)) rfl rfl hy λa54 ka=>?_;rw[hK] at ka
  refine x (Zn O)<|x (Qv (ka.fld 2 (.int .i64 s1.2.2) O) O)<|xl O<|QL (us:=[[.int .i64 s1.2.2]]) O O (by decide) (by simp) ⟨rfl,rfl,La⟩ λb57 h8 S hb57 m6=>xl rfl<|QZ (m:=1) (news:=[.int .i64 s1.2.2]) (Qt hr S) rfl rfl rfl (m6.at (L:=[]) (by simp)) (by simp[Value.oneCell']) (by omega) (by have:=S.size;omega) λm7 kb m8 hu hn17 =>
   Qf ?_
  have kc:Step [] hj kb:=(h7.trans S).then hu (λb hb=>.inr (Qm hr b hb).1);have ke:=hk.ext kc;have m9:=(hJ.ext S).step hu (Go.Lg.ZI (Qt hr S));refine QJ (by rfl) (by rfl) ?_;refine x (Qc ke.B10 O O)<|Qb<|xie (i:=k) (QW (L:=[]) ke.R (by omega) (by simp)) rfl rfl hy λa48 kf=>?_;rw[hK] at kf
  refine x (Zn O)<|x (Qv (kf.fld 1 (.int .i64 s1.2.1) O) O)<|Qf ?_;have pa:s1.2.1=(s1.2.1.toNat:Int):=by omega
  refine ⟨(f',s1.2.1.toNat,m7,acc++[s1.2.2]),by simp only[];omega,⟨O,congrArg (Value.int .i64) pa,La⟩,O,kc,m9,by simp only[];omega,by simp only[];omega,Qn.snoc m8,?_,?_⟩
  ·simp only[List.length_append,List.length_singleton];omega
  rw[LB];exact ht
 rw[if_neg (by rw[gg];decide)] at U;have kg:s0.1=(s0.1.toNat:Int):=by omega
 refine Yl ?_;have pc:Step [] hj { hj with drawn:=hj.drawn+1 }:=Step.drew _ _
 refine Q2<|Qa3 (Step [] hj) [(0,true),(1,true),(2,true),(3,true),(4,true),(5,true),(6,false)] mixed (by rfl) (by rfl) (by kernel_rfl) (Step.drew _ _) ?_;refine pq (λ_ hc=>Qo (hk.B4.ext hc) O O)<|pq (λ_ hc=>Qc (hk.B10.ext hc) O O)<|pq (λ_ hc=>Qc (hk.BI.ext hc) O O) <|
  pie (i:=i) O (QW (L:=[]) hk.R (by omega) (by simp)) rfl rfl hq λa65 kh=>?_
 rw[hge] at kh;refine p (λ_=>Zn O)<|pq (λ_ hc=>Qv ((kh.fld 0 (.int .i64 s0.1) O).ext hc) O)<|pk<|xf<|(Qim (va:=va) (vm:=vm) (ve:=ve) (vf:=.slice (some ⟨bF,0,none⟩) (n+1) (n+1)) (st:=a.st) (s:=s0.1)).mono ?_;rintro r18 hg ⟨h7,b1,b2,rfl,hb1,hb2,pd,ki⟩;have hN:=pc.trans h7;refine ⟨hN,pe ?_⟩;have G:=hk.ext hN;have hJ:Vw w.heap.size hH.heap.size ds hg:=g5.ext hN
 have m5:=hN.size;have pf:qc (bS::H::ob vs) hg.heap ve a.ed:=by
  refine (hA.ed.up (L':=bS::H::ob vs) (λb hb=>.inr ?_)).step G.stp (λ_ hb=>by cases hb);rcases Li.1 hb with rfl | hb
  ·omega
  rcases Li.1 hb with rfl | hb
  ·omega
  exact (Qm G.R b hb).1
 rw[kg] at ki;have pg:w.heap.size≤hg.heap.size:=G.stp.size;have gh:bS≠b4∧bS≠b7∧bS≠H∧bS≠hw∧bS≠bi∧H≠b4∧H≠b7∧H≠hw∧H≠bi:=by omega
 have hq4:=G.B4.lt;have hq7:=G.B7.lt;have hq10:=G.B10.lt;have hq11:=G.B11.lt;have hqS:=G.BS.lt;have hqi:=G.BI.lt;refine ZN<|Qk1 (α:={ e:Ed // e∈a.ed }) (bS::H::ob vs) (by omega) (capt:=[.pointer (some ⟨b1,0,none⟩),.pointer (some ⟨b2,0,none⟩)]) O (enc:=λx=>.agg (Qz x.1).toArray) (by decide)
  (Qdx pd ki (kz.ext G.stp) pf kx (by omega) kv)
  (λpre W=>∃v,PI w b4 b7 H hw bS n [va,.int .i64 a.st,vm,ve,.slice (some ⟨bF,0,none⟩) (n+1) (n+1)] (.func (.func gp) #[] cp.toArray) bi i v ((pre.map (·.1)).foldl (KJ pm i) st) W∧QdR n ((pre.map (·.1)).foldl (KJ pm i) st)∧i<((pre.map (·.1)).foldl (KJ pm i) st).length ∧
   (∀b∈ob v,b∈ob vs∨hg.heap.size≤b)∧Vw w.heap.size hH.heap.size ds W∧hg.heap.size≤W.heap.size)
  (λpre=>Yf.ex λv=>(PI.stb pg).and ((Yf.pure _).and ((Yf.pure _).and ((Yf.pure _).and ((Vw.stb (by omega)).and (λW W' X h hs _=>L5 h hs.size))))))
  ⟨vs,G,h5,hq,λb hb=>.inl hb,hJ,Lv _⟩
  (λf x f' W=>∃b,f'=upd (upd f 69 (.agg (Qz x.1).toArray)) 15 (.pointer (some ⟨b,0,none⟩))∧hg.heap.size≤b∧QX W.heap b 144 (Qz x.1))
  (λx f'=>Yf.ex λb=>(Yf.pure _).and ((Yf.pure _).and Yf.blk)) ?_ ?_ ?_
 ·rintro l pre ⟨e,he⟩ W ⟨v,E,V,ha,hz,hv,h0⟩;refine QJ (by rfl) (by rfl) ?_;refine xl O<|Qu (us:=[.int .i64 0,.int .i64 0,.int .i64 0]) O λb15 g8 Z kj h3=>xl O<|Qq (us:=Qz e) h3 O O O O ⟨O,O,O,La⟩ λh8 S ph=>xe ?_;have hO:Step [] W h8:=Z.then1 S kj;have pj:=hO.size
  exact ⟨O,Jj.ext hO h0,⟨v,E.ext hO,V,ha,hz,hv.ext hO,by omega⟩,b15,O,by omega,ph⟩
 ·rintro l pre ⟨e,he⟩ f' W ⟨v,E,V,ha,hz,hv,h0⟩ ⟨b15,rfl,kj,h3⟩ _;have h9:((pre++[(⟨e,he⟩:{ e:Ed // e∈a.ed })]).map (·.1)).foldl (KJ pm i) st=KJ pm i ((pre.map (·.1)).foldl (KJ pm i) st) e:=by rw[LA,LW];rfl
  refine Zs ((pre.map (·.1)).foldl (KJ pm i) st) λJ gi=>?_;rw[gi] at E V ha h9;have hQ:=kw e he;have gj:e.2.2=(e.2.2.toNat:Int):=by omega
  have gk:=QkV (pm:=pm) V ha hQ;have hR:=QaJ (l:=stS J) hQ.1 hQ.2;have pn:=V.le;have pj:=E.stp.size;refine ZN<|Q2<|QJ (by rfl) (by rfl) ?_;by_cases hS:e.2.2∈stS J
  ·rw[decide_eq_true hS] at hR;have hB:KJ pm i J e=J:=by unfold KJ;rw[if_neg (λh=>h.1 hS)]
   refine x (Qc E.B11 O O)<|x (Qa O)<|x (Qc h3 O O)<|x (QP (i:=e.2.2.toNat) O (congrArg (Value.int .i64) gj) (by omega))<|x (Qc E.BS O hR)<|x (Zh O)<|x Ql <|
    xs rfl<|xs O<|xs O<|x (Qp O)<|xe ?_
   refine Vv O<|Yl ?_;refine ⟨Jj.refl _ _ _,v,?_⟩;rw[h9,hB];exact ⟨E,V,ha,hz,hv,h0⟩
  rw[decide_eq_false hS] at hR;refine x (Qc E.B11 O O)<|x (Qa O)<|x (Qc h3 O O)<|x (QP (i:=e.2.2.toNat) O (congrArg (Value.int .i64) gj) (by omega))<|x (Qc E.BS O hR)<|x (Zh O)<|x Ql <|
   x (Qc E.B7 O O)<|x (Qo h3 O O)<|xl O<|xc (first:=[]) (capt:=cp) O<|(k4 e _ he E.stp).mono ?_
  rintro r19 g8 ⟨rfl,Z⟩;refine x (Qp O)<|xe ?_;have hh:=E.ext Z;have hz15:=Z.size;refine Vd O (λhp=>?_) (λhp=>?_)
  ·have hB:KJ pm i J e=J++[(e.2.2,(i:Int),e.2.1)]:=by unfold KJ;rw[if_pos ⟨hS,hp⟩]
   rw[hB] at h9 gk;have kk:=h3.ext Z;refine Q2<|QJ (by rfl) (by rfl) ?_;refine x (Qc hh.B11 O O)<|x (Qa O)<|x (Qc kk O O)<|x (QP (i:=e.2.2.toNat) O (congrArg (Value.int .i64) gj) (by omega))<|xl O<|QH (j:=0+e.2.2.toNat*1) (u:=.bool true) hh.BS O O (by rw[Lo,qX];omega) O λh8 S pp=>xe ?_
   have pt:QX h8.heap bS 4 ((flg n (stS (J++[(e.2.2,(i:Int),e.2.1)]))).map Value.bool):=by
    have e1:=QaH (n:=n) (l:=stS J) hQ.1;have e2:stS (J++[(e.2.2,(i:Int),e.2.1)])=stS J++[e.2.2]:=by unfold stS;rw[LA];rfl
    rw[e2,←e1,Np];simpa using pp
   have hz16:=S.size;have hF:=hh.B10.step S (by have:=gh.2.2.1;simpa using this.symm);have pu:=hh.BI.step S (by have:=gh.2.2.2.2.1;simpa using this.symm);have pw:ZS 348 w.heap.size h8 v J:=Qi hh.R S (λb hb=>by have:=(hh.ne b hb).2.2.2.2.1;simpa using this);have kn:=kk.step S (by simp;omega);refine QJ (by rfl) (by rfl) ?_
   refine x (Qc hF O O)<|x (Qa O)<|x (Qc kn O O)<|x (Qc pu O O)<|x (Qa O)<|x (Qc kn O O)<|x (QG ⟨O,O,O,La⟩) <|
    xl rfl<|QL (us:=[[.int .i64 e.2.2,.int .i64 i,.int .i64 e.2.1]]) O O (by decide) (by simp) ⟨rfl,rfl,La⟩ λb92 kb hu hb92 pz =>
    xl rfl<|QZ (m:=1) (news:=[.int .i64 e.2.2,.int .i64 i,.int .i64 e.2.1]) (Qt pw hu) O O O (pz.at (L:=[]) (by simp)) (by simp[Value.oneCell']) (by omega) (by have:=hu.size;omega) λko w18 kq kr p0=>?_
   have p1:H∉ob v:=λhm=>(hh.ne H hm).2.2.1 O;refine xl O<|QH (u:=ko) ((hF.ext hu).step kr p1) O O (by simp) (QW (L:=[]) kq (by omega) (by simp)).one λp2 p3 p4=>xe ?_;have gl:=hh.add (B:=hg.heap.size) (L0:=ob vs) gh (by omega) (by omega) (by omega) ⟨by omega,by omega,by omega,by omega⟩ S pt hu kr (ZS.snoc kq) p0 p3 p4 hz
   have gm:Jj hg.heap.size (bS::H::ob vs) W p2:=(Jj.ext Z h0).trans gl.2.1;have hzf:=gm.lw.size;refine ⟨gm,ko,?_⟩;rw[h9];exact ⟨gl.1,gk.1,gk.2,gl.2.2,hv.rst gm,by omega⟩
  have hB:KJ pm i J e=J:=by unfold KJ;rw[if_neg (λh=>by rw[hp] at h;exact absurd h.2 (by decide))]
  refine Yl<|⟨Jj.ext Z h0,v,?_⟩;rw[h9,hB];exact ⟨hh,V,ha,hz,hv.ext Z,by omega⟩
 rintro D xs W hD p5 ⟨v,E,V,ha,hz,hv,h0⟩ p6;rw[p5,←kg] at E V ha;refine Zs ((Zv a.ed s0.1).foldl (KJ pm i) st) λJ gi=>?_;rw[gi] at E V ha U;have pn:=V.le;have p7:=hv.cons (by omega) (by omega) p6;have hzW:=E.stp.size;refine Q2<|Q2<|QJ (by rfl) (by rfl) ?_;refine x (Qc E.BI O O)<|xe<|QJ (by rfl) (by rfl) ?_
 refine xl O<|Qu (us:=[.int .i64 0]) O λbj w20 p8 kt p9=>xl O<|QH (u:=.int .i64 i) p9 O O (by simp) rfl λw21 qa ku=>xe ?_;refine QJ (by rfl) (by rfl) ?_;refine x (Qc ku O O)<|QN O O<|xl O<|QH (u:=.int .i64 ((i:Int)+1)) ku O O (by simp) rfl λqe qf ql=>xe ?_;have gn:Step [] W qe:=(p8.then1 qa kt).then1 qf kt;have qm:=gn.size;have Y:=E.ext gn
 have q0:=(p7.ext gn).up qm;have q1:∀b∈ob v,b≠bj:=λb hb e=>by have:=QY E.R b hb;omega
 refine ⟨(i+1,bj,mw,v,J),by simp only[];omega,Lb,⟨Y.stp,Y.B4,Y.B7,Y.B10,Y.B11,Y.BS,ql,Y.R,λb hb=>⟨(Y.ne b hb).1,(Y.ne b hb).2.1,(Y.ne b hb).2.2.1,(Y.ne b hb).2.2.2.1,(Y.ne b hb).2.2.2.2.1,q1 b hb⟩⟩,V,q0,by omega,?_,by simp only[];omega,ha,by simp only[];omega,U⟩;have t4:=E.B4.lt;have t7:=E.B7.lt;have t10:=E.B10.lt;have t11:=E.B11.lt;have tS:=E.BS.lt
 simp only[];omega
end Go.Proofs.YtdffckgdcegpaaaGreatDoor
namespace Go.Lg
theorem qT {W W':World}{base e sz n:Nat}{v:Value}{cs:LV}(h:W.ownsRow base e sz v n cs) (hc:Kh [] W W'):W'.ownsRow base e sz v n cs :=
 ⟨h.1,h.2.imp id λ⟨g,cap,cur,h1,h2,h3,h4⟩=>⟨g,cap,cur,h1,h2,hc g _ (by simp) h3 rfl,h4⟩⟩
theorem Kh.mono {L L':LN}{W W':World}(h:Kh L W W') (E:∀b∈L,b∈L'):Kh L' W W':=λk o G=>h k o (λhm=>G (E k hm))
theorem Kh.nonc {X:LN}{W W':World}(hs:Step X W W') (E:∀r∈X,∃o:Obj,W.heap[r]?=some o∧o.isCells=false):Kh [] W W':=λk o _ hk hc =>
 (hs.block k (LG.1 hk).1 (λhx=>by
  obtain ⟨G,h1,h2⟩:=E k hx;rw[hk] at h1;cases h1;rw[hc] at h2;cases h2)).trans hk
theorem Yf.cst {B:Nat}{I:World→Prop}(h:∀W W',I W→Kh [] W W'→W.heap.size≤W'.heap.size→I W'):Yf B I:=λW W' _ hi hs E=>h W W' hi (Kh.nonc hs (λr G=>(E r G).2)) hs.size
end Go.Lg
namespace Go.Proofs.YtdffckgdcegpaaaGreatDoor
open Go.Lg
theorem Yy.cst {base:Nat}{av:LN}{W W':World}{v:Value}{n sz:Nat}{cs:LV}(h:Yy base av W.heap v n sz cs) (hc:Lg.Kh [] W W') (E:W.heap.size≤W'.heap.size):Yy base av W'.heap v n sz cs:=λL G=>(h L G).cst (hc.mono (by simp)) E
abbrev YK (r:Rsn):LV:=[.int .i64 r.st,.int .i64 r.kd,.int .i64 r.ix,.int .i64 r.ev]
structure Ke (base:Nat) (w:World) (v1 v2 v3 v4:Value) (cos rqs:List TV) (pls:LI) (fbs:List Rsn):Prop where
 o1:w.ownsRow base 37 1 v1 cos.length (cos.flatMap Yo)
 o2:w.ownsRow base 37 1 v2 rqs.length (rqs.flatMap Yo)
 o3:Qn 3 base w v3 pls
 o4:w.ownsRow base 83 4 v4 fbs.length (fbs.flatMap YK)
 d12:Dj v1 v2
 d13:Dj v1 v3
 d14:Dj v1 v4
 d23:Dj v2 v3
 d24:Dj v2 v4
 d34:Dj v3 v4
 e1:∀p∈cos,Yy base (ob v1++(ob v2++(ob v3++ob v4))) w.heap p.1 p.2.length 1 (p.2.map (.int .i64))
 e2:∀p∈rqs,Yy base (ob v1++(ob v2++(ob v3++ob v4))) w.heap p.1 p.2.length 1 (p.2.map (.int .i64))
theorem UX {v:Value}:Dj (nS) v:=λb hb=>by simp[ob] at hb
theorem Ke.nil (base:Nat) (w:World):Ke base w (nS) (nS) (nS) (nS) [] [] [] [] :=
 ⟨QR _ _ _ _,QR _ _ _ _,QR _ _ _ _,QR _ _ _ _,UX,UX,UX,UX,UX,UX,λp hp=>(by cases hp),λp hp=>(by cases hp)⟩
variable {base:Nat} {w w7 w8:World} {v1 v2 v3 v4 v':Value} {cos rqs:List TV} {pls:LI} {fbs:List Rsn}
theorem Ke.ext (h:Ke base w v1 v2 v3 v4 cos rqs pls fbs) (hs:Step [] w w7):Ke base w7 v1 v2 v3 v4 cos rqs pls fbs :=
 ⟨Qt h.o1 hs,Qt h.o2 hs,Qt h.o3 hs,Qt h.o4 hs,h.d12,h.d13,h.d14,h.d23,h.d24,h.d34,λp hp=>(h.e1 p hp).ext hs,λp hp=>(h.e2 p hp).ext hs⟩
theorem Ke.low {X:LN}(h:Ke base w v1 v2 v3 v4 cos rqs pls fbs) (hs:Step X w w7) (E:∀b∈X,b<base):Ke base w7 v1 v2 v3 v4 cos rqs pls fbs:=by
 have k:∀{e sz n:Nat} {v:Value} {cs:LV},w.ownsRow base e sz v n cs→w7.ownsRow base e sz v n cs:=λo=>Qi o hs (λb hb hm=>by have:=(Qm o b hb).1;have:=E b hm;omega);exact ⟨k h.o1,k h.o2,k h.o3,k h.o4,h.d12,h.d13,h.d14,h.d23,h.d24,h.d34,λp hp=>(h.e1 p hp).low hs E,λp hp=>(h.e2 p hp).low hs E⟩
theorem Ke.cst (h:Ke base w v1 v2 v3 v4 cos rqs pls fbs) (hc:Lg.Kh [] w w7) (E:w.heap.size≤w7.heap.size):Ke base w7 v1 v2 v3 v4 cos rqs pls fbs :=
 ⟨qT h.o1 hc,qT h.o2 hc,qT h.o3 hc,qT h.o4 hc,h.d12,h.d13,h.d14,h.d23,h.d24,h.d34,λp hp=>(h.e1 p hp).cst hc E,λp hp=>(h.e2 p hp).cst hc E⟩
theorem UY {a b E:Value}{n:Nat}(h:Dj a b) (G:∀x∈ob E,x∈ob a∨n≤x) (hb:∀x∈ob b,x<n):Dj E b:=λx hx hm=>by
 rcases G x hx with h1 | h1
 ·exact h x h1 hm
 have:=hb x hm;omega
theorem Vp {a b E:Value}{n:Nat}(h:Dj a b) (G:∀x∈ob E,x∈ob b∨n≤x) (ha:∀x∈ob a,x<n):Dj a E:=λx hx hm=>by
 rcases G x hm with h1 | h1
 ·exact h x hx h1
 have:=ha x hx;omega
theorem Ke.lt (h:Ke base w v1 v2 v3 v4 cos rqs pls fbs):(∀x∈ob v1,x<w.heap.size)∧(∀x∈ob v2,x<w.heap.size)∧(∀x∈ob v3,x<w.heap.size)∧∀x∈ob v4,x<w.heap.size:=⟨QY h.o1,QY h.o2,QY h.o3,QY h.o4⟩
theorem QbM {a b c d:LN}{x:Nat}(h:x∈a++(b++(c++d))):x∈a∨x∈b∨x∈c∨x∈d:=by simpa using h
theorem zW {a b c d:LN}{x:Nat}(h:x∈a∨x∈b∨x∈c∨x∈d):x∈a++(b++(c++d)):=by simpa using h
theorem Ke.a1 {N e:Nat}{q:TV}(h:Ke base w v1 v2 v3 v4 cos rqs pls fbs) (hs:Step [] w w7) (hq:w7.ownsRow N e 1 q.1 q.2.length (q.2.map (.int .i64))) (J:q.2.length≤1099511627776) (U:w.heap.size≤N) (hb:base≤w.heap.size) (S:w8.ownsRow base 37 1 v' (cos.length+1) (cos.flatMap Yo++Yo q))
  (G:Step (ob v1) w7 w8) (H:∀b∈ob v',b∈ob v1∨w7.heap.size≤b):Ke base w8 v' v2 v3 v4 (cos++[q]) rqs pls fbs:=by
 have l:=h.lt;have V:=hs.size;have E:=h.ext hs;have av:∀b∈ob v'++(ob v2++(ob v3++ob v4)),b∈ob v1++(ob v2++(ob v3++ob v4))∨w7.heap.size≤b:=by
  intro b hb;rcases QbM hb with h1 | h1 | h1 | h1
  ·rcases H b h1 with h2 | h2
   ·exact .inl (zW (.inl h2))
   exact .inr h2
  ·exact .inl (zW (.inr (.inl h1)))
  ·exact .inl (zW (.inr (.inr (.inl h1))))
  exact .inl (zW (.inr (.inr (.inr h1))))
 have st:Step (ob v1++(ob v2++(ob v3++ob v4))) w7 w8:=G.mono (λb hb=>zW (.inl hb));have g:∀{v:Value} {n sz:Nat} {cs:LV},Yy base (ob v1++(ob v2++(ob v3++ob v4))) w7.heap v n sz cs→Yy base (ob v'++(ob v2++(ob v3++ob v4))) w8.heap v n sz cs:=λa=>a.app st av
 refine ⟨by rw[Lk,LL];simpa using S,Qi E.o2 G (λb hb hm=>h.d12 b hm hb),Qi E.o3 G (λb hb hm=>h.d13 b hm hb),Qi E.o4 G (λb hb hm=>h.d14 b hm hb),UY h.d12 H (λx hx=>by have:=l.2.1 x hx;omega),UY h.d13 H (λx hx=>by have:=l.2.2.1 x hx;omega),UY h.d14 H (λx hx=>by have:=l.2.2.2 x hx;omega),h.d23,h.d24,h.d34,?_,?_⟩
 ·exact λp hp=>by
   rcases Lp.1 hp with hp | hp
   ·exact g (E.e1 p hp)
   simp only[List.mem_singleton] at hp;subst hp;exact g (Yy.of_own hq J (by omega) (λb hb=>by
   rcases QbM hb with h1 | h1 | h1 | h1
   ·have:=l.1 b h1;omega
   ·have:=l.2.1 b h1;omega
   ·have:=l.2.2.1 b h1;omega
   have:=l.2.2.2 b h1;omega))
 exact λp hp=>g (E.e2 p hp)
theorem Ke.a2 {N e:Nat}{q:TV}(h:Ke base w v1 v2 v3 v4 cos rqs pls fbs) (hs:Step [] w w7) (hq:w7.ownsRow N e 1 q.1 q.2.length (q.2.map (.int .i64))) (J:q.2.length≤1099511627776) (U:w.heap.size≤N) (hb:base≤w.heap.size) (S:w8.ownsRow base 37 1 v' (rqs.length+1) (rqs.flatMap Yo++Yo q))
  (G:Step (ob v2) w7 w8) (H:∀b∈ob v',b∈ob v2∨w7.heap.size≤b):Ke base w8 v1 v' v3 v4 cos (rqs++[q]) pls fbs:=by
 have l:=h.lt;have V:=hs.size;have E:=h.ext hs;have av:∀b∈ob v1++(ob v'++(ob v3++ob v4)),b∈ob v1++(ob v2++(ob v3++ob v4))∨w7.heap.size≤b:=by
  intro b hb;rcases QbM hb with h1 | h1 | h1 | h1
  ·exact .inl (zW (.inl h1))
  ·rcases H b h1 with h2 | h2
   ·exact .inl (zW (.inr (.inl h2)))
   exact .inr h2
  ·exact .inl (zW (.inr (.inr (.inl h1))))
  exact .inl (zW (.inr (.inr (.inr h1))))
 have st:Step (ob v1++(ob v2++(ob v3++ob v4))) w7 w8:=G.mono (λb hb=>zW (.inr (.inl hb)));have g:∀{v:Value} {n sz:Nat} {cs:LV},Yy base (ob v1++(ob v2++(ob v3++ob v4))) w7.heap v n sz cs→Yy base (ob v1++(ob v'++(ob v3++ob v4))) w8.heap v n sz cs:=λa=>a.app st av
 refine ⟨Qi E.o1 G (λb hb hm=>h.d12 b hb hm),by rw[Lk,LL];simpa using S,Qi E.o3 G (λb hb hm=>h.d23 b hm hb),Qi E.o4 G (λb hb hm=>h.d24 b hm hb),Vp h.d12 H (λx hx=>by have:=l.1 x hx;omega),h.d13,h.d14,UY h.d23 H (λx hx=>by have:=l.2.2.1 x hx;omega),UY h.d24 H (λx hx=>by have:=l.2.2.2 x hx;omega),h.d34,?_,?_⟩
 ·exact λp hp=>g (E.e1 p hp)
 exact λp hp=>by
  rcases Lp.1 hp with hp | hp
  ·exact g (E.e2 p hp)
  simp only[List.mem_singleton] at hp;subst hp;exact g (Yy.of_own hq J (by omega) (λb hb=>by
  rcases QbM hb with h1 | h1 | h1 | h1
  ·have:=l.1 b h1;omega
  ·have:=l.2.1 b h1;omega
  ·have:=l.2.2.1 b h1;omega
  have:=l.2.2.2 b h1;omega))
theorem Ke.a3 {q:Int}(h:Ke base w v1 v2 v3 v4 cos rqs pls fbs) (hs:Step [] w w7) (J:w8.ownsRow base 3 1 v' (pls.length+1) (pls.map (.int .i64)++[.int .i64 q]))
  (G:Step (ob v3) w7 w8) (H:∀b∈ob v',b∈ob v3∨w7.heap.size≤b):Ke base w8 v1 v2 v' v4 cos rqs (pls++[q]) fbs:=by
 have l:=h.lt;have S:=hs.size;have E:=h.ext hs;have av:∀b∈ob v1++(ob v2++(ob v'++ob v4)),b∈ob v1++(ob v2++(ob v3++ob v4))∨w7.heap.size≤b:=by
  intro b hb;rcases QbM hb with h1 | h1 | h1 | h1
  ·exact .inl (zW (.inl h1))
  ·exact .inl (zW (.inr (.inl h1)))
  ·rcases H b h1 with h2 | h2
   ·exact .inl (zW (.inr (.inr (.inl h2))))
   exact .inr h2
  exact .inl (zW (.inr (.inr (.inr h1))))
 have st:Step (ob v1++(ob v2++(ob v3++ob v4))) w7 w8:=G.mono (λb hb=>zW (.inr (.inr (.inl hb))));have g:∀{v:Value} {n sz:Nat} {cs:LV},Yy base (ob v1++(ob v2++(ob v3++ob v4))) w7.heap v n sz cs→Yy base (ob v1++(ob v2++(ob v'++ob v4))) w8.heap v n sz cs:=λa=>a.app st av
 refine ⟨Qi E.o1 G (λb hb hm=>h.d13 b hb hm),Qi E.o2 G (λb hb hm=>h.d23 b hb hm),Qn.snoc J,Qi E.o4 G (λb hb hm=>h.d34 b hm hb),h.d12,Vp h.d13 H (λx hx=>by have:=l.1 x hx;omega),h.d14,Vp h.d23 H (λx hx=>by have:=l.2.1 x hx;omega),h.d24,UY h.d34 H (λx hx=>by have:=l.2.2.2 x hx;omega),?_,?_⟩
 ·exact λp hp=>g (E.e1 p hp)
 exact λp hp=>g (E.e2 p hp)
theorem Ke.a4 {q:Rsn}(h:Ke base w v1 v2 v3 v4 cos rqs pls fbs) (hs:Step [] w w7) (J:w8.ownsRow base 83 4 v' (fbs.length+1) (fbs.flatMap YK++YK q))
  (G:Step (ob v4) w7 w8) (H:∀b∈ob v',b∈ob v4∨w7.heap.size≤b):Ke base w8 v1 v2 v3 v' cos rqs pls (fbs++[q]):=by
 have l:=h.lt;have S:=hs.size;have E:=h.ext hs;have av:∀b∈ob v1++(ob v2++(ob v3++ob v')),b∈ob v1++(ob v2++(ob v3++ob v4))∨w7.heap.size≤b:=by
  intro b hb;rcases QbM hb with h1 | h1 | h1 | h1
  ·exact .inl (zW (.inl h1))
  ·exact .inl (zW (.inr (.inl h1)))
  ·exact .inl (zW (.inr (.inr (.inl h1))))
  rcases H b h1 with h2 | h2
  ·exact .inl (zW (.inr (.inr (.inr h2))))
  exact .inr h2
 have st:Step (ob v1++(ob v2++(ob v3++ob v4))) w7 w8:=G.mono (λb hb=>zW (.inr (.inr (.inr hb))));have g:∀{v:Value} {n sz:Nat} {cs:LV},Yy base (ob v1++(ob v2++(ob v3++ob v4))) w7.heap v n sz cs→Yy base (ob v1++(ob v2++(ob v3++ob v'))) w8.heap v n sz cs:=λa=>a.app st av
 refine ⟨Qi E.o1 G (λb hb hm=>h.d14 b hb hm),Qi E.o2 G (λb hb hm=>h.d24 b hb hm),Qi E.o3 G (λb hb hm=>h.d34 b hb hm),by rw[Lk,LL];simpa using J,h.d12,h.d13,Vp h.d14 H (λx hx=>by have:=l.1 x hx;omega),h.d23,Vp h.d24 H (λx hx=>by have:=l.2.1 x hx;omega),Vp h.d34 H (λx hx=>by have:=l.2.2.1 x hx;omega),?_,?_⟩
 ·exact λp hp=>g (E.e1 p hp)
 exact λp hp=>g (E.e2 p hp)
theorem jp (c:Yz) (pl:QE) (ps:List (LI)):∀(l:List (LI)) (i:Nat) (s:Spc),(l.zipIdx i).foldl (QlC c pl ps) s =
  ⟨s.a,s.co++l.map (·.take c.co.length),s.rq++l.map (·.drop c.co.length),s.pl++l.map (λt=>plx ps (t.take c.co.length)),s.fb++(l.zipIdx i).filterMap (λp=>rsn c pl (plx ps (p.1.take c.co.length)) p.2 p.1)⟩
 | [],i,s=>by simp
 | t::l,i,s=>by
  rw[List.zipIdx_cons,Ls,jp c pl ps l (i+1)];unfold QlC;simp only[List.map_cons,List.append_assoc,List.cons_append,List.nil_append,List.filterMap_cons];cases rsn c pl (plx ps (t.take c.co.length)) i t with
  | none=>rfl
  | some r=>simp
theorem zr {c:Yz}{rs:LI}:∀{l:LI},(∀x∈wrf c.rq rs l,(c.ev.getD x.1.toNat ⟨.empty,false,false,false,0⟩).co=true)→rfd c rs l=none
 | [],_=>rfl
 | v::l,h=>by
  rw[wrf] at h;rw[rfd];by_cases h1:0≤rfr v 0 c.rq rs
  ·rw[if_pos h1] at h;have h2:=h _ Lh;simp only[] at h2;rw[if_neg (λe=>by rw[h2] at e;cases e.2)];exact zr λx hx=>h x (Le _ hx)
  rw[if_neg h1] at h;rw[if_neg (λe=>h1 e.1)];exact zr h
theorem zq {c:Yz}{rs:LI}{x:Int×Int}{t:List (Int×Int)}:∀{l:LI}{p:List (Int×Int)},wrf c.rq rs l=p++x::t→(∀y∈p,(c.ev.getD y.1.toNat ⟨.empty,false,false,false,0⟩).co=true)→(c.ev.getD x.1.toNat ⟨.empty,false,false,false,0⟩).co=false→rfd c rs l=some (x.2,x.1)
 | [],p,h,_,_=>by simp[wrf] at h
 | v::l,p,h,hp,hx=>by
  rw[wrf] at h;rw[rfd];by_cases h1:0≤rfr v 0 c.rq rs
  ·rw[if_pos h1] at h;cases p with
   | nil =>
    simp only[List.nil_append,List.cons.injEq] at h;obtain ⟨h2,_⟩:=h;subst h2;rw[if_pos ⟨h1,hx⟩]
   | cons y p =>
    simp only[List.cons_append,List.cons.injEq] at h;obtain ⟨h2,h3⟩:=h;have h4:=hp y Lh;subst h2;rw[if_neg (λe=>by simp only[] at h4;rw[h4] at e;cases e.2)];exact zq h3 (λy hy=>hp y (Le _ hy)) hx
  rw[if_neg h1] at h;rw[if_neg (λe=>h1 e.1)];exact zq h hp hx
theorem Qgs (c:Yz) (t:LI):vio c t=if (yQ c.ex c.cs t).2.2=true then some ((yQ c.ex c.cs t).1,(yQ c.ex c.cs t).2.1) else none:=by
 unfold vio yQ;by_cases h1:0≤fix (VJ t) 0 c.ex
 ·rw[if_pos h1,if_pos h1];rfl
 rw[if_neg h1,if_neg h1];by_cases h2:0≤fix (UF t) 0 c.cs
 ·rw[if_pos h2,if_pos h2];rfl
 rw[if_neg h2,if_neg h2];rfl
def Qn6 (N:Nat) (H:Array Obj) (v:Value) (s:Spc):Prop:=∃va vm ve v1 v2 v3 v4 cos rqs,v=.agg #[va,.int .i64 s.a.st,vm,ve,v1,v2,v3,v4]∧cos.map (·.2)=s.co∧rqs.map (·.2)=s.rq ∧
 ∀L:LN,(∀b∈L,b<N)→Zi L H va vm ve s.a∧XB L H v1 cos∧XB L H v2 rqs∧QO L H v3 s.pl∧Zz L H v4 s.fb.length 4 (s.fb.flatMap YK)
end Go.Proofs.YtdffckgdcegpaaaGreatDoor
namespace Go.Lg
open Go.RowKit
def sl (d:Option Nat) (f:Fr):Value:=match d with | some d=>f d | none=>undef
def ow:Value→LN
 | .slice (some a) _ _=>[a.block]
 | .pointer (some a)=>[a.block]
 | .map (some b)=>[b]
 | _=>[]
def Fa (p:Nat→Prop):LN→Prop
 | []=>True
 | i::l=>p i∧Fa p l
theorem Fa.all {p:Nat→Prop}:∀{l:LN},Fa p l→∀i∈l,p i
 | [],_,_,hi=>by cases hi
 | j::l,h,i,hi=>by
  rcases Li.1 hi with rfl | hi
  ·exact h.1
  exact Fa.all h.2 i hi
theorem Fa.of {p:Nat→Prop}:∀{l:LN},(∀i∈l,p i)→Fa p l
 | [],_=>trivial
 | i::_,h=>⟨h i Lh,Fa.of λj hj=>h j (Le _ hj)⟩
def zz (all:Array Oper) (opn:LN) (rest:List (Nat×Bool)):Nat→Array Bool→Bool
 | 0,ls=>Xw all rest ls && opn.all λi=>ls.getD i false
 | k+1,ls=>!(Region.ready .any all ls).isEmpty && (Region.ready .any all ls).all λi=>opn.contains i && zz all opn rest k (ls.setIfInBounds i true)
def QbE (all:List Oper) (D:List (Nat×Nat)):LN→Bool
 | []=>true
 | i::l=>(Q6 all i).guard.isNone && (match (Q6 all i).dst with | some d=>J1 D d && l.all (λj=>!((Q6 all j).dst == some d)) | none=>false) && !l.contains i && QbE all D l
theorem Ko {all:List Oper}{D:List (Nat×Nat)}:∀{l:LN},QbE all D l=true→(∀i∈l,(Q6 all i).guard=none∧∃d,(Q6 all i).dst=some d∧J1 D d=true)∧∀i∈l,∀j∈l,i≠j→(Q6 all i).dst≠(Q6 all j).dst
 | [],_=>⟨λ_ h=>(by cases h),λ_ h=>(by cases h)⟩
 | i::l,h=>by
  simp only[QbE,Bool.and_eq_true,Option.isNone_iff_eq_none] at h;obtain ⟨⟨⟨J,hd⟩,hc⟩,hl⟩:=h;have ih:=Ko hl;cases E:(Q6 all i).dst with
  | none=>rw[E] at hd;cases hd
  | some d =>
   rw[E] at hd;simp only[Bool.and_eq_true,List.all_eq_true,Bool.not_eq_true',beq_eq_false_iff_ne,ne_eq] at hd;have G:∀j∈l,(Q6 all j).dst≠some d:=λj hj=>hd.2 j hj;refine ⟨λj hj=>?_,λj hj k hk H=>?_⟩
   ·rcases Li.1 hj with rfl | hj
    ·exact ⟨J,d,E,hd.1⟩
    exact ih.1 j hj
   rcases Li.1 hj with hj1 | hj1
   ·rcases Li.1 hk with hk1 | hk1
    ·exact absurd (hj1.trans hk1.symm) H
    rw[hj1,E];exact λe=>G k hk1 e.symm
   rcases Li.1 hk with hk1 | hk1
   ·rw[hk1,E];exact G j hj1
   exact ih.2 j hj1 k hk1 H
def Qny (all:List Oper) (pre:List (Nat×Bool)) (opn:LN) (rest:List (Nat×Bool)) (D:List (Nat×Nat)):Bool :=
 Region.noSelect all.toArray && (pre.length+(opn.length+rest.length) == all.length) && Km all.toArray pre (Array.replicate all.length false) && QbE all D opn && zz all.toArray opn rest opn.length (Z4 pre (Array.replicate all.length false))
  && opn.all λi=>!((Z4 pre (Array.replicate all.length false)).getD i false)
section
variable {P:Program} {n:Nat} {f:Fr} {w:World} {all:List Oper} {C:World→Prop} {K:Fr→World→Prop}
theorem ya {o:Oper}(h:o.guard=none):YD all f o=true:=by unfold YD;rw[h]
theorem Qfm {α:Type}{D:List (Nat×Nat)}{opn:LN}{rest:List (Nat×Bool)}{Φ:Nat→Value→World→Prop}{S:α→List (Nat×Value)}{I:α→World→Prop}{f1:Fr}(hs:Region.noSelect all.toArray=true) (Z:QbE all D opn=true)
  (hl:∀w w',C w→Step [] w w'→C w') (stab:∀i v w w',Φ i v w→Step [] w w'→Φ i v w')
  (hm:∀(g:Fr) w,Fa (λi=>Φ i (sl (Q6 all i).dst g) w) opn→(∀i∈opn,∀j∈opn,i≠j→∀b∈ow (sl (Q6 all i).dst g),b∉ow (sl (Q6 all j).dst g))→∃z,JO g (S z)∧I z w)
  (spec:Fa (λi=>∀g w,C w→XO P (Q6 all i) (mix D f1 g) w (λf' w'=>Step [] w w'∧Φ i (sl (Q6 all i).dst f') w'∧∀b∈ow (sl (Q6 all i).dst f'),w.heap.size≤b∧b<w'.heap.size)) opn)
  (fin:∀z g w,C w→I z w→XP P all C K rest (yR (S z) (mix D f1 g)) w) :
  ∀(k:Nat) (ls:Array Bool) (f:Fr) (w:World),ls.size=all.length→C w→zz all.toArray opn rest k ls=true→(∀t,J1 D t=false→f t=f1 t)→(∀i∈opn,ls.getD i false=true→Φ i (sl (Q6 all i).dst f) w) →
   (∀i∈opn,ls.getD i false=true→(∀b∈ow (sl (Q6 all i).dst f),b<w.heap.size)∧∀j∈opn,ls.getD j false=true→i≠j→∀b∈ow (sl (Q6 all i).dst f),b∉ow (sl (Q6 all j).dst f))→XA P all C K (k+rest.length) ls f w
 | 0,ls,f,w,hc,V,hp,hf,he,G=>by
  simp only[zz,Bool.and_eq_true,List.all_eq_true] at hp;obtain ⟨z,h1,h2⟩:=hm f w (Fa.of λi hi=>he i hi (hp.2 i hi)) (λi hi j hj E=>(G i hi (hp.2 i hi)).2 j hj (hp.2 j hj) E);have h3:=fin z f w V h2;rw[KU hf,Xr h1] at h3;rw[LJ];exact ZO hs rest ls f w hc (.inl V) hp.1 h3
 | k+1,ls,f,w,hc,V,hp,hf,he,G=>by
  simp only[zz,Bool.and_eq_true,List.all_eq_true,List.contains_iff_mem] at hp;obtain ⟨ha,hp⟩:=hp;rw[Nat.add_right_comm];refine Vs (λh0=>(by rw[h0] at ha;cases ha)) ?_;intro i hi o ho;obtain ⟨hh,hv⟩:=hp i hi;obtain ⟨hg,d,hd,hw⟩:=(Ko Z).1 i hh;have hy:=(Ko Z).2;have hsp:=Fa.all spec i hh f w V;rw[KU hf] at hsp;have H:=ZD ho;rw[H] at hg hd hsp;rw[ya hg,cond_true]
  refine hsp.mono λv w' hx=>?_;have hn:=hl w w' V hx.1;have hz:=hx.1.size;have old:∀j∈opn,j≠i→sl (Q6 all j).dst (Q4 f o.dst v)=sl (Q6 all j).dst f:=λj hj E=>by
   obtain ⟨_,dj,hq,_⟩:=(Ko Z).1 j hj;have ha:o.dst≠some dj:=λe=>hy j hj i hh E (by rw[hq,H];exact e.symm);rw[hq];exact YL ha v
  have lsj:∀j,j≠i→(ls.setIfInBounds i true).getD j false=true→ls.getD j false=true:=λj E h=>by rw[getD_set_ne false (Ne.symm E)] at h;exact h
  refine ⟨.inr (.inr hn),Qfm hs Z hl stab hm spec fin k _ _ _ (by simpa using hc) hn hv (λt ht=>?_) (λj hj Y=>?_) (λj hj Y=>⟨λb hb=>?_,λk hk hr hu b hb J=>?_⟩)⟩
  ·rw[YL (by rw[hd];intro e;cases e;rw[hw] at ht;cases ht)];exact hf t ht
  ·by_cases E:j=i
   ·subst E;have h2:=hx.2.1;rw[H];exact h2
   rw[old j hj E];exact stab _ _ _ _ (he j hj (lsj j E Y)) hx.1
  ·by_cases E:j=i
   ·subst E;rw[H] at hb;exact (hx.2.2 b hb).2
   rw[old j hj E] at hb;have:=(G j hj (lsj j E Y)).1 b hb;omega
  by_cases E:j=i
  ·subst E;have U:k≠j:=Ne.symm hu;rw[old k hk U] at J;rw[H] at hb;have h1:=(G k hk (lsj k U hr)).1 b J;have h2:=(hx.2.2 b hb).1;omega
  rw[old j hj E] at hb;have h1:=(G j hj (lsj j E Y)).1 b hb;by_cases U:k=i
  ·subst U;rw[H] at J;have h2:=(hx.2.2 b J).1;omega
  rw[old k hk U] at J;exact (G j hj (lsj j E Y)).2 k hk (lsj k U hr) hu b hb J
theorem QkX {α:Type}{Q:Exit→Fr→World→Prop}{id:Nat}(C:World→Prop) (pre:List (Nat×Bool)) (opn:LN) (rest:List (Nat×Bool)) (D:List (Nat×Nat)) (Φ:Nat→Value→World→Prop) (S:α→List (Nat×Value)) (I:α→World→Prop)
  (hm:P.follows .mixedOrders=true) (U:JL n all=true) (hp:Qny all pre opn rest D=true) (E:C { w with drawn:=w.drawn+1 }) (V:∀w w',C w→Step [] w w'→C w') (stab:∀i v w w',Φ i v w→Step [] w w'→Φ i v w')
  (Y:∀(g:Fr) w,Fa (λi=>Φ i (sl (Q6 all i).dst g) w) opn→(∀i∈opn,∀j∈opn,i≠j→∀b∈ow (sl (Q6 all i).dst g),b∉ow (sl (Q6 all j).dst g))→∃z,JO g (S z)∧I z w)
  (h:XP P all C (λf1 _=>Fa (λi=>∀g w,C w→XO P (Q6 all i) (mix D f1 g) w (λG w'=>Step [] w w'∧Φ i (sl (Q6 all i).dst G) w'∧∀b∈ow (sl (Q6 all i).dst G),w.heap.size≤b∧b<w'.heap.size)) opn ∧
   ∀z g w,C w→I z w→XP P all C (λf w=>Q .normal f w) rest (yR (S z) (mix D f1 g)) w) pre f { w with drawn:=w.drawn+1 }):W P n (.region id all.toArray true) Q f w:=by
 simp only[Qny,Bool.and_eq_true,beq_iff_eq,List.all_eq_true,Bool.not_eq_true'] at hp;obtain ⟨⟨⟨⟨⟨hs,hl⟩,hq⟩,Z⟩,ha⟩,H⟩:=hp;refine VR C hm U ?_;rw[←hl];have hb:(Array.replicate all.length false).size=all.length:=by simp
 have h1:=Y9 (K:=λf w=>Q .normal f w) (m:=opn.length+rest.length) hs pre (Array.replicate all.length false) f _ E hq (λf1 J=>Qfm (P:=P) (C:=C) hs Z V stab Y J.1 J.2 opn.length (Z4 pre (Array.replicate all.length false)) f1 _ (by rw[Xe];exact hb) E ha (λ_ _=>O) (λi hi ht=>by rw[H i hi] at ht;cases ht) (λi hi ht=>by rw[H i hi] at ht;cases ht)) h;rw[hl] at h1 ⊢;exact h1
end
def Qdr (all:Array Oper) (i:Nat) (rest:List (Nat×Bool)):List (Nat×Bool)→Array Bool→Bool
 | [],ls=>Region.ready .any all ls == [i] && Xw all rest (ls.setIfInBounds i true)
 | (j,true)::l,ls=>(Region.ready .any all ls).contains j && Region.free .any all ls j && Qdr all i rest l (ls.setIfInBounds j true)
 | (j,false)::l,ls=>!(Region.ready .any all ls).isEmpty && (Region.ready .any all ls).all (λk=>k == j || k == i) && Xw all ((j,false)::(l++rest)) (ls.setIfInBounds i true) && Qdr all i rest l (ls.setIfInBounds j true)
def JS (all:List Oper) (d:Nat) (l:List (Nat×Bool)):Bool:=l.all λp=>!((Q6 all p.1).looksAt all.toArray).contains d && !((Q6 all p.1).dst == some d)
def Qmk (all:List Oper) (pre l:List (Nat×Bool)) (i:Nat) (rest:List (Nat×Bool)):Bool :=
 Region.noSelect all.toArray && (pre.length+(l.length+1+rest.length) == all.length) && Km all.toArray pre (Array.replicate all.length false) && Qdr all.toArray i rest l (Z4 pre (Array.replicate all.length false))
  && (Q6 all i).guard.isNone && (match (Q6 all i).dst with | some d=>JS all d l | none=>false)
def XF (P:Program) (all:List Oper) (C:World→Prop) (K:Fr→World→Prop):List (Nat×Bool)→LN→Fr→World→Prop
 | [],_,f,w=>K f w
 | (j,true)::l,own,f,w=>YD all f (Q6 all j)=true∧∃v,(∀w',(ju (Q6 all j)=true→C w')→(execOp (ev f) (Q6 all j)).run P w'=.ok (.value v) w')∧XF P all C K l own (Q4 f (Q6 all j).dst v) w
 | (j,false)::l,own,f,w=>YD all f (Q6 all j)=true∧∀w1,Step [] w w1→C w1→XO P (Q6 all j) f w1 λE w'=>C w'∧∃own',Step own w1 w'∧(∀b∈own',b∈own∨(w1.heap.size≤b∧b<w'.heap.size))∧XF P all C K l own' E w'
section
variable {P:Program} {n:Nat} {f:Fr} {w:World} {all:List Oper} {C:World→Prop} {K KF:Fr→World→Prop}
theorem XF.ext (E:∀f w w',KF f w→Step [] w w'→KF f w'):∀{l:List (Nat×Bool)}{own:LN}{f:Fr}{w w':World},XF P all C KF l own f w→Step [] w w'→XF P all C KF l own f w'
 | [],_,_,_,_,h,hs=>E _ _ _ h hs
 | (_,true)::_,_,_,_,_,h,hs=>by
  obtain ⟨G,v,H,hx⟩:=h;exact ⟨G,v,H,XF.ext E hx hs⟩
 | (_,false)::_,_,_,_,_,h,hs=>⟨h.1,λJ h1 hc=>h.2 J (hs.trans h1) hc⟩
attribute [local semireducible] XO in
theorem QkW {o:Oper}(hs:∀cs b,o.op≠.select cs b) {d:Nat}{v:Value}{K':Fr→World→Prop}(h1:d∉o.looksAt all.toArray) (h2:o.dst≠some d) (E:∀u w',K (Q4 f o.dst u) w'→K' (Q4 (Q4 f o.dst u) (some d) v) w')
  (h:XO P o f w K):XO P o (Q4 f (some d) v) w K':=by
 have hc:∀u,Q4 (Q4 f (some d) v) o.dst u=Q4 (Q4 f o.dst u) (some d) v:=λu=>UL f v u (λe he=>by cases he;exact h2);unfold XO at *;rw[JJ (all:=all) hs f (some d) v (λe he=>by cases he;exact h1)];generalize (execOp (ev f) o).run P w=r at *;cases r with
 | ok nx w' =>
  cases nx <;> simp only[upF] at h ⊢
  case value u=>rw[hc];exact E u w' h
  case skip=>rw[hc];exact E _ w' h
  case enter g args =>
   refine Calls.mono h λe G he=>?_;cases e with
   | returned u=>simp only at he ⊢;rw[hc];exact E u G he
   | panicked c=>exact he.elim
   | outgrown=>exact he.elim
 | halt x w'=>exact h.elim
theorem zR {D:List (Nat×Nat)}{f f0:Fr}{dst:Option Nat}{v:Value}(hd:inD D dst=true) (h:∀t,J1 D t=false→f t=f0 t):∀t,J1 D t=false→Q4 f dst v t=f0 t:=λt ht =>
 (YL (λe=>by rw[e] at hd;simp only[inD] at hd;rw[hd] at ht;cases ht) v).trans (h t ht)
def Js (all:List Oper) (D:List (Nat×Nat)) (l:List (Nat×Bool)):Bool:=l.all λp=>inD D (Q6 all p.1).dst
structure Fl (P:Program) (all:List Oper) (C:World→Prop) (K KF:Fr→World→Prop) (i d:Nat) (rest:List (Nat×Bool)) (Φ:Value→World→Prop) (Dc:List (Nat×Nat)) (f1:Fr):Prop where
 stab:∀v (own:LN) w w',Φ v w→Step own w w'→(∀b∈ow v,b∉own)→Φ v w'
 spec:∀f w,(∀t,J1 Dc t=false→f t=f1 t)→C w→XO P (Q6 all i) f w λf' w'=>Step [] w w'∧C w'∧Φ (f' d) w'∧∀b∈ow (f' d),w.heap.size≤b∧b<w'.heap.size
 fin:∀f w,KF f w→∀v,C w→Φ v w→XP P all C K rest (Q4 f (some d) v) w
 mono:∀f w w',KF f w→Step [] w w'→KF f w'
attribute [local semireducible] XP in
theorem yH {i d:Nat}{rest:List (Nat×Bool)}{Φ:Value→World→Prop}{Dc:List (Nat×Nat)}{f1:Fr}(G:Fl P all C K KF i d rest Φ Dc f1) (hs:Region.noSelect all.toArray=true) {v:Value}:∀(l:List (Nat×Bool)) (own:LN) (f:Fr) (w:World),JS all d l=true→XF P all C KF l own f w→C w→Φ v w →
  (∀b∈ow v,b∉own∧b<w.heap.size)→XP P all C K (l++rest) (Q4 f (some d) v) w
 | [],own,f,w,_,h,H,J,_=>G.fin f w h v H J
 | (j,q)::l,own,f,w,hfr,h,H,J,hb=>by
  simp only[JS,List.all_cons,Bool.and_eq_true,Bool.not_eq_true',List.contains_eq_mem,decide_eq_false_iff_not,beq_eq_false_iff_ne,ne_eq] at hfr;obtain ⟨⟨h1,h2⟩,hfr⟩:=hfr;have S:JS all d l=true:=by simpa[JS] using hfr
  have V:∀cs b,(Q6 all j).op≠.select cs b:=by
   intro cs b;cases U:all[j]? with
   | none =>
    have:Q6 all j=default:=by
     clear h h1 h2 hfr S;have key:∀(l:List Oper) (j:Nat),l[j]?=none→Q6 l j=default:=by
      intro l;induction l with
      | nil=>intro j _;rfl
      | cons a l ih=>intro j hj;cases j with | zero=>simp at hj | succ j=>exact ih j (by simpa using hj)
     exact key all j U
    rw[this];intro e;cases e
   | some o=>rw[ZD U];exact Region.noSelect_spec hs j o cs b (by simpa using U)
  have hd:∀e,some d=some e→e∉(Q6 all j).looksAt all.toArray:=λe he=>by cases he;exact h1
  cases q with
  | true =>
   obtain ⟨hg,u,hu,hx⟩:=h;simp only[List.cons_append,XP];rw[Uh (Q6 all j) f (some d) v hd,hg,cond_true,cond_true];refine ⟨u,λw' hc=>?_,?_⟩
   ·rw[JJ (all:=all) V f (some d) v hd];exact hu w' hc
   rw[UL f v u (λe he=>by cases he;exact h2)];exact yH G hs l own _ w S hx H J hb
  | false =>
   simp only[List.cons_append,XP];rw[Uh (Q6 all j) f (some d) v hd,h.1,cond_true,cond_false];refine QkW (all:=all) V h1 h2 (λu w' hx=>?_) (h.2 w (Step.refl _ _) H);obtain ⟨Y,own',Z,ha,hx⟩:=hx;refine ⟨.inr (.inr Y),yH G hs l own' _ w' S hx Y (G.stab v own w w' J Z (λb E=>(hb b E).1)) (λb E=>⟨λhm=>?_,MC (hb b E).2 Z.size⟩)⟩
   rcases ha b hm with h3 | h3
   ·exact (hb b E).1 h3
   exact Nat.lt_irrefl _ (MC (hb b E).2 h3.1)
theorem QiZ {i d:Nat}{rest:List (Nat×Bool)}{Φ:Value→World→Prop}{Dc:List (Nat×Nat)}{f1:Fr}(G:Fl P all C K KF i d rest Φ Dc f1) (hs:Region.noSelect all.toArray=true) (U:(Q6 all i).guard=none) (hd:(Q6 all i).dst=some d):∀(l:List (Nat×Bool)) (ls:Array Bool) (own:LN) (f:Fr) (w:World),ls.size=all.length→JS all d l=true→Js all Dc l=true→(∀t,J1 Dc t=false→f t=f1 t) →
  XF P all C KF l own f w→C w→(∀b∈own,b<w.heap.size)→Qdr all.toArray i rest l ls=true→XA P all C K (l.length+1+rest.length) ls f w
 | [],ls,own,f,w,V,hfr,H,hk1,h,J,Y,hp=>by
  simp only[Qdr,Bool.and_eq_true,beq_iff_eq] at hp;obtain ⟨S,hp⟩:=hp;rw[show ([]:List (Nat×Bool)).length+1+rest.length=rest.length+1 by simp;omega];refine Vs (λh0=>(by rw[h0] at S;cases S)) ?_;rw[S];intro k hk o E;have ha:k=i:=by simpa using hk
  subst ha;have Z:=ZD E;have hx:=G.spec f w hk1 J;rw[Z] at U hd hx;rw[ya U,cond_true];refine hx.mono λv w' hx=>?_;rw[hd] at hx ⊢;obtain ⟨h1,h2,h3,h4⟩:=hx;simp only[Q4,XH] at h3 h4;refine ⟨.inr (.inr h2),ZO hs rest _ _ _ (by simpa using V) (.inl h2) hp (G.fin f w' (G.mono f w w' h h1) v h2 h3)⟩
 | (j,true)::l,ls,own,f,w,V,hfr,H,hk1,h,J,Y,hp=>by
  simp only[Qdr,Bool.and_eq_true] at hp;obtain ⟨⟨S,hf⟩,hc⟩:=hp;have hl:j∈Region.ready .any all.toArray ls:=by simpa using S
  have e:(List.length ((j,true)::l))+1+rest.length=(l.length+1+rest.length)+1:=by simp;omega
  rw[e];have he:JS all d l=true:=by simp only[JS,List.all_cons,Bool.and_eq_true] at hfr;exact hfr.2
  simp only[Js,List.all_cons,Bool.and_eq_true] at H;have hh:Js all Dc l=true:=H.2;cases E:all[j]? with
  | none =>
   exfalso;obtain ⟨_,o,hw,_⟩:=mem_ready.1 hl;simp[E] at hw
  | some o =>
   obtain ⟨hn,v,hv,hx⟩:=h;rw[ZD E] at hn hv hx;have hy:∀(j:Nat) (o:Oper) cs b,all[j]?=some o→o.op≠.select cs b:=λj o cs b hj=>Region.noSelect_spec hs j o cs b (by simpa using hj);have hz:=λk ok hk=>Region.free_spec (ops:=all.toArray) (md:=.any) (i:=j) (oi:=o) (listed:=ls) (by simpa using E) hf k ok (by simpa using hk)
   exact Jt (v:=v) (D:=λw=>ju o=true→C w) E (λ_ h=>h) hy _ ls f w (λ_=>J) hz hl (.inl ⟨hn,hv⟩) (QiZ G hs U hd l _ own _ w (by simpa using V) he hh (by have:=zR (v:=v) H.1 hk1;rw[ZD E] at this;exact this) hx J Y hc)
 | (j,false)::l,ls,own,f,w,V,hfr,H,hk1,h,J,Y,hp=>by
  simp only[Qdr,Bool.and_eq_true,List.all_eq_true,Bool.or_eq_true,beq_iff_eq,Bool.not_eq_true'] at hp;obtain ⟨⟨⟨hq,S⟩,h5⟩,hc⟩:=hp;have e:(List.length ((j,false)::l))+1+rest.length=(l.length+1+rest.length)+1:=by simp;omega
  rw[e];have he:JS all d l=true:=by simp only[JS,List.all_cons,Bool.and_eq_true] at hfr;exact hfr.2
  simp only[Js,List.all_cons,Bool.and_eq_true] at H;have hh:Js all Dc l=true:=H.2;refine Vs (λh0=>(by rw[h0] at hq;cases hq)) ?_;intro k hk o E;have Z:=ZD E;have ht:(ls.setIfInBounds k true).size=all.length:=by simpa using V
  by_cases ha:k=i
  ·subst ha;have hx:=G.spec f w hk1 J;rw[Z] at U hd hx;rw[ya U,cond_true];refine hx.mono λv w' hx=>?_;rw[hd] at hx ⊢;obtain ⟨h1,h2,h3,h4⟩:=hx;simp only[Q4,XH] at h3 h4;refine ⟨.inr (.inr h2),?_⟩;have hx:=yH G hs ((j,false)::l) own f w' hfr (XF.ext G.mono h h1) h2 h3 (λb hb=>⟨λhm=>Nat.lt_irrefl _ (MC (Y b hm) (h4 b hb).1),(h4 b hb).2⟩)
   have:=ZO hs ((j,false)::(l++rest)) _ _ _ ht (.inl h2) h5 hx;rw[show ((j,false)::(l++rest)).length=l.length+1+rest.length by simp;omega] at this;exact this
  have h6:k=j:=(S k hk).resolve_right ha;subst h6;have h1:=h.1;have h2:=h.2 w (Step.refl _ _) J;rw[Z] at h1 h2;rw[h1,cond_true];refine h2.mono λv w' hx=>?_;obtain ⟨hu,own',h7,h8,hx⟩:=hx;refine ⟨.inr (.inr hu),QiZ G hs U hd l _ own' _ w' ht he hh (by have:=zR (v:=v) H.1 hk1;rw[Z] at this;exact this) hx hu (λb hb=>?_) hc⟩;rcases h8 b hb with h3 | h3
  ·exact MC (Y b h3) h7.size
  exact h3.2
theorem Qk2 {ro:Option Nat}{m:Nat}{ds:LN}{Q:Exit→LN→Fr→World→Prop}{id:Nat}(C:World→Prop) (pre l:List (Nat×Bool)) (i d:Nat) (rest:List (Nat×Bool)) (own:LN) (KF:Fr→World→Prop) (Φ:Value→World→Prop) (Dc:List (Nat×Nat)) (hm:P.follows .mixedOrders=true) (J:JL n all=true) (S:QbK all=true)
  (hp:Qmk all pre l i rest=true) (U:Js all Dc l=true) (hd:(Q6 all i).dst=some d) (G:C { w with drawn:=w.drawn+1 }) (V:∀b∈own,b<w.heap.size)
  (h:XP P all C (λf1 _=>Fl P all C (λf w=>Q .normal ds f w) KF i d rest Φ Dc f1∧XF P all C KF l own f1 { w with drawn:=w.drawn+1 }) pre f { w with drawn:=w.drawn+1 }):WG ro m P n (.region id all.toArray true) Q ds f w:=by
 unfold WG;intro a ha;simp only[Qmk,Bool.and_eq_true,beq_iff_eq,Option.isNone_iff_eq_none] at hp;obtain ⟨⟨⟨⟨⟨hs,hl⟩,hq⟩,Y⟩,Z⟩,hfr⟩:=hp;rw[hd] at hfr;refine wpIn_region_any hm ?_;have h1:=Y9 (K:=λf w=>Q .normal ds f w) (m:=l.length+1+rest.length) hs pre (Array.replicate all.length false) f _ G hq
  (λf1 H=>QiZ H.1 hs Z hd l (Z4 pre (Array.replicate all.length false)) own f1 _ (by rw[Xe];simp) hfr U (λ_ _=>rfl) H.2 G V Y) h
 rw[hl] at h1;have h2:=q8 (ro:=ro) (m:=m) (n:=n) (ds:=ds) (Q:=λe a' w'=>∃ds' E,YP n ds' a' E∧(∀t,ZU all t=false→E t=f t)∧Q e ds' E w') (Y4 J) (VK S) f
  (λa E w hr hk hq=>⟨ds,E,hr,hk,hq⟩) _ _ a f _ ha (λ_ _=>O) h1
 simpa[XY] using h2
theorem XP.keeps_mono {K':Fr→World→Prop}:∀(l:List (Nat×Bool)) (f:Fr) (w:World),XP P all C K l f w→(∀f w,K f w→K' f w)→XP P all C K' l f w
 | [],f,w,h,hk=>by simp only[XP] at h ⊢;exact hk _ _ h
 | (j,q)::l,f,w,h,hk=>by
  simp only[XP] at h ⊢;cases E:YD all f (Q6 all j) with
  | false=>rw[E] at h;exact XP.keeps_mono l _ _ h hk
  | true =>
   rw[E] at h;cases q with
   | true=>obtain ⟨v,G,hx⟩:=h;exact ⟨v,G,XP.keeps_mono l _ _ hx hk⟩
   | false=>exact XO.mono (λv w' hx=>⟨hx.1,XP.keeps_mono l _ _ hx.2 hk⟩) h
theorem XP.keeps {D:List (Nat×Nat)}{f0:Fr}:∀(l:List (Nat×Bool)) (f:Fr) (w:World),Js all D l=true→(∀t,J1 D t=false→f t=f0 t)→XP P all C K l f w→XP P all C (λH w'=>(∀t,J1 D t=false→H t=f0 t)∧K H w') l f w
 | [],f,w,_,E,h=>by simp only[XP] at h ⊢;exact ⟨E,h⟩
 | (j,q)::l,f,w,hd,E,h=>by
  simp only[Js,List.all_cons,Bool.and_eq_true] at hd;have G:Js all D l=true:=hd.2;simp only[XP] at h ⊢;cases J:YD all f (Q6 all j) with
  | false=>rw[J] at h;exact XP.keeps l _ _ G (zR hd.1 E) h
  | true =>
   rw[J] at h;cases q with
   | true=>obtain ⟨v,S,hx⟩:=h;exact ⟨v,S,XP.keeps l _ _ G (zR hd.1 E) hx⟩
   | false=>exact XO.mono (λv w' hx=>⟨hx.1,XP.keeps l _ _ G (zR hd.1 E) hx.2⟩) h
theorem XF.keeps {D:List (Nat×Nat)}{f0:Fr}:∀(l:List (Nat×Bool)) (own:LN) (f:Fr) (w:World),Js all D l=true→(∀t,J1 D t=false→f t=f0 t)→XF P all C K l own f w→XF P all C (λG w'=>(∀t,J1 D t=false→G t=f0 t)∧K G w') l own f w
 | [],own,f,w,_,E,h=>⟨E,h⟩
 | (j,true)::l,own,f,w,hd,E,h=>by
  simp only[Js,List.all_cons,Bool.and_eq_true] at hd;obtain ⟨H,v,J,hx⟩:=h;exact ⟨H,v,J,XF.keeps l own _ _ hd.2 (zR hd.1 E) hx⟩
 | (j,false)::l,own,f,w,hd,E,h=>by
  simp only[Js,List.all_cons,Bool.and_eq_true] at hd;refine ⟨h.1,λS h1 hc=>XO.mono (λv w' hx=>?_) (h.2 S h1 hc)⟩;obtain ⟨U,own',V,Y,hx⟩:=hx;exact ⟨U,own',V,Y,XF.keeps l own' _ _ hd.2 (zR hd.1 E) hx⟩
theorem Qjc {ro:Option Nat}{m:Nat}{ds:LN}{Q:Exit→LN→Fr→World→Prop}{id:Nat}{α:Type}(C:World→Prop) (pre l:List (Nat×Bool)) (i d:Nat) (rest:List (Nat×Bool)) (own:LN) (D Dc:List (Nat×Nat)) (S:α→List (Nat×Value)) (I:α→World→Prop) (Φ:Value→World→Prop) (hm:P.follows .mixedOrders=true) (J:JL n all=true) (U:QbK all=true)
  (hp:Qmk all pre l i rest=true) (G:(Js all D pre && Js all D l && Js all Dc l)=true) (hd:(Q6 all i).dst=some d) (V:C { w with drawn:=w.drawn+1 }) (Y:∀b∈own,b<w.heap.size)
  (stab:∀v (own:LN) w w',Φ v w→Step own w w'→(∀b∈ow v,b∉own)→Φ v w') (mono:∀z w w',I z w→Step [] w w'→I z w')
  (fin:∀z g w v,I z w→C w→Φ v w→XP P all C (λf w=>Q .normal ds f w) rest (Q4 (yR (S z) (mix D f g)) (some d) v) w)
  (h:XP P all C (λf1 _=>(∀g w,C w→XO P (Q6 all i) (mix Dc f1 g) w λE w'=>Step [] w w'∧C w'∧Φ (E d) w'∧∀b∈ow (E d),w.heap.size≤b∧b<w'.heap.size)∧XF P all C (λE w'=>∃z,JO E (S z)∧I z w') l own f1 { w with drawn:=w.drawn+1 }) pre f { w with drawn:=w.drawn+1 }):WG ro m P n (.region id all.toArray true) Q ds f w:=by
 rw[Lx,Lx] at G;refine Qk2 C pre l i d rest own (λE w'=>(∀t,J1 D t=false→E t=f t)∧∃z,JO E (S z)∧I z w') Φ Dc hm J U hp G.2 hd V Y ?_;refine XP.keeps_mono _ _ _ (XP.keeps pre f _ G.1.1 (λ_ _=>O) h) (λf1 w1 hx=>⟨⟨stab,?_,?_,?_⟩,XF.keeps l own _ _ G.1.2 hx.1 hx.2.2⟩)
 ·intro E w' hk H;have:=hx.2.1 E w' H;rw[KU hk] at this;exact this
 ·rintro E w' ⟨hk,z,hs,hi⟩ v H Z;have:=fin z E w' v hi H Z;rw[KU hk,Xr hs] at this;exact this
 rintro E w' hb ⟨hk,z,hs,hi⟩ ha;exact ⟨hk,z,hs,mono z _ _ hi ha⟩
theorem fp {j:Nat}{l:List (Nat×Bool)}{own:LN}{v:Value}(E:∀w',(execOp (ev f) (Q6 all j)).run P w'=.ok (.value v) w') (h:XF P all C K l own (Q4 f (Q6 all j).dst v) w)
  (G:YD all f (Q6 all j)=true:=by rfl):XF P all C K ((j,true)::l) own f w:=⟨G,v,λw' _=>E w',h⟩
theorem fk {j:Nat}{l:List (Nat×Bool)}{own:LN}(h:∀w1,Step [] w w1→C w1→XO P (Q6 all j) f w1 λE w'=>C w'∧∃own',Step own w1 w'∧(∀b∈own',b∈own∨(w1.heap.size≤b∧b<w'.heap.size))∧XF P all C K l own' E w')
  (G:YD all f (Q6 all j)=true:=by rfl):XF P all C K ((j,false)::l) own f w:=⟨G,h⟩
theorem fe {own:LN}(h:K f w):XF P all C K [] own f w:=h
end
attribute [irreducible] XF
end Go.Lg
namespace Go.Proofs.YtdffckgdcegpaaaGreatDoor
open Go.Proofs.Tryz
open Go.Lg
instance:Bw prog 77 [nS,.int .i64 0,nS,nS,nS,nS,nS,nS] [(0,4),(4,1),(5,1),(6,1),(7,1)]:=⟨by kernel_rfl,by decide⟩
def spF (c:Yz) (pl:QE) (ps:List (LI)) (l:List (LI)):List Rsn:=l.zipIdx.filterMap (λp=>rsn c pl (plx ps (p.1.take c.co.length)) p.2 p.1)
theorem QgU {c:Yz}{pl:QE}{ps:List (LI)}{l:List (LI)}{k:Nat}(h:k<l.length):spF c pl ps (l.take (k+1))=spF c pl ps (l.take k)++(rsn c pl (plx ps ((l[k]'h).take c.co.length)) k (l[k]'h)).toList:=by
 unfold spF;rw[Ll h,List.zipIdx_append,List.filterMap_append];have e:0+(l.take k).length=k:=by rw[LF];omega
 rw[e];simp only[List.zipIdx_cons,List.zipIdx_nil,List.filterMap_cons,List.filterMap_nil];cases rsn c pl (plx ps ((l[k]'h).take c.co.length)) k (l[k]'h) <;> rfl
theorem Qeb (c:Yz) (pl:QE) (ps:List (LI)) (l:List (LI)):(spF c pl ps l).length≤l.length:=by
 unfold spF;refine L5 (List.length_filterMap_le _ _) ?_;rw[List.length_zipIdx];exact Lv _
theorem Qc4 {c:Yz}{pl sa:QE}{ps ts:List (LI)}(hp:sync (auts c.co)=some (pl,ps)) (hs:sync (auts c.co++auts c.rq)=some (sa,ts)) :
  spc c=⟨sa,ts.map (·.take c.co.length),ts.map (·.drop c.co.length),ts.map (λt=>plx ps (t.take c.co.length)),spF c pl ps ts⟩:=by
 unfold spc yV JC;rw[hp,hs];simp only[];rw[jp];simp[spF]
theorem QiG {n:Nat}{u:LI}{s:List ByteArray}{x:Kx}(h:Yj n u s x=0):x.a.st≠0:=by
 unfold Yj at h;split at h
 ·cases h
 split at h
 ·cases h
 split at h
 ·rename_i h1 h2;exact absurd h h2
 split at h
 ·cases h
 split at h
 ·cases h
 assumption
theorem Qcu {n:Nat}{al:LI}:∀{l:List Kx}{s:List ByteArray}{u:LI},(Ym n al s u l).1=0→∀x∈l,x.a.st≠0
 | [],_,_,_,x,hx=>by cases hx
 | y::l,s,u,h,x,hx=>by
  rw[VN] at h;by_cases h1:Yj n al s y≠0
  ·rw[if_pos h1] at h;exact absurd h h1
  rw[if_neg h1] at h;have h2:Yj n al s y=0:=Lt.1 h1;rcases Li.1 hx with rfl | hx
  ·exact QiG h2
  exact Qcu h x hx
theorem QiH {c:Yz}(h:Yn c=0):∀x∈c.co,x.a.st≠0:=by
 unfold Yn at h;by_cases h1:JT c.ev≠0
 ·rw[if_pos h1] at h;exact absurd h h1
 rw[if_neg h1] at h;by_cases h2:c.co.length=0
 ·rw[if_pos h2] at h;cases h
 rw[if_neg h2] at h;by_cases h3:8<c.co.length∨12<c.co.length+c.rq.length
 ·rw[if_pos h3] at h;cases h
 rw[if_neg h3] at h;by_cases h4:(Ym c.ev.length (VX c.ev.length) [] [] c.co).1≠0
 ·rw[if_pos h4] at h;exact absurd h h4
 exact Qcu (Lt.1 h4)
theorem Qhc {c:Yz}(h:Yn c=0) {A:QE}{Q:List (LI)}(hs:sync (auts c.co)=some (A,Q)):QK A∧A.st=(Q.length:Int)∧0<Q.length∧∀e∈A.al,0≤e∧e<(c.ev.length:Int):=by
 have E:=Jr h;have G:=XG E.co;have hsp:=Xs G hs;refine ⟨hsp.1.okay G,hsp.1.st,?_,λe he=>?_⟩
 ·refine Nat.pos_of_ne_zero λH=>?_;obtain ⟨a,ha,h1⟩:=hsp.2.1 H;obtain ⟨x,hx,rfl⟩:=Lz.1 ha;exact QiH h x hx h1
 rw[hsp.1.al] at he;obtain ⟨a,ha,h1⟩:=(Xj G e).1 he;obtain ⟨x,hx,rfl⟩:=Lz.1 ha;exact ⟨((E.co x hx).al e h1).1,E.ce x hx e h1⟩
theorem QlO {Q:List (LI)}(h:0<Q.length) (t:LI):0≤plx Q t∧plx Q t<(Q.length:Int):=by
 unfold plx;split
 ·rename_i hm;have:=LC hm;omega
 omega
theorem Vt.take {a b:List QE}{t:LI}(h:Vt (a++b) t):Vt a (t.take a.length):=by
 have hl:=h.1;rw[Lk] at hl;refine ⟨by rw[LF];omega,λi h1 h2=>?_⟩;have:=h.2 i (by omega) (by rw[Lk];omega);rw[LT h2] at this;rw[List.getElem_take];exact this
theorem Vt.drop {a b:List QE}{t:LI}(h:Vt (a++b) t):Vt b (t.drop a.length):=by
 have hl:=h.1;rw[Lk] at hl;refine ⟨by rw[Mf];omega,λi h1 h2=>?_⟩;have:=h.2 (a.length+i) (by omega) (by rw[Lk];omega);rw[Mr (by omega)] at this;rw[List.getElem_drop];simpa using this
theorem Vt.tpOk {l:List Kx}{t:LI}(h:Vt (auts l) t):QkY (szs l) t:=by
 have hl:=h.1;unfold auts at hl;rw[Lo] at hl;refine ⟨by unfold szs;rw[Lo];exact hl,λi hi=>?_⟩;have h1:=h.2 i hi (by unfold auts;rw[Lo];omega);have E:i<(szs l).length:=by unfold szs;rw[Lo];omega
 rw[←Q5 hi,←Q5 E];unfold auts szs at *;simpa using h1
theorem Ke.add {base G T:Nat}{W H J S:World}{U V Y E v' c0 c1 c2 c3:Value}{cos rqs:List TV}{pls:LI}{fbs:List Rsn}{q:Rsn}(hB:QX W.heap G T [c0,c1,c2,c3,U,V,Y,E]) (Z:Ke base W U V Y E cos rqs pls fbs) (ha:G<base) (h1:Step [] W H)
  (ho:J.ownsRow base 83 4 v' (fbs.length+1) (fbs.flatMap YK++YK q)) (h2:Step (ob E) H J) (hn:∀b∈ob v',b∈ob E∨H.heap.size≤b) (h3:Step [G] J S) :
  Step (G::ob E) W S∧Ke base S U V Y v' cos rqs pls (fbs++[q])∧(∀x∈G::ob E,∃o:Obj,W.heap[x]?=some o∧o.isCells=true):=by
 refine ⟨((h1.any).trans' (h2.mono λx hx=>Le _ hx)).trans' (h3.mono λx hx=>?_),(Z.a4 h1 ho h2 hn).low h3 (λx hx=>?_),λx hx=>?_⟩
 ·simp only[List.mem_singleton] at hx;subst hx;exact Lh
 ·simp only[List.mem_singleton] at hx;subst hx;exact ha
 rcases Li.1 hx with rfl | hx
 ·exact hB.cells
 exact Go.Lg.ZI Z.o4 x hx
set_option maxHeartbeats 40000000 in
theorem yI {L:LN}{w:World}{c:CL}(h0:Jz L w.heap c) (m3:Kb w 4096) :
  QM prog 27 [c.val] w λr w'=>Step [] w w'∧∃v,r=.tuple #[v,.int .i64 (XZ c.cel)]∧(∃us,v=.agg us.toArray∧us.length=8∧Y0 us)∧(XZ c.cel=0→Qn6 w.heap.size w'.heap v (spc c.cel)):=by
 have h:=h0.up (L':=[]) (by simp);refine Zs (XZ c.cel) λE hE=>?_;refine QM.of_G 20 func27 O ntmps27 results27 (by simp) ?_;refine Q2<|QJ (by rfl) (by rfl) ?_;refine xl rfl<|QS (us:=c.cells) O λb1 w1 hF hb1 m4=>xl O<|Qu (us:=[nS,.int .i64 0,nS,nS,nS,nS,nS,nS]) O λb2 w2 h5 hb2 g0=>Qf ?_;have kj:=hF.trans h5;have hz1:=hF.size;have hz2:=h5.size;have m5:=m4.lt;have kk:=g0.lt
 have m6:=m4.ext h5;refine Q2<|QJ (by rfl) (by rfl) ?_;refine x (Qo m6 O O)<|xl O<|xf<|(QiN (h.ext kj) (m3.ext kj)).mono ?_;rintro r3 w3 ⟨h6,vp,rfl,z6,m7⟩;rw[hE] at z6 m7 ⊢;have kn:=kj.trans h6;refine Qb<|x (Qk O O)<|x (Qk O O)<|x Qe<|Qf<|Q2<|Q2<|QJ (by rfl) (by rfl) ?_;refine Qb<|x (Zj O O)<|xe<|QmO O (λko=>?_) (λko=>?_)
 ·refine Q2<|QJ (by rfl) (by rfl) ?_
  refine x (Yv [] La)<|Qb<|xl O<|Qq (us:=[nS,.int .i64 0,nS,nS,nS,nS,nS,nS]) (g0.ext h6) O O O O ⟨O,O,O,O,O,O,O,O,La⟩ λw4 hM z9=>Qf<|Vc ⟨λ_ h=>(by cases h),MN,[.agg [nS,.int .i64 0,nS,nS,nS,nS,nS,nS].toArray,.int .i64 E],λW' hN=>⟨⟨⟨_,rfl,QF rfl ((z9.ext hN).at (L:=[]) (by simp)).cells⟩,rfl,La⟩,(kn.then1 hM (by omega)).trans hN,_,rfl,⟨_,rfl,rfl,rfl,rfl,rfl,rfl,rfl,rfl,rfl,rfl,La⟩,λe=>absurd e ko⟩⟩
 have m8:E=0:=Lt.1 ko;obtain ⟨b,q,rfl,rfl,hQ,hj,hF3⟩:=m7 m8;refine Yl ?_;have hlb:=hj.B.lt;refine Q2<|QJ (by rfl) (by rfl) ?_;refine Qb<|x (Qr O)<|x (Qa O)<|x (Xd (us:=Zg q.s) hj.B O O O)<|x (Yv [(0,Zg q.s)] ⟨O,O,La⟩)<|xl O<|Qu (us:=[nS,.int .i64 0,nS,nS,nS,nS,nS,nS]) O λG w5 hY kq h7 =>
  xl rfl<|Qq (us:=[q.s.va,.int .i64 q.s.a.st,q.s.vm,q.s.ve,nS,nS,nS,nS]) h7 O O O O ⟨hj.s.al.one,O,hj.s.mr.one,hj.s.ed.one,O,O,O,O,La⟩ λH g1 h7=>xe ?_
 have g2:Step [] w3 H:=hY.then1 g1 kq;have kr:=h7.lt;have m9:=hj.ext g2;have hs06:=kn.trans g2;have hz3:=h6.size;have hz36:=g2.size;refine Q2<|Q2<|QJ (by rfl) (by rfl) ?_;refine Qb<|x (Qr O)<|x (Qa O)<|x (Qc m9.B O O)<|x (Qw m9.ts.arr O)<|Qb<|xe ?_;have pa:=(qK (λa ha=>by
  rcases Lp.1 ha with ha | ha
  ·exact XG (Jr hQ.ok).co a ha
  exact XG (Jr hQ.ok).rq a ha) hQ.s)
 have kt:=pa.1;have pc:=pa.2;simp only[] at kt pc;have hZ:=Jr hQ.ok;have hckc:=hZ.c8;have ga:q.c.cel.co.length=q.c.co.length:=Lo ..;have hrel:q.c.cel.rq.length=q.c.rq.length:=Lo ..;have hcr:=hZ.cr;have hal:(auts q.c.cel.co++auts q.c.cel.rq).length=q.c.co.length+q.c.rq.length:=by rw[Lk];unfold auts;rw[Lo,Lo,ga,hrel]
 refine Zs (q.ts.map (·.2)) λT hT=>?_;rw[hT] at kt pc;have hTn:q.ts.length=T.length:=by rw[←hT,Lo]
 refine ZN<|VS (α:=Nat×(Value×Value×Value×Value)×List TV×List TV×LI) [(7,17),(37,99),(100,118)] (λz=>[(37,.int .i64 z.1)]) (λz ds W'=>z.1≤q.ts.length∧Step [G] H W'∧Vw H.heap.size W'.heap.size ds W'∧QX W'.heap G 77 [q.s.va,.int .i64 q.s.a.st,q.s.vm,q.s.ve,z.2.1.1,z.2.1.2.1,z.2.1.2.2.1,z.2.1.2.2.2] ∧
  Ke H.heap.size W' z.2.1.1 z.2.1.2.1 z.2.1.2.2.1 z.2.1.2.2.2 z.2.2.1 z.2.2.2.1 z.2.2.2.2 (spF q.c.cel q.p.a (q.qs.map (·.2)) (T.take z.1))∧z.2.2.1.map (·.2)=(T.take z.1).map (·.take q.c.co.length)∧z.2.2.2.1.map (·.2)=(T.take z.1).map (·.drop q.c.co.length)∧z.2.2.2.2=(T.take z.1).map (λt=>plx (q.qs.map (·.2)) (t.take q.c.co.length)))
  (λz=>q.ts.length - z.1) (by rfl) (0,(nS,nS,nS,nS),[],[],[]) Lb
  ⟨Lm _,Step.refl _ _,⟨MN,λD hD=>by cases hD⟩,h7,Ke.nil _ _,rfl,rfl,rfl⟩ ?_
 rintro ⟨k,⟨v1,v2,v3,J⟩,cos,rqs,pls⟩ g ds w7 ⟨hk,ku,pd,kv,S,gi,gj,gk⟩;simp only[] at hk kv S gi gj gk;have gl:Step [] w3 w7:=g2.then1 ku kq;have kw:=kn.trans gl;have hz7:=ku.size;have g3:(T.take k).length=k:=by rw[LF];omega
 have hcosl:cos.length=k:=by have:=congrArg List.length gi;rw[Lo,Lo,g3] at this;exact this
 have hrqsl:rqs.length=k:=by have:=congrArg List.length gj;rw[Lo,Lo,g3] at this;exact this
 have hplsl:pls.length=k:=by rw[gk,Lo,g3]
 have pf:=Qeb q.c.cel q.p.a (q.qs.map (·.2)) (T.take k);rw[g3] at pf;refine Zs (spF q.c.cel q.p.a (q.qs.map (·.2)) (T.take k)) λfbs g4=>?_;rw[g4] at S pf;have l7:=S.lt;refine Zs (ob v1++(ob v2++(ob v3++ob J))) λav gm=>?_;have gc:∀x∈av,H.heap.size≤x∧x<w7.heap.size:=λx hx=>by
  rw[←gm] at hx;rcases QbM hx with h1 | h1 | h1 | h1
  ·exact Qm S.o1 x h1
  ·exact Qm S.o2 x h1
  ·exact Qm S.o3 x h1
  exact Qm S.o4 x h1
 have g5:G∉av:=λhm=>by have:=(gc G hm).1;omega
 have kx:∀x∈av,x∈G::av:=λx hx=>Le _ hx;have g6:K8 (G::av) b w7.heap q:=(hj.up (λx hx=>.inr (by
  rcases Li.1 hx with rfl | hx
  ·exact kq
  have:=(gc x hx).1;omega))).ext gl
 refine Q2<|QJ (by rfl) (by rfl) ?_;refine x (QD O O)<|xe<|Q2<|yL O (λkz=>?_) (λkz=>?_)
 ·refine Ky ?_;have hke:q.ts.length≤k:=by have h39:¬(k:Int)<(q.ts.length:Int):=kz;omega
  rw[Lq (by omega)] at gi gj gk g4;have hsp:=Qc4 hQ.p hQ.s;rw[hT,ga,←gi,←gj,←gk,g4] at hsp;have pg:=h6.trans gl;refine Q2<|QJ (by rfl) (by rfl) ?_
  refine x (Qo kv O O)<|xl O<|Qq (us:=[q.s.va,.int .i64 q.s.a.st,q.s.vm,q.s.ve,v1,v2,v3,J]) (g0.ext pg) O O O O ⟨hj.s.al.one,O,hj.s.mr.one,hj.s.ed.one,Q3 S.o1,Q3 S.o2,Q3 S.o3,Q3 S.o4,La⟩ λw8 g7 hB8=>Qf ?_;have hb2w:b2<H.heap.size:=by omega
  have gn:Vw H.heap.size w7.heap.size ds w8:=pd.blk g7 (g0.ext pg);have hb2d:b2∉ds:=λhm=>by have:=(gn.2 b2 hm).1;omega
  have hS8:=S.low g7 (λx hx=>by simp only[List.mem_singleton] at hx;subst hx;exact hb2w);refine Vc ⟨λD hD=>(gn.2 D hD).2.2,gn.1,[.agg [q.s.va,.int .i64 q.s.a.st,q.s.vm,q.s.ve,v1,v2,v3,J].toArray,.int .i64 E],λW' hN=>?_⟩;have g8:Lg.Kh [] w8 W':=Lg.Kh.nonc hN (λD hD=>⟨_,(gn.2 D hD).2.2,O⟩);have ge:=hN.size;have h8:=hS8.cst g8 ge
  refine ⟨⟨⟨_,O,QF O ((hB8.step hN hb2d).at (L:=[]) (by simp)).cells⟩,congrArg (Value.int .i64) m8.symm,La⟩,(kw.then1 g7 (by omega)).then hN (λD hD=>.inr (by have:=(gn.2 D hD).1;omega)),_,O,⟨_,O,O,hj.s.al.one,O,hj.s.mr.one,hj.s.ed.one,Q3 S.o1,Q3 S.o2,Q3 S.o3,Q3 S.o4,La⟩,λ_=>?_⟩;have hl9:pls.length≤1099511627776:=by omega
  have hl8:fbs.length≤1099511627776:=by omega
  rw[hsp];refine ⟨q.s.va,q.s.vm,q.s.ve,v1,v2,v3,J,cos,rqs,O,O,O,λL hL=>⟨?_,⟨QW h8.o1 (by omega) (λx hx hm=>?_),λp hp=>h8.e1 p hp L (λx hx=>?_)⟩,⟨QW h8.o2 (by omega) (λx hx hm=>?_),λp hp=>h8.e2 p hp L (λx hx=>?_)⟩,QW h8.o3 hl9 (λx hx hm=>?_),QW h8.o4 hl8 (λx hx hm=>?_)⟩⟩
  ·have h1:=((hF3 (b2::L) (λx hx=>by
    rcases Li.1 hx with rfl | hx
    ·exact kk
    have:=hL x hx;omega)).1.ext gl).st (g7.mono (λx hx=>by simp only[List.mem_singleton] at hx;subst hx;exact Lh))
   have h2:=h1.up (L':=L) (λx hx=>.inl (Le _ hx));exact ⟨h2.al.cst (g8.mono (by simp)) ge,h2.mr.cst (g8.mono (by simp)) ge,h2.ed.cst (g8.mono (by simp)) ge⟩
  ·have:=(Qm h8.o1 x hx).1;have:=hL x hm;omega
  ·exact .inl (by have:=hL x hx;omega)
  ·have:=(Qm h8.o2 x hx).1;have:=hL x hm;omega
  ·exact .inl (by have:=hL x hx;omega)
  ·have:=(Qm h8.o3 x hx).1;have:=hL x hm;omega
  have:=(Qm h8.o4 x hx).1;have:=hL x hm;omega
 have gq:k<q.ts.length:=by have h39:(k:Int)<(q.ts.length:Int):=kz;omega
 have gr:k<T.length:=by omega
 have ph:=Lj gq;have hTe:T[k]'gr=(q.ts[k]'gq).2:=by subst hT;simp
 have hq:=QgU (c:=q.c.cel) (pl:=q.p.a) (ps:=q.qs.map (·.2)) gr;have gs:T.take (k+1)=T.take k++[T[k]'gr]:=Ll gr;have gg:=kt _ (Lj gr);rw[g4] at hq;rw[hTe] at hq gs gg;refine Yl ?_
 refine Qlo (α:=(Value×Value×Value×Value)×List TV×List TV×LI) [(7,17),(38,117)] (λz=>[(37,.int .i64 k)]) (λz hO W'=>Step [G] H W'∧Vw H.heap.size W'.heap.size hO W'∧QX W'.heap G 77 [q.s.va,.int .i64 q.s.a.st,q.s.vm,q.s.ve,z.1.1,z.1.2.1,z.1.2.2.1,z.1.2.2.2] ∧
  Ke H.heap.size W' z.1.1 z.1.2.1 z.1.2.2.1 z.1.2.2.2 z.2.1 z.2.2.1 z.2.2.2 (spF q.c.cel q.p.a (q.qs.map (·.2)) (T.take (k+1)))∧z.2.1.map (·.2)=(T.take (k+1)).map (·.take q.c.co.length)∧z.2.2.1.map (·.2)=(T.take (k+1)).map (·.drop q.c.co.length)∧z.2.2.2=(T.take (k+1)).map (λt=>plx (q.qs.map (·.2)) (t.take q.c.co.length))) (by rfl) ?_ ?_
 rotate_left
 ·rintro ⟨⟨u1,u2,u3,u4⟩,cos',rqs',pls'⟩ g hO W ⟨hsW,hDW,hBW,hSW,h1,h2,h3⟩;refine QJ (by rfl) (by rfl) ?_;refine QN O O<|Qb<|xe ?_;exact ⟨(k+1,(u1,u2,u3,u4),cos',rqs',pls'),by simp only[];omega,Lb,gq,hsW,hDW,hBW,hSW,h1,h2,h3⟩
 refine ZN<|Q2<|QJ (by rfl) (by rfl) ?_;refine Qb<|xig (g:=Yo) Qah g6.ts.arr O O gq λa40 pj=>?_;refine Zs (q.ts[k]'gq) λt ht=>?_;rw[ht] at pj ph hq gs gg;have htI:=g6.ts.each t ph;have htl:t.2.length=q.c.co.length+q.c.rq.length:=by rw[gg.1,hal]
 refine x (Qv pj O)<|xl O<|Qu (us:=[.int .i64 0]) O λb7 w9 hs9 hb7 hB9=>xl O<|QH (j:=0) (u:=.int .i64 k) hB9 O O (by decide) O λw10 pn pp =>
  Qf ?_
 have k0:Step [] w7 w10:=hs9.then1 pn hb7;refine Q2<|QJ (by rfl) (by rfl) ?_;refine Qb<|Qb<|xl O<|xf<|(QgT (g6.ext k0) (htI.ext k0) (by omega)).mono ?_;rintro r11 pt ⟨pu,v9,pw,rfl,hI,hr⟩;refine Qb<|x (Qk O O)<|x (Qk O O)<|x Qe<|Qf ?_;have k4:=k0.trans pu;have k5:=g6.ext k4;refine Zs (t.2.take q.c.co.length) λtc hR=>?_
 refine Zs (t.2.drop q.c.co.length) λtr gt=>?_;rw[ga] at hq;rw[hR] at hI hq;rw[gt] at hr;have htcl:tc.length=q.c.co.length:=by rw[←hR,LF];omega
 have htrl:tr.length=q.c.rq.length:=by rw[←gt,Mf];omega
 have hbdt:=gg.bd (m:=4096) (λa ha=>by
  rcases Lp.1 ha with ha | ha
  ·exact (XG hZ.co a ha).st1
  exact (XG hZ.rq a ha).st1)
 have pz:∀x∈tc,0≤x∧x<4096:=λx hx=>hbdt x (Mh (by rw[hR];exact hx));refine Q2<|Qa3 (Step [] pt) [(0,true),(1,true),(2,true),(3,true),(4,true),(5,false),(6,true),(7,true)] mixed (by rfl) (by rfl) (by kernel_rfl) (Step.drew _ _) ?_
 refine p (λ_=>Ql)<|p (λ_=>Qr O)<|p (λ_=>Qa O)<|pq (λ_ hc=>Qc (k5.B.ext hc) O O)<|p (λ_=>Ql)<|pk<|xf<|(Qfc (hI.ext (Step.drew _ _)) ((m3.ext (kw.trans k4)).ext (Step.drew _ _)) pz (by omega)).mono ?_;rintro r12 Y ⟨rfl,hs12⟩;have gh:=(Step.drew [] pt).trans hs12;refine ⟨gh,?_⟩
 have p0:(match mget q.mm (Vz tc) with | some u=>u | none=>.int .i64 0)=Value.int .i64 (plx (q.qs.map (·.2)) tc):=by
  rw[hQ.m tc htcl (λx hx=>(pz x hx).1)];unfold plx;by_cases hm:tc∈q.qs.map (·.2)
  ·rw[if_pos hm,if_pos hm]
  rw[if_neg hm,if_neg hm]
 refine Zs (plx (q.qs.map (·.2)) tc) λpi k6=>?_;rw[k6] at p0 hq;refine pq (λ_ hc=>(Xv (k:=Vz tc) (k5.m.ext hc) O O).trans (congrArg (λv=>Result.ok (Next.value v) _) p0))<|p (λ_=>Qe)<|pe ?_;have hU:=k4.trans gh;have hs012:=kw.trans hU;have hI:=hI.ext gh;have hr:=hr.ext gh;have h7:=kv.ext hU;have gu:=S.ext hU;have hS12d:=gu.ext (Step.drew [] Y)
 have hz712:=hU.size;have hzd:({ Y with drawn:=Y.drawn+1 }:World).heap.size=Y.heap.size:=rfl
 have hC0:Step av Y { Y with drawn:=Y.drawn+1 }:=Step.drew _ _
 have fin:∀{Z hf ho hg hh:Value} {wx wy:World},Step av Y wx→Ke H.heap.size wx Z hf ho J (cos++[(hg,tc)]) (rqs++[(hh,tr)]) (pls++[pi]) fbs→Step [G] wx wy→QX wy.heap G 77 [q.s.va,.int .i64 q.s.a.st,q.s.vm,q.s.ve,Z,hf,ho,J] →
   Step (G::av) Y wy∧QX wy.heap G 77 [q.s.va,.int .i64 q.s.a.st,q.s.vm,q.s.ve,Z,hf,ho,J]∧Ke H.heap.size wy Z hf ho J (cos++[(hg,tc)]) (rqs++[(hh,tr)]) (pls++[pi]) fbs:=λhC hP hs hB =>
  ⟨(hC.mono kx).trans' (hs.mono (λx hx=>by simp only[List.mem_singleton] at hx;subst hx;exact Lh)),hB,hP.low hs (λx hx=>by simp only[List.mem_singleton] at hx;subst hx;exact kr)⟩
 have hkl:k≤4096:=by omega
 have htc16:tc.length≤16:=by omega
 have htr16:tr.length≤16:=by omega
 have htc40:tc.length≤1099511627776:=by omega
 have htr40:tr.length≤1099511627776:=by omega
 have m5:cos.length+1≤1099511627776:=by omega
 have kk:rqs.length+1≤1099511627776:=by omega
 have hl3:pls.length+1≤1099511627776:=by omega
 have gv:H.heap.size≤Y.heap.size:=by omega
 refine Qlo (α:=Value×Value×Value×Value×Value) [(55,74)] (λ_=>[]) (λz hO w'=>hO=ds∧Step (G::av) Y w'∧QX w'.heap G 77 [q.s.va,.int .i64 q.s.a.st,q.s.vm,q.s.ve,z.1,z.2.1,z.2.2.1,J]∧Ke H.heap.size w' z.1 z.2.1 z.2.2.1 J (cos++[(z.2.2.2.1,tc)]) (rqs++[(z.2.2.2.2,tr)]) (pls++[pi]) fbs) (by rfl) ?_ ?_
 ·refine Qjc (α:=Value×Value×Value×Value) (Step av Y) [(0,true),(1,true),(2,true),(6,true),(7,true),(8,true),(12,true),(13,true),(14,true)] [(3,false),(4,false),(5,false),(17,true),(9,false),(10,false),(11,false)] 15 70
   [(16,false),(18,false),(19,true),(20,false),(21,true),(22,false)] av [(55,74)] [(58,60),(64,66),(72,72)] (λz=>[(60,z.1),(66,z.2.1),(68,v3),(72,.pointer (some ⟨G,4,none⟩))]) (λz w'=>Step av Y w'∧Ke H.heap.size w' z.1 z.2.1 v3 J (cos++[(z.2.2.1,tc)]) (rqs++[(z.2.2.2,tr)]) pls fbs)
   (λv w'=>∃b,v=.slice (some ⟨b,0,none⟩) 1 1∧QX w'.heap b 3 [.int .i64 pi]) mixed (by rfl) (by rfl) (by kernel_rfl) (by rfl) O hC0 (λx hx=>MC (gc x hx).2 hz712) ?_ ?_ ?_ ?_
  ·rintro v own w w' ⟨b,rfl,hB⟩ hs hn;exact ⟨b,O,hB.step hs (hn b (by simp[ow]))⟩
  ·rintro z w w' ⟨h1,h2⟩ hs;exact ⟨h1.trans hs,h2.ext hs⟩
  ·rintro ⟨Z,hf,hg,hh⟩ g wz v ⟨p7,hP⟩ _ ⟨b15,rfl,g9⟩;simp only[] at hP;have hcz:=p7.size;refine pk<|QZ (news:=[.int .i64 pi]) (L:=[]) hP.o3 O O O (g9.at (by simp)) (by simp[Value.oneCell']) hl3 (L5 gv hcz) λho y1 ka hF hn1=>?_;have Q1:=Ke.a3 (q:=pi) hP (Step.refl [] _) ka hF hn1
   have k7:Step av Y y1:=p7.trans' (hF.mono (λb hb=>by rw[←gm];exact zW (.inr (.inr (.inl hb)))));refine ⟨k7,?_⟩;refine pkl (hl:=by kernel_rfl)<|QH (j:=4) (u:=Z) (h7.step k7 g5) O O (by simp) (Q3 Q1.o1) λy2 h5 k8=>p (λ_=>Qa rfl) <|
    pkl (hl:=by kernel_rfl)<|QH (j:=5) (u:=hf) k8 O O (by simp) (Q3 Q1.o2) λy3 h6 hB3'=>p (λ_=>Qa rfl) <|
    pkl (hl:=by kernel_rfl)<|QH (j:=6) (u:=ho) hB3' O O (by simp) (Q3 Q1.o3) λy4 hM hB4'=>pe ?_
   exact ⟨(Z,hf,ho,hg,hh),La,O,fin k7 Q1 ((h5.trans' h6).trans' hM) hB4'⟩
  refine p (λ_=>Qa O)<|pq (λ_ hc=>Qc (h7.step hc g5) O O)<|p (λ_=>Ql)<|p (λ_=>Qa O)<|pq (λ_ hc=>Qc (h7.step hc g5) O O)<|p (λ_=>Ql) <|
   p (λ_=>Qa O)<|pq (λ_ hc=>Qc (h7.step hc g5) O O)<|p (λ_=>Ql)<|pe ⟨λg wf hCf=>QL (us:=[[.int .i64 pi]]) O O (by decide) (by simp) ⟨rfl,rfl,La⟩ λb wf' p8 hbf p9=>⟨p8,hCf.trans p8,⟨b,rfl,p9⟩,λx hx=>?_⟩,?_⟩
  ·have hxe:x=b:=by
    have hx':x∈[b]:=hx;simpa using hx'
   subst hxe;exact ⟨hbf,p9.lt⟩
  have qa:∀{X:LN},(∀x∈X,x∈ob v1∨x∈ob v2)→∀x∈X,x∈av:=λhX x hx=>by rw[←gm];exact zW ((hX x hx).imp id .inl)
  refine fk λx1 p1 c1=>xf<|(Zk (hI.step c1 kx)).mono ?_;rintro hg y1 ⟨hF,ka⟩;have P1:=hS12d.ext p1;have pb1:=L5 gv c1.size;refine ⟨c1.trans hF,av,hF.any,λb hb=>.inl hb,?_⟩;refine fk λx2 p2 c2=>QL (us:=[[hg]]) O O (by decide) (by simp) ⟨ZI ka,rfl,La⟩ λb2' y2 h5 hb2' k8=>⟨c2.trans h5,av,h5.any,λb hb=>.inl hb,?_⟩;refine fk λx3 p3 c3=>?_
  have qe:=((hF.trans p2).trans h5).trans p3;have qf:=Qt ka ((p2.trans h5).trans p3);refine QZ (news:=[hg]) (L:=[]) (Qt P1.o1 qe) O O O ((k8.ext p3).at (by simp)) (λu hu=>by rw[List.mem_singleton] at hu;subst hu;exact Q3 qf) m5 (L5 gv c3.size) λZ y3 ho4 h6 hn3=>?_;have P2:=Ke.a1 (q:=(hg,tc)) P1 qe qf htc40 (Lv _) pb1 ho4 h6 hn3
  have ql:Step av x3 y3:=h6.mono (qa λx hx=>.inl hx);refine ⟨c3.trans' ql,av,ql,λb hb=>.inl hb,?_⟩;refine fp (λ_=>Qa O) ?_;refine fk λx4 p4 c4=>xf<|(Zk (hr.step c4 kx)).mono ?_;rintro hh y4 ⟨hM,qm⟩;have P3:=P2.ext p4;have pb3:=L5 gv c4.size;refine ⟨c4.trans hM,av,hM.any,λb hb=>.inl hb,?_⟩
  refine fk λx5 p5 c5=>QL (us:=[[hh]]) O O (by decide) (by simp) ⟨ZI qm,rfl,La⟩ λb5' y5 hY hb5' hB5'=>⟨c5.trans hY,av,hY.any,λb hb=>.inl hb,?_⟩;refine fk λx6 p6 c6=>?_;have q0:=((hM.trans p5).trans hY).trans p6;have q1:=Qt qm ((p5.trans hY).trans p6)
  refine QZ (news:=[hh]) (L:=[]) (Qt P3.o2 q0) O O O ((hB5'.ext p6).at (by simp)) (λu hu=>by rw[List.mem_singleton] at hu;subst hu;exact Q3 q1) kk (L5 gv c6.size) λhf y6 ho7 g1 hn6=>?_;have P4:=Ke.a2 (q:=(hh,tr)) P3 q0 q1 htr40 (Lv _) pb3 ho7 g1 hn6;have k9:Step av x6 y6:=g1.mono (qa λx hx=>.inr hx);refine ⟨c6.trans' k9,av,k9,λb hb=>.inl hb,?_⟩
  exact fe ⟨(Z,hf,hg,hh),⟨O,O,O,O,La⟩,c6.trans' k9,P4⟩
 rintro ⟨Z,hf,ho,hg,hh⟩ g hO ma ⟨rfl,hJ,q2,q3⟩;simp only[] at q2 q3;have hz13:=hJ.size;have q4:=(k5.ext gh).st hJ;have hI:=hI.st hJ;have hr:=hr.st hJ;have kb:K8 [] b ma.heap q:=q4.up (by simp);have hcell:∀x∈G::av,∃o:Obj,Y.heap[x]?=some o∧o.isCells=true:=λx hx=>by
  rcases Li.1 hx with rfl | hx
  ·exact h7.cells
  rw[←gm] at hx;rcases QbM hx with h1 | h1 | h1 | h1
  ·exact Go.Lg.ZI gu.o1 x h1
  ·exact Go.Lg.ZI gu.o2 x h1
  ·exact Go.Lg.ZI gu.o3 x h1
  exact Go.Lg.ZI gu.o4 x h1
 have hD13:Vw H.heap.size w7.heap.size hO ma:=((pd.up (Lv _)).ext hU).step hJ hcell;have hl7:=pp.lt;have hz910:=pn.size;have hb7n:b7∉G::av:=λhm=>by
  rcases Li.1 hm with h1 | h1
  ·omega
  have:=(gc _ h1).2;omega
 have hb1n:b1∉G::av:=λhm=>by
  rcases Li.1 hm with h1 | h1
  ·omega
  have:=(gc _ h1).1;omega
 have kc:=((pp.ext pu).ext gh).step hJ hb7n;have mc:=((m6.ext (h6.trans gl)).ext hU).step hJ hb1n;have hs613:Step [G] H ma:=(ku.trans hU).then hJ (λx hx=>by
  rcases Li.1 hx with h1 | h1
  ·subst h1;exact .inl Lh
  exact .inr (gc x h1).1)
 have mf:(cos++[(hg,tc)]).map (·.2)=(T.take (k+1)).map (·.take q.c.co.length):=by rw[gs,LA,LA,gi,Ns,Ns,hR]
 have mg:(rqs++[(hh,tr)]).map (·.2)=(T.take (k+1)).map (·.drop q.c.co.length):=by rw[gs,LA,LA,gj,Ns,Ns,gt]
 have mh:pls++[pi]=(T.take (k+1)).map (λt=>plx (q.qs.map (·.2)) (t.take q.c.co.length)):=by rw[gs,LA,gk,Ns,hR,k6]
 have hVc:Vt (auts q.c.cel.co) tc:=by
  have h1:=gg.take;rw[show (auts q.c.cel.co).length=q.c.co.length by unfold auts;rw[Lo];exact ga,hR] at h1;exact h1
 have hVr:Vt (auts q.c.cel.rq) tr:=by
  have h1:=gg.drop;rw[show (auts q.c.cel.co).length=q.c.co.length by unfold auts;rw[Lo];exact ga,gt] at h1;exact h1
 have gx:=Qhc hQ.ok hQ.p;have hpr:=QlO gx.2.2.1 tc;rw[k6,←gx.2.1] at hpr;have hckp:cks q.p.a pi=0:=by
  unfold cks;rw[if_neg (by rw[(Zp q.p.a).2 gx.1];decide),if_neg (by omega)]
 have hvo:=QcJ kb.k1 kb.k2 kb.k3 (hI.up (L':=[]) (by simp)) (by rw[hQ.ex,hQ.cs];exact hZ.cd) hVc.tpOk;have hw:rsn q.c.cel q.p.a pi k t.2=(match vio q.c.cel tc with | some (kd,j)=>some ⟨k,kd,j,-1⟩ | none=>match rfd q.c.cel tr (Qb7 q.p.a pi) with | some (j,v)=>some ⟨k,3,j,v⟩ | none=>none):=by unfold rsn;rw[ga,hR,gt];rfl
 rw[Qgs] at hw;rw[hQ.ex,hQ.cs] at hvo;refine Zs (yQ q.c.cel.ex q.c.cel.cs tc) λV hV=>?_;rw[hV] at hvo hw;refine Q2<|Q2<|QJ (by rfl) (by rfl) ?_;refine Qb<|x (Qr O)<|x (Qa O)<|x (Xd (us:=[q.vs,q.vx,q.vk]) kb.B O O O)<|Qb<|xl O<|xf<|hvo.mono ?_;rintro r14 mj ⟨hA,rfl⟩;refine Qb<|x (Qk O O)<|x (Qk O O)<|x (Qk O O)<|x (Qk O O)<|x Qe<|x Qe<|x Qe<|Qf ?_;have ke:=q2.ext hA
 have hK:=q3.ext hA;have q5:=hD13.ext hA;have j1:=hs613.trans hA;have hz14:=hA.size;have j2:fbs.length+1≤1099511627776:=by omega
 have hb014:H.heap.size≤mj.heap.size:=by omega
 have hz714:w7.heap.size≤mj.heap.size:=by omega
 refine Q2<|QJ (by rfl) (by rfl) ?_;refine Qb<|xe<|Vd rfl (λmo=>?_) (λmo=>?_)
 ·rw[if_pos mo] at hw;simp only[] at hw;rw[hw] at hq;refine Q2<|QJ (by rfl) (by rfl) ?_;refine x (Qa O)<|x (Qc ke O O)<|x (Qc (kc.ext hA) O O)<|Qb<|Qb<|x (QG ⟨O,O,O,O,La⟩) <|
   xl rfl<|QL (us:=[YK ⟨k,V.1,V.2.1,-1⟩]) O O (by decide) (by simp) ⟨rfl,rfl,La⟩ λb93 y1 hG hb93 mq=>?_
  have za:=hG.size;refine xl O<|QZ (m:=1) (news:=YK ⟨k,V.1,V.2.1,-1⟩) (L:=[]) (Qt hK.o4 hG) O O O (mq.at (by simp)) (by simp[Value.oneCell']) j2 (L5 hb014 za) λu4 y2 gy gz ms=>?_;have mt:G∉ob J:=λhm=>by have:=(Qm hK.o4 _ hm).1;omega
  refine x (Qa O)<|xl O<|QH (j:=7) (u:=u4) ((ke.ext hG).step gz mt) O O (by simp) (Q3 gy) λy3 mu mv=>xe ?_;have h4:=Ke.add (q:=⟨k,V.1,V.2.1,-1⟩) ke hK kr hG gy gz ms mu;refine Ky<|⟨((Z,hf,ho,u4),cos++[(hg,tc)],rqs++[(hh,tr)],pls++[pi]),Lb,j1.then h4.1 (λx hx=>?_),((q5.step h4.1 h4.2.2).up (L5 hz714 h4.1.size)),mv,?_,mf,mg,mh⟩
  ·rcases Li.1 hx with h1 | h1
   ·subst h1;exact .inl Lh
   exact .inr (Qm hK.o4 x h1).1
  simp only[];rw[hq];exact h4.2.1
 rw[if_neg (by rw[mo];decide)] at hw;simp only[] at hw;refine Yl ?_;have hA14:=q4.ext hA;have hr:=hr.ext hA;refine Q2<|QJ (by rfl) (by rfl) ?_;refine Qb<|Qb<|Qb<|xl O<|xf<|(Qbt (b:=b) (st:=pi) (vr:=pw) hr.cells).mono ?_;rintro r15 kf ⟨hH,c1,c2,c3,rfl,hc1,hc2,hc3,hR1,hR2,hR3⟩;refine xe ?_;have hz15:=hH.size;have g9:=ke.ext hH;have zb:=hK.ext hH
 have z0:=q5.ext hH;have z1:=j1.trans hH;have hA15:=hA14.ext hH;have kc:=kc.ext (hA.trans hH);have mc:=mc.ext (hA.trans hH);have hr:=hr.ext hH;refine Zs (wrf q.c.cel.rq tr (enb q.p.a pi)) λfl kg=>?_;have z2:∀x∈G::ob J,x∈G::av:=λx hx=>by
  rcases Li.1 hx with rfl | hx
  ·exact Lh
  exact Le _ (by rw[←gm];exact zW (.inr (.inr (.inr hx))))
 have mw:∀x∈G::ob J,x<mj.heap.size:=λx hx=>by
  rcases Li.1 hx with rfl | hx
  ·omega
  exact (Qm hK.o4 x hx).2
 have z3:K8 (G::ob J) b kf.heap q:=hA15.up (λx hx=>.inl (z2 x hx));have hIr15:QO (G::ob J) kf.heap pw tr:=hr.up (λx hx=>.inl (z2 x hx));have hEv:∀p∈fl,0≤p.1∧p.1<(q.c.ev.length:Int):=λp hp=>by
  rw[←kg] at hp;have h1:=(Qag.1 hp).1;unfold enb at h1;obtain ⟨e,he,h2⟩:=Lz.1 h1;have h3:=gx.2.2.2 _ (gx.1.ed e (Ya he).1).2.2.1;rw[h2] at h3;exact h3
 refine ZN<|Qjb (α:={ x:Int×Int // x∈fl }) (G::ob J) (by omega) (capt:=[.pointer (some ⟨c1,0,none⟩),.pointer (some ⟨c2,0,none⟩),.pointer (some ⟨c3,0,none⟩)]) O (encs:=λx=>[.int .i64 x.1.1,.int .i64 x.1.2]) (by decide) (λ_=>O)
  (Qao hR1 hR2 hR3 (λhm=>by have:=mw _ hm;omega) (λhm=>by have:=mw _ hm;omega) (λx hx=>by have:=mw _ hx;omega) z3 hIr15 (λx hx=>hZ.rq x.it (LX hx)) hVr hckp O kg)
  (λpre W=>(∀y∈pre,(q.c.cel.ev.getD y.1.1.toNat ⟨.empty,false,false,false,0⟩).co=true)∧Step [] kf W) (λpre=>(Yf.pure _).and (Yf.step (Lv _)))
  (λe pre W=>e=.exit 2∧(∃p y,pre=p++[y]∧(∀y∈p,(q.c.cel.ev.getD y.1.1.toNat ⟨.empty,false,false,false,0⟩).co=true)∧(q.c.cel.ev.getD y.1.1.toNat ⟨.empty,false,false,false,0⟩).co=false ∧
   ∃u4,Step (G::ob J) kf W∧QX W.heap G 77 [q.s.va,.int .i64 q.s.a.st,q.s.vm,q.s.ve,Z,hf,ho,u4]∧Ke H.heap.size W Z hf ho u4 (cos++[(hg,tc)]) (rqs++[(hh,tr)]) (pls++[pi]) (fbs++[⟨k,3,y.1.2,y.1.1⟩])∧Vw H.heap.size w7.heap.size hO W))
  (λe pre=>(Yf.pure _).and (Yf.ex λp=>Yf.ex λy=>(Yf.pure _).and ((Yf.pure _).and ((Yf.pure _).and (Yf.ex λu4=>(Yf.step (Lv _)).and (Yf.blk.and ((Yf.cst λW W' h hc hz=>h.cst hc hz).and (Vw.stb (by omega)))))))))
  ⟨λy hy=>(by cases hy),Step.refl _ _⟩
  (λf x f' W=>f'=upd (upd (upd (upd f 100 (.int .i64 x.1.1)) 101 (.int .i64 x.1.2)) 16 (.int .i64 x.1.1)) 17 (.int .i64 x.1.2)) (λx f'=>Yf.pure _) ?_ ?_ ?_ ?_
 ·rintro l pre ⟨⟨e,i⟩,he⟩ W U;refine Q2<|QJ (by rfl) (by rfl) ?_;refine Qf<|QJ (by rfl) (by rfl) ?_;refine Qf ?_;exact ⟨O,Jj.refl _ _ _,Lg.Kh.refl _ _,U,O⟩
 ·rintro l pre ⟨⟨e,i⟩,he⟩ f' W ⟨kh,U⟩ rfl _;have hee:=hEv _ he;simp only[] at hee;have hen:e=(e.toNat:Int):=by omega
  have ki:e.toNat<q.c.ev.length:=by omega
  have hAW:=z3.ext U;refine ZN<|Q2<|QJ (by rfl) (by rfl) ?_;refine x (Qa O)<|x (Qc (mc.ext U) O O)<|Qb<|xig (g:=ZQ) (i:=e.toNat) QaN hAW.c.ev.arr O (congrArg (Value.int .i64) hen) ki λa105 z4=>?_;have hge:q.c.cel.ev.getD e.toNat ⟨.empty,false,false,false,0⟩=q.c.ev[e.toNat]'ki:=by
   show q.c.ev.getD e.toNat _=_;simp[List.getD,ki]
  refine Zs (q.c.ev[e.toNat]'ki) λv hv=>?_;rw[hv] at z4 hge;refine x (Zn O)<|x (Qv (z4.fld 1 (.bool v.co) O) O)<|x (Zh O)<|xe<|Vd O (λmy=>?_) (λmy=>?_)
  ·have mz:v.co=false:=by simpa using my
   have hS:=zb.ext U;have hB:=g9.ext U;have ge:=U.size;refine Q2<|QJ (by rfl) (by rfl) ?_;refine x (Qa O)<|x (Qc hB O O)<|x (Qc (kc.ext U) O O)<|Qb<|Qb<|x (QG ⟨O,O,O,O,La⟩) <|
    xl rfl<|QL (us:=[YK ⟨k,3,i,e⟩]) O O (by decide) (by simp) ⟨rfl,rfl,La⟩ λb93 y1 hG hb93 mq=>?_
   have za:=hG.size;refine xl O<|QZ (m:=1) (news:=YK ⟨k,3,i,e⟩) (L:=[]) (Qt hS.o4 hG) O O O (mq.at (by simp)) (by simp[Value.oneCell']) j2 (by omega) λu4 y2 gy gz ms=>?_;have mt:G∉ob J:=λhm=>by have:=(Qm hK.o4 _ hm).1;omega
   refine x (Qa O)<|xl O<|QH (j:=7) (u:=u4) ((hB.ext hG).step gz mt) O O (by simp) (Q3 gy) λy3 mu mv=>xe ?_;have h4:=Ke.add (q:=⟨k,3,i,e⟩) hB hS kr hG gy gz ms mu;refine Ky ?_;exact ⟨Jj.step h4.1 ge (λx hx=>⟨.inl hx,h4.2.2 x hx⟩),O,pre,_,O,kh,by simp only[];rw[hge];exact mz,u4,U.any.trans' h4.1,mv,h4.2.1,(z0.ext U).step h4.1 h4.2.2⟩
  have mz:v.co=true:=by simpa using my
  refine Yl<|⟨Jj.refl _ _ _,Lg.Kh.refl _ _,λy hy=>?_,U⟩;rcases Lp.1 hy with h1 | h1
  ·exact kh y h1
  simp only[List.mem_singleton] at h1;subst h1;simp only[];rw[hge];exact mz
 ·rintro D xs W hD hxs ⟨kh,U⟩ m0;have m2:rfd q.c.cel tr (Qb7 q.p.a pi)=none:=zr λx hx=>by
   rw[show wrf q.c.cel.rq tr (Qb7 q.p.a pi)=fl from kg,←hxs] at hx;obtain ⟨y,hy,rfl⟩:=Lz.1 hx;exact kh y hy
  rw[m2] at hw;rw[hw] at hq;refine ⟨((Z,hf,ho,J),cos++[(hg,tc)],rqs++[(hh,tr)],pls++[pi]),Lb,z1.trans U,(z0.ext U).cons (by omega) (by omega) m0,g9.ext U,?_,mf,mg,mh⟩;simp only[];rw[hq];have h9:=zb.ext U;simpa using h9
 rintro D e pre W hD hSp ⟨rfl,p,y,rfl,hp,hy,u4,hst,hBu,hSu,hDu⟩ m0 _;have m2:rfd q.c.cel tr (Qb7 q.p.a pi)=some (y.1.2,y.1.1):=by
  obtain ⟨rs,z5⟩:=hSp;rw[LA] at z5;refine zq (x:=y.1) (t:=rs) (p:=p.map (·.1)) ?_ (λz hz=>?_) hy
  ·exact (show wrf q.c.cel.rq tr (Qb7 q.p.a pi)=fl from kg).trans (z5.symm.trans (by simp))
  obtain ⟨z',hz',rfl⟩:=Lz.1 hz;exact hp z' hz'
 rw[m2] at hw;simp only[] at hw;rw[hw] at hq;refine ⟨((Z,hf,ho,u4),cos++[(hg,tc)],rqs++[(hh,tr)],pls++[pi]),Lb,z1.then hst (λx hx=>?_),hDu.cons (by omega) (by omega) m0,hBu,?_,mf,mg,mh⟩
 ·rcases Li.1 hx with h1 | h1
  ·subst h1;exact .inl Lh
  exact .inr (Qm hK.o4 x h1).1
 simp only[];rw[hq];exact hSu
end Go.Proofs.YtdffckgdcegpaaaGreatDoor
namespace Go.Lg
theorem At.from {L:LN}{H:Array Obj}{a:Addr}{us:LV}(h:At L H a us) (j:Nat):At L H (a.add j) (us.drop j) :=
 ⟨λu hu=>by rw[Yk];exact h.out u (Mt hu),λu hu=>by rw[Yk];exact h.lt u (Mt hu),λi v E=>by
  rw[Addr.add_add];exact h.cell (j+i) v (by rw[←MK];exact E)⟩
end Go.Lg
namespace Go.Proofs.YtdffckgdcegpaaaGreatDoor
open Go.Proofs.Tryz
open Go.Lg
structure Uy {α:Type}(g:α→LV) (sz T:Nat) (ps:α→List (Value×Nat×Nat×LV)) (base:Nat) (w:World) (v:Value) (l:List α):Prop where
 own:w.ownsRow base T sz v l.length (l.flatMap g)
 each:∀q∈l,∀t∈ps q,Yy base (ob v) w.heap t.1 t.2.1 t.2.2.1 t.2.2.2
section
variable {α:Type} {g:α→LV} {sz T:Nat} {ps:α→List (Value×Nat×Nat×LV)} {base:Nat} {w w':World} {v:Value} {l:List α}
theorem Uy.nil:Uy g sz T ps base w (nS) []:=⟨QR _ _ _ _,λq hq=>by cases hq⟩
theorem Uy.ext (h:Uy g sz T ps base w v l) (hs:Step [] w w'):Uy g sz T ps base w' v l:=⟨Qt h.own hs,λq hq t ht=>(h.each q hq t ht).ext hs⟩
theorem Uy.low {X:LN}(h:Uy g sz T ps base w v l) (hs:Step X w w') (E:∀b∈X,b<base):Uy g sz T ps base w' v l :=
 ⟨Qi h.own hs (λb hb hm=>by have:=(Qm h.own b hb).1;have:=E b hm;omega),λq hq t ht=>(h.each q hq t ht).low hs E⟩
theorem Uy.app {E G:World}{H:Value}{q:α}(h:Uy g sz T ps base w v l) (hs:Step [] w E)
  (hq:∀t∈ps q,∃N e,E.ownsRow N e t.2.2.1 t.1 t.2.1 t.2.2.2∧t.2.1≤1099511627776∧w.heap.size≤N) (hb:base≤w.heap.size)
  (U:G.ownsRow base T sz H (l.length+1) (l.flatMap g++g q)) (J:Step (ob v) E G) (S:∀b∈ob H,b∈ob v∨E.heap.size≤b):Uy g sz T ps base G H (l++[q]):=by
 have V:=QY h.own;refine ⟨?_,λd hd t ht=>?_⟩
 ·rw[Lk,LL];simpa using U
 rcases Lp.1 hd with hd | hd
 ·exact ((h.each d hd t ht).ext hs).app J S
 simp only[List.mem_singleton] at hd;subst hd;obtain ⟨N,e,h1,h2,h3⟩:=hq t ht;exact (Yy.of_own h1 h2 (by omega) (λb hb=>by have:=V b hb;omega)).app J S
end
abbrev Qmf (q:IV):List (Value×Nat×Nat×LV):=[(q.p.va,q.p.a.al.length,1,q.p.a.al.map (.int .i64)),(q.p.vm,q.p.a.mr.length,1,q.p.a.mr.map (.int .i64)),(q.p.ve,q.p.a.ed.length,3,q.p.a.ed.flatMap Qz)]
instance:Bw prog 66 [.string .empty,nS,.int .i64 0,nS,nS] [(0,1),(1,4)]:=⟨by kernel_rfl,by decide⟩
theorem Yy.of_lt {base N:Nat}{av:LN}{H:Array Obj}{v:Value}{n sz:Nat}{cs:LV}(h:∀L:LN,(∀b∈L,b<N)→Zz L H v n sz cs) (hb:base≤N) (E:∀b∈av,b<N):Yy base av H v n sz cs:=λL G =>
 h L (λb J=>(G b J).elim (λh=>by omega) (E b))
theorem QjR (L:LN) (H:Array Obj):QO L H (nS) []:=Zz.nil L H 1
end Go.Proofs.YtdffckgdcegpaaaGreatDoor
namespace Go.Lg
open Go.RowKit
section
variable {P:Program} {n:Nat} {f:Fr} {w:World} {all:List Oper} {C:World→Prop} {K:Fr→World→Prop} {KF:LN→Fr→World→Prop}
attribute [local semireducible] XP in
end
end Go.Lg
namespace Go.Proofs.YtdffckgdcegpaaaGreatDoor
open Go.Lg
abbrev QlZ:LV:=[nS,nS,nS,nS,nS]
abbrev QjS:LV:=[nS,.int .i64 0,nS,nS]
theorem jy {a:Array UInt8}(h:a.size≤100):(⟨a⟩:ByteArray).size≤9223372036854775807:=by
 show a.size≤_;omega
end Go.Proofs.YtdffckgdcegpaaaGreatDoor
namespace Go.Lg
end Go.Lg
namespace Go.Proofs.YtdffckgdcegpaaaGreatDoor
open Go.Lg
end Go.Proofs.YtdffckgdcegpaaaGreatDoor
namespace Go.Lg
section
variable {P:Program} {f:Fr} {w:World} {d:Option Nat} {ty:Nat} {ps:String} {af:Array Edge} {gd:Option (Nat×Bool)}
abbrev i2 (p:Int×Int):LV:=[.int .i64 p.1,.int .i64 p.2]
abbrev i5 (a:ByteArray) (b c e:Bool) (i:Int):LV:=[.string a,.bool b,.bool c,.bool e,.int .i64 i]
end
end Go.Lg
namespace Go.Proofs.YtdffckgdcegpaaaGreatDoor
open Go.Lg
end Go.Proofs.YtdffckgdcegpaaaGreatDoor
namespace Go.Proofs
open Go.Shelf
end Go.Proofs
namespace Go.Proofs.YtdffckgdcegpaaaGreatDoor
open Go.Lg Go.Sort
open Go.Proofs.Tryz
theorem V1 (m:Nat) (hm:m<256) (w:World):QM prog 52 [.int .u8 m] w λr w'=>Step [] w w'∧Qn 3 w.heap.size w' r (setK m 5):=by
 refine QM.of_W func52 O ntmps52 results52 (by simp) ?_;refine Qd<|Qf<|Qd<|Qf<|Qg<|Qd<|Qf<|Qh<|QC (α:=Nat×Value) [(3,17)] (λz=>[(3,z.2),(4,.int .i64 z.1)]) (λz w'=>z.1≤5∧Step [] w w'∧Qn 3 w.heap.size w' z.2 (setK m z.1)) (λz=>5 - z.1) (by rfl) (0,nS) ⟨O,O,La⟩
  ⟨Lm _,Step.refl _ _,QR _ _ _ _⟩ ?_
 rintro ⟨k,v⟩ g w1 ⟨hk,G,E⟩;simp only[] at hk E;have hg:=V0 m k;have hh:=G.size;refine Qg<|Qd<|Qb<|x (QD O O)<|xe<|QI rfl (λV=>?_) (λV=>?_)
 ·refine Qy<|Qd<|Qb<|Qf ?_;have Y:k=5:=by omega
  rw[Y] at E;exact Qs ⟨[v],Lb,G,E⟩
 have S:k<5:=by omega
 have Z:m / 2 ^ k<256:=Nat.lt_of_le_of_lt (Nat.div_le_self _ _) hm;have H:=jr m k;refine Qj<|Qg<|Qh<|Qd<|Qb<|Qb<|x (Qel (n:=k) O O (by show k≤8;omega))<|x (zx (a:=m / 2 ^ k) (b:=1) (congrArg (Value.int .u8) (Qed m k)) O Z (by decide))<|x (Zf O O)<|xe<|QI rfl (λU=>?_) (λU=>?_)
 ·rw[if_neg (λe=>U (by rw[e];rfl))] at H;refine Qj<|Qx<|Qb<|QN O O<|Qf ?_;exact ⟨(k+1,v),by simp only[];omega,⟨O,O,La⟩,S,G,by simp only[];rw[H];exact E⟩
 rw[if_pos (by omega)] at H;refine Qx<|Qb<|Qb<|xl O<|QL (us:=[[.int .i64 k]]) O O (by decide) (by simp) ⟨rfl,rfl,La⟩ λb15 w2 J hj ha=>?_;have hc:=Qt E J;have hl:=J.size;refine xl rfl<|QZ (news:=[.int .i64 k]) (L:=[]) hc O O O (ha.at (by simp)) (by simp[Value.oneCell']) (by omega) (by omega) λv3 w3 he hf hn =>
  Qf ?_
 have hge:=Qm E;refine Qx<|Qb<|QN O O<|Qf<|⟨(k+1,v3),by simp only[];omega,⟨O,O,La⟩,S,(G.trans J).then hf (λb hb=>.inr (hge b hb).1),?_⟩;simp only[];rw[H];exact Qn.snoc he
end Go.Proofs.YtdffckgdcegpaaaGreatDoor
namespace Go.Lg
section
variable {P:Program} {f:Fr} {w:World} {d:Option Nat} {ty:Nat} {ps:String} {af:Array Edge} {gd:Option (Nat×Bool)}
theorem QlI {t E e bys:Nat}{z:Value}[h:Sl P t e 1 bys z] [he:Ik P e .u8] [hd:St P E] {x:Operand}{b T n cap:Nat}(G:QX w.heap b T [.int .u8 (n:Int)]) (J:n<256) (hx:ev f x=.slice (some ⟨b,0,none⟩) 1 cap) :
  (execOp (ev f) ⟨d,.convert t E x,ty,ps,af,gd⟩).run P w=.ok (.value (.string ⟨#[UInt8.ofNat n]⟩)) w:=by
 refine qS hx ?_;refine run_convert_bytes_back (P:=P) w t E e ⟨b,0,none⟩ cap [UInt8.ofNat n] h.u he.u hd.u (λj hj=>?_);have H:j=0:=by simp at hj;omega
 subst H;rw[Ji];have h1:(⟨b,0,none⟩:Addr).add 0=⟨b,0,none⟩:=rfl;rw[h1,G.cell];have h2:(UInt8.ofNat n).toNat=n:=by simp[UInt8.toNat_ofNat'];omega
 simp[h2]
end
end Go.Lg
namespace Go.Proofs.YtdffckgdcegpaaaGreatDoor
open Go.Lg
theorem Qie (e:q9):∀u∈ZQ e,u.oneCell'=true:=by
 intro y hy;simp only[ZQ,List.mem_cons,List.not_mem_nil,or_false] at hy;rcases hy with rfl | rfl | rfl | rfl | rfl <;> rfl
theorem QeL {q:IV}(h1:q.p.va.oneCell'=true) (h2:q.p.vm.oneCell'=true) (h3:q.p.ve.oneCell'=true):∀u∈Z5 q,u.oneCell'=true:=by
 intro y hy;simp only[Z5,List.mem_cons,List.not_mem_nil,or_false] at hy;rcases hy with rfl | rfl | rfl | rfl | rfl
 ·rfl
 ·exact h1
 ·rfl
 ·exact h2
 exact h3
theorem QbZ {base N:Nat}{av:LN}{H:Array Obj}{q:IV}(h:∀L:LN,(∀b∈L,b<N)→Zi L H q.p.va q.p.vm q.p.ve q.p.a) (hb:base≤N) (G:∀b∈av,b<N):∀t∈Qmf q,Yy base av H t.1 t.2.1 t.2.2.1 t.2.2.2:=by
 intro t ht;simp only[List.mem_cons,List.not_mem_nil,or_false] at ht;rcases ht with rfl | rfl | rfl
 ·exact Yy.of_lt (λL E=>(h L E).al) hb G
 ·exact Yy.of_lt (λL E=>(h L E).mr) hb G
 exact Yy.of_lt (λL E=>(h L E).ed) hb G
structure qG (base:Nat) (w:World) (vc va:Value) (co:List IV) (al:LI):Prop where
 c:w.ownsRow base 66 5 vc co.length (co.flatMap Z5)
 a:Qn 3 base w va al
 dj:Dj vc va
 each:∀q∈co,∀t∈Qmf q,Yy base (ob vc++ob va) w.heap t.1 t.2.1 t.2.2.1 t.2.2.2
section
variable {base:Nat} {w w':World} {vc va vc' va':Value} {co:List IV} {al:LI}
theorem qG.nil:qG base w (nS) (nS) [] []:=⟨QR _ _ _ _,QR _ _ _ _,Dj.nil _,λq hq=>by cases hq⟩
theorem qG.ext (h:qG base w vc va co al) (hs:Step [] w w'):qG base w' vc va co al:=⟨Qt h.c hs,Qt h.a hs,h.dj,λq hq t ht=>(h.each q hq t ht).ext hs⟩
theorem qG.low {X:LN}(h:qG base w vc va co al) (hs:Step X w w') (E:∀b∈X,b<base):qG base w' vc va co al :=
 ⟨Qi h.c hs (λb hb hm=>by have:=(Qm h.c b hb).1;have:=E b hm;omega),Qi h.a hs (λb hb hm=>by have:=(Qm h.a b hb).1;have:=E b hm;omega),h.dj,λq hq t ht=>(h.each q hq t ht).low hs E⟩
theorem qG.avlt (h:qG base w vc va co al):∀b∈ob vc++ob va,b<w.heap.size:=λb hb=>(Lp.1 hb).elim (QY h.c b) (QY h.a b)
theorem qG.setC {q:IV}(h:qG base w vc va co al) (hq:∀t∈Qmf q,Yy base (ob vc++ob va) w.heap t.1 t.2.1 t.2.2.1 t.2.2.2) (S:w'.ownsRow base 66 5 vc' (co.length+1) (co.flatMap Z5++Z5 q))
  (hs:Step (ob vc) w w') (E:∀b∈ob vc',b∈ob vc∨w.heap.size≤b):qG base w' vc' va (co++[q]) al:=by
 have G:Step (ob vc++ob va) w w':=hs.mono (λb hb=>Lp.2 (.inl hb));have H:∀b∈ob vc'++ob va,b∈ob vc++ob va∨w.heap.size≤b:=λb hb=>by
  rcases Lp.1 hb with hb | hb
  ·exact (E b hb).imp (λh=>Lp.2 (.inl h)) id
  exact .inl (Lp.2 (.inr hb))
 refine ⟨?_,Qi h.a hs (λb hb U=>h.dj b U hb),λb hb J=>?_,λd hd t ht=>?_⟩
 ·rw[Lk,LL];simpa using S
 ·rcases E b hb with h1 | h1
  ·exact h.dj b h1 J
  have:=QY h.a b J;omega
 rcases Lp.1 hd with hd | hd
 ·exact (h.each d hd t ht).app G H
 simp only[List.mem_singleton] at hd;subst hd;exact (hq t ht).app G H
theorem qG.setA {G:LI}(h:qG base w vc va co al) (J:Qn 3 base w' va' G) (hs:Step (ob va) w w') (H:∀b∈ob va',b∈ob va∨w.heap.size≤b):qG base w' vc va' co G:=by
 have S:Step (ob vc++ob va) w w':=hs.mono (λb hb=>Lp.2 (.inr hb));have U:∀b∈ob vc++ob va',b∈ob vc++ob va∨w.heap.size≤b:=λb hb=>by
  rcases Lp.1 hb with hb | hb
  ·exact .inl (Lp.2 (.inl hb))
  exact (H b hb).imp (λh=>Lp.2 (.inr h)) id
 refine ⟨Qi h.c hs (λb hb E=>h.dj b hb E),J,λb hb E=>?_,λd hd t ht=>(h.each d hd t ht).app S U⟩;rcases H b E with h1 | h1
 ·exact h.dj b hb h1
 have:=QY h.c b hb;omega
theorem qG.itms {L:LN}(h:qG base w vc va co al) (G:co.length≤1099511627776) (hm:∀q∈co,nmB q.nm) (E:∀b∈L,b<base):U7 L w.heap vc co :=
 ⟨QW h.c G (λb hb H=>by have:=(Qm h.c b hb).1;have:=E b H;omega),λq hq=>⟨h.each q hq (q.p.va,q.p.a.al.length,1,q.p.a.al.map (.int .i64)) (by simp) L (λb hb=>.inl (E b hb)),h.each q hq (q.p.vm,q.p.a.mr.length,1,q.p.a.mr.map (.int .i64)) (by simp) L (λb hb=>.inl (E b hb)),h.each q hq (q.p.ve,q.p.a.ed.length,3,q.p.a.ed.flatMap Qz) (by simp) L (λb hb=>.inl (E b hb))⟩,hm⟩
end
theorem Xm (ns:LN):(bys ns).length=ns.length:=by rw[bys,Lo]
def grN (ns:LN) (o:Nat):LN:=(ns.drop o).take 27
theorem QhU {ns:LN}{o:Nat}(h:o+27≤ns.length):(grN ns o).length=27:=by unfold grN;simp;omega
theorem Qle {ns:LN}{o:Nat}(h:∀n∈ns,n<256):∀n∈grN ns o,n<256:=QkL h o 27
theorem QiP (ns:LN) (n:Nat):(bys ns).set 0 (.int .u8 (n:Int))=bys (ns.set 0 n):=by
 unfold bys;rw[Np]
theorem QjA {ns:LN}{n:Nat}(h:∀m∈ns,m<256) (E:n<256):∀m∈ns.set 0 n,m<256:=λm hm=>by
 rcases Nb hm with h1 | rfl
 ·exact h m h1
 exact E
theorem QgX {ns:LN}{n:Nat}(h:0<ns.length):(ns.set 0 n).getD 0 0=n:=by simp[List.getD,h]
structure GdA (a:QE):Prop where
 ok:QK a
 p:0<a.st
 s:a.st≤3
 c:∃a0:QE,QK a0∧0<a0.st∧a=YU a0
theorem Qcy {a:QE}(E:QK a) (h:0<a.st):0<(YU a).st:=by
 have H:=(Ui E).1;show 0<((found a).length:Int);have G:(0:Int)∈found a:=by
  have key:∀(f i:Nat) (out:LI),(0:Int)∈out→(0:Int)∈jR a f i out:=by
   intro f;induction f with
   | zero=>intro i out h;exact h
   | succ f ih =>
    intro i out h;rw[jR];split
    ·exact ih _ _ (QaL _ _ _ h)
    exact h
  refine key _ _ _ ?_;unfold fd0;rw[if_pos h];simp
 have:=List.length_pos_of_mem G;omega
theorem GdA.of {a E:QE}{n:Nat}(G:QK E) (h1:0<E.st) (h2:E.st≤((1+n % 5:Nat):Int)) (h3:a=YU E) (H:n<3):GdA a:=by
 have h4:=QaX G;subst h3;exact ⟨h4.1,Qcy G h1,by have:=h4.2.2;omega,E,G,h1,O⟩
end Go.Proofs.YtdffckgdcegpaaaGreatDoor
namespace Go.Lg
open Go.RowKit
section
variable {P:Program} {n:Nat} {f:Fr} {w:World} {all:List Oper} {C:World→Prop} {K:Fr→World→Prop}
end
section
variable {P:Program} {n:Nat} {f:Fr} {w:World} {all:List Oper} {C J:World→Prop} {K:Fr→World→Prop}
end
end Go.Lg
namespace Go.Proofs.YtdffckgdcegpaaaGreatDoor
open Go.Proofs.Tryz
open Go.Lg
instance ayZi1:Ay prog 29 3 28 27:=⟨by kernel_rfl,by kernel_rfl⟩
theorem Qes (p:Int×Int):∀u∈Za p,u.oneCell'=true:=by
 intro y hy;simp only[Za,List.mem_cons,List.not_mem_nil,or_false] at hy;rcases hy with rfl | rfl <;> rfl
instance ayAv1:Ay prog 23 5 5 1:=⟨underlying23,by kernel_rfl⟩
def nm1 (c k:Nat):ByteArray:=⟨#[UInt8.ofNat (c+k)]⟩
def Ks (k n:Nat):q9:=if 48≤n∧n<52 then ⟨nm1 97 k,false,false,false,(n:Int) - 47⟩ else
 ⟨nm1 97 k,decide (((n &&& 1:Nat):Int)=1),decide (((n &&& 2:Nat):Int)=2),decide (((n &&& 4:Nat):Int)=4),0⟩
def X2 (ns:LN) (i:Nat):List q9:=(List.range i).map λk=>Ks k (ns.getD k 0)
theorem Qdv (ns:LN) (i:Nat):X2 ns (i+1)=X2 ns i++[Ks i (ns.getD i 0)]:=by
 unfold X2;rw[List.range_succ,LA];rfl
theorem J8 (ns:LN) (i:Nat):(X2 ns i).length=i:=by unfold X2;simp
set_option maxHeartbeats 1000000 in
theorem QcP {w:World}{ns:LN}(hn:ns.length=5) (hb:∀n∈ns,n<256) :
  QM prog 51 [.agg (bys ns).toArray] w λr w'=>Step [] w w'∧w'.ownsRow w.heap.size 87 5 r (X2 ns 5).length ((X2 ns 5).flatMap ZQ):=by
 refine QM.of_W func51 O ntmps51 results51 (by simp) ?_;refine Qd<|xl O<|QS (us:=bys ns) O λb1 w1 hm hK ho=>Qf ?_;have ht:=hm.size;refine Qd<|Qf<|Qg<|Qd<|Qf<|Qh<|QC (α:=Nat×Value) [(3,53)] (λz=>[(3,z.2),(4,.int .i64 z.1)]) (λz w'=>z.1≤5∧Step [] w1 w'∧w'.ownsRow w1.heap.size 87 5 z.2 (X2 ns z.1).length ((X2 ns z.1).flatMap ZQ)) (λz=>5 - z.1) (by rfl) (0,Zr) ⟨O,O,La⟩
  ⟨Lm _,Step.refl _ _,QR _ _ _ _⟩ ?_
 rintro ⟨k,v⟩ g w2 ⟨hk,V,S⟩;simp only[] at hk S;refine Qg<|Qd<|Qb<|x (QD O O)<|xe<|QI rfl (λh7=>?_) (λh7=>?_)
 ·refine Qy ?_;have hu:k=5:=by have h8:¬(k:Int)<5:=h7;omega
  rw[hu] at S;refine Qd<|Qb<|Qf ?_;exact Qs ⟨[v],Lb,hm.trans V,QT S ht⟩
 have E:k<5:=by have h8:(k:Int)<5:=h7;omega
 have q:=U3 (ns:=ns) (j:=0+k*1) (by omega);have ql:=Jc hb (0+k*1);have hv:ns.getD (0+k*1) 0=ns.getD k 0:=by rw[show 0+k*1=k by omega]
 rw[hv] at q ql;have hp:=Qdv ns k;have hL:=J8 ns k;refine Zs (ns.getD k 0) λn hw=>?_;rw[hw] at q ql hp;have hy:=ho.ext V;refine Qj<|Qg<|Qh<|Qd<|Qb<|x (YA (k':=.u8) O ⟨by omega,by omega⟩)<|QN O O<|xl O<|QL (us:=[[.int .u8 ((97:Int)+(k:Int))]]) O O (by decide) (by simp) ⟨rfl,rfl,La⟩ λh0 w3 ha hM h1=>?_;have h2:((97:Int)+(k:Int))=((97+k:Nat):Int):=by omega
 have h3:QX w3.heap h0 5 [.int .u8 ((97+k:Nat):Int)]:=by rw[←h2];exact h1
 refine x (QlI (n:=97+k) h3 (by omega) O)<|x (QG Lb)<|xl O<|Qu (us:=[.string ⟨#[]⟩,.bool false,.bool false,.bool false,.int .i64 0]) O λG w4 h4 hN h5=>xl O<|Qq (us:=ZQ ⟨nm1 97 k,false,false,false,0⟩) h5 O O O O ⟨O,O,O,O,O,La⟩ λw5 h6 hq =>
  xe ?_
 have he:Step [] w2 w5:=(ha.trans h4).then1 h6 (by have:=ha.size;omega);have H:=hy.ext he;have hO:=he.size;have hP:=ha.size;have hQ:=ho.lt;have hR:=V.size;have hf:b1∉[G]:=by simp only[List.mem_singleton];omega
 refine Q0 (α:=Unit) [(16,49)] (λ_=>[]) (λ_ w'=>Step [G] w5 w'∧QX w'.heap G 87 (ZQ (Ks k n))) (by rfl) ?_ ?_
 ·refine Q0 (α:=Bool) [(16,25)] (λz=>[(25,.bool z)]) (λz w'=>w'=w5∧(z=true↔48≤n∧n<52)) (by rfl) ?_ ?_
  ·refine Qx<|Qb<|x (ZP (i:=k) O O E)<|x (Qc H O q)<|xb (Yg O O) (λhg=>?_) (λhg=>?_)
   ·have hr:(48:Int)≤(n:Int):=hg;refine Qb<|Qb<|x (ZP (i:=k) O O E)<|x (Qc H O q)<|x (QD O O)<|x (Qp O)<|xe<|⟨decide ((n:Int)<52),Lb,O,?_⟩;rw[decide_eq_true_eq];omega
   have hr:¬(48:Int)≤(n:Int):=hg;refine Qb<|xs O<|xs O<|xs O<|xs O<|x (Qp O)<|xe ?_;exact ⟨false,Lb,O,⟨λh=>(by cases h),λh=>absurd (by omega) hr⟩⟩
  rintro z g6 J ⟨rfl,hz⟩;refine Q8 O (λY=>?_) (λY=>?_)
  ·have hc:=hz.1 Y;refine Qx<|Qb<|x (ZP (i:=k) O O E)<|x (Qc H O q)<|x (YA (k':=.i64) O ⟨by omega,by omega⟩)<|x (JF O O ⟨by omega,by omega⟩)<|x (Qa O)<|xl O<|QH hq O O (by simp) rfl λw7 U hh =>
    xe ?_
   refine ⟨(),La,U,?_⟩;unfold Ks;rw[if_pos hc];exact hh
  have hc:¬(48≤n∧n<52):=λh=>by have:=hz.2 h;rw[this] at Y;cases Y
  have Z:Step [] J { J with drawn:=J.drawn+1 }:=Step.drew _ _
  refine QV (Step [G] J) [(0,true),(1,true),(2,true),(3,true),(4,true),(5,true),(6,true),(7,true),(8,true),(9,true),(10,true),(11,true),(12,true),(13,true),(14,true),(15,true),(16,false),(17,true),(18,false),(19,true),(20,false)] mixed (by rfl) (by kernel_rfl) (Step.drew _ _) ?_
  refine p (λ_=>Ql)<|p (λ_=>ZP (i:=k) O O E)<|pq (λ_ hc=>Qc (H.step hc hf) O q)<|p (λ_=>zx (a:=n) (b:=1) O O ql (by decide))<|p (λ_=>Zf O O) <|
   p (λ_=>Ql)<|p (λ_=>ZP (i:=k) O O E)<|pq (λ_ hc=>Qc (H.step hc hf) O q)<|p (λ_=>zx (a:=n) (b:=2) O O ql (by decide))<|p (λ_=>Zf O O) <|
   p (λ_=>Ql)<|p (λ_=>ZP (i:=k) O O E)<|pq (λ_ hc=>Qc (H.step hc hf) O q)<|p (λ_=>zx (a:=n) (b:=4) O O ql (by decide))<|p (λ_=>Zf O O)<|?_
  refine p (λ_=>Qa O)<|pk<|QH (hq.ext Z) O O (by simp) rfl λw7 U hh=>⟨(Z.any (L:=[G])).trans' U,?_⟩;refine p (λ_=>Qa O)<|pk<|QH hh O O (by simp) rfl λw8 hs h9=>⟨((Z.any (L:=[G])).trans' U).trans' hs,?_⟩;refine p (λ_=>Qa O)<|pkl (hl:=by kernel_rfl)<|QH h9 O O (by simp) rfl λw9 hA hB=>pe ?_;refine ⟨(),La,(((Z.any (L:=[G])).trans' U).trans' hs).trans' hA,?_⟩
  unfold Ks;rw[if_neg hc];exact hB
 rintro _ g6 J ⟨hC,hD⟩;have hE:Step [] w2 J:=he.then1 hC (by omega);refine Qx<|Qb<|x (Qo hD O O)<|xl O<|QL (us:=[ZQ (Ks k n)]) O O (by decide) (show 1*5≤1000000 by omega) ⟨O,O,La⟩ λhS hT hF hU hG=>?_;have hj:=hE.trans hF;have hV:=hj.size
 refine xl rfl<|QZ (news:=ZQ (Ks k n)) (L:=[]) (Qt S hj) O O O (hG.at (by simp)) (Qie _) (by omega) (by omega) λhH hW hI hJ hX =>
  Qf<|Qx<|Qb<|QN O O<|Qf<|⟨(k+1,hH),by simp only[];omega,⟨O,O,La⟩,E,(V.trans hj).then hJ (λc hc=>.inr (Qm S c hc).1),?_⟩
 simp only[];rw[hp,Lk,LL];simpa using hI
theorem Qg7 {P:Program}{f:Fr}{w:World}{d:Option Nat}{ty:Nat}{ps:String}{af:Array Edge}{gd:Option (Nat×Bool)}{x y:Operand}{t m e:Nat}[h:Ay P t m e 1] [h1:Jk P e] {cs:LV}{k:IntKind}{i:Nat}{u:Value}(hx:ev f x=.agg cs.toArray) (hy:ev f y=.int k i) (hi:i<m) (hu:cs[i]?=some u) :
  (execOp (ev f) ⟨d,.index t x y,ty,ps,af,gd⟩).run P w=.ok (.value u) w:=by
 have E:=zn (P:=P) (w:=w) (t:=e);have G:=jI (P:=P) (w:=w) (t:=e);simp[execOp,hx,hy,Instr.index,asIntOf,run_underlying h.u,E,part,G,hu];intro h2;omega
theorem Qi5 {w:World}{b E n:Nat}{l:LI}{s:Int}(G:QX w.heap b 283 [.slice (some ⟨E,0,none⟩) n n]) (H:QX w.heap E 4 ((flg n l).map Value.bool)) (J:0≤s) (h1:s<(n:Int)) :
  QM prog 189 [.int .i64 s,.pointer (some ⟨b,0,none⟩)] w λr w'=>r=.bool (decide (s∈l))∧Step [] w w':=by
 refine QM.of_W func189 O ntmps189 results189 (by simp) ?_;have S:s=(s.toNat:Int):=by omega
 refine Qd<|Qf<|Qd<|x (Qc G O O)<|Qb<|x (QP (i:=s.toNat) O (congrArg (Value.int .i64) S) (by omega))<|x (Qc H O (QaJ J h1))<|Qf ?_;exact Qs ⟨[_],Lb,O,Step.refl _ _⟩
theorem Qi4 {w:World}{b G n:Nat}{l:LI}{e:Ed}(H:QX w.heap b 283 [.slice (some ⟨G,0,none⟩) n n]) (J:QX w.heap G 4 ((flg n l).map Value.bool)) (S:0≤e.2.2) (h1:e.2.2<(n:Int)) :
  QM prog 190 [.agg (Qz e).toArray,.pointer (some ⟨b,0,none⟩)] w λr w'=>r=.bool (decide (e.2.2∈l))∧Step [] w w':=by
 refine QM.of_W func190 O ntmps190 results190 (by simp) ?_;have U:e.2.2=(e.2.2.toNat:Int):=by omega
 refine Qd<|xl O<|QS (us:=Qz e) O λb2 Y E Z V=>Qf<|Qd<|x (Qc (H.ext E) O O)<|x (Qa O)<|x (Qc V O O)<|x (QP (i:=e.2.2.toNat) O (congrArg (Value.int .i64) U) (by omega))<|x (Qc (J.ext E) O (QaJ S h1))<|Qf ?_;exact Qs ⟨[_],Lb,O,E⟩
instance ayJk1:Ay prog 294 2 37 1:=⟨by kernel_rfl,by kernel_rfl⟩
def ptR (a:QE) (n from0:Nat) (tg wi:LI):LI×Bool:=pth (λs=>decide (s∈tg)) (λe=>decide (e.2.2∈wi)) a.ed n from0
def phP (N n:Nat) (tg wi:LI) (i:Nat) (v:Value) (w:World):Prop :=
 if i=2 then ∃b,v=.slice (some ⟨b,0,none⟩) n n∧N≤b∧QX w.heap b 4 ((flg n wi).map Value.bool)
 else if i=5 then ∃b,v=.slice (some ⟨b,0,none⟩) n n∧N≤b∧QX w.heap b 4 ((flg n tg).map Value.bool)
 else ∃b,v=.pointer (some ⟨b,0,none⟩)∧N≤b∧QX w.heap b 283 [nS]
theorem QjE {N n:Nat}{tg wi:LI}(i:Nat) (v:Value) (w w':World) (h:phP N n tg wi i v w) (hs:Step [] w w'):phP N n tg wi i v w':=by
 unfold phP at *;split
 ·rename_i e;rw[if_pos e] at h;obtain ⟨b,h1,h2,h3⟩:=h;exact ⟨b,h1,h2,h3.ext hs⟩
 rename_i e;rw[if_neg e] at h;split
 ·rename_i e2;rw[if_pos e2] at h;obtain ⟨b,h1,h2,h3⟩:=h;exact ⟨b,h1,h2,h3.ext hs⟩
 rename_i e2;rw[if_neg e2] at h;obtain ⟨b,h1,h2,h3⟩:=h;exact ⟨b,h1,h2,h3.ext hs⟩
structure PhZ where
 bi:Nat
 bt:Nat
 b15:Nat
 b16:Nat
theorem QkZ {w:World}{va vm ve vt vi:Value}{a:QE}{n from0:Nat}{tg wi:LI}(h:Zi [] w.heap va vm ve a) (h5:XW a=0) (hn:a.st=(n:Int)) (hf:from0<n) (ht:QO [] w.heap vt tg) (hi:QO [] w.heap vi wi)
  (h6:Kt a.st none tg=0) (h7:Kt a.st none wi=0) (hM:(from0:Int)∈wi) :
  QM prog 119 [.agg #[va,.int .i64 a.st,vm,ve],.int .i64 from0,vt,vi] w λr w'=>Step [] w w'∧∃v,r=.tuple #[v,.bool (ptR a n from0 tg wi).2,.int .i64 0]∧Qn 3 w.heap.size w' v (ptR a n from0 tg wi).1:=by
 have H:=(Zp a).1 h5;have hy:=H.st1;refine QM.of_W func119 O ntmps119 results119 (by simp) ?_;refine Qd<|xl O<|QS (us:=[va,.int .i64 a.st,vm,ve]) O λb4 w1 h8 hZ h9=>x Qe<|x Qe<|Qf<|Qg<|Qd<|x (Qo h9 O O)<|xl O<|xf<|(Xk (h.ext h8)).mono ?_;rintro r2 w2 ⟨rfl,hA⟩;refine Qf<|Qd<|Qb<|x (Zj O O)<|xe<|Zc rfl (λhC=>absurd h5 hC) (λhC=>?_);refine Qj ?_;have hD:=h8.trans hA
 have hz:=h9.ext hA;have hN:¬(from0:Int)≥a.st:=by omega
 refine Qg<|Qd<|Qb<|xb (QD O O) (λhE=>absurd hE (by omega)) (λhE=>?_);refine Qb<|Qb<|x (Qa O)<|x (Qc hz O O)<|x (Yg O O)<|x (Qp O)<|xe<|Zc rfl (λhF=>absurd hF hN) (λhF=>?_);refine Qj<|Qg<|Qd<|Qb<|Qb<|x (QG ⟨ht.cells,hi.cells,La⟩)<|Qb<|xe ?_
 refine Qh<|QC (α:=Nat) [(8,10),(13,14),(33,42)] (λz=>[(33,.int .i64 z)]) (λz w'=>z≤2∧Step [] w2 w') (λz=>2 - z) (by rfl) 0 Lb ⟨by omega,Step.refl _ _⟩ ?_;rintro k g Y ⟨hk,Z⟩;refine Qd<|x (QD O O)<|xe<|Qg<|QI O (λhG=>?_) (λhG=>?_)
 ·refine Qy ?_;have ha:=hD.trans Z;have hH:=h.ext ha;have ga:=ha.size;have h3:=hz.ext Z;have hO:=((YZ a.st tg none).1 h6).1;have hP:=((YZ a.st wi none).1 h7).1;refine Qg<|QkX (α:=PhZ) (Step [] Y) [(0,true),(1,true),(3,true),(4,true)] [2,5,6,7] [(8,false),(9,false)] [(15,16),(45,45),(48,48)] (phP Y.heap.size n tg wi)
   (λz=>[(45,.slice (some ⟨z.bi,0,none⟩) n n),(48,.slice (some ⟨z.bt,0,none⟩) n n),(15,.pointer (some ⟨z.b15,0,none⟩)),(16,.pointer (some ⟨z.b16,0,none⟩))])
   (λz w'=>QX w'.heap z.bi 4 ((flg n wi).map Value.bool)∧QX w'.heap z.bt 4 ((flg n tg).map Value.bool)∧QX w'.heap z.b15 283 [nS]∧QX w'.heap z.b16 283 [nS]∧(z.b15≠z.b16∧z.bi≠z.b15∧z.bi≠z.b16∧z.bt≠z.b15∧z.bt≠z.b16)∧Y.heap.size≤z.b15∧Y.heap.size≤z.b16)
   mixed (by rfl) (by kernel_rfl) (Step.drew _ _) (λ_ _ h1 h2=>h1.trans h2) QjE ?_ ?_
  ·rintro g w' ⟨⟨bi,e1,_,hp⟩,⟨bt,e2,_,hq⟩,⟨b15,e3,S,hr⟩,⟨b16,e4,hg,hs⟩,_⟩ hh;refine ⟨⟨bi,bt,b15,b16⟩,⟨e1,e2,e3,e4,La⟩,hp,hq,hr,hs,?_,S,hg⟩;have d1:=hh 6 (by simp) 7 (by simp) (by decide);have d2:=hh 2 (by simp) 6 (by simp) (by decide);have d3:=hh 2 (by simp) 7 (by simp) (by decide);have d4:=hh 5 (by simp) 6 (by simp) (by decide)
   have d5:=hh 5 (by simp) 7 (by simp) (by decide);rw[e3,e4] at d1;rw[e1,e3] at d2;rw[e1,e4] at d3;rw[e2,e3] at d4;rw[e2,e4] at d5;simp only[ow,List.mem_singleton,forall_eq] at d1 d2 d3 d4 d5;exact ⟨d1,d2,d3,d4,d5⟩
  refine pq (λ_ hc=>Qo (h3.ext hc) O O)<|p (λ_=>Ql)<|pq (λ_ hc=>Qo (h3.ext hc) O O)<|p (λ_=>Ql)<|pe ⟨⟨?_,?_,?_,?_,La⟩,?_⟩
  ·intro g w' hc;refine xf<|(Qb4 ((hi.ext ha).ext hc) hn hy hP).mono ?_;rintro r5 w5 ⟨G,b,rfl,hb,E⟩;exact ⟨G,⟨b,O,L5 hc.size hb,E⟩,λc J=>by rw[Lc.1 (show c∈[b] from J)];exact ⟨hb,E.lt⟩⟩
  ·intro g w' hc;refine xf<|(Qb4 ((ht.ext ha).ext hc) hn hy hO).mono ?_;rintro r5 w5 ⟨G,b,rfl,hb,E⟩;exact ⟨G,⟨b,O,L5 hc.size hb,E⟩,λc J=>by rw[Lc.1 (show c∈[b] from J)];exact ⟨hb,E.lt⟩⟩
  ·intro g w' hc;exact Qu (us:=[nS]) O λb w5 G hb E=>⟨G,⟨b,O,L5 hc.size hb,E⟩,λc J=>by rw[Lc.1 (show c∈[b] from J)];exact ⟨hb,E.lt⟩⟩
  ·intro g w' hc;exact Qu (us:=[nS]) O λb w5 G hb E=>⟨G,⟨b,O,L5 hc.size hb,E⟩,λc J=>by rw[Lc.1 (show c∈[b] from J)];exact ⟨hb,E.lt⟩⟩
  rintro ⟨bi,bt,b15,b16⟩ g w5 h4 ⟨hp,hq,hr,hs,hQ,S,hg⟩;simp only[] at hp hq hr hs hQ S hg;refine pk<|QH (u:=.slice (some ⟨bi,0,none⟩) n n) hr O O (by simp) rfl λw6 U hR=>⟨h4.then1 U S,?_⟩;refine pk<|QH (u:=.slice (some ⟨bt,0,none⟩) n n) (hs.step U (by simp;omega)) O O (by simp) rfl λw7 hj hS=>⟨(h4.then1 U S).then1 hj hg,pe ?_⟩
  have hw:Step [] Y w7:=(h4.then1 U S).then1 hj hg;have hI:=hR.step hj (by simp;omega);have hJ:=(hp.step U (by simp;omega)).step hj (by simp;omega);have hT:=(hq.step U (by simp;omega)).step hj (by simp;omega);have gc:=hw.size;have hU:((flg n wi).map Value.bool)[0+from0*1]?=some (.bool true):=by
   have e1:=QaJ (n:=n) (l:=wi) (x:=(from0:Int)) (by omega) (by omega);rw[decide_eq_true hM] at e1;exact e1
  refine Qg<|Qd<|x (Qc hI O O)<|Qb<|x (QP (i:=from0) O O hf)<|x (Qc hJ O hU)<|x (Zh O)<|xe<|ZW O<|Qj<|Qd<|x (Qo (h3.ext hw) O O)<|xl O<|xf<|(qh (hH.ext hw) hn hy (λe he=>⟨(H.ed e he).1,(H.ed e he).2.1⟩)).mono ?_;rintro r8 w8 ⟨V,bF,rfl,ge,hV⟩;have hK:=hw.trans V;have gg:=V.size;refine Qb<|x (ZF (l:=[]) (l':=[_]))<|x (ZF (l:=[]) (l':=[_]))<|xl O<|xf <|
   (QjF (wt:=λs=>decide (s∈tg)) (pm:=λe=>decide (e.2.2∈wi)) (cw:=[.pointer (some ⟨b16,0,none⟩)]) (cp:=[.pointer (some ⟨b15,0,none⟩)]) (gw:=189) (gp:=190) (hH.ext hK) hn (by omega) (λe he=>by have:=(H.ed e he).2.2.2;omega) H.eds hV hf
    (λs w' h0 h1 hm=>Qi5 ((hS.ext V).ext hm) ((hT.ext V).ext hm) h0 h1) (λe w' he hm=>Qi4 ((hI.ext V).ext hm) ((hJ.ext V).ext hm) (by have:=(H.ed e he).2.2.2;omega) (by have:=(H.ed e he).2.2.2;omega))).mono ?_
  rintro r9 w9 ⟨hW,v,rfl,hv⟩;refine Qb<|x (Qk O O)<|x (Qk O O)<|x Qe<|Qf<|Qd<|Qb<|Qb<|x Qe<|x Qe<|Qf ?_;exact Qs ⟨[_,_,_],⟨O,O,O,La⟩,ha.trans (hK.trans hW),v,O,QT hv (by omega)⟩
 refine Qj ?_;have hX:k<2:=by have gh:(k:Int)<2:=hG;omega
 have hY:∃u l,[vt,vi][k]?=some u∧QO [] w.heap u l∧Kt a.st none l=0:=by
  rcases k with _ | k
  ·exact ⟨vt,tg,O,ht,h6⟩
  have:k=0:=by omega
  subst this;exact ⟨vi,wi,O,hi,h7⟩
 refine Exists.elim hY λu hu=>Exists.elim hu λl hl=>?_;refine Qg<|Qh<|Qd<|x (Qg7 (i:=k) (cs:=[vt,vi]) O O hX hl.1)<|Qf<|Qd<|x (Qo (hz.ext Z) O O)<|Qb<|xl O<|xf<|(yC (va:=va) (vm:=vm) (ve:=ve) (a:=a) ((hl.2.1.ext hD).ext Z)).mono ?_;rintro r5 w5 ⟨rfl,G⟩;refine Qf<|Qd<|Qb<|x (Zj O O)<|xe<|Zc rfl (λhL=>absurd hl.2.2 hL) (λhL=>?_);refine Qj<|Qx<|QN O O<|Qb<|xe ?_
 exact ⟨k+1,by omega,Lb,by omega,Z.trans G⟩
theorem QfJ {p s:QE}(h:Xf p s=0):XW p=0∧XW s=0∧mrg (λp q=>p && !q) s.al p.al=[]∧opC p s=0:=by
 have hc:opC p s=0:=by
  unfold Xf at h;split at h
  ·rename_i h1;exact absurd h h1
  rename_i h1;exact Lt.1 h1
 obtain ⟨h1,h2⟩:=zB hc;have E:=(Zp p).2 h1;have G:=(Zp s).2 h2;refine ⟨E,G,?_,hc⟩;unfold opC at hc;rw[if_neg (by simp[E]),if_neg (by simp[G])] at hc;split at hc
 ·assumption
 cases hc
abbrev unL (aP:QE) (ul:LI):LI:=mrg (λp q=>p && q) ul aP.al
structure CPr (H:Array Obj) (b:Nat) (aP aS:QE) (ul:LI) (m1 m2:Nat) (sal vu qa qm qe vt:Value) (qs:List TV):Prop where
 B:QX H b 290 [.map (some m1),.map (some m2),sal,vu,qa,.int .i64 (Xa aP aS).st,qm,qe,vt]
 M1:ZE Zy H m1 (YW [] aP.ed)
 M2:ZE Zy H m2 (YW [] aS.ed)
 al:QO [] H sal aS.al
 un:QO [] H vu (unL aP ul)
 A:Zi [] H qa qm qe (Xa aP aS)
 T:XB [] H vt qs
 q:qs.map (·.2)=Zu aP aS
theorem CPr.ext {w w':World}{b:Nat}{aP aS:QE}{ul:LI}{m1 E:Nat}{sal vu qa qm qe vt:Value}{qs:List TV}(h:CPr w.heap b aP aS ul m1 E sal vu qa qm qe vt qs) (hs:Step [] w w'):CPr w'.heap b aP aS ul m1 E sal vu qa qm qe vt qs :=
 ⟨h.B.ext hs,h.M1.ext hs,h.M2.ext hs,h.al.ext hs,h.un.ext hs,h.A.ext hs,h.T.ext hs,h.q⟩
def CPx (H:Array Obj) (b:Nat) (aP aS:QE) (ul:LI):Prop:=∃m1 m2 sal vu qa qm qe vt qs,CPr H b aP aS ul m1 m2 sal vu qa qm qe vt qs
instance:Bw prog 290 [.map none,.map none,nS,nS,nS,.int .i64 0,nS,nS,nS] [(0,1),(1,1),(2,1),(3,1),(4,4),(8,1)]:=⟨by kernel_rfl,by decide⟩
theorem Qf7 {w:World}{pva pvm pve sa sm se vl:Value}{aP aS:QE}{ul:LI}(hp:Zi [] w.heap pva pvm pve aP) (hs:Zi [] w.heap sa sm se aS) (hu:QO [] w.heap vl ul) (hE:Xf aP aS=0) (ho:Kt 32 none ul=0) {km:Int}(hQ:Kb w km) (hS:0<km) (hr:aP.st≤km∧aS.st≤km) :
  QM prog 179 [.agg #[pva,.int .i64 aP.st,pvm,pve],.agg #[sa,.int .i64 aS.st,sm,se],vl] w λr w'=>Step [] w w'∧∃b,r=.tuple #[.pointer (some ⟨b,0,none⟩),.int .i64 0]∧w.heap.size≤b∧CPx w'.heap b aP aS ul:=by
 obtain ⟨c1,c2,hT,hV⟩:=QfJ hE;have o1:=(Zp aP).1 c1;have o2:=(Zp aS).1 c2;have g9:=o1.al_le;have ka:=o2.al_le;have kb:ul.length≤32:=by
  have h1:=(YZ 32 ul none).1 ho;have:=Jq ul 0 32 h1.2.1 h1.1;omega
 refine QM.of_W func179 O ntmps179 results179 (by simp) ?_;refine Qd<|xl O<|QS (us:=[pva,.int .i64 aP.st,pvm,pve]) O λb3 w1 hW kc hX=>xl O<|QS (us:=[sa,.int .i64 aS.st,sm,se]) O λb4 w2 ht ke hv=>x Qe<|Qf ?_;obtain ⟨ps,he⟩:=exD ([⟨pva,pvm,pve,aP⟩,⟨sa,sm,se,aS⟩]:List AV);have hf:=hW.trans ht;have hw:=hX.ext ht
 refine Qg<|Qd<|x (Qo hw O O)<|x (Qo hv O O)<|xl O<|QL (us:=[Zg ⟨pva,pvm,pve,aP⟩,Zg ⟨sa,sm,se,aS⟩]) O O (by decide) (by exact (by decide:2*4≤1000000)) ⟨O,O,O,O,La⟩ λhy w4 hg kf hY=>?_;have hz:Zz [] w4.heap (.slice (some ⟨hy,0,none⟩) 2 2) 2 4 (ps.flatMap Zg):=by rw[←he];exact hY.arr (by simp) rfl (by omega) (by omega)
 have hZ:ps.length=2:=by rw[←he];rfl
 have ga:Zz [] w4.heap (.slice (some ⟨hy,0,none⟩) 2 2) ps.length 4 (ps.flatMap Zg):=by rw[hZ];exact hz
 have gc:=hf.trans hg;have ge:∀p∈ps,Zi [] w.heap p.va p.vm p.ve p.a∧XW p.a=0:=by
  rw[←he];intro p h0;simp at h0;rcases h0 with rfl | rfl
  ·exact ⟨hp,c1⟩
  exact ⟨hs,c2⟩
 refine x (Qw hz O)<|Qb<|xe<|Qh<|QC (α:=Nat) [(6,7),(9,10),(19,28)] (λz=>[(19,.int .i64 z)]) (λz w'=>z≤2∧Step [] w4 w') (λz=>2 - z) (by rfl) 0 Lb ⟨Lm _,Step.refl _ _⟩ ?_;rintro k g w5 ⟨hk,U⟩;have V:=gc.trans U;have h2:=(hw.ext hg).ext U;have h3:=(hv.ext hg).ext U;refine Qd<|x (QD O O)<|xe<|Qg<|QI O (λh4=>?_) (λh4=>?_)
 ·refine Qy<|Qg<|Qd<|Qb<|xl O<|xf<|(qy (hu.ext V) 32).mono ?_;rintro r6 w6 ⟨rfl,rfl⟩;refine Qf<|Qd<|Qb<|x (Zj O O)<|xe<|Zc O (λh5=>absurd ho h5) (λh5=>?_);refine Qj<|Qg<|Qd<|x (Qa O)<|x (Qc h3 O O)<|x (Qa O)<|x (Qc h2 O O)<|xl O<|xf<|(U5 (hs.al.ext V) (hp.al.ext V) (by omega)).mono ?_;rintro r7 w7 ⟨hh,rfl⟩;refine x (Zh O)<|xe ?_
  refine Q8 O (λh6=>by simp[hT] at h6) (λh6=>?_);refine Qj ?_;have h7:=h2.ext hh;have h8:=h3.ext hh;refine Qd<|x (Qo h7 O O)<|x (Qo h8 O O)<|xl O<|QL (us:=[Zg ⟨pva,pvm,pve,aP⟩,Zg ⟨sa,sm,se,aS⟩]) O O (by decide) (by exact (by decide:2*4≤1000000)) ⟨O,O,O,O,La⟩ λgg w8 h9 kg gh=>?_;have Y:=(V.trans hh).trans h9
  have gi:JA [] w8.heap (.slice (some ⟨gg,0,none⟩) 2 2) [⟨pva,pvm,pve,aP⟩,⟨sa,sm,se,aS⟩]:=by
   refine ⟨gh.arr (by simp) rfl (by simp) (by simp),λq hq=>?_⟩;simp at hq;rcases hq with rfl | rfl
   ·exact hp.ext Y
   exact hs.ext Y
  refine xl O<|xf<|(Ux gi (hQ.ext Y) hS (by intro q hq;simp at hq;rcases hq with rfl | rfl;exact hr.1;exact hr.2)).mono ?_
  rintro r9 w9 ⟨hB,va,vt,c,rfl,hR⟩;obtain ⟨hc,hO⟩:=qw.of hV hR;rw[hE] at hc;subst hc;obtain ⟨qa,qm,qe,gj,gk⟩:=(hO.good hE).1;obtain ⟨qs,gl,gm⟩:=(hO.good hE).2;subst gj;have Z:=gk [] (by simp);have hC:=gm [] (by simp)
  refine Qb<|x (Qk O O)<|x (Qk O O)<|x (Qk O O)<|xl O<|Qu (us:=[nS,.int .i64 0,nS,nS]) O λkh ki gn gq gr=>xl O<|Qq (us:=[qa,.int .i64 (Xa aP aS).st,qm,qe]) gr O O O O ⟨Z.al.one,O,Z.mr.one,Z.ed.one,La⟩ λJ hj gs=>x Qe<|Qf ?_;have ha:Step [] w9 J:=gn.then1 hj gq;have hD:=(h9.trans hB).trans ha;have G:=(Y.trans hB).trans ha
  refine Qg<|Qd<|Qb<|x (Zj O O)<|xe<|Zc O (λhF=>absurd O hF) (λhF=>?_);refine Qj ?_;have hG:=h7.ext hD;have hH:=h8.ext hD;have hI:Step [] J { J with drawn:=J.drawn+1 }:=Step.drew _ _
  have gt:=Z.ext ha;have gu:=hC.ext ha;refine Qg<|QV (Step [] J) [(0,true),(2,true),(4,true),(5,true),(6,true),(7,true),(8,true),(10,true),(11,true),(1,false),(3,false),(9,false),(12,true),(13,false),(14,true),(15,true)] mixed (by rfl) (by kernel_rfl) (Step.drew _ _) ?_
  refine pq (λ_ hc=>Qo (hG.ext hc) O O)<|pq (λ_ hc=>Qo (hH.ext hc) O O)<|p (λ_=>Qa O)<|pq (λ_ hc=>Qc (hH.ext hc) O O)<|p (λ_=>Ql)<|p (λ_=>Qa O)<|pq (λ_ hc=>Qc (hG.ext hc) O O) <|
   pq (λ_ hc=>Qo (gs.ext hc) O O)<|p (λ_=>Ql)<|pk<|xf<|(jT ((hp.ed.ext G).ext hI)).mono ?_
  rintro kj hJ ⟨gv,m1,rfl,kk,gx⟩;have hl:=hI.trans gv;refine ⟨hl,?_⟩;refine pk<|xf<|(jT ((hs.ed.ext G).ext hl)).mono ?_;rintro gy gz ⟨hK,m2,rfl,kn,g0⟩;have hb:=hl.trans hK;refine ⟨hb,?_⟩;refine pk<|xf<|(Je ((hu.ext G).ext hb) ((hp.al.ext G).ext hb) (by omega)).mono ?_;rintro vu g1 ⟨hm,hU⟩;have H:=hb.trans hm;refine ⟨H,?_⟩
  have ko:(unL aP ul).length≤ul.length+aP.al.length:=X9 (λp q=>p && q) ul aP.al;have hL:QO [] g1.heap vu (unL aP ul):=QW hU (by omega) (by simp);refine p (λ_=>Yv [(0,[.map (some m1)]),(1,[.map (some m2)]),(2,[sa]),(3,[vu]),(4,[qa,.int .i64 (Xa aP aS).st,qm,qe]),(5,[vt])] ⟨O,O,O,O,hs.al.cells,O,hL.cells,O,O,O,hC.arr.cells,O,La⟩) <|
   pk<|QS (us:=[.map (some m1),.map (some m2),sa,vu,qa,.int .i64 (Xa aP aS).st,qm,qe,vt]) O λg2 kq E kr g3=>⟨H.trans E,?_⟩
  refine p (λ_=>Qe)<|p (λ_=>Qe)<|pe ?_;have kt:=G.size;have ku:=H.size;refine Qs ⟨[_,_],⟨O,O,La⟩,G.trans (H.trans E),g2,O,by omega,m1,m2,sa,vu,qa,qm,qe,vt,qs,g3,((gx.ext hK).ext hm).ext E,(g0.ext hm).ext E,hs.al.ext (G.trans (H.trans E)),hL.ext E,gt.ext (H.trans E),gu.ext (H.trans E),gl⟩
 have hn:k<ps.length:=by have kv:(k:Int)<2:=h4;omega
 have S:=ge _ (Lj hn);obtain ⟨q,hq⟩:=exD (ps[k]'hn);rw[hq] at S;have g4:=ga.ext U;refine Qj<|Qg<|Qh<|Qd<|xig K5 g4 O O hn λkw hM=>?_;rw[hq] at hM;refine x (QQ hM O O)<|xl O<|Qu (us:=[nS,.int .i64 0,nS,nS]) O λb8 J hj g5 g6=>xl O<|Qq (us:=Zg q) g6 O O O O ⟨S.1.al.one,O,S.1.mr.one,S.1.ed.one,La⟩ λhJ hf g7 =>
  xe ?_
 have hN:Step [] w5 hJ:=hj.then1 hf g5;refine Qd<|x (Qo g7 O O)<|xl O<|xf<|(Xk ((S.1.ext V).ext hN)).mono ?_;rintro gy gz ⟨rfl,g8⟩;refine Qf<|Qd<|Qb<|x (Zj O O)<|xe<|Zc rfl (λhP=>absurd S.2 hP) (λhP=>?_);refine Qj<|Qx<|QN O O<|Qb<|xe ?_;exact ⟨k+1,by omega,Lb,by omega,(U.trans hN).trans g8⟩
theorem Qem {P:Program}{f:Fr}{w:World}{d:Option Nat}{ty:Nat}{ps:String}{af:Array Edge}{gd:Option (Nat×Bool)}{t kt et:Nat}[hm:Mp P t kt et (.int .i64 0)] [hk:Key P kt Zy] {x y:Operand}{b:Nat}{s:QE}{q v:Int}(h:ZE Zy w.heap b (YW [] s.ed))
  (hs:s.ed.Pairwise λx y=>x.1<y.1∨(x.1=y.1∧x.2.1<y.2.1)) (hx:ev f x=.map (some b)) (hy:ev f y=Zy (q,v)) :
  (execOp (ev f) ⟨d,.lookup t x y true,ty,ps,af,gd⟩).run P w=.ok (.value (.tuple #[.int .i64 ((eget s.ed q v).getD 0),.bool (decide ((eget s.ed q v).isSome=true))])) w:=by
 rw[KR h hx hy,Xz s.ed [] q v hs];cases eget s.ed q v <;> rfl
def rfu (aP aS:QE) (t:LI) (u:Int):Bool:=(eget aP.ed (t.getD 0 0) u).isSome && (!(eget aS.ed (t.getD 1 0) u).isSome && decide (u∈aS.al))
def rfs (aP aS:QE) (us:LI) (t:LI):Int:=(us.find? (rfu aP aS t)).getD (-1)
theorem QgZ (aP aS:QE) (u:Int) (us t:LI):rfs aP aS (u::us) t=if rfu aP aS t u=true then u else rfs aP aS us t:=by
 unfold rfs;rw[List.find?_cons];cases rfu aP aS t u <;> rfl
theorem Qm5 {qs:List TV}{k:Nat}(hk:k<qs.length) {l:List (LI)}(h:qs.map (·.2)=l):(qs[k]'hk).2=l.getD k []:=by
 rw[←h];simp[List.getD,hk]
theorem Qc6 {w:World}{b:Nat}{aP aS:QE}{ul:LI}{m1 m2:Nat}{sal vu qa qm qe vt:Value}{qs:List TV}(h:CPr w.heap b aP aS ul m1 m2 sal vu qa qm qe vt qs) (o1:QK aP) (o2:QK aS) {k:Nat}(hk:k<qs.length) (hv:Vt [aP,aS] (qs[k]'hk).2) :
  QM prog 180 [.pointer (some ⟨b,0,none⟩),.int .i64 k] w λr w'=>r=.int .i64 (rfs aP aS (unL aP ul) (qs[k]'hk).2)∧Step [] w w':=by
 have hy:=h.un.le;have hz:=h.T.arr.le;have hf:=h.T.each _ (Lj hk);have V:(qs[k]'hk).2.length=2:=hv.1;obtain ⟨q,hq⟩:=exD (qs[k]'hk);rw[hq] at hf V ⊢;refine QM.of_W func180 O ntmps180 results180 (by simp) ?_;refine Qd<|Qf<|Qg<|Qd<|Qb<|x (Qr O)<|x (Qa O)<|x (Qc h.B O O)<|x (Qw h.un O)<|Qb<|xe ?_
 refine Qh<|QC (α:=Nat) [(4,4),(6,10),(16,72)] (λz=>[(16,.int .i64 z)]) (λz w'=>z≤(unL aP ul).length∧Step [] w w'∧rfs aP aS ((unL aP ul).drop z) q.2=rfs aP aS (unL aP ul) q.2) (λz=>(unL aP ul).length - z) (by rfl) 0 Lb ⟨Lm _,Step.refl _ _,O⟩ ?_;rintro i g E ⟨hi,H,G⟩;refine Qd<|x (QD O O)<|xe<|Qg<|QI O (λY=>?_) (λY=>?_)
 ·refine Qy ?_;have ho:(unL aP ul).length≤i:=by have J:¬(i:Int)<((unL aP ul).length:Int):=Y;omega
  rw[Lr ho] at G;refine Qd<|Qf ?_;exact Qs ⟨[.int .i64 (-1)],Lb,by rw[←G];rfl,H⟩
 refine Qj ?_;have S:i<(unL aP ul).length:=by have J:(i:Int)<((unL aP ul).length:Int):=Y;omega
 have hp:=Q9 S;rw[hp,QgZ] at G;refine Zs ((unL aP ul)[i]'S) λu hu=>?_;rw[hu] at G;have h1:=h.ext H;have hg:=hf.ext H;have hs:q.2[0]'(by omega)=q.2.getD 0 0:=by simp[List.getD,V]
 have ht:q.2[1]'(by omega)=q.2.getD 1 0:=by simp[List.getD,V]
 refine Qg<|Qh<|Qd<|xii (i:=i) h1.un O O S λh0 J=>?_;rw[hu] at J;refine x (Qv J O)<|Qf<|Qg<|QV (Step [] E) [(0,true),(1,true),(2,true),(3,true),(4,true),(5,true),(6,true),(7,true),(8,true),(9,true),(10,true),(11,true),(12,true),(13,true),(14,true),(15,true),(16,true),(17,true),(18,true),(19,true),(20,true)] mixed (by rfl) (by kernel_rfl) (Step.drew _ _) ?_
 refine p (λ_=>Ql)<|p (λ_=>Qr O)<|p (λ_=>Qa O)<|pq (λ_ hc=>Qc (h1.B.ext hc) O O)<|p (λ_=>Ql)<|p (λ_=>Qr O) <|
  p (λ_=>Qa O)<|pq (λ_ hc=>Qc (h1.B.ext hc) O O)<|p (λ_=>Ql)<|Lg.pig (i:=k) (g:=Yo) O (λ_=>O) h1.T.arr O O hk λh4 hh=>?_
 rw[hq] at hh;refine pq (λ_ hc=>Qv (hh.ext hc) O)<|pii (i:=0) O hg O O (by omega) λh5 hj=>?_;rw[hs] at hj;refine pq (λ_ hc=>Qv (hj.ext hc) O)<|p (λ_=>Ql)<|p (λ_=>QG ⟨O,O,La⟩)<|pq (λ_ hc=>Qem (q:=q.2.getD 0 0) (v:=u) (h1.M1.ext hc) o1.edi O O)<|p (λ_=>Ql)<|p (λ_=>Qk O O)<|p (λ_=>Qk O O)<|p (λ_=>Qe) <|
  p (λ_=>Qe)<|pe ?_
 have Z:Step [] E { E with drawn:=E.drawn+1 }:=Step.drew _ _
 have h2:=h1.ext Z;have hw:=hg.ext Z;refine Qg<|QV (Step [] { E with drawn:=E.drawn+1 }) [(0,true),(1,true),(2,true),(3,true),(4,true),(5,true),(6,true),(7,true),(8,true),(9,true),(10,true),(11,true),(12,true),(13,true),(14,true),(15,true),(16,true),(17,true),(18,true),(19,true),(20,true)] mixed (by rfl) (by kernel_rfl) (Step.drew _ _) ?_
 refine p (λ_=>Ql)<|p (λ_=>Qr O)<|p (λ_=>Qa O)<|pq (λ_ hc=>Qc (h2.B.ext hc) O O)<|p (λ_=>Ql)<|p (λ_=>Qr O) <|
  p (λ_=>Qa O)<|pq (λ_ hc=>Qc (h2.B.ext hc) O O)<|p (λ_=>Ql)<|Lg.pig (i:=k) (g:=Yo) O (λ_=>O) h2.T.arr O O hk λh6 hl=>?_
 rw[hq] at hl;refine pq (λ_ hc=>Qv (hl.ext hc) O)<|pii (i:=1) O hw O O (by omega) λh7 hm=>?_;rw[ht] at hm;refine pq (λ_ hc=>Qv (hm.ext hc) O)<|p (λ_=>Ql)<|p (λ_=>QG ⟨O,O,La⟩)<|pq (λ_ hc=>Qem (q:=q.2.getD 1 0) (v:=u) (h2.M2.ext hc) o2.edi O O)<|p (λ_=>Ql)<|p (λ_=>Qk O O)<|p (λ_=>Qk O O)<|p (λ_=>Qe) <|
  p (λ_=>Qe)<|pe ?_
 have U:Step [] E { E with drawn:=E.drawn+1+1 }:=Z.trans (Step.drew _ _)
 have h3:=h1.ext U;refine Q0 (α:=Bool) [(58,70)] (λz=>[(70,.bool z)]) (λz w'=>Step [] E w'∧z=rfu aP aS q.2 u) (by rfl) ?_ ?_
 ·refine Qx<|Qb<|xb Ql (λha=>?_) (λha=>?_)
  ·refine xb Ql (λhb=>?_) (λhb=>?_)
   ·refine x (Zh O)<|x (Qp O)<|Qb<|xs O<|xs O<|xs O<|xs O<|xs O<|xs O<|x (Qp O)<|xe ?_;exact ⟨false,Lb,U,by unfold rfu;rw[hb];simp⟩
   refine x (Zh O)<|x (Qp O)<|Qb<|Qb<|x (Qr O)<|x (Qa O)<|x (Qc h3.B O O)<|Qb<|xl O<|xf<|(ZX h3.al o2.ali u).mono ?_;rintro r4 w4 ⟨rfl,rfl⟩;refine x (Qp O)<|xe ?_;exact ⟨decide (u∈aS.al),Lb,U,by unfold rfu;rw[ha,Bool.eq_false_iff.2 hb];simp⟩
  refine xs O<|xs O<|x (Qp O)<|Qb<|xs O<|xs O<|xs O<|xs O<|xs O<|xs O<|x (Qp O)<|xe ?_;exact ⟨false,Lb,U,by unfold rfu;rw[Bool.eq_false_iff.2 ha];simp⟩
 rintro z g w4 ⟨hn,rfl⟩;refine Q8 rfl (λhe=>?_) (λhe=>?_)
 ·rw[if_pos he] at G;refine Qd<|Qb<|Qf ?_;exact Qs ⟨[.int .i64 u],Lb,by rw[←G];rfl,H.trans hn⟩
 rw[if_neg (by rw[he];decide)] at G;refine Qj<|Qx<|QN O O<|Qb<|xe ?_;exact ⟨i+1,by omega,Lb,S,H.trans hn,G⟩
theorem Qgj {b T:Nat}{n:Int}(e:Ed) (w:World) (G:QX w.heap b T [.int .i64 n]) :
  QM prog 181 ([.agg (Qz e).toArray]++[.pointer (some ⟨b,0,none⟩)]) w λr w'=>r=.bool (decide (e.2.2=n))∧Step [] w w':=by
 refine QM.of_W func181 O ntmps181 results181 (by simp) ?_;refine Qd<|xl O<|QS (us:=Qz e) O λb2 J E S H=>Qf<|Qd<|x (Qa O)<|x (Qc H O O)<|x (Qc (G.ext E) O O)<|x (Zf O O)<|Qf ?_;exact Qs ⟨[_],Lb,O,E⟩
def ja (aP aS:QE) (ul:LI) (k:Nat):Int:=rfs aP aS (unL aP ul) ((Zu aP aS).getD k [])
def QdF (aP aS:QE) (ul:LI):Option Nat:=(List.range (Zu aP aS).length).find? λk=>decide (0≤ja aP aS ul k)
def chk (aP aS:QE) (ul:LI):LI×Int×Bool:=match QdF aP aS ul with
 | none=>([],0,true)
 | some k=>((bak (Xa aP aS).ed (k+1) k).reverse,ja aP aS ul k,false)
theorem Qkj {es:List Ed}{s:Int}{r:Value}(h:IxQ (λe:Ed=>decide (e.2.2=s)) es r) (E:∃e∈es,e.2.2=s):∃(i:Nat) (hi:i<es.length),r=.int .i64 i∧es[i]'hi=fto es s:=by
 rcases h with ⟨_,h⟩ | ⟨i,hi,h1,h2,h3⟩
 ·obtain ⟨e,he,hs⟩:=E;obtain ⟨m,hm,rfl⟩:=LO he;have:=h m hm;simp[hs] at this
 refine ⟨i,hi,h1,?_⟩;have:es.find? (λe=>e.2.2 == s)=some (es[i]'hi):=by
  rw[List.find?_eq_some_iff_getElem];refine ⟨by simpa using h2,i,hi,rfl,λj hj=>?_⟩;have:=h3 j hj;simpa using this
 unfold fto;rw[this];rfl
theorem Qgi {w:World}{pva pvm pve sa sm se vl:Value}{aP aS:QE}{ul:LI}(hp:Zi [] w.heap pva pvm pve aP) (hs:Zi [] w.heap sa sm se aS) (hu:QO [] w.heap vl ul) (hE:Xf aP aS=0) (hN:Kt 32 none ul=0) {km:Int}(hO:Kb w km) (hP:0<km) (hQ:aP.st≤km∧aS.st≤km) :
  QM prog 116 [.agg #[pva,.int .i64 aP.st,pvm,pve],.agg #[sa,.int .i64 aS.st,sm,se],vl] w λr w'=>Step [] w w'∧∃v,r=.tuple #[v,.int .i64 (chk aP aS ul).2.1,.bool (chk aP aS ul).2.2,.int .i64 0]∧Qn 3 w.heap.size w' v (chk aP aS ul).1:=by
 obtain ⟨o1,o2,hR,hS,g2⟩:=Yw hE;obtain ⟨hT,oA,_⟩:=Yq hE;have hU:=QgF hR;have hV:=oA.eds;have g3:=oA.ed_le;have g4:=hT.st;refine QM.of_W func116 O ntmps116 results116 (by simp) ?_;refine Qd<|xl O<|QS (us:=[pva,.int .i64 aP.st,pvm,pve]) O λb3 w1 hW g5 hX=>xl O<|QS (us:=[sa,.int .i64 aS.st,sm,se]) O λb4 w2 h3 g6 hY=>x Qe<|x Qe<|x Qe<|Qf ?_;have U:=hW.trans h3
 refine Qd<|x (Qo (hX.ext h3) O O)<|x (Qo hY O O)<|Qb<|xl O<|xf<|(Qf7 (hp.ext U) (hs.ext U) (hu.ext U) hE hN (hO.ext U) hP hQ).mono ?_;rintro r3 V ⟨hZ,b,rfl,hb,m1,m2,sal,vu,qa,qm,qe,vt,qs,G⟩;have hl:=U.trans hZ;have g7:=hl.size;refine Qb<|x (Qk O O)<|x (Qk O O)<|x Qe<|Qf<|Qg<|Qd<|Qb<|x (Zj O O)<|xe<|Zc rfl (λh4=>absurd O h4) (λh4=>?_);refine Qj ?_
 have g8:qs.length=(Zu aP aS).length:=by rw[←G.q,Lo]
 refine Qg<|Qd<|Qb<|x (Qr O)<|x (Qa O)<|x (Qa O)<|x (Qc G.B O O)<|Qb<|xe<|Qh<|QC (α:=Nat) [(6,9),(11,13),(29,71)] (λz=>[(6,nS),(29,.int .i64 z)]) (λz w'=>z≤(Zu aP aS).length∧Step [] V w'∧∀m,m<z→¬0≤ja aP aS ul m) (λz=>(Zu aP aS).length - z) (by rfl) 0 ⟨O,O,La⟩ ⟨Lm _,Step.refl _ _,λm hm=>by omega⟩ ?_;rintro k g w4 ⟨hk,hn,ho⟩;refine Qd<|x (QD O O)<|xe ?_
 refine Qg<|QI O (λhq=>?_) (λhq=>?_)
 ·refine Qy ?_;have H:k=(Zu aP aS).length:=by have ga:¬(k:Int)<(Xa aP aS).st:=hq;omega
  have Y:chk aP aS ul=([],0,true):=by
   unfold chk;have:QdF aP aS ul=none:=by
    unfold QdF;rw[List.find?_eq_none];intro m hm;have:=ho m (by rw[H];exact MU.1 hm);simpa using this
   rw[this]
  refine Qd<|x Qe<|x Qe<|x Qe<|Qf<|Qs ⟨[nS,.int .i64 0,.bool true,.int .i64 0],⟨O,O,O,O,La⟩,hl.trans hn,nS,by rw[Y];rfl,?_⟩;rw[Y];exact QR _ _ _ _
 refine Qj ?_;have H:k<(Zu aP aS).length:=by have ga:(k:Int)<(Xa aP aS).st:=hq;omega
 have ht:k<qs.length:=by omega
 have h5:=Qm5 ht G.q;have gc:Vt [aP,aS] (qs[k]'ht).2:=by
  rw[h5];exact hS _ (by simp[List.getD,H])
 refine Qg<|Qh<|Qd<|Qb<|xl O<|Qu (us:=[.int .i64 0]) O λJ w5 ge gg gh=>xl O<|QH (u:=.int .i64 k) gh O O (by decide) O λw6 gi hv=>xe ?_;have hw:Step [] V w6:=hn.trans (ge.then1 gi gg);have g9:=hn.size;refine Qd<|Qb<|x (Qc hv O O)<|xl O<|xf<|(Qc6 (G.ext hw) o1 o2 ht gc).mono ?_;rintro r7 w7 ⟨rfl,ha⟩;rw[h5];refine Qf<|Qg<|Qd<|Qb<|x (QD O O)<|xe ?_
 refine Zc rfl (λhy=>?_) (λhy=>?_)
 ·refine Qy<|Qx<|QN O O<|Qb<|xe<|⟨k+1,by omega,⟨O,O,La⟩,H,hw.trans ha,λm hm=>?_⟩;by_cases e:m=k
  ·subst e;have h6:ja aP aS ul m<0:=hy;omega
  exact ho m (by omega)
 refine Qj ?_;have h6:0≤ja aP aS ul k:=by have hf:¬ja aP aS ul k<0:=hy;omega
 have Y:chk aP aS ul=((bak (Xa aP aS).ed (k+1) k).reverse,ja aP aS ul k,false):=by
  unfold chk;have:QdF aP aS ul=some k:=by
   unfold QdF;rw[List.find?_range_eq_some];refine ⟨by simpa using h6,MU.2 H,λm hm=>?_⟩;have:=ho m hm;simpa using this
  rw[this]
 have h7:=hw.trans ha;have ka:=h7.size;have kb:=hv.lt;have kc:=ha.size;have gj:=hv.ext ha;have gk:V.heap.size≤J:=by omega
 refine Qg<|Qh<|QC (α:=Nat×Nat×Value×LI) [(6,6),(13,13),(37,66)] (λz=>[(6,z.2.2.1)])
  (λz w'=>Step [] V w'∧w7.heap.size≤w'.heap.size∧QX w'.heap J 3 [.int .i64 z.2.1]∧Qn 3 w7.heap.size w' z.2.2.1 z.2.2.2∧z.2.1<z.1∧z.2.1<(Zu aP aS).length∧z.2.2.2.length+z.1≤k+1∧z.2.2.2++bak (Xa aP aS).ed z.1 z.2.1=bak (Xa aP aS).ed (k+1) k)
  (λz=>z.1) (by rfl) (k+1,k,nS,[]) Lb ⟨h7,Lv _,gj,QR _ _ _ _,by simp,H,by simp,rfl⟩ ?_
 rintro ⟨f,s,v,acc⟩ g w8 ⟨hz,ke,hg,S,gl,h8,gm,E⟩;simp only[] at hg S gl h8 gm E;refine Exists.elim (MI (show f≠0 by omega)) λf' h0=>?_;subst h0;rw[bak] at E;refine Qg<|Qd<|x (Qc hg O O)<|x (ZL O O)<|xe<|QI rfl (λhf=>?_) (λhf=>?_)
 ·refine Qy ?_;rw[if_neg (by have gn:¬(s:Int) > 0:=hf;omega),LU] at E;refine Qd<|Qb<|xl O<|xf<|(yJ S (by omega)).mono ?_;rintro r9 w9 ⟨gq,gr⟩;refine xe<|Qd<|Qb<|Qb<|x Qe<|x Qe<|x Qe<|Qf<|Qs ⟨[v,.int .i64 (ja aP aS ul k),.bool false,.int .i64 0],⟨O,O,O,O,La⟩,(hl.trans hz).then gr (λc hc=>.inr (by have:=(Qm S c hc).1;omega)),v,by rw[Y];rfl,?_⟩
  rw[Y,←E];exact QT gq (by omega)
 have gs:0<s:=by have gn:(s:Int) > 0:=hf;omega
 rw[if_pos (by omega)] at E;have hh:=QhX hU hV gs h8;have h0:=oA.ed _ hh.1;refine Qj ?_;have h9:=G.ext hz;refine Qh<|Qd<|Qb<|x (Qr O)<|x (Qa O)<|x (Qa O)<|x (Qc h9.B O O)<|x (ZF (l:=[]) (l':=[_]))<|xl O<|xf<|(QeK (g:=181) (cap:=[.pointer (some ⟨J,0,none⟩)]) (q:=λe=>decide (e.2.2=(s:Int))) h9.A.ed (λe w1 gt=>Qgj e w1 (hg.ext gt))).mono ?_;rintro kf kg ⟨hj,hix⟩
 refine Exists.elim (Qkj hix ⟨_,hh.1,hh.2.1⟩) λi hi=>Exists.elim hi λhA hr=>?_;refine Zs (fto (Xa aP aS).ed s) λe he=>?_;rw[he] at hh h0 E hr;have gu:=hr.1;subst gu;refine Qf ?_;have hB:=hz.trans hj;have hD:=G.ext hB;have kh:=hj.size;refine Qd<|Qb<|Qb<|x (Qr O)<|x (Qa O)<|x (Qa O)<|x (Qc hD.B O O)<|Qb<|xie (i:=i) hD.A.ed O O hA λki hF=>?_;rw[hr.2] at hF
 refine x (Zn O)<|x (Qv (hF.fld 1 (.int .i64 e.2.1) O) O)<|xl O<|QL (us:=[[.int .i64 e.2.1]]) O O (by decide) (by simp) ⟨rfl,rfl,La⟩ λkj kk Z kn gv =>
  xl rfl<|QZ (m:=1) (news:=[.int .i64 e.2.1]) (Qt S (hj.trans Z)) O O O (gv.at (L:=[]) (by simp)) (by simp[Value.oneCell']) (by omega) (by have:=Z.size;omega) λhG hH hI h1 ko=>Qf ?_
 have kq:=Z.size;have kr:=h1.size;have hJ:Step [] V hH:=(hB.trans Z).then h1 (λc hc=>.inr (by have:=(Qm S c hc).1;omega));have hK:=G.ext hJ;have gx:QX hH.heap J 3 [.int .i64 s]:=((hg.ext hj).ext Z).step h1 (λhm=>by have:=(Qm S _ hm).1;omega);refine Qx<|Qb<|x (Qr O)<|x (Qa O)<|x (Qa O)<|x (Qc hK.B O O)<|Qb<|xie (i:=i) hK.A.ed O O hA λkt hL=>?_
 rw[hr.2] at hL;refine x (Zn O)<|x (Qv (hL.fld 0 (.int .i64 e.1) O) O)<|xl O<|QH (u:=.int .i64 e.1) gx O O (by simp) rfl λgy h2 gz=>xe ?_;have hM:e.1=(e.1.toNat:Int):=by omega
 have g0:∀c∈ob hG,c∉[J]:=λc hc=>by have:=(Qm hI c hc).1;simp;omega
 have g1:QX gy.heap J 3 [.int .i64 (e.1.toNat:Int)]:=by rw[←hM];exact gz
 refine ⟨(f',e.1.toNat,hG,acc++[e.2.1]),by simp only[];omega,Lb,hJ.then1 h2 gk,by have:=h2.size;omega,g1,Qi (Qn.snoc hI) h2 g0,by simp only[];omega,by simp only[];omega,?_,?_⟩
 ·simp only[List.length_append,List.length_singleton];omega
 rw[LB];simp only[] at E ⊢;rw[←hM];exact E
def Ys (k:Nat):LI:=(List.range k).map λi:Nat=>(i:Int)
theorem Xh (k:Nat):(Ys k).length=k:=by simp[Ys]
theorem JZ (k:Nat):Ys (k+1)=Ys k++[(k:Int)]:=by unfold Ys;rw[List.range_succ,LA];rfl
theorem Jo (k:Nat) (x:Int):x∈Ys k↔0≤x∧x<(k:Int):=by
 unfold Ys;simp only[List.mem_map,List.mem_range];constructor
 ·rintro ⟨i,hi,rfl⟩;omega
 intro h;exact ⟨x.toNat,by omega,by omega⟩
theorem V8 (k:Nat):ZT (Ys k):=by
 induction k with
 | zero=>exact List.Pairwise.nil
 | succ k ih =>
  rw[JZ];refine Mu.2 ⟨ih,ND _ _,λx hx y hy=>?_⟩;have:=(Jo k x).1 hx;simp at hy;omega
theorem Qir (d:LI) (k:Nat) (x:Int):x∈U0 d k→0≤x∧x<(k:Int):=by
 unfold U0;simp only[List.mem_map,List.mem_filter,List.mem_range];rintro ⟨i,hi,rfl⟩;omega
theorem Qci (d:LI) (k:Nat):ZT (U0 d k):=by
 induction k with
 | zero=>exact List.Pairwise.nil
 | succ k ih =>
  rw[jW];split
  ·refine Mu.2 ⟨ih,ND _ _,λx hx y hy=>?_⟩;have:=Qir d k x hx;simp at hy;omega
  exact ih
theorem QkE (A:QE):ZT (cor A):=Qci _ _
def VB (A:QE):LI:=mrg (λp q=>p && !q) (Ys A.st.toNat) (cor A)
theorem QiT (A:QE):ZT (VB A):=V9 _ _ _ _ (Lv _) (V8 _) (Qci _ _)
theorem QcE (A:QE) (x:Int):x∈VB A↔(0≤x∧x<(A.st.toNat:Int))∧x∉cor A:=by
 unfold VB;rw[Ja (V8 _) (QkE A)];have hm:=Jo A.st.toNat x;by_cases h1:x∈cor A
 ·simp[h1]
 by_cases h2:x∈Ys A.st.toNat
 ·have:=hm.1 h2;simp[h1,h2];omega
 have:¬(0≤x∧x<(A.st.toNat:Int)):=λh=>h2 (hm.2 h);simp only[h1,h2,false_or,false_and,this]
theorem QiD {n:Int}{l:LI}(h1:∀x∈l,0≤x∧x<n) (h2:ZT l):Kt n none l=0:=(YZ n l none).2 ⟨h1,h2,λy hy=>by cases hy⟩
def cfm (aP aS:QE) (ul:LI):Int×LI×Int×Int :=
 if Xf aP aS≠0 then (0,[],0,Xf aP aS)
 else if Kt 32 none ul≠0 then (0,[],0,Kt 32 none ul)
 else if (chk aP aS ul).2.2=false then (2,(chk aP aS ul).1,(chk aP aS ul).2.1,0)
 else if VB (Xa aP aS)=[] then (1,[],-1,0)
 else (3,(ptR (Xa aP aS) (Xa aP aS).st.toNat 0 (VB (Xa aP aS)) (Ys (Xa aP aS).st.toNat)).1,-1,0)
theorem UB {w:World}{pva pvm pve sa sm se vl:Value}{aP aS:QE}{ul:LI}(hp:Zi [] w.heap pva pvm pve aP) (hs:Zi [] w.heap sa sm se aS) (hu:QO [] w.heap vl ul) {km:Int}(h4:Kb w km) (Y:0<km) (h5:QK aP→QK aS→aP.st≤km∧aS.st≤km) :
  QM prog 46 [.agg #[pva,.int .i64 aP.st,pvm,pve],.agg #[sa,.int .i64 aS.st,sm,se],vl] w λr w'=>Step [] w w'∧∃v,r=.tuple #[.int .i64 (cfm aP aS ul).1,v,.int .i64 (cfm aP aS ul).2.2.1,.int .i64 (cfm aP aS ul).2.2.2]∧Qn 3 w.heap.size w' v (cfm aP aS ul).2.1:=by
 refine QM.of_W func46 O ntmps46 results46 (by simp) ?_;refine Qd<|xl O<|QS (us:=[pva,.int .i64 aP.st,pvm,pve]) O λb3 w1 hK gk h6=>xl O<|QS (us:=[sa,.int .i64 aS.st,sm,se]) O λb4 w2 hh gl h7=>x Qe<|x Qe<|x Qe<|Qf ?_;have S:=hK.trans hh;refine Qd<|x (Qo (h6.ext hh) O O)<|x (Qo h7 O O)<|xl O<|xf<|(UH (hp.ext S) (hs.ext S) (h4.ext S) Y h5).mono ?_
 rintro r3 w3 ⟨hL,va,vt,rfl,hO⟩;refine Exists.elim hO.shape λus Z=>?_;have gm:=S.size;refine Qb<|x (Qk O O)<|x (Qk O O)<|x (Qk O O)<|xl O<|Qu (us:=[nS,.int .i64 0,nS,nS]) O λgn w4 hM hN hP=>xl O<|Qq (us:=us) hP O (show ev _ _=_ from Z.1) Z.2.1 O Z.2.2 λw5 hQ hR=>x Qe<|Qf ?_;have h8:Step [] w3 w5:=hM.then1 hQ hN;have hj:=hL.trans h8;have G:=S.trans hj
 refine Qg<|Qd<|Qb<|x (Zj O O)<|xe<|Zc rfl (λH=>?_) (λH=>?_)
 ·have E:cfm aP aS ul=(0,[],0,Xf aP aS):=by unfold cfm;rw[if_pos H]
  refine Qd<|Qb<|x Qe<|x Qe<|x Qe<|Qf<|Qs ⟨[.int .i64 0,nS,.int .i64 0,.int .i64 (Xf aP aS)],⟨O,O,O,O,La⟩,G,nS,by rw[E];rfl,?_⟩;rw[E];exact QR _ _ _ _
 have hE:Xf aP aS=0:=Lt.1 H;refine Qj<|Qg<|Qd<|Qb<|xl O<|xf<|(qy (hu.ext G) 32).mono ?_;rintro r6 w6 ⟨rfl,rfl⟩;refine Qf<|Qd<|Qb<|x (Zj O O)<|xe<|Zc rfl (λJ=>?_) (λJ=>?_)
 ·have E:cfm aP aS ul=(0,[],0,Kt 32 none ul):=by unfold cfm;rw[if_neg H,if_pos J]
  refine Qd<|Qb<|x Qe<|x Qe<|x Qe<|Qf<|Qs ⟨[.int .i64 0,nS,.int .i64 0,.int .i64 (Kt 32 none ul)],⟨O,O,O,O,La⟩,G,nS,by rw[E];rfl,?_⟩;rw[E];exact QR _ _ _ _
 have hS:Kt 32 none ul=0:=Lt.1 J;have h9:=Yw hE;have hT:=Yq hE;have hU:=h5 h9.1 h9.2.1;refine Qj<|Qd<|x (Qo ((h6.ext hh).ext hj) O O)<|x (Qo (h7.ext hj) O O)<|Qb<|xl O<|xf<|(Qgi (hp.ext G) (hs.ext G) (hu.ext G) hE hS (h4.ext G) Y hU).mono ?_;rintro r7 w7 ⟨hl,vw,rfl,hV⟩;have ha:=G.trans hl;have gq:=ha.size;have gr:=G.size
 refine Qb<|x (Qk O O)<|x (Qk O O)<|x (Qk O O)<|x (Qk O O)<|x Qe<|x Qe<|x Qe<|Qf<|Qg<|Qd<|Qb<|x (Zj O O)<|xe<|Zc rfl (λhA=>absurd O hA) (λhA=>?_);refine Qj<|Qg<|Qd<|Qb<|x (Zh O)<|xe<|Q8 rfl (λhm=>?_) (λhm=>?_)
 ·have he:(chk aP aS ul).2.2=false:=by simpa using hm
  have E:cfm aP aS ul=(2,(chk aP aS ul).1,(chk aP aS ul).2.1,0):=by unfold cfm;rw[if_neg H,if_neg J,if_pos he]
  refine Qd<|Qb<|Qb<|x Qe<|x Qe<|x Qe<|Qf<|Qs ⟨[.int .i64 2,vw,.int .i64 (chk aP aS ul).2.1,.int .i64 0],⟨O,O,O,O,La⟩,ha,vw,by rw[E];rfl,?_⟩;rw[E];exact QT hV (by omega)
 have he:¬(chk aP aS ul).2.2=false:=by simpa using hm
 refine Qj<|Exists.elim (hO.good hE).1 λqa hq=>Exists.elim hq λqm hq=>Exists.elim hq λqe hq=>?_;have hW:Zi [] w3.heap qa qm qe (Xa aP aS):=hq.2 [] (by simp);have hX:us=[qa,.int .i64 (Xa aP aS).st,qm,qe]:=by
  have h1:=Z.1.symm.trans hq.1;injection h1 with h2
  exact congrArg Array.toList h2
 subst hX;have hB:=(hW.ext h8).ext hl;have ho:=hR.ext hl;have oA:=hT.2.1;have hC:XW (Xa aP aS)=0:=(Zp _).2 oA;refine exN oA.st0 λn hn=>?_;have hr:(Xa aP aS).st.toNat=n:=by omega
 have gs:=oA.st1;refine Qd<|Qf<|Qg<|Qd<|x (Qa O)<|x (Qc ho O O)<|Qb<|xe<|Qh<|QC (α:=Nat×Value) [(14,15),(52,59)] (λz=>[(14,z.2),(52,.int .i64 z.1)]) (λz w'=>z.1≤n∧Step [] w7 w'∧Qn 3 w7.heap.size w' z.2 (Ys z.1)) (λz=>n - z.1) (by rfl) (0,nS) ⟨O,O,La⟩ ⟨Lm _,Step.refl _ _,QR _ _ _ _⟩ ?_;rintro ⟨k,v⟩ g w8 ⟨hk,U,hf⟩;simp only[] at hk hf;have gt:=Xh k;have gu:=U.size
 refine Qd<|x (QD O O)<|xe<|Qg<|QI O (λht=>?_) (λht=>?_)
 ·refine Qy ?_;have hv:k=n:=by have hY:¬(k:Int)<(Xa aP aS).st:=ht;omega
  subst hv;have hD:QO [] w8.heap v (Ys k):=QW hf (by omega) (by simp);refine Qd<|x (Qo (ho.ext U) O O)<|xl O<|xf<|(yM (hB.ext U)).mono ?_;rintro r9 w9 ⟨hw,vg,rfl,hg⟩;rw[if_pos hC] at hg;have gv:(cor (Xa aP aS)).length≤k:=by unfold cor;rw[hr];exact Qch _ _
  refine Qb<|x (Qk O O)<|x (Qk O O)<|x Qe<|Qf<|Qg<|Qd<|Qb<|Qb<|xl O<|xf<|(QcN (hD.ext hw) (QW (L:=[]) hg (by omega) (by simp)) (by omega)).mono ?_;rintro vb hZ ⟨hF,hb⟩;have hG:mrg (λp q=>p && !q) (Ys k) (cor (Xa aP aS))=VB (Xa aP aS):=by unfold VB;rw[hr]
  rw[hG] at hb;have gx:(VB (Xa aP aS)).length≤k+k:=by
   rw[←hG];have:=X9 (λp q=>p && !q) (Ys k) (cor (Xa aP aS));omega
  have hH:QO [] hZ.heap vb (VB (Xa aP aS)):=QW hb (by omega) (by simp);have V:=(U.trans hw).trans hF;refine Qf<|Qd<|Qb<|x (Qw hH O)<|x (ZL O O)<|xe<|Zc O (λhz=>?_) (λhz=>?_)
  ·have hI:VB (Xa aP aS)≠[]:=by
    intro e;have h0:((VB (Xa aP aS)).length:Int) > 0:=hz;rw[e] at h0;simp at h0
   have hJ:∀x∈VB (Xa aP aS),0≤x∧x<(k:Int):=λx hx=>by have:=((QcE _ x).1 hx).1;omega
   have Y:0<k:=by
    obtain ⟨y,hy⟩:=List.exists_mem_of_ne_nil _ hI;have:=hJ y hy;omega
   have E:cfm aP aS ul=(3,(ptR (Xa aP aS) k 0 (VB (Xa aP aS)) (Ys k)).1,-1,0):=by unfold cfm;rw[if_neg H,if_neg J,if_neg he,if_neg hI,hr]
   refine Qd<|x (Qo ((ho.ext V)) O O)<|Qb<|Qb<|xl O<|xf<|(QkZ (from0:=0) (hB.ext V) hC hn Y hH (hD.ext (hw.trans hF)) (QiD (by rw[hn];exact hJ) (QiT _)) (QiD (by rw[hn];exact λx hx=>(Jo k x).1 hx) (V8 k)) ((Jo k 0).2 (by omega))).mono ?_;rintro gy gz ⟨ga,vp,rfl,gc⟩;refine Qb<|x (Qk O O)<|x (Qk O O)<|x (Qk O O)<|Qf<|Qd<|Qb<|x Qe<|x Qe<|x Qe<|Qf ?_
   have g0:=V.size;refine Qs ⟨[.int .i64 3,vp,.int .i64 (-1),.int .i64 0],⟨O,O,O,O,La⟩,ha.trans (V.trans ga),vp,by rw[E];rfl,?_⟩;rw[E];exact QT gc (by omega)
  have ge:VB (Xa aP aS)=[]:=Ln (by have h0:¬((VB (Xa aP aS)).length:Int) > 0:=hz;omega);have E:cfm aP aS ul=(1,[],-1,0):=by unfold cfm;rw[if_neg H,if_neg J,if_neg he,if_pos ge]
  refine Qj<|Qd<|x Qe<|x Qe<|x Qe<|Qf<|Qs ⟨[.int .i64 1,nS,.int .i64 (-1),.int .i64 0],⟨O,O,O,O,La⟩,ha.trans V,nS,by rw[E];rfl,?_⟩;rw[E];exact QR _ _ _ _
 refine Qj ?_;have hv:k<n:=by have hY:(k:Int)<(Xa aP aS).st:=ht;omega
 refine Qg<|Qh<|Qd<|Qb<|Qf<|Qx<|Qb<|Qb<|xl O<|QL (us:=[[.int .i64 k]]) O O (by decide) (by simp) ⟨rfl,rfl,La⟩ λg1 g2 h3 g3 gg=>xl rfl<|QZ (m:=1) (news:=[.int .i64 k]) (Qt hf h3) rfl rfl rfl (gg.at (L:=[]) (by simp)) (by simp[Value.oneCell']) (by omega) (by have:=h3.size;omega) λgh g4 gi gj g5 =>
  Qf<|Qx<|QN O O<|Qb<|xe ?_
 exact ⟨(k+1,gh),by simp only[];omega,⟨O,O,La⟩,hv,(U.trans h3).then gj (λc hc=>.inr (Qm hf c hc).1),by rw[JZ];exact Qn.snoc gi⟩
def XM (n m:Nat):LI:=(List.range n).map λk:Nat=>if k<m then (k:Int) else -1
theorem jM {m k:Nat}(h:k<m):Zm (Ys m) (k:Int)=k:=by
 unfold Zm Ys;simp[List.getD,h]
theorem Qno {fd out R:LI}{t:Int}(hp:fd=out++R) (hm:t∈out):zT fd t=(out.idxOf t:Nat):=by
 subst hp;unfold zT;rw[if_pos (LE _ hm),L3,if_pos hm]
theorem Qmc {fd out R:LI}{t:Int}(hp:fd=out++[t]++R) (hm:t∉out):zT fd t=(out.length:Nat):=by
 subst hp;unfold zT;rw[if_pos (by simp),LB,L3,if_neg hm];simp
theorem jL {n m k:Nat}(h:k<n):Zm (XM n m) (k:Int)=if k<m then (k:Int) else -1:=by
 unfold Zm XM;simp[List.getD,h]
theorem Qho {n m:Nat}:(XM n m).set m (m:Int)=XM n (m+1):=by
 apply L9
 ·simp[XM]
 intro k h1 h2;have hk:k<n:=by simpa[XM] using h2
 rw[M0];by_cases e:m=k
 ·subst e;simp[XM]
 rw[if_neg e];simp only[XM,List.getElem_map,List.getElem_range];by_cases h3:k<m
 ·rw[if_pos h3,if_pos (by omega)]
 rw[if_neg h3,if_neg (by omega)]
theorem jx {R:Nat→List Ed}(E:∀i,∀e∈R i,e.1=(i:Int)) (j:Nat):∀n,Zv ((List.range' 0 n).flatMap R) j=if j<n then R j else []
 | 0=>by simp[Zv]
 | n+1=>by
  have G:Zv (R n) j=if n=j then R n else []:=by
   unfold Zv;by_cases e:n=j
   ·rw[if_pos e];exact List.filter_eq_self.2 λx hx=>decide_eq_true (by rw[E n x hx,e])
   rw[if_neg e];exact M6.2 λx hx=>by rw[decide_eq_true_eq,E n x hx];omega
  rw[LS,LL,LJ];unfold Zv at G ⊢;rw[Me];have ih:=jx E j n;unfold Zv at ih;rw[ih];simp only[List.flatMap_cons,List.flatMap_nil,List.append_nil];rw[G];by_cases h1:j<n
  ·rw[if_pos h1,if_neg (by omega),if_pos (by omega),LU]
  rw[if_neg h1];by_cases h2:n=j
  ·subst h2;rw[if_pos rfl,if_pos (by omega),Mo]
  rw[if_neg h2,if_neg (by omega)];rfl
section
variable {a:QE}
theorem qZ {s:Int}:∀(vs:LI) (out:LI),∃r,vs.foldl (VV a s) out=out++r
 | [],out=>⟨[],by simp⟩
 | v::vs,out=>by
  rw[Ls];obtain ⟨r,E⟩:=qZ vs (VV a s out v);rw[E];unfold VV;split
  ·exact ⟨[nxt a.ed s v]++r,by rw[LB]⟩
  exact ⟨r,O⟩
theorem qY:∀(f i:Nat) (out:LI),∃r,jR a f i out=out++r
 | 0,i,out=>⟨[],by simp[jR]⟩
 | f+1,i,out=>by
  rw[jR];split
  ·obtain ⟨r,E⟩:=qY f (i+1) (fdR a out (cget out i));obtain ⟨G,H⟩:=qZ (a:=a) (s:=cget out i) a.al out;refine ⟨G++r,?_⟩;rw[E];unfold fdR;rw[H,LB]
  exact ⟨[],by simp⟩
theorem qQ {fd:LI}{i:Nat}:∀(vs out:LI) (c:Cs),(∃r,fd=vs.foldl (VV a (cget fd i)) out++r)→c.ord=Ys out.length→c.num=XM fd.length out.length →
  (vs.filterMap (Ku a fd i)).foldl (Zb i) c=⟨Ys (vs.foldl (VV a (cget fd i)) out).length,XM fd.length (vs.foldl (VV a (cget fd i)) out).length,c.mk',c.ed++vs.filterMap (Ku a fd i)⟩
 | [],out,c,_,h1,h2=>by
  obtain ⟨o,n,m,e⟩:=c;simp only[] at h1 h2;subst h1 h2;simp
 | v::vs,out,c,E,h1,h2=>by
  rw[Ls] at E ⊢;obtain ⟨r,E⟩:=E;obtain ⟨r2,Y⟩:=qZ (a:=a) (s:=cget fd i) vs (VV a (cget fd i) out v);have G:fd=VV a (cget fd i) out v++(r2++r):=by rw[←LB,←Y];exact E
  by_cases J:0≤nxt a.ed (cget fd i) v
  ·have S:Ku a fd i v=some ((i:Int),v,zT fd (nxt a.ed (cget fd i) v)):=by unfold Ku;rw[if_pos J]
   rw[Mk,S];simp only[];rw[Ls];by_cases hm:nxt a.ed (cget fd i) v∈out
   ·have H:VV a (cget fd i) out v=out:=by unfold VV;rw[if_neg (λh=>h.2 hm)]
    rw[H] at E G ⊢;have hix:zT fd (nxt a.ed (cget fd i) v)=(out.idxOf (nxt a.ed (cget fd i) v):Nat):=Qno G hm;have Z:=LC hm;have V:out.length≤fd.length:=by rw[G];simp
    have U:Zb i c ((i:Int),v,zT fd (nxt a.ed (cget fd i) v))=⟨c.ord,c.num,c.mk',c.ed++[((i:Int),v,zT fd (nxt a.ed (cget fd i) v))]⟩:=by
     unfold Zb;simp only[];rw[h2,hix,jL (by omega),if_pos Z,if_neg (by omega)]
    rw[U,qQ vs out ⟨c.ord,c.num,c.mk',c.ed++[((i:Int),v,zT fd (nxt a.ed (cget fd i) v))]⟩ ⟨r,E⟩ h1 h2];simp only[List.append_assoc,List.singleton_append]
   have H:VV a (cget fd i) out v=out++[nxt a.ed (cget fd i) v]:=by unfold VV;rw[if_pos ⟨J,hm⟩]
   rw[H] at E G ⊢;have hix:zT fd (nxt a.ed (cget fd i) v)=(out.length:Nat):=Qmc G hm;have V:out.length<fd.length:=by rw[G];simp
   have U:Zb i c ((i:Int),v,zT fd (nxt a.ed (cget fd i) v))=⟨Ys (out.length+1),XM fd.length (out.length+1),c.mk',c.ed++[((i:Int),v,zT fd (nxt a.ed (cget fd i) v))]⟩:=by
    unfold Zb;simp only[];rw[h1,h2,hix,jL V,if_neg (Nat.lt_irrefl _),if_pos (by omega),Xh,JZ];simp only[Int.toNat_natCast];rw[Qho]
   rw[U,qQ vs (out++[nxt a.ed (cget fd i) v]) _ ⟨r,E⟩ (by simp) (by simp)];simp only[List.append_assoc,List.singleton_append]
  have S:Ku a fd i v=none:=by unfold Ku;rw[if_neg J]
  have H:VV a (cget fd i) out v=out:=by unfold VV;rw[if_neg (λh=>J h.1)]
  rw[H] at E ⊢;rw[Mk,S];exact qQ vs out c ⟨r,E⟩ h1 h2
theorem QiK (fd:LI) (i:Nat):YO a fd (i+1)=YO a fd i++(if cget fd i∈a.mr then [(i:Int)] else []):=by
 unfold YO;rw[LS,Me,LA,LJ];by_cases h:cget fd i∈a.mr <;> simp[h]
theorem QiM (fd:LI) (i:Nat):Y6 a fd (i+1)=Y6 a fd i++a.al.filterMap (Ku a fd i):=by
 unfold Y6;rw[LS,LL,LJ];simp
theorem Qcz {fd:LI}{i n:Nat}(h:i<n):(i:Int)∈YO a fd n↔cget fd i∈a.mr:=by
 unfold YO;simp only[List.mem_map,List.mem_filter,List.mem_range'_1,decide_eq_true_eq];constructor
 ·rintro ⟨k,⟨_,h2⟩,h3⟩;have:k=i:=by omega
  subst this;exact h2
 intro h2;exact ⟨i,⟨by omega,h2⟩,O⟩
theorem QiL {fd:LI}(S:fd=found a) (hj:fd.length≤a.st.toNat):∀(f g i:Nat) (out:LI),i≤out.length→jR a g i out=fd→i+g=a.st.toNat→fd.length≤i+f →
  Yu (YU a) f i ⟨Ys out.length,XM fd.length out.length,YO a fd i,Y6 a fd i⟩=⟨Ys fd.length,XM fd.length fd.length,YO a fd fd.length,Y6 a fd fd.length⟩:=by
 have V:(YU a).ed=Y6 a fd fd.length:=by rw[S];rfl
 have Y:(YU a).mr=YO a fd fd.length:=by rw[S];rfl
 have done:∀(i:Nat) (out:LI),i≤out.length→out=fd→¬i<out.length→(⟨Ys out.length,XM fd.length out.length,YO a fd i,Y6 a fd i⟩:Cs)=⟨Ys fd.length,XM fd.length fd.length,YO a fd fd.length,Y6 a fd fd.length⟩:=by
  intro i out h1 h2 h3;have:i=fd.length:=by rw[←h2];omega
  rw[this,h2]
 intro f;induction f with
 | zero =>
  intro g i out h1 h2 h3 h4;obtain ⟨r,E⟩:=qY (a:=a) g i out;rw[h2] at E;have hl:fd.length=out.length+r.length:=by rw[E,Lk]
  have Z:r=[]:=Ln (by omega);rw[Yu];exact done i out h1 (by rw[E,Z,LU]) (by omega)
 | succ f ih =>
  intro g i out h1 h2 h3 h4;obtain ⟨r,E⟩:=qY (a:=a) g i out;rw[h2] at E;have hl:fd.length=out.length+r.length:=by rw[E,Lk]
  rw[Yu];simp only[Xh];by_cases hi:i<out.length
  ·rw[if_pos hi];obtain ⟨G,rfl⟩:∃G,g=G+1:=⟨g - 1,by omega⟩;rw[jR,if_pos hi] at h2;have ha:cget out i=cget fd i:=by
    rw[E];unfold cget;simp[List.getD,List.getElem?_append_left hi]
   rw[ha] at h2;have J:i<fd.length:=by omega
   have hb:Zv (YU a).ed (i:Int)=a.al.filterMap (Ku a fd i):=by
    rw[V];unfold Y6;rw[jx (λj e he=>by
     obtain ⟨v,_,H⟩:=Mx.1 he;unfold Ku at H;split at H
     ·cases H;rfl
     cases H),if_pos J]
   have hf:Zx (YU a) i ⟨Ys out.length,XM fd.length out.length,YO a fd i,Y6 a fd i⟩=⟨Ys out.length,XM fd.length out.length,YO a fd (i+1),Y6 a fd i⟩:=by
    unfold Zx;simp only[];rw[jM hi,Y,QiK];by_cases hc:cget fd i∈a.mr
    ·rw[if_pos ((Qcz J).2 hc),if_pos hc]
    rw[if_neg (λh=>hc ((Qcz J).1 h)),if_neg hc];simp
   have hg:Vx (YU a) i ⟨Ys out.length,XM fd.length out.length,YO a fd i,Y6 a fd i⟩=⟨Ys (fdR a out (cget fd i)).length,XM fd.length (fdR a out (cget fd i)).length,YO a fd (i+1),Y6 a fd (i+1)⟩:=by
    unfold Vx;rw[hf];simp only[];rw[jM hi,hb];obtain ⟨r3,U⟩:=qY (a:=a) G (i+1) (fdR a out (cget fd i));rw[h2] at U;rw[qQ a.al out ⟨Ys out.length,XM fd.length out.length,YO a fd (i+1),Y6 a fd i⟩ ⟨r3,U⟩ rfl rfl,QiM];rfl
   rw[hg];obtain ⟨r4,hh⟩:=qZ (a:=a) (s:=cget fd i) a.al out;exact ih G (i+1) _ (by unfold fdR;rw[hh,Lk];omega) h2 (by omega) (by omega)
  rw[if_neg hi];have h5:jR a g i out=out:=by
   cases g with
   | zero=>rfl
   | succ g=>rw[jR,if_neg hi]
  exact done i out h1 (h5.symm.trans h2) hi
theorem QiJ (E:QK a) (G:0<a.st):Zt (YU a)=YU a:=by
 have V:=Qcy E G;have J:=(Ui E).1.len E.st0;have Y:(YU a).st=((found a).length:Int):=rfl;have H:(YU a).st.toNat=(found a).length:=by omega
 have Z:0<(found a).length:=by omega
 have h:=QiL (a:=a) O J (found a).length a.st.toNat 0 (fd0 a) (Lm _) O (by omega) (by omega);have S:fd0 a=[0]:=by unfold fd0;rw[if_pos G]
 rw[S] at h;have U:ZH (YU a)=⟨Ys 1,XM (found a).length 1,YO a (found a) 0,Y6 a (found a) 0⟩:=by
  unfold ZH;rw[H];have e:(List.replicate (found a).length (-1:Int)).set 0 0=XM (found a).length 1:=by
   apply L9
   ·simp[XM]
   intro k h1 h2;rw[M0];simp only[XM,List.getElem_map,List.getElem_range,List.getElem_replicate];by_cases e:k=0
   ·subst e;simp
   rw[if_neg (by omega),if_neg (by omega)]
  rw[e];simp[Ys,YO,Y6]
 unfold Zt;rw[if_neg (by omega)];simp only[];rw[U,H];have h':Yu (YU a) (found a).length 0 ⟨Ys 1,XM (found a).length 1,YO a (found a) 0,Y6 a (found a) 0⟩=⟨Ys (found a).length,XM (found a).length (found a).length,YO a (found a) (found a).length,Y6 a (found a) (found a).length⟩:=h;rw[h'];simp only[Xh];rfl
theorem Qdp (E:QK a) (G:0<a.st):KY (YU a)=true:=by
 unfold KY;rw[QiJ E G];simp[(Zp _).2 (QaX E).1]
theorem GdA.can {a:QE}(h:GdA a):KY a=true:=by
 obtain ⟨E,h1,h2,rfl⟩:=h.c;exact Qdp h1 h2
end
structure D25 (c:Yz):Prop where
 ev:∃ns:LN,ns.length=5∧c.ev=X2 ns 5
 c0:c.co.length≠0
 c3:c.co.length≤3
 r2:c.rq.length≤2
 co:∀x∈c.co,Y3 x.nm=true∧GdA x.a∧∀e∈x.a.al,e<5
 rq:∀x∈c.rq,Y3 x.nm=true∧GdA x.a∧∀e∈x.a.al,∃y∈c.co,e∈y.a.al
 nd:(c.co.map (·.nm)++c.rq.map (·.nm)).Nodup
 x2:c.ex.length≤2
 ex:∀x∈c.ex,Y3 x.nm=true∧x.ls≠[]∧Xp (szs c.co) none x.ls=0
 xn:(c.ex.map (·.nm)).Nodup
 k1:c.cs.length≤1
 cs:∀x∈c.cs,Y3 x.nm=true∧Xq (szs c.co) x=0
theorem Qjr (n:Nat) (x:Int):x∈VX n↔0≤x∧x<(n:Int):=Jo n x
theorem Qjt (n:Nat):ZT (VX n):=V8 n
theorem QjU {a b:LI}(ia:ZT a) (ib:ZT b) (h:∀e∈a,e∈b):(mns a b).length=0:=by
 refine Nat.eq_zero_of_not_pos λhp=>?_;obtain ⟨x,hx⟩:=List.exists_mem_of_length_pos hp;have:=(Ja ia ib x).1 hx;by_cases h1:x∈a
 ·simp[h1,h x h1] at this
 simp[h1] at this
theorem Qe8 {nev:Nat}{amg:LI}{seen:List ByteArray}{x:Kx}(G:Y3 x.nm=true) (hs:x.nm∉seen) (E:GdA x.a) (he:∀e∈x.a.al,e<(nev:Int)) (hi:ZT amg) (hm:∀e∈x.a.al,e∈amg):Yj nev amg seen x=0:=by
 have hp:=E.p;unfold Yj;rw[if_neg (by rw[G];decide),if_neg hs,if_neg (by simpa using (Zp _).2 E.ok),if_neg (by rw[E.can];decide),if_neg (by omega),if_neg,if_neg (by simpa using QjU E.ok.ali hi hm)];intro h;obtain ⟨e,h1,h2⟩:=Mn.1 h;have:=he e h1;have:=of_decide_eq_true h2;omega
theorem Qe9 {nev:Nat}{al:LI}(J:ZT al):∀(l:List Kx) (s:List ByteArray) (u:LI),ZT u→(∀x∈l,Y3 x.nm=true∧GdA x.a∧∀e∈x.a.al,e<(nev:Int)∧e∈al)→(s++l.map (·.nm)).Nodup →
  ∃E,Ym nev al s u l=(0,s++l.map (·.nm),E)∧ZT E∧∀e,e∈E↔e∈u∨∃y∈l,e∈y.a.al
 | [],s,u,hu,_,_=>⟨u,by simp[Ym],hu,by simp⟩
 | x::l,s,u,hu,hx,H=>by
  obtain ⟨h1,h2,h3⟩:=hx x Lh;have S:x.nm∉s:=by
   intro hm;rw[L8,M7] at H;exact H.2.2 _ hm _ Lh O
  have U:=Qe8 h1 S h2 (λe he=>(h3 e he).1) J (λe he=>(h3 e he).2);obtain ⟨E,k1,k2,k3⟩:=Qe9 J l (s++[x.nm]) (mrg (· || ·) u x.a.al) (V9 _ _ _ _ (Lv _) hu h2.ok.ali) (λy hy=>hx y (Le _ hy)) (by simpa using H);refine ⟨E,?_,k2,λe=>?_⟩
  ·rw[Ym,if_neg (by simpa using U),k1];simp
  rw[k3,Ja hu h2.ok.ali];constructor
  ·rintro (⟨h5 | h5,_⟩ | ⟨y,hy,G⟩)
   ·exact .inl h5
   ·exact .inr ⟨x,Lh,h5⟩
   exact .inr ⟨y,Le _ hy,G⟩
  rintro (h5 | ⟨y,hy,G⟩)
  ·exact .inl ⟨.inl h5,by simp[h5]⟩
  rcases Li.1 hy with rfl | hy
  ·exact .inl ⟨.inr G,by simp[G]⟩
  exact .inr ⟨y,hy,G⟩
theorem Qe6 {nev:Nat}{u:LI}(hu:ZT u):∀(l:List Kx) (s:List ByteArray),(∀x∈l,Y3 x.nm=true∧GdA x.a∧∀e∈x.a.al,e<(nev:Int)∧e∈u)→(s++l.map (·.nm)).Nodup→Kc nev u s l=0
 | [],s,_,_=>rfl
 | x::l,s,hx,E=>by
  obtain ⟨h1,h2,h3⟩:=hx x Lh;have G:x.nm∉s:=by
   intro hm;rw[L8,M7] at E;exact E.2.2 _ hm _ Lh O
  have H:=Qe8 h1 G h2 (λe he=>(h3 e he).1) hu (λe he=>(h3 e he).2);rw[Kc,if_neg (by simpa using H)];exact Qe6 hu l (s++[x.nm]) (λy hy=>hx y (Le _ hy)) (by simpa using E)
theorem jZ {sz:LI}:∀(l:List Exc) (s:List ByteArray),(∀x∈l,Y3 x.nm=true∧x.ls≠[]∧Xp sz none x.ls=0)→(s++l.map (·.nm)).Nodup→Yt sz s l=0
 | [],s,_,_=>rfl
 | x::l,s,hx,E=>by
  obtain ⟨h1,h2,h3⟩:=hx x Lh;have G:x.nm∉s:=by
   intro hm;rw[L8,M7] at E;exact E.2.2 _ hm _ Lh O
  have H:K4 s x.nm=0:=by unfold K4;rw[if_neg (by rw[h1];decide),if_neg G]
  have hl:x.ls.length≠0:=λh=>h2 (Ln h);have J:JN sz x.ls=0:=by unfold JN;rw[if_neg hl];exact h3
  rw[Yt,if_neg (by simpa using H),if_neg (by simpa using J)];exact jZ l (s++[x.nm]) (λy hy=>hx y (Le _ hy)) (by simpa using E)
theorem Qhq:∀{k:Nat},k<5→Y3 (nm1 97 k)=true
 | 0,_=>by decide
 | 1,_=>by decide
 | 2,_=>by decide
 | 3,_=>by decide
 | 4,_=>by decide
theorem Um {seen:List ByteArray}{k n:Nat}(hk:k<5) (hs:nm1 97 k∉seen):X3 seen (Ks k n)=0:=by
 have E:(Ks k n).nm=nm1 97 k:=by unfold Ks;split <;> rfl
 unfold X3;rw[E,if_neg (by rw[Qhq hk];decide),if_neg hs];unfold Ks;by_cases h:48≤n∧n<52
 ·rw[if_pos h];simp only[];rw[if_neg (by omega),if_neg (by simp)]
 rw[if_neg h];simp only[];rw[if_neg (by omega),if_neg (by simp)]
theorem Qb6 (ns:LN):JT (X2 ns 5)=0:=by
 have e:X2 ns 5=[Ks 0 (ns.getD 0 0),Ks 1 (ns.getD 1 0),Ks 2 (ns.getD 2 0),Ks 3 (ns.getD 3 0),Ks 4 (ns.getD 4 0)]:=rfl;have E:∀k n,(Ks k n).nm=nm1 97 k:=λk n=>by unfold Ks;split <;> rfl
 unfold JT;rw[if_neg (by rw[J8];decide),e];simp only[qr,E];rw[Um (by decide) (by decide),Um (by decide) (by decide),Um (by decide) (by decide),Um (by decide) (by decide),Um (by decide) (by decide)];simp
theorem D25.ck {c:Yz}(h:D25 c):Yn c=0:=by
 obtain ⟨ns,_,E⟩:=h.ev;have V:=h.c3;have Y:=h.r2;have H:c.ev.length=5:=by rw[E,J8]
 obtain ⟨Z,k1,k2,k3⟩:=Qe9 (nev:=c.ev.length) (al:=VX c.ev.length) (Qjt _) c.co [] [] List.Pairwise.nil (λx hx=>by
  obtain ⟨h1,h2,h3⟩:=h.co x hx;refine ⟨h1,h2,λe he=>?_⟩;have:=h3 e he;have:=(h2.ok.al e he).1;rw[H,Qjr];exact ⟨by omega,by omega,by omega⟩) (by
  have:=h.nd;rw[M7] at this;simpa using this.1)
 have J:=Qe6 (nev:=c.ev.length) k2 c.rq (c.co.map (·.nm)) (λx hx=>by
  obtain ⟨h1,h2,h3⟩:=h.rq x hx;refine ⟨h1,h2,λe he=>?_⟩;obtain ⟨y,hy,h4⟩:=h3 e he;have:=(h.co y hy).2.2 e h4;exact ⟨by omega,(k3 e).2 (.inr ⟨y,hy,h4⟩)⟩) h.nd
 unfold Yn;rw[if_neg (by rw[E];simpa using Qb6 ns),if_neg h.c0,if_neg (by omega),k1];simp only[List.nil_append];rw[if_neg (by simp),if_neg (by simpa using J)];unfold YT;have ha:(szs c.co).length=c.co.length:=by unfold szs;simp
 have hc:=h.x2;have hk1:=h.k1;have S:¬(szs c.co).any KC=true:=by
  intro hb;obtain ⟨n,h1,h2⟩:=Mn.1 hb;unfold szs at h1;obtain ⟨x,hx,rfl⟩:=Lz.1 h1;have:=(h.co x hx).2.1;have h3:=this.p;have h4:=this.s;unfold KC at h2;simp at h2;omega
 rw[if_neg (by omega),if_neg S,if_neg (by omega),if_neg (by simpa using jZ c.ex [] h.ex (by simpa using h.xn))];rcases G:c.cs with _ | ⟨x,l⟩
 ·rfl
 have hl:l=[]:=Ln (by rw[G,LP] at hk1;omega);obtain ⟨h1,h2⟩:=h.cs x (by rw[G];exact Lh);have U:K4 [] x.nm=0:=by unfold K4;rw[if_neg (by rw[h1];decide),if_neg (by simp)]
 rw[hl,Y5,if_neg (by simpa using U),if_neg (by simpa using h2)];rfl
end Go.Proofs.YtdffckgdcegpaaaGreatDoor
namespace Go.Proofs
open Go.Proofs.Tryz
open Go.Shelf
def Tryz.sortI_ren:Go.Shelf.Ren:=⟨λ| 5=>101 | 8=>176 | 7=>175 | 19=>229 | 20=>230 | 10=>221 | 11=>222 | 12=>223 | 13=>224 | 14=>225 | 15=>226 | 16=>160 | 17=>227 | 18=>228 | 30=>267 | 31=>268 | 32=>269 | 33=>270 | 34=>271 | 35=>219 | 40=>296 | n=>n,λ| 23=>37 | 25=>3 | 3=>3 | 32=>269 | 22=>37 | 0=>0 | 44=>338 | 46=>340 | 4=>4 | 36=>332 | 35=>331 | 41=>178 | 5=>5 | 9=>9 | 53=>372 | 57=>376 | 63=>401 | 64=>381 | n=>n,λ| n=>n⟩
theorem Tryz.sortI:Go.Proofs.SlLaysM.n5 prog Tryz.sortI_ren:={
 mixed:=by kernel_rfl
 f5:=⟨Tryz.f101.name,by decide,func101.trans (congrArg some (by kernel_rfl))⟩
 f7:=⟨Tryz.f175.name,by decide,func175.trans (congrArg some (by kernel_rfl))⟩
 f8:=func176.trans (congrArg some (by kernel_rfl))
 f10:=⟨Tryz.f221.name,by decide,func221.trans (congrArg some (by kernel_rfl))⟩
 f11:=⟨Tryz.f222.name,by decide,func222.trans (congrArg some (by kernel_rfl))⟩
 f12:=⟨Tryz.f223.name,by decide,func223.trans (congrArg some (by kernel_rfl))⟩
 f13:=⟨Tryz.f224.name,by decide,func224.trans (congrArg some (by kernel_rfl))⟩
 f14:=⟨Tryz.f225.name,by decide,func225.trans (congrArg some (by kernel_rfl))⟩
 f15:=⟨Tryz.f226.name,by decide,func226.trans (congrArg some (by kernel_rfl))⟩
 f16:=⟨Tryz.f160.name,by decide,func160.trans (congrArg some (by kernel_rfl))⟩
 f17:=⟨Tryz.f227.name,by decide,func227.trans (congrArg some (by kernel_rfl))⟩
 f18:=⟨Tryz.f228.name,by decide,func228.trans (congrArg some (by kernel_rfl))⟩
 f19:=func229.trans (congrArg some (by kernel_rfl))
 f20:=func230.trans (congrArg some (by kernel_rfl))
 f30:=⟨Tryz.f267.name,by decide,func267.trans (congrArg some (by kernel_rfl))⟩
 f31:=func268.trans (congrArg some (by kernel_rfl))
 f32:=func269.trans (congrArg some (by kernel_rfl))
 f33:=⟨Tryz.f270.name,by decide,func270.trans (congrArg some (by kernel_rfl))⟩
 f34:=⟨Tryz.f271.name,by decide,func271.trans (congrArg some (by kernel_rfl))⟩
 f35:=⟨Tryz.f219.name,by decide,func219.trans (congrArg some (by kernel_rfl))⟩
 f40:=⟨Tryz.f296.name,by decide,func296.trans (congrArg some (by kernel_rfl))⟩
 t0:=underlying0
 a0:=Tryz.isAgg0
 z0:=Tryz.sizeOf0
 v0:=Tryz.zeroValue0
 t3:=underlying3
 a3:=Tryz.isAgg3
 z3:=Tryz.sizeOf3
 v3:=Tryz.zeroValue3
 t4:=underlying4
 a4:=Tryz.isAgg4
 z4:=Tryz.sizeOf4
 v4:=Tryz.zeroValue4
 t5:=underlying5
 a5:=Tryz.isAgg5
 z5:=Tryz.sizeOf5
 v5:=Tryz.zeroValue5
 t9:=underlying9
 a9:=Tryz.isAgg9
 z9:=Tryz.sizeOf9
 v9:=Tryz.zeroValue9
 t22:=underlying37
 a22:=Tryz.isAgg37
 z22:=Tryz.sizeOf37
 v22:=Tryz.zeroValue37
 t23:=underlying37
 a23:=Tryz.isAgg37
 z23:=Tryz.sizeOf37
 v23:=Tryz.zeroValue37
 t25:=underlying3
 a25:=Tryz.isAgg3
 z25:=Tryz.sizeOf3
 v25:=Tryz.zeroValue3
 t32:=underlying269
 a32:=Tryz.isAgg269
 z32:=Tryz.sizeOf269
 v32:=Tryz.zeroValue269
 t35:=underlying331
 a35:=Tryz.isAgg331
 z35:=Tryz.sizeOf331
 v35:=Tryz.zeroValue331
 t36:=underlying332
 a36:=Tryz.isAgg332
 z36:=Tryz.sizeOf332
 v36:=Tryz.zeroValue332
 t41:=underlying178
 a41:=Tryz.isAgg178
 z41:=Tryz.sizeOf178
 v41:=Tryz.zeroValue178
 t44:=underlying338
 a44:=Tryz.isAgg338
 z44:=Tryz.sizeOf338
 v44:=Tryz.zeroValue338
 t46:=underlying340
 a46:=Tryz.isAgg340
 z46:=Tryz.sizeOf340
 v46:=Tryz.zeroValue340
 t53:=underlying372
 a53:=Tryz.isAgg372
 z53:=Tryz.sizeOf372
 v53:=Tryz.zeroValue372
 t57:=underlying376
 a57:=Tryz.isAgg376
 z57:=Tryz.sizeOf376
 v57:=Tryz.zeroValue376
 t63:=underlying401
 a63:=Tryz.isAgg401
 z63:=Tryz.sizeOf401
 v63:=Tryz.zeroValue401
 t64:=underlying381
 a64:=Tryz.isAgg381
 z64:=Tryz.sizeOf381
 v64:=Tryz.zeroValue381 }
def Tryz.cmpI_ren:Go.Shelf.Ren:=⟨λ| 43=>129 | n=>n,λ| 22=>37 | 23=>3 | 3=>3 | 4=>4 | 0=>0 | n=>n,λ| n=>n⟩
theorem Tryz.cmpI:Go.Proofs.SlLaysE.n43 prog Tryz.cmpI_ren:={
 mixed:=by kernel_rfl
 f43:=⟨Tryz.f129.name,by decide,func129.trans (congrArg some (by kernel_rfl))⟩
 t0:=underlying0
 a0:=Tryz.isAgg0
 z0:=Tryz.sizeOf0
 v0:=Tryz.zeroValue0
 t3:=underlying3
 a3:=Tryz.isAgg3
 z3:=Tryz.sizeOf3
 v3:=Tryz.zeroValue3
 t4:=underlying4
 a4:=Tryz.isAgg4
 z4:=Tryz.sizeOf4
 v4:=Tryz.zeroValue4
 t22:=underlying37
 a22:=Tryz.isAgg37
 z22:=Tryz.sizeOf37
 v22:=Tryz.zeroValue37
 a23:=Tryz.isAgg3
 z23:=Tryz.sizeOf3 }
def Tryz.delI_ren:Go.Shelf.Ren:=⟨λ| 10=>55 | 6=>131 | n=>n,λ| 22=>37 | 23=>3 | 25=>118 | 3=>3 | 4=>4 | 0=>0 | n=>n,λ| n=>n⟩
theorem Tryz.delI:Go.Proofs.SlLaysH.n10 prog Tryz.delI_ren:={
 mixed:=by kernel_rfl
 f6:=⟨Tryz.f131.name,by decide,func131.trans (congrArg some (by kernel_rfl))⟩
 f10:=⟨Tryz.f55.name,by decide,func55.trans (congrArg some (by kernel_rfl))⟩
 t0:=underlying0
 a0:=Tryz.isAgg0
 z0:=Tryz.sizeOf0
 v0:=Tryz.zeroValue0
 t3:=underlying3
 a3:=Tryz.isAgg3
 z3:=Tryz.sizeOf3
 v3:=Tryz.zeroValue3
 t4:=underlying4
 a4:=Tryz.isAgg4
 z4:=Tryz.sizeOf4
 v4:=Tryz.zeroValue4
 t22:=underlying37
 a22:=Tryz.isAgg37
 z22:=Tryz.sizeOf37
 v22:=Tryz.zeroValue37
 a23:=Tryz.isAgg3
 z23:=Tryz.sizeOf3
 t25:=underlying118
 a25:=Tryz.isAgg118
 z25:=Tryz.sizeOf118
 v25:=Tryz.zeroValue118 }
end Go.Proofs
namespace Go.Proofs.YtdffckgdcegpaaaGreatDoor
open Go.Proofs.Tryz
open Go.Lg Go.Sort Go.Lib
abbrev iC:Int→Value:=Value.int .i64
theorem UN {e:Nat}{w:World}{l:LI}{g:Nat}{cur:Array Value}(E:w.heap[g]?=some (.cells cur e (0,0))) (G:cur.toList.take (l.length*1)=l.map iC):Holds iC w g 0 l.toArray:=by
 intro j hj;rw[Md] at hj;have h1:cur.toList[j]?=some (iC l[j]):=by
  have h2:(cur.toList.take (l.length*1))[j]?=(l.map iC)[j]?:=by rw[G]
  rw[Ma,if_pos (by omega),Nl,LK hj] at h2;exact h2
 have h3:l.toArray[j]! = l[j]:=by simp[hj]
 constructor
 ·show (match w.heap[g]? with | some (.cells c _ _)=>if (none:Option _).isSome then none else c[0+j]? | _=>none)=_
  rw[E,h3];simp only[Nat.zero_add,Option.isSome_none,Bool.false_eq_true,if_false];rw[←Nd,h1]
 show (match w.heap[g]? with | some (.cells _ _ (lo,hi))=>decide (lo≤0+j) && decide (0+j<hi) | _=>false)=false
 rw[E];simp
theorem Qav {e base:Nat}{w:World}{g cap n k:Nat}{cur:Array Value}{os:Array Obj}{d:Array Int}(J:base≤g) (H:w.heap[g]?=some (.cells cur e (0,0))) (hb:d.size≤cap) (S:cap≤maxLen) (U:cur.size=cap*1) (hk:k≤d.size) :
  Step [g] w (grow (putRow iC (Sort.ahead w n) g 0 d) os)∧Qn e base (grow (putRow iC (Sort.ahead w n) g 0 d) os) (.slice (some ⟨g,0,none⟩) k cap) (d.toList.take k):=by
 have V:g<w.heap.size:=(LG.1 H).1;have E:(grow (putRow iC (Sort.ahead w n) g 0 d) os).heap=w.heap.modify g (onCells (putCells iC 0 d))++os:=rfl;have Y:(d.toList.take k).length=k:=by simp;omega
 refine ⟨⟨O,O,O,?_,λi hi Z=>?_⟩,?_⟩
 ·rw[E,Array.size_append,M4];omega
 ·rw[E,MR,M4,if_pos hi,Nt,if_neg (λe=>Z (by simp[e]))]
 unfold Qn;rw[Y];refine ⟨by simp;omega,.inr ⟨g,cap,putCells iC 0 d cur,O,J,?_,by omega,S,by simp[putCells,U],?_⟩⟩
 ·rw[E,MR,M4,if_pos V,Nt,if_pos rfl,H];rfl
 apply List.ext_getElem?;intro j;rw[Ma,Nl,Ma];by_cases hj:j<k
 ·rw[if_pos (by omega),if_pos hj];have ha:j<cur.size:=by omega
  have G:j<d.size:=by omega
  rw[Nd,Nd,MQ G];simp only[putCells,Array.getElem?_mapIdx,Array.getElem?_eq_getElem ha,Option.map_some,Nat.zero_le,Nat.zero_add,true_and,if_pos G,Nat.sub_zero];rw[getElem!_pos d j G]
 rw[if_neg (by omega),if_neg hj];rfl
theorem Qfv {w:World}{base:Nat}{v:Value}{l:LI}(h:Qn 3 base w v l) (hl:l.length≤1099511627776) :
  QM prog 101 [v] w λ_ w'=>Step (ob v) w w'∧Qn 3 base w' v (l.mergeSort λx y=>decide (x≤y)):=by
 unfold QM;rcases h.2 with ⟨rfl,H⟩ | ⟨g,cap,cur,rfl,J,E,ha,S,U,V⟩
 ·have Y:l=[]:=Ln H;subst Y;have hc:=AnyM.slices_Sort_int_none Tryz.sortI none 0 w;change Calls prog 101 _ _ _ at hc;refine Calls.mono hc λe w' he=>?_;obtain ⟨rfl,rfl⟩:=he;exact ⟨Step.refl _ _,by rw[List.mergeSort_nil];exact h⟩
 have Z:g<w.heap.size:=(LG.1 E).1;have hc:=AnyM.slices_Sort_int Tryz.sortI g 0 cap l w (UN E V) Z (by omega);change Calls prog 101 _ _ _ at hc;refine Calls.mono hc λe w' he=>?_;obtain ⟨rfl,n,os,rfl⟩:=he;have hp:=List.mergeSort_perm l (λx y=>decide (x≤y));have G:=hp.length_eq
 have:=Qav (e:=3) (n:=n) (k:=l.length) (os:=os) (d:=(l.mergeSort λx y=>decide (x≤y)).toArray) J E (by simp;omega) S U (by simp);refine ⟨this.1,?_⟩;have h2:=this.2;simp only[List.take_of_length_le (Nat.le_of_eq G)] at h2;unfold Qn at h2 ⊢;rw[G] at h2 ⊢;exact h2
theorem QgV {w:World}{base:Nat}{v:Value}{l:LI}(h:Qn 3 base w v l) (hl:l.length≤1099511627776) :
  QM prog 101 [v] w λ_ w'=>Step (ob v) w w'∧∃l',l'.length=l.length∧(∀x,x∈l'↔x∈l)∧Qn 3 base w' v l' :=
 (Qfv h hl).mono λ_ _ ⟨h1,h2⟩=>⟨h1,_,(List.mergeSort_perm l _).length_eq,λ_=>(List.mergeSort_perm l _).mem_iff,h2⟩
theorem Qe3 (l:LI):∀m,m≤l.length→∀x,x∈compactUpTo l.toArray m↔x∈l.take m
 | 0,_,x=>by simp[compactUpTo]
 | m+1,h,x=>by
  have ih:=Qe3 l m (by omega) x;have hm:m<l.length:=by omega
  have hx:l.toArray[m]! = l[m]:=by simp[hm]
  rw[compactUpTo_succ,Lp,ih,Ll hm,Lp,hx,Lc];by_cases hk:keeps l.toArray m=true
  ·rw[if_pos hk,Lc]
  rw[if_neg hk];refine ⟨λh=>.inl (h.resolve_right (by simp)),λh=>.inl (h.elim id λe=>?_)⟩;simp only[keeps,decide_eq_true_eq,not_or] at hk;have E:m≠0:=by simpa using hk.1
  have h1:l.toArray[m]! = l.toArray[m - 1]!:=by simpa using hk.2
  have h2:l.toArray[m - 1]! = l[m - 1]:=by simp[show m - 1<l.length by omega]
  rw[e,←hx,h1,h2];rw[List.mem_take_iff_getElem];exact ⟨m - 1,by omega,O⟩
theorem QkH {w:World}{base:Nat}{v:Value}{l:LI}(h:Qn 3 base w v l) (hl:l.length≤1099511627776) :
  QM prog 129 [v] w λr w'=>Step (ob v) w w'∧∃l',l'.length≤l.length∧(∀x,x∈l'↔x∈l)∧Qn 3 base w' r l':=by
 rcases h.2 with ⟨rfl,G⟩ | ⟨g,cap,cur,rfl,H,E,J,S,U,V⟩
 ·have Y:l=[]:=Ln G;subst Y;refine QM.of_W func129 O ntmps129 results129 (by simp) ?_;refine Qd<|Qf<|Qg<|Qd<|Qb<|x (jv O)<|x (QD O O)<|xe<|Zc O (λ_=>?_) (λZ=>absurd (by decide) Z);refine Qd<|Qb<|Qf ?_;exact Qs ⟨[nS],Lb,Step.refl _ _,[],Lv _,λx=>Iff.rfl,h⟩
 unfold QM;have hc:=AnyE.slices_Compact Tryz.cmpI iC (λ_=>O) (.intD _ _ .i64) (.intD _ _ .i64) 0 (λw=>by kernel_rfl) g 0 cap l.toArray w (UN E V) (by simp;omega) (by simpa using J);change Calls prog 129 _ _ _ at hc;rw[Md] at hc;refine Calls.mono hc λe w' he=>?_;obtain ⟨rfl,q,rfl⟩:=he;have hm:=Qe3 l l.length (Lv _);rw[List.take_length] at hm
 have ha:(compactUpTo l.toArray l.length).length≤l.length:=by
  unfold compactUpTo;rw[Lo];exact L5 (Mj _ _) (by simp)
 generalize compactUpTo l.toArray l.length=u at *;have:=Qav (e:=3) (n:=q) (k:=u.length) (os:=#[]) (d:=(u++List.replicate (l.length - u.length) 0).toArray) H E (by simp;omega) S U (by simp);rw[grow_empty] at this;refine ⟨this.1,u,ha,hm,?_⟩;have h2:=this.2;have h3:(u++List.replicate (l.length - u.length) 0).toArray.toList.take u.length=u:=by simp
 rw[h3] at h2;exact h2
theorem QcV {w:World}{va vb:Value}{a b:LI}(ha:QO [] w.heap va a) (hb:QO [] w.heap vb b) (hl:a.length+b.length≤1000) :
  QM prog 53 [va,vb] w λr w'=>Step [] w w'∧∃l,l.length≤a.length+b.length∧(∀x,x∈l↔x∈a∨x∈b)∧Qn 3 w.heap.size w' r l:=by
 refine QM.of_W func53 O ntmps53 results53 (by simp) ?_;refine Qd<|Qf<|Qd<|Qb<|xl O<|xf<|(Zk ha).mono ?_;rintro v1 w1 ⟨E,G⟩;have hm:=E.size;refine Qb<|xl O<|Qdh G O (hb.ext E) O (zC b) (by omega) (by omega) λU H V Y hn=>Qf ?_;have J:Qn 3 w.heap.size H U (a++b):=by
  unfold Qn;rw[Lk,LA];exact V
 have Z:Step [] w H:=E.then Y (λc hc=>.inr (Qm G c hc).1);have ho:(a++b).length=a.length+b.length:=Lk;refine Qd<|Qb<|xl O<|xf<|(QgV J (by omega)).mono ?_;rintro r3 w3 ⟨he,l3,hp,hf,S⟩;have hg:Step [] w w3:=Z.then he (λc hc=>.inr (Qm J c hc).1);refine xe<|Qd<|Qb<|xl O<|xf<|(QkH S (by omega)).mono ?_;rintro r4 w4 ⟨hh,l4,hq,hj,hk⟩
 refine Qf ?_;exact Qs ⟨[_],Lb,hg.then hh (λc hc=>.inr (Qm S c hc).1),l4,by omega,λx=>by rw[hj,hf,Lp],hk⟩
theorem zZ {w:World}{v:Value}{al:LI}{ns:LN}(h:QO [] w.heap v al) (hb:∀e∈al,0≤e∧e<32) (hi:ZT al) (hn:ns.length=27) (S:∀n∈ns,n<256) :
  QM prog 54 [v,.agg (bys ns).toArray,.int .i64 3] w λr w'=>Step [] w w'∧∃a:QE,Xb w.heap.size w'.heap r a∧GdA a∧a.al=al:=by
 refine QM.of_W func54 O ntmps54 results54 (by simp) ?_;refine Qd<|xl O<|QS (us:=bys ns) O λb4 w1 U hk E=>xl O<|Qu (us:=[nS,.int .i64 0,nS,nS]) O λb6 w2 G hs V=>xe ?_;obtain ⟨s0,hl⟩:∃s0,ns.getD 0 0=s0:=⟨_,O⟩;have Y:ns[0]?=some s0:=by
  rw[←hl,LR,LK (by omega)];rfl
 have ht:s0<256:=S s0 (Ml Y);have q0:(bys ns)[0]?=some (.int .u8 (s0:Int)):=by
  unfold bys;rw[Nl,Y];rfl
 have Z:=U.trans G;have hu:=U.size;have hw:=E.lt;have hy:=V.lt;refine Qd<|x (Qa O)<|x (Qc (E.ext G) O q0)<|Qb<|x (YA (k':=.u8) O ⟨by omega,by omega⟩)<|x (zt (a:=(s0:Int)) (b:=3) O O (by omega) (by omega))<|x (Qa O)<|xl O<|QH (u:=.int .u8 ((s0 % 3:Nat):Int)) (E.ext G) O (congrArg (Value.int .u8) (by omega:(s0:Int) % 3=((s0 % 3:Nat):Int))) (by rw[Xm];omega) O λw3 H ha =>
  xe ?_
 have J:Step [] w w3:=Z.then1 H hk;rw[QiP] at ha;have he:(ns.set 0 (s0 % 3)).length=27:=by rw[MV];exact hn
 have hf:(ns.set 0 (s0 % 3)).getD 0 0=s0 % 3:=QgX (by omega);refine Qd<|Qb<|x (Qo ha O (by rw[Xm];exact he))<|xl O<|xf<|(QfQ (h.ext J) hb hi he (QjA S (by omega))).mono ?_;rintro r4 w4 ⟨hg,a,hA,hz,_,hm,hc⟩;obtain ⟨a0,k0,k1,k2,k3⟩:=hc (by rw[hf];omega);rw[hf] at k2;obtain ⟨us,hv,hh,ho⟩:=XC hA
 have hp:QX w4.heap b6 58 [nS,.int .i64 0,nS,nS]:=(V.step H (by simp only[List.mem_singleton];omega)).ext hg;have hq:=J.size;have h0:=Z.size;have h1:=H.size;refine xl rfl<|Qq (us:=us) hp O (show Go.Lg.ev _ _=_ from hv) hh O ho λw5 hj hr=>xe ?_
 refine Qs ⟨[.agg us.toArray],⟨⟨_,O,QF hh (hr.at (L:=[]) (by simp)).cells⟩,La⟩,(J.trans hg).then1 hj (by omega),a,?_,GdA.of k0 k1 k2 k3 (Nat.mod_lt _ (by decide)),hm⟩;show Xb _ _ (.agg us.toArray) _;rw[←hv];exact (Ju hA (by omega) hj).mono hq
end Go.Proofs.YtdffckgdcegpaaaGreatDoor
namespace Go.Lg
section
variable {P:Program} {f:Fr} {w:World} {d:Option Nat} {ty:Nat} {ps:String} {af:Array Edge} {gd:Option (Nat×Bool)}
theorem Qc7 {t E:Nat}{k:IntKind}[h:Ik P t k] [h':St P E] {x:Operand}{n:Nat}{G:IntKind}(hx:ev f x=.int G n) (H:n<128) :
  (execOp (ev f) ⟨d,.convert t E x,ty,ps,af,gd⟩).run P w=.ok (.value (.string ⟨#[UInt8.ofNat n]⟩)) w:=by
 refine qS hx ?_;rw[run_convert_int_string w t E G n (by rw[h.u];rfl) h'.u];have J:Utf8.valid (n:Int)=true:=by
  unfold Utf8.valid;simp;omega
 unfold Utf8.encode;simp only[J,if_true,Int.toNat_natCast,H]
theorem Qg4 {t E:Nat}{x y:Operand}{k:IntKind}{a b:Int}(hx:ev f x=.int k a) (hy:ev f y=.int k b) (hb:b≠0) :
  (execOp (ev f) ⟨d,.binOp .rem t x y E,ty,ps,af,gd⟩).run P w=.ok (.value (.int k (a.tmod b))) w:=by
 refine JW hx hy ?_;simp[binOp,Op.intDiv,hb]
end
end Go.Lg
namespace Go.Proofs.YtdffckgdcegpaaaGreatDoor
open Go.Proofs.Tryz
open Go.Lg Go.Sort
theorem Ql0 {L:LN}{b T:Nat}{va:Value}{al:LI}(e:Int) (w:World) (E:QX w.heap b T [va]) (G:QO L w.heap va al) :
  QM prog 56 ([.int .i64 e]++[.pointer (some ⟨b,0,none⟩)]) w λr w'=>r=.bool (decide (e∉al))∧w'=w:=by
 refine QM.of_W func56 O ntmps56 results56 (by simp) ?_;refine Qd<|Qf<|Qd<|x (Qc E O O)<|Qb<|xl O<|xf<|(XR G e).mono ?_;rintro H J ⟨rfl,rfl⟩;refine x (Zh O)<|Qf<|Qs ⟨[_],Lb,?_,O⟩;show Value.bool (!decide (e∈al))=_;rw[decide_not]
theorem jB {L:LN}{b T:Nat}{va:Value}{al:LI}(e:Int) (w:World) (E:QX w.heap b T [va]) (G:QO L w.heap va al) :
  FnGives prog 56 #[.pointer (some ⟨b,0,none⟩)] #[iC e] (.bool (decide (e∉al))) w:=by
 have h:=Ql0 e w E G;unfold QM at h;unfold FnGives;refine Calls.mono h λe' w' he=>?_;cases e' with
 | returned v =>
  obtain ⟨rfl,rfl⟩:=he;exact ⟨O,0,O⟩
 | _=>exact he.elim
theorem QlL {w:World}{g n:Nat}{os:Array Obj}{d:Array Int}:Step [g] w (grow (putRow iC (Sort.ahead w n) g 0 d) os):=by
 have E:(grow (putRow iC (Sort.ahead w n) g 0 d) os).heap=w.heap.modify g (onCells (putCells iC 0 d))++os:=rfl;refine ⟨O,O,O,?_,λi hi G=>?_⟩
 ·rw[E,Array.size_append,M4];omega
 rw[E,MR,M4,if_pos hi,Nt,if_neg (λe=>G (by simp[e]))]
theorem QkD {w:World}{base b T:Nat}{v va:Value}{l al:LI}(h:Qn 3 base w v l) (hl:l.length≤1099511627776) (G:QX w.heap b T [va]) (hb:b∉ob v) (H:QO (ob v) w.heap va al) :
  QM prog 55 [v,.func (.func 56) #[] #[.pointer (some ⟨b,0,none⟩)]] w λr w'=>Step (ob v) w w'∧Qn 3 base w' r (l.filter λx=>decide (x∈al)):=by
 have eg:∀args w,(callFunc 56 args).run prog w=.ok (.enter 56 args) w:=enters_of func56 (by kernel_rfl) O;rcases h.2 with ⟨rfl,V⟩ | ⟨g,cap,cur,rfl,Y,J,Z,ha,hh,hj⟩
 ·have hm:l=[]:=Ln V;subst hm;refine QM.of_W func55 O ntmps55 results55 (by simp) ?_;refine Qd<|Qf<|Qd<|Qb<|Qb<|xl O<|xf<|(QhN (cap:=[.pointer (some ⟨b,0,none⟩)]) (q:=λ_=>true) (QO.fl (QjR [] w.heap)) (λe he=>by cases he)).mono ?_;rintro r1 w1 ⟨rfl,S⟩;refine Qf<|Qg<|Qd<|Qb<|x (Zf O O)<|xe<|Zc O (λ_=>?_) (λh8=>absurd O h8);refine Qd<|Qb<|Qf ?_
  exact Qs ⟨[nS],Lb,S,Qt h S⟩
 unfold QM;have U:=λ(n:Nat) (os:Array Obj) (d:Array Int)=>QlL (w:=w) (g:=g) (n:=n) (os:=os) (d:=d);have hn:b∉[g]:=hb;have ho:QO [g] w.heap va al:=H;have hc:=AnyE.slices_DeleteFunc Tryz.delI iC (λ_=>O) (λx=>decide (x∉al)) 56 #[.pointer (some ⟨b,0,none⟩)] eg 0 (λw=>by kernel_rfl) g 0 cap l.toArray w
  (λW x E=>by
   have hs:Step [] w W:=⟨E.os,E.tape,E.output,E.size,λk hk _=>E.block k hk⟩;exact jB x W (G.ext hs) (H.ext hs))
  (λn os dk x _=>jB x _ (G.step (U n os dk) hn) (ho.st (U n os dk)))
  (UN J hj) (by simp;omega) (by simpa using Z)
 change Calls prog 55 _ _ _ at hc;rw[Md] at hc;refine Calls.mono hc λe w' he=>?_;obtain ⟨rfl,q,rfl⟩:=he;have hf:(l.toArray.toList.filter λx=>!decide (x∉al))=l.filter λx=>decide (x∈al):=by
  refine List.filter_congr λx _=>?_;by_cases hx:x∈al <;> simp[hx]
 rw[hf];have hp:=Mj (λx=>decide (x∈al)) l;generalize (l.filter λx=>decide (x∈al))=u at *;have:=Qav (e:=3) (n:=q) (k:=u.length) (os:=#[]) (d:=(u++List.replicate (l.length - u.length) 0).toArray) Y J (by simp;omega) ha hh (by simp);rw[grow_empty] at this;refine ⟨this.1,?_⟩;have h2:=this.2
 have h3:(u++List.replicate (l.length - u.length) 0).toArray.toList.take u.length=u:=by simp
 rw[h3] at h2;exact h2
end Go.Proofs.YtdffckgdcegpaaaGreatDoor
namespace Go.Lg
section
variable {P:Program} {f:Fr} {w:World} {K:Fr→World→Prop} {d:Option Nat} {ty:Nat} {ps:String} {af:Array Edge} {gd:Option (Nat×Bool)}
theorem QjM {t e sz bys:Nat}{z:Value}[h:Sl P t e sz bys z] (Y:∀u∈z.cells,u.oneCell'=true) {s:Operand}{b o m c T:Nat}{cs:LV}(H:QX w.heap b T cs) (hs:∃E,ev f s=.slice (some ⟨b,E,none⟩) m c∧(0<m→E=o∧o+m*sz≤cs.length))
  (U:∀w' cs',Step [b] w w'→QX w'.heap b T cs'→cs'.length=cs.length→cs'.take o=cs.take o→K (Q4 f d (.tuple #[])) w'):XO P ⟨d,.call ⟨.builtin .clear,#[s],#[t]⟩,ty,ps,af,gd⟩ f w K:=by
 obtain ⟨E,hs,hm⟩:=hs;obtain ⟨i,hi,Z,hc,_⟩:=Sl.info h;have ha:=h.zs;rcases Nat.eq_zero_or_pos m with rfl | hmp
 ·have J:(execOp (ev f) ⟨d,.call ⟨.builtin .clear,#[s],#[t]⟩,ty,ps,af,gd⟩).run P w=.ok (.value (.tuple #[])) w:=by
   simp[execOp,resolve,invoke,builtin,hs,Builtin.clear_,run_underlying h.u]
  exact xv J (U w cs (Step.refl _ _) H O O)
 obtain ⟨rfl,he⟩:=hm hmp;have hb:(Builtin.zeroCells z.cells m).toList.length=m*sz:=by simp[Builtin.zeroCells,ha]
 have S:=run_storeCells_at P b E T (Builtin.zeroCells z.cells m).toList 0 cs.toArray w H (by simp only[List.size_toArray];omega) (λu hu=>by
  simp only[Builtin.zeroCells,Array.toList_map,List.mem_map] at hu;obtain ⟨j,hj,rfl⟩:=hu;have hf:=h.pos;have V:j % z.cells.size<z.cells.size:=Nat.mod_lt _ (by omega);rw[getElem!_pos z.cells _ V];exact Y _ (Array.getElem_mem V))
 simp only[Nat.add_zero] at S;obtain ⟨G,rfl⟩:∃G,m=G+1:=⟨m - 1,by omega⟩;have J:(execOp (ev f) ⟨d,.call ⟨.builtin .clear,#[s],#[t]⟩,ty,ps,af,gd⟩).run P w=.ok (.value (.tuple #[])) (w.setRow b ((cs.take E++(Builtin.zeroCells z.cells (G+1)).toList++cs.drop (E+(Builtin.zeroCells z.cells (G+1)).toList.length))).toArray):=by
  simp[execOp,resolve,invoke,builtin,hs,Builtin.clear_,run_underlying h.u,zeroValue,typeInfo,hi,Z] at S ⊢;simp[S]
 refine xv J (U _ _ (Step.setRow _ _ _) (Kl H) ?_ ?_)
 ·simp only[List.length_append,List.length_take,List.length_drop,hb];omega
 rw[LB,List.take_append_of_le_length (by simp;omega),List.take_take,Nat.min_self]
theorem J7 {α:Type}{sz:Nat}{g:α→LV}(E:∀x,(g x).length=sz):∀(l:List α) (i:Nat) (u:α),i<l.length→(l.set i u).flatMap g=(l.flatMap g).take (i*sz)++g u++(l.flatMap g).drop (i*sz+sz)
 | [],i,u,h=>absurd h (by simp)
 | a::l,0,u,h=>by
  rw[NG,LM,LM,Nat.zero_mul,List.take_zero,Mo,LJ,Nj (by rw[E a];exact Lv _),Lr (by rw[E a];exact Lv _),Mo]
 | a::l,i+1,u,h=>by
  have h1:(i+1)*sz=(g a).length+i*sz:=by rw[E a,Nat.succ_mul];omega
  have h2:(i+1)*sz+sz=(g a).length+(i*sz+sz):=by omega
  have G:∀(F:LV) k,(g a++F).take ((g a).length+k)=g a++F.take k:=λF k=>by rw[NC,Lq (l:=g a) (by omega),MZ]
  have H:∀(F:LV) k,(g a++F).drop ((g a).length+k)=F.drop k:=λF k=>by rw[List.drop_append,Lr (l:=g a) (by omega),Mo,MZ]
  rw[List.set_cons_succ,LM,LM,h2,h1,G,H,J7 E l i u (by simpa using h)];simp only[List.append_assoc]
theorem QfK {α:Type}{t sz:Nat}[h1:Ag P t sz] {g:α→LV}(E:∀x,(g x).length=sz) {x y:Operand}{base e b cap i:Nat}{l:List α}{u:α}(h:w.ownsRow base e sz (.slice (some ⟨b,0,none⟩) l.length cap) l.length (l.flatMap g)) (hx:ev f x=.pointer (some ⟨b,i*sz,none⟩)) (hy:ev f y=.agg (g u).toArray) (hi:i<l.length) (hu:Y0 (g u))
  (J:∀w',Step [b] w w'→w'.ownsRow base e sz (.slice (some ⟨b,0,none⟩) l.length cap) l.length ((l.set i u).flatMap g)→K (Q4 f d undef) w'):XO P ⟨d,.store t x y,ty,ps,af,gd⟩ f w K:=by
 rcases h.2 with ⟨e1,_⟩ | ⟨g',cap',cur,e1,S,U,G,V,Y,Z⟩
 ·cases e1
 cases e1
 have hB:QX w.heap b e cur.toList:=U;have he:l.length*sz≤cap*sz:=MB _ G;have ha:(i+1)*sz≤l.length*sz:=MB _ hi;rw[Nat.succ_mul] at ha;have H:cur.toList.length=cap*sz:=by rw[NB];exact Y
 have hb:=h.1;refine JY hB hx hy (E u) (by omega) hu O λw' hs hc=>J w' hs ⟨?_,.inr ⟨b,cap,_,O,S,hc,G,V,?_,?_⟩⟩
 ·rw[J7 E l i u hi];simp only[List.length_append,List.length_take,List.length_drop,E u,hb];omega
 ·simp only[List.size_toArray,List.length_append,List.length_take,List.length_drop,E u,H];omega
 have hX:(cur.toList.take (i*sz)++g u).length=i*sz+sz:=by simp only[List.length_append,List.length_take,E u,H];omega
 rw[J7 E l i u hi,←Z];show (cur.toList.take (i*sz)++g u++cur.toList.drop (i*sz+sz)).take (l.length*sz)=_;rw[NC,Lq (by omega),hX,List.take_take,Nm (by omega),List.drop_take]
end
end Go.Lg
namespace Go.Proofs.YtdffckgdcegpaaaGreatDoor
open Go.Proofs.Tryz
open Go.Lg
theorem Qhs (p:Int×Int) (w:World):QM prog 59 [.agg (Za p).toArray] w λr w'=>r=.bool (decide (p.2=0))∧Step [] w w':=by
 refine QM.of_W func59 O ntmps59 results59 (by simp) ?_;refine Qd<|xl O<|QS (us:=Za p) O λb1 H E J G=>Qf<|Qd<|x (Qa O)<|x (Qc G O O)<|x (Zf O O)<|Qf ?_;exact Qs ⟨[_],Lb,O,E⟩
theorem Qkk {gp:Nat}{fn:Func}[Fu prog gp fn] {cap:LV}{q:(Int×Int)→Bool}{L:LN}{w:World}{v:Value}{l:List (Int×Int)}(h:Zz L w.heap v l.length 2 (l.flatMap Za))
  (hk:∀e∈l,∀(G:World),Step [] w G→QM prog gp ([.agg (Za e).toArray]++cap) G λr w'=>r=.bool (q e)∧Step [] G w') :
  QM prog 133 [v,.func (.func gp) #[] cap.toArray] w λr w'=>r=.int .i64 (fix q 0 l)∧Step [] w w':=by
 have hc:=h.le;refine QM.of_W func133 O ntmps133 results133 (by simp) ?_;refine Qd<|Qf<|Qg<|Qd<|Qb<|x (Qw h O)<|Qb<|xe<|Qh<|QC (α:=Nat) [(4,5),(8,18)] (λz=>[(8,.int .i64 z)]) (λz w'=>z≤l.length∧Step [] w w'∧fix q z (l.drop z)=fix q 0 l) (λz=>l.length - z) (by rfl) 0 Lb
  ⟨Lm _,Step.refl _ _,O⟩ ?_
 rintro k g G ⟨hk1,H,E⟩;refine Qd<|x (QD O O)<|xe<|Qg<|QI O (λS=>?_) (λS=>?_)
 ·refine Qy ?_;have ha:l.length≤k:=by have hb:¬(k:Int)<(l.length:Int):=S;omega
  rw[Lr ha] at E;refine Qd<|Qf ?_;exact Qs ⟨[_],Lb,by rw[←E];rfl,H⟩
 have J:k<l.length:=by have hb:(k:Int)<(l.length:Int):=S;omega
 rw[Q9 J,Z3] at E;have V:=Lj J;refine Qj<|Qg<|Qh<|Qd<|Qb<|Qf<|Qd<|Qb<|Qb<|Qb<|xig JR (h.ext H) O O J λhf Y=>?_;refine Zs (l[k]'J) λe he=>?_;rw[he] at Y E V;refine x (QQ Y O O)<|xl O<|xc (first:=[]) (capt:=cap) O<|(hk e V G H).mono ?_;rintro r2 w2 ⟨rfl,Z⟩;refine xe<|Q8 rfl (λU=>?_) (λU=>?_)
 ·rw[if_pos U] at E;refine Qd<|Qb<|Qf ?_;exact Qs ⟨[_],Lb,by rw[←E];rfl,H.trans Z⟩
 rw[if_neg (by rw[U];decide)] at E;refine Qj<|Qx<|QN O O<|Qb<|xe ?_;exact ⟨k+1,by omega,Lb,J,H.trans Z,E⟩
end Go.Proofs.YtdffckgdcegpaaaGreatDoor
namespace Go.Lg
section
variable {P:Program} {f:Fr} {w:World} {K:Fr→World→Prop} {d:Option Nat} {ty:Nat} {ps:String} {af:Array Edge} {gd:Option (Nat×Bool)}
theorem QfC {t e sz bys:Nat}{z:Value}[h:Sl P t e sz bys z] {x E:Operand}{b n cap:Nat}{k:IntKind}{lo:Nat}(hx:ev f x=.slice (some ⟨b,0,none⟩) n cap) (hl:ev f E=.int k lo) (h1:lo≤n) :
  (execOp (ev f) ⟨d,.slice t x (some E) none none,ty,ps,af,gd⟩).run P w=.ok (.value (.slice (some ⟨b,if cap=lo then 0 else lo*sz,none⟩) (n - lo) (cap - lo))) w:=by
 obtain ⟨i,G,_,H,_⟩:=Sl.info h;have e2:(Instr.sliceBound (.int k lo) n .sliceB).run P w=.ok lo w:=ZZ h1;by_cases J:cap=lo
 ·simp[execOp,hx,hl,Instr.sliceAt,Instr.slice,run_underlying h.u,Instr.sliceBounds,e2,sizeOf,typeInfo,G,H,J]
 simp[execOp,hx,hl,Instr.sliceAt,Instr.slice,run_underlying h.u,Instr.sliceBounds,e2,sizeOf,typeInfo,G,H,J,Addr.add];exact λe=>e.symm
theorem QfD {t e sz bys:Nat}{z:Value}[h:Sl P t e sz bys z] {x E:Operand}{b n cap:Nat}{k:IntKind}{hi:Nat}(hx:ev f x=.slice (some ⟨b,0,none⟩) n cap) (G:ev f E=.int k hi) (h1:hi≤cap) :
  (execOp (ev f) ⟨d,.slice t x none (some E) none,ty,ps,af,gd⟩).run P w=.ok (.value (.slice (some ⟨b,0,none⟩) hi cap)) w:=by
 obtain ⟨i,H,_,J,_⟩:=Sl.info h;have e2:(Instr.sliceBound (.int k hi) cap .sliceAcap).run P w=.ok hi w:=ZZ h1;simp[execOp,hx,G,Instr.sliceAt,Instr.slice,run_underlying h.u,Instr.sliceBounds,e2,sizeOf,typeInfo,H,Addr.add]
end
end Go.Lg
namespace Go.Proofs.YtdffckgdcegpaaaGreatDoor
open Go.Proofs.Tryz
open Go.Lg
theorem jP {α:Type}(q:α→Bool):∀(l:List α) (i:Nat),(fix q i l=-1∧∀x∈l,q x=false)∨∃k,k<l.length∧fix q i l=((i+k:Nat):Int)∧l.take k=(l.take (k+1)).filter λx=>!q x
 | [],i=>.inl ⟨O,λx h=>by cases h⟩
 | a::l,i=>by
  rw[Z3];by_cases h:q a=true
  ·rw[if_pos h];exact .inr ⟨0,by simp,by simp,by simp[h]⟩
  rw[if_neg h];have h':q a=false:=by simpa using h
  rcases jP q l (i+1) with ⟨h1,h2⟩ | ⟨k,h1,h2,h3⟩
  ·exact .inl ⟨h1,λx hx=>by rcases Li.1 hx with rfl | hx;exact h';exact h2 x hx⟩
  exact .inr ⟨k+1,by simpa using h1,by rw[h2];congr 1;omega,by rw[Na,Na,Mw,if_pos (by simp[h']),←h3]⟩
theorem Qet {w:World}{base e sz n b cap:Nat}{cs:LV}(h:w.ownsRow base e sz (.slice (some ⟨b,0,none⟩) n cap) n cs):n≤cap∧∃cur:LV,QX w.heap b e cur∧cur.length=cap*sz∧cur.take (n*sz)=cs:=by
 rcases h.2 with ⟨e1,_⟩ | ⟨g',cap',cur,e1,S,E,G,U,H,J⟩
 ·cases e1
 cases e1
 exact ⟨G,cur.toList,E,by rw[NB];exact H,J⟩
theorem QjG {w w':World}{base e sz n b cap k:Nat}{cs E cur:LV}(h:w.ownsRow base e sz (.slice (some ⟨b,0,none⟩) n cap) n cs) (hk:k≤n) (G:QX w'.heap b e cur) (hl:cur.length=cap*sz) (ht:cur.take (k*sz)=E) (hc:E.length=k*sz) :
  w'.ownsRow base e sz (.slice (some ⟨b,0,none⟩) k cap) k E:=by
 rcases h.2 with ⟨e1,_⟩ | ⟨g',cap',cur',e1,H,S,U,J,V,Y⟩
 ·cases e1
 cases e1
 exact ⟨hc,.inr ⟨b,cap,cur.toArray,O,H,G,by omega,J,by rw[Md];exact hl,ht⟩⟩
theorem YI {α:Type}{sz:Nat}{g:α→LV}(E:∀x,(g x).length=sz):∀l:List α,(l.flatMap g).length=l.length*sz
 | []=>by simp
 | a::l=>by rw[LM,Lk,YI E l,E a,LP,Nat.succ_mul];omega
theorem Qer:∀(l:List (Int×Int)) (k:Nat),(l.flatMap Za).take (k*2)=(l.take k).flatMap Za
 | [],k=>by simp
 | a::l,0=>by simp
 | a::l,k+1=>by
  rw[show (k+1)*2=k*2+2 by omega,LM,Na,LM,←Qer l k];rfl
abbrev nzT (l:List (Int×Int)):List (Int×Int):=l.filter λp=>!decide (p.2=0)
set_option maxHeartbeats 1000000 in
theorem QkC {w:World}{base:Nat}{v:Value}{l:List (Int×Int)}(h:w.ownsRow base 129 2 v l.length (l.flatMap Za)) (hl:l.length≤1000) :
  QM prog 58 [v,.func (.func 59) #[] #[]] w λr w'=>Step (ob v) w w'∧w'.ownsRow base 129 2 r (nzT l).length ((nzT l).flatMap Za):=by
 have hix:=Qkk (cap:=[]) (q:=λp=>decide (p.2=0)) (QW (L:=[]) h (by omega) (by simp)) (λe _ V _=>Qhs e V);have hq:=jP (λp:Int×Int=>decide (p.2=0)) l 0;rcases h.2 with ⟨rfl,Y⟩ | ⟨g,cap,cur,rfl,hR,_⟩
 ·have h5:l=[]:=Ln Y;subst h5;refine QM.of_W func58 O ntmps58 results58 (by simp) ?_;refine Qd<|Qf<|Qd<|Qb<|Qb<|xl O<|xf<|hix.mono ?_;rintro r1 V ⟨rfl,G⟩;refine Qf<|Qg<|Qd<|Qb<|x (Zf O O)<|xe<|Zc O (λ_=>?_) (λh8=>absurd O h8);refine Qd<|Qb<|Qf ?_;exact Qs ⟨[nS],Lb,G,Qt h G⟩
 obtain ⟨hS,_⟩:=Qet h;refine QM.of_W func58 O ntmps58 results58 (by simp) ?_;refine Qd<|Qf<|Qd<|Qb<|Qb<|xl O<|xf<|hix.mono ?_;rintro r1 V ⟨rfl,G⟩;refine Qf<|Qg<|Qd<|Qb<|x (Zf O O)<|xe<|Zc rfl (λZ=>?_) (λZ=>?_)
 ·have h6:nzT l=l:=List.filter_eq_self.2 λp hp=>by
   rcases hq with ⟨_,h2⟩ | ⟨k,_,h2,_⟩
   ·have:=h2 p hp;simpa using this
   have hT:fix (λp:Int×Int=>decide (p.2=0)) 0 l=-1:=Z;omega
  refine Qd<|Qb<|Qf<|Qs ⟨[.slice (some ⟨g,0,none⟩) l.length cap],Lb,G.any,?_⟩;rw[h6];exact Qt h G
 refine Exists.elim (hq.resolve_left λa=>Z a.1) λU ha=>?_;have h7:=ha.1;have hr:fix (λp:Int×Int=>decide (p.2=0)) 0 l=(U:Int):=by have:=ha.2.1;omega
 have h9:=ha.2.2;refine Qj<|Qg<|Qd<|Qb<|x (X1 (a:=(U:Int)) (b:=1) (congrArg (Value.int .i64) hr) O ⟨by omega,by omega⟩)<|Qf<|Qh<|QC (α:=Nat×Nat×List (Int×Int)) [(5,7),(16,35)] (λz=>[(5,.int .i64 z.1),(6,.int .i64 z.2.1)])
  (λz w'=>z.1<z.2.1∧z.2.1≤l.length∧z.2.2.length=l.length∧z.2.2.take z.1=nzT (l.take z.2.1)∧z.2.2.drop z.2.1=l.drop z.2.1∧Step [g] w w'∧w'.ownsRow base 129 2 (.slice (some ⟨g,0,none⟩) z.2.2.length cap) z.2.2.length (z.2.2.flatMap Za))
  (λz=>l.length - z.2.1) (by rfl) (U,U+1,l) ⟨congrArg (Value.int .i64) hr,O,La⟩
  ⟨Nat.lt_succ_self _,h7,O,h9,O,G.any,Qt h G⟩ ?_
 rintro ⟨i,j,ts⟩ g2 w2 ⟨hB,hj,hb,H,hc,hs,J⟩;simp only[] at hB hj hb H hc J;refine Qg<|Qd<|Qb<|Qb<|x (jv O)<|x (QD O O)<|xe<|QI rfl (λhf=>?_) (λhf=>?_)
 ·refine Qy ?_;have hC:j=l.length:=by have hD:¬(j:Int)<(l.length:Int):=hf;omega
  rw[hC,List.take_length] at H;have ht:(nzT l).length=i:=by rw[←H,LF];omega
  refine Exists.elim (Qet J).2 λhU hg=>?_;have hE:=hg.1;have hV:=hg.2.1;have hF:=hg.2.2;refine Qd<|Qb<|Qb<|x (QfC (lo:=i) O O (by omega))<|xl O<|QjM (m:=l.length - i) (o:=i*2) (λu hu=>by simp[Value.cells] at hu;rw[hu];rfl) hE ⟨_,O,λh=>⟨by rw[if_neg (by omega)],by omega⟩⟩ λw3 hW hh hG hX hH=>xe ?_
  refine Qd<|Qb<|Qb<|x (QfD (hi:=i) O O (by omega))<|Qf<|Qs ⟨[.slice (some ⟨g,0,none⟩) i cap],Lb,hs.trans' hh,?_⟩;rw[ht];refine QjG J (by omega) hG (by omega) ?_ ?_
  ·rw[hH,←H,←Qer,←hF,List.take_take,Nm (by omega)]
  rw[YI JR,ht]
 have E:j<l.length:=by have hD:(j:Int)<(l.length:Int):=hf;omega
 have hk:j<ts.length:=by omega
 have hI:ts[j]'hk=l[j]'E:=by
  have h1:=congrArg (λz=>z[0]?) hc;simp only[List.getElem?_drop,Nat.add_zero,List.getElem?_eq_getElem hk,List.getElem?_eq_getElem E] at h1;exact Option.some.inj h1
 have hv:ts.drop (j+1)=l.drop (j+1):=by
  have h1:=congrArg (List.drop 1) hc
  rwa [List.drop_drop,List.drop_drop] at h1
 have S:nzT (l.take (j+1))=nzT (l.take j)++(if (l[j]'E).2=0 then [] else [l[j]'E]):=by
  unfold nzT;rw[Ll E,Me];by_cases Y:(l[j]'E).2=0 <;> simp[Y]
 have hA:=QW (L:=[]) J (by omega) (by simp);rw[show Value.slice (some ⟨g,0,none⟩) ts.length cap=.slice (some ⟨g,0,none⟩) l.length cap from by rw[hb]] at hA;refine Qj<|Qg<|Qh<|Qd<|Qb<|Qb<|xig JR hA O O hk λhY hm=>?_;rw[hI] at hm;refine Zs (l[j]'E) λe he=>?_;rw[he] at hm S
 refine x (QQ hm O O)<|xl O<|Qu (us:=[.int .i64 0,.int .i64 0]) O λb7 w3 hh hJ hK=>xl O<|Qq (us:=Za e) hK O O O O ⟨O,O,La⟩ λw4 hL hw=>xe ?_;have hM:Step [] w2 w4:=hh.then1 hL hJ;refine Qd<|Qb<|x (Qo hw O O)<|xl O<|xc (first:=[]) (capt:=[]) O<|(Qhs e w4).mono ?_;rintro r5 w5 ⟨rfl,hy⟩;refine x (Zh O)<|xe ?_;have hz:=hM.trans hy;have h3:=Qt J hz
 have h4:Step [g] w w5:=hs.trans hz.any;refine Q8 rfl (λhn=>?_) (λhn=>?_)
 ·have ho:¬e.2=0:=by simpa using hn
  rw[if_neg ho] at S;have hN:w5.ownsRow base 129 2 (.slice (some ⟨g,0,none⟩) ts.length cap) ts.length (ts.flatMap Za):=h3;refine Qd<|Qb<|Qb<|x (Qo (hw.ext hy) O O)<|x (QP (i:=i) O O (by omega))<|xl O<|QfK (u:=e) JR hN (congrArg (λn=>Value.pointer (some ⟨g,n,none⟩)) (LJ (i*2))) O (by omega) ⟨O,O,La⟩ λw6 hO hP =>
   xe ?_
  refine Qx<|Qb<|QN O O<|Qf<|Qx<|Qb<|QN O O<|Qf ?_;have hQ:(ts.set i e).length=ts.length:=MV;refine ⟨(i+1,j+1,ts.set i e),by simp only[];omega,⟨O,O,La⟩,by simp only[];omega,E,by simp only[];omega,?_,?_,h4.trans' hO,?_⟩
  ·simp only[];rw[S,←H,List.set_eq_take_append_cons_drop,if_pos (by omega),NC,Lq (by rw[LF];omega),LF,Nm (by omega),MZ,Na,List.take_zero]
  ·simp only[];rw[List.drop_set_of_lt (by omega),hv]
  simp only[];rw[hQ];exact hP
 have ho:e.2=0:=by simpa using hn
 rw[if_pos ho,LU] at S;refine Qj<|Qx<|Qb<|QN O O<|Qf ?_;exact ⟨(i,j+1,ts),by simp only[];omega,⟨O,O,La⟩,by simp only[];omega,E,hb,by rw[S];exact H,hv,h4,h3⟩
instance ayAz1:Ay prog 25 3 24 1:=⟨by kernel_rfl,by kernel_rfl⟩
instance ayAz2:Ay prog 30 2 24 1:=⟨by kernel_rfl,by kernel_rfl⟩
instance ayAz3:Ay prog 31 2 28 27:=⟨by kernel_rfl,by kernel_rfl⟩
instance ayAz4:Ay prog 34 3 33 1:=⟨by kernel_rfl,by kernel_rfl⟩
abbrev X4V:={r:LN // r.length=4∧∀n∈r,n<256}
abbrev Y1 (r:X4V):LV:=bys r.1
theorem zd (r:X4V):(Y1 r).length=4:=by show (bys r.1).length=4;unfold bys;rw[Lo,r.2.1]
structure PlV where
 ns:LN
 vx:Value
 xs:List X4V
 f0:Int
 f1:Int
 f2:Int
 bd:Int
abbrev YM (l:PlV):LV:=bys l.ns++[l.vx,.int .i8 l.f0,.int .i8 l.f1,.int .i8 l.f2,.int .i8 l.bd]
abbrev i8R (n:Int):Prop:=-128≤n∧n≤127
structure PlA (L:LN) (H:Array Obj) (l:PlV):Prop where
 n:l.ns.length=147
 b:∀n∈l.ns,n<256
 x:Zz L H l.vx l.xs.length 4 (l.xs.flatMap Y1)
 f0:i8R l.f0
 f1:i8R l.f1
 f2:i8R l.f2
 bd:i8R l.bd
theorem Qhd {l:PlV}(h:l.ns.length=147):(YM l).length=152:=by rw[YM,Lk,Xm,h];rfl
theorem Qhe {l:PlV}(h:l.ns.length=147) (j:Nat):(YM l)[147+j]?=([l.vx,.int .i8 l.f0,.int .i8 l.f1,.int .i8 l.f2,.int .i8 l.bd]:LV)[j]?:=by
 rw[YM,ME (by rw[Xm];omega),Xm,h,MZ]
theorem Qeq {l:PlV}(h:l.ns.length=147) {j:Nat}(hj:j<147):(YM l)[j]?=some (.int .u8 ((l.ns.getD j 0:Nat):Int)):=by
 rw[YM,Mi (by rw[Xm];omega)];exact U3 (by omega)
theorem Qdc {l:PlV}{o m:Nat}(j:Nat) (u:Value) (h:(bys ((l.ns.drop o).take m))[j]?=some u):(YM l)[o+j]?=some u:=by
 have h1:=QkK (ns:=l.ns) (o:=o) (n:=m) j u h;have h2:=(MJ.1 h1).1;rw[YM,Mi h2];exact h1
theorem Qe7 {sz:LI}:∀(ls:List (Int×Int)) (pr:Option Int),(∀b,pr=some b→∀p∈ls,b<p.1)→ls.Pairwise (λp q=>p.1<q.1)→(∀p∈ls,0≤p.1∧p.1<(sz.length:Int)∧0≤p.2∧p.2<cget sz p.1.toNat)→Xp sz pr ls=0
 | [],_,_,_,_=>rfl
 | p::ls,pr,hp,hs,hb=>by
  obtain ⟨h1,h2,h3,h4⟩:=hb p Lh;obtain ⟨k1,k2⟩:=L7.1 hs;have hl:zP pr p.1=false:=by
   cases pr with
   | none=>rfl
   | some b=>have:=hp b O p Lh;unfold zP;exact decide_eq_false (by omega)
  rw[Xp,if_neg (by omega),if_neg (by rw[hl];decide),if_neg (by omega)];exact Qe7 ls (some p.1) (λb E q hq=>by cases E;exact k1 q hq) k2 (λq hq=>hb q (Le _ hq))
theorem Qe5 {sz:LI}:∀(ls:List (Int×Int)) (pr:Option Int),(∀b,pr=some b→∀p∈ls,b<p.1)→ls.Pairwise (λp q=>p.1<q.1)→(∀p∈ls,0≤p.1∧p.1<(sz.length:Int)∧p.2≠0∧-65536≤p.2∧p.2≤65536)→JM sz pr ls=0
 | [],_,_,_,_=>rfl
 | p::ls,pr,hp,hs,hb=>by
  obtain ⟨h1,h2,h3,h4,h5⟩:=hb p Lh;obtain ⟨k1,k2⟩:=L7.1 hs;have hl:zP pr p.1=false:=by
   cases pr with
   | none=>rfl
   | some b=>have:=hp b O p Lh;unfold zP;exact decide_eq_false (by omega)
  have E:grt p.2=false:=by unfold grt;rw[decide_eq_false (by omega),decide_eq_false (by omega)];rfl
  rw[JM,if_neg (by omega),if_neg (by rw[hl];decide),if_neg (by rw[E];simpa using h3)];exact Qe5 ls (some p.1) (λb G q hq=>by cases G;exact k1 q hq) k2 (λq hq=>hb q (Le _ hq))
theorem Qd3 (a:Int) {b:Int}(h:0<b):-b<a.tmod b∧a.tmod b<b:=⟨Int.lt_tmod_of_pos a h,Int.tmod_lt_of_pos a h⟩
structure ItG (c:Nat) (k:Nat) (q:IV):Prop where
 nm:q.nm=⟨#[UInt8.ofNat c]⟩++⟨#[UInt8.ofNat (48+k)]⟩
 g:GdA q.p.a
 e:∀e∈q.p.a.al,e<5
def nmI (c k:Nat):ByteArray:=⟨#[UInt8.ofNat c]⟩++⟨#[UInt8.ofNat (48+k)]⟩
theorem Qhp (k:Nat) (h:k<3):Y3 (nmI 99 k)=true∧Y3 (nmI 114 k)=true∧Y3 (nmI 101 k)=true:=by
 match k,h with
 | 0,_=>decide
 | 1,_=>decide
 | 2,_=>decide
theorem UP (c k:Nat):nmB (nmI c k):=by
 show (ByteArray.mk _++ByteArray.mk _).size≤_;rw[ByteArray.size_append];show 1+1≤_;omega
theorem QfM:∀n,n<4→∀m,m<3→((List.range n).map (nmI 99)++(List.range m).map (nmI 114)).Nodup:=by decide
theorem jH {c:Nat}{co:List IV}(h:∀k (hk:k<co.length),ItG c k (co[k]'hk)):(co.map IV.it).map (·.nm)=(List.range co.length).map (nmI c):=by
 apply L9
 ·simp
 intro i h1 h2;simp only[List.getElem_map,List.getElem_range];exact (h i (by simpa using h1)).nm
theorem Qmv {ns:LN}{co rq:List IV}{qx:List XV}{ks:List KV}{al:LI}(S:ns.length=5) (h1:1≤co.length) (h3:co.length≤3) (G:∀k (hk:k<co.length),ItG 99 k (co[k]'hk)) (U:∀e,e∈al↔∃q∈co,e∈q.p.a.al) (hb:rq.length≤2)
  (H:∀k (hk:k<rq.length),ItG 114 k (rq[k]'hk)∧∀e∈(rq[k]'hk).p.a.al,e∈al) (hc:qx.length≤2) (V:(qx.map (·.nm)).Nodup) (Y:∀q∈qx,(∃k,k<2∧q.nm=⟨#[101]⟩++⟨#[UInt8.ofNat (48+k)]⟩)∧q.ls≠[]∧q.ls.length≤3∧Xp (co.map (·.p.a.st)) none q.ls=0)
  (hf:ks.length≤1) (Z:∀q∈ks,q.nm=⟨#[107]⟩∧Xq (co.map (·.p.a.st)) q.k=0):D25 ⟨X2 ns 5,co.map IV.it,rq.map IV.it,qx.map XV.x,ks.map KV.k⟩:=by
 have J:szs (co.map IV.it)=co.map (·.p.a.st):=by unfold szs;rw[MW];rfl
 refine ⟨⟨ns,S,O⟩,by simp only[List.length_map];omega,by simp only[List.length_map];omega,by simp only[List.length_map];omega,λx hx=>?_,λx hx=>?_,?_,by simp only[List.length_map];omega,λx hx=>?_,?_,by simp only[List.length_map];omega,λx hx=>?_⟩
 ·obtain ⟨q,hq,rfl⟩:=Lz.1 hx;obtain ⟨k,hk,rfl⟩:=LO hq;have g:=G k hk;exact ⟨by show Y3 (co[k]'hk).nm=true;rw[g.nm];exact (Qhp k (by omega)).1,g.g,g.e⟩
 ·obtain ⟨q,hq,rfl⟩:=Lz.1 hx;obtain ⟨k,hk,rfl⟩:=LO hq;have g:=H k hk;refine ⟨by show Y3 (rq[k]'hk).nm=true;rw[g.1.nm];exact (Qhp k (by omega)).2.1,g.1.g,λe he=>?_⟩;obtain ⟨y,hy,ha⟩:=(U e).1 (g.2 e he);exact ⟨y.it,LX hy,ha⟩
 ·show ((co.map IV.it).map (·.nm)++(rq.map IV.it).map (·.nm)).Nodup;rw[jH G,jH (λk hk=>(H k hk).1)];exact QfM _ (by omega) _ (by omega)
 ·obtain ⟨q,hq,rfl⟩:=Lz.1 hx;obtain ⟨⟨k,k1,k2⟩,E,_,g4⟩:=Y q hq;refine ⟨by show Y3 q.nm=true;rw[k2];exact (Qhp k (by omega)).2.2,E,?_⟩;show Xp (szs (co.map IV.it)) none q.ls=0;rw[J];exact g4
 ·show ((qx.map XV.x).map (·.nm)).Nodup;rw[MW];exact V
 obtain ⟨q,hq,rfl⟩:=Lz.1 hx;obtain ⟨g1,E⟩:=Z q hq;refine ⟨by show Y3 q.nm=true;rw[g1];decide,?_⟩;show Xq (szs (co.map IV.it)) q.k=0;rw[J];exact E
def flk (l:PlV) (i:Nat):Int:=[l.f0,l.f1,l.f2].getD i 0
theorem Qnh {l:PlV}(h:l.ns.length=147) {i:Nat}(hi:i<3):(YM l)[0+148+i*1]?=some (.int .i8 (flk l i)):=by
 rw[show 0+148+i*1=147+(1+i) by omega,Qhe h]
 match i,hi with
 | 0,_=>rfl
 | 1,_=>rfl
 | 2,_=>rfl
theorem Qng {L:LN}{H:Array Obj}{l:PlV}(h:PlA L H l) (i:Nat) (hi:i<3):i8R (flk l i):=by
 match i,hi with
 | 0,_=>exact h.f0
 | 1,_=>exact h.f1
 | 2,_=>exact h.f2
theorem Qig (ns:LN):∀e∈X2 ns 5,nmB e.nm:=λe he=>by
 unfold X2 at he;obtain ⟨k,_,rfl⟩:=Lz.1 he;unfold Ks;split <;> exact jy (by simp)
set_option maxRecDepth 100000 in
set_option maxHeartbeats 8000000 in
theorem QfR {w:World}{l:PlV}(h:PlA [] w.heap l) :
  QM prog 14 [.agg (YM l).toArray] w λr w'=>Step [] w w'∧∃k,Qob w.heap.size w'.heap r k∧D25 k:=by
 have hpl:=Qhd h.n;refine Zs (1+l.ns.getD 5 0 % 3) λn hn=>?_;have hn3:1≤n∧n≤3:=by omega
 refine QM.of_W func14 O ntmps14 results14 (by simp) ?_;refine Qd<|xl O<|QS (us:=YM l) O λb1 w1 pf hb1 pg=>xl O<|Qu (us:=QlZ) O λb2 w2 ki hb2 ph=>xe ?_;have pj:=pf.trans ki;have hz1:=pf.size;have hz2:=ki.size;have hl1:=pg.lt;have hl2:=ph.lt;have gv:=pg.ext ki;have k4:((l.ns.drop 0).take 5).length=5:=by rw[LF,Mf,h.n];rfl
 have hflt:∀n∈(l.ns.drop 0).take 5,n<256:=λn hn=>h.b n (Mt (Mh hn));refine Qd<|x (Qa O)<|x (UK (us:=bys ((l.ns.drop 0).take 5)) gv O (by rw[Xm];exact k4) (λj u hu=>Qdc (l:=l) (o:=0) (m:=5) j u hu))<|xl O<|xf<|(QcP (ns:=(l.ns.drop 0).take 5) k4 hflt).mono ?_;rintro ve w3 ⟨pn,gk⟩;refine Zs (X2 ((l.ns.drop 0).take 5) 5) λev kj=>?_;rw[kj] at gk
 refine x (QG ⟨ZI gk,La⟩)<|xl O<|Qu (us:=QlZ) O λb3 w4 pp hb3 hB3=>xl O<|Qq (us:=[ve,Zr,Zr,Zr,Zr]) hB3 O O O O ⟨Q3 gk,O,O,O,O,La⟩ λw5 hs5 pt =>
  xe ?_
 have pu:Step [] w3 w5:=pp.then1 hs5 hb3;refine Qd<|xl O<|Qu (us:=[Zr]) O λZ w6 k5 hb4 pw=>xe ?_;have pz:=pu.trans k5;have gx:=pn.trans pz;have G:=ki.trans gx;have hz3:=pn.size;have hz35:=pu.size;have hz4:=pp.size;have hz6:=k5.size;have hl3:=pt.lt;have hl4:=pw.lt;have k6:=gv.ext gx;have hB36:=pt.ext k5;have q5:=Qeq (l:=l) h.n (j:=5) (by omega)
 have q5l:=Jc h.b 5;refine Zs (l.ns.getD 5 0) λcn hcn=>?_;rw[hcn] at q5 q5l hn;refine Qd<|x (Qa O)<|x (Qc k6 O q5)<|x (zt (a:=(cn:Int)) (b:=3) O O (by omega) (by omega))<|x (YA (k':=.i64) O ⟨by omega,by omega⟩)<|QN O O<|Qf ?_;have hnn:(1:Int)+(cn:Int) % 3=(n:Int):=by omega
 refine Q0 (α:=Value×List IV×Value×LI) [(6,7),(26,55)] (λ_=>[]) (λz w'=>Step [b3,Z] w6 w'∧QX w'.heap b3 47 [ve,z.1,Zr,Zr,Zr]∧QX w'.heap Z 37 [z.2.2.1]∧qG w6.heap.size w' z.1 z.2.2.1 z.2.1 z.2.2.2∧z.2.1.length=n∧(∀k (hk:k<z.2.1.length),ItG 99 k (z.2.1[k]'hk))∧z.2.2.2.length≤5*n∧∀e,e∈z.2.2.2↔∃q∈z.2.1,e∈q.p.a.al) (by rfl) ?_ ?_
 ·refine Qd<|Qb<|Qb<|xe<|Qh<|QC (α:=Nat×Value×List IV×Value×LI) [(6,7),(27,55)] (λz=>[(27,.int .i64 z.1)])
   (λz w'=>z.1≤n∧Step [b3,Z] w6 w'∧QX w'.heap b3 47 [ve,z.2.1,Zr,Zr,Zr]∧QX w'.heap Z 37 [z.2.2.2.1]∧qG w6.heap.size w' z.2.1 z.2.2.2.1 z.2.2.1 z.2.2.2.2∧z.2.2.1.length=z.1∧(∀k (hk:k<z.2.2.1.length),ItG 99 k (z.2.2.1[k]'hk))∧z.2.2.2.2.length≤5*z.1∧∀e,e∈z.2.2.2.2↔∃q∈z.2.2.1,e∈q.p.a.al)
   (λz=>n - z.1) (by rfl) (0,Zr,[],Zr,[]) Lb
   ⟨Lm _,Step.refl _ _,hB36,pw,qG.nil,O,λk hk=>absurd hk (by simp),by simp,by simp⟩ ?_
  rintro ⟨i,vc,co,va,al⟩ g7 w7 ⟨hi,h7,gl,hZ,hf,gy,hS,k7,gm⟩;simp only[] at hi gl hZ hf gy hS k7 gm;refine Qd<|x (QD O O)<|xe<|Qg<|QI O (λk8=>?_) (λk8=>?_)
  ·refine Qy ?_;have k9:i=n:=by have h29:¬(i:Int)<1+(cn:Int) % 3:=k8;omega
   exact ⟨(vc,co,va,al),La,h7,gl,hZ,hf,by simp only[];omega,hS,by simp only[];omega,gm⟩
  have hy:i<n:=by have h29:(i:Int)<1+(cn:Int) % 3:=k8;omega
  have ma:b1∉[b3,Z]:=by simp only[List.mem_cons,List.not_mem_nil,or_false];omega
  have hT:=k6.step h7 ma;have qs:=Qeq (l:=l) h.n (j:=0+6+i*1) (by omega);have qsl:=Jc h.b (0+6+i*1);refine Zs (l.ns.getD (0+6+i*1) 0) λm hm=>?_;rw[hm] at qs qsl;have mc:=V0 m 5;have gz:=Qbs m 5;have ga:=Qee m 5;refine Zs (setK m 5) λsk g0=>?_;rw[g0] at mc gz ga
  refine Qj<|Qg<|Qh<|Qd<|Qb<|Qf<|Qd<|Qb<|x (Qa O)<|x (ZP (i:=i) O O (by omega))<|x (Qc hT O qs)<|xl O<|xf<|(V1 m qsl _).mono ?_;rintro vs w8 ⟨Y,kk⟩;rw[g0] at kk;refine Qf ?_;have p0:=Y.size;have h8:=hf.ext Y;have hI8:=Qn.ints (L:=[]) h8.a (by omega) (by simp);have hJ8:=Qn.ints (L:=[]) kk (by omega) (by simp)
  refine Qd<|x (Qc (hZ.ext Y) O O)<|Qb<|xl O<|xf<|(QcV hI8 hJ8 (by omega)).mono ?_;rintro p1 w9 ⟨H,p2,hal2,p3,gc⟩;have kn:=Y.trans H;have mf:=H.size;have hz7:=h7.size;refine xl O<|QH (hZ.ext kn) O O (by simp) (Q3 gc) λU hh hB410=>xe ?_;have hl36:b3<w6.heap.size:=by omega
  have h4:qG w6.heap.size w9 vc p1 co p2:=h8.setA (QT gc (by omega)) H.any (λb hb=>.inr (Qm gc b hb).1);have hj:=h4.low hh (λb hb=>by rw[Lc.1 hb];omega);have g1:QX U.heap b3 47 [ve,vc,Zr,Zr,Zr]:=(gl.ext kn).step hh (by simp only[List.mem_singleton];omega);have mg:=(hT.ext kn).step hh (by simp only[List.mem_singleton];omega)
  have mh:QO [] U.heap vs sk:=Qn.ints (L:=[]) (Qi (Qt kk H) hh (λb hb hm=>by have:=(Qm kk b hb).1;rw[Lc.1 hm] at this;omega)) (by omega) (by simp);have hz10:=hh.size;have n3v:b3∉ob vc:=QU hj.c (by omega);have n1v:b1∉ob vc:=QU hj.c (by omega);have ge:=QhU (ns:=l.ns) (o:=0+9+i*27) (by have:=h.n;omega);have g2:=Qle (o:=0+9+i*27) h.b
  have g3:=λj u=>Qdc (l:=l) (o:=0+9+i*27) (m:=27) j u;refine Zs (grN l.ns (0+9+i*27)) λgr h5=>?_;have mj:∀j u,(bys gr)[j]?=some u→(YM l)[0+9+i*27+j]?=some u:=by rw[←h5];exact g3
  rw[h5] at ge g2;have g4:Step [] U { U with drawn:=U.drawn+1 }:=Step.drew _ _
  have g5:(48:Int)+(i:Int)=((48+i:Nat):Int):=by omega
  refine Zs (⟨#[99]⟩++⟨#[UInt8.ofNat (48+i)]⟩:ByteArray) λnm hB=>?_;refine QV (Step (ob vc) U) [(0,true),(1,true),(2,true),(3,true),(4,true),(5,true),(6,true),(7,true),(8,true),(9,true),(10,true),(11,true),(12,false),(13,true),(14,false),(15,false),(16,true),(17,false)] mixed (by rfl) (by kernel_rfl) (Step.drew _ _) ?_
  refine p (λ_=>Qa O)<|pq (λ_ hc=>Qc (g1.step hc n3v) O O)<|p (λ_=>Ql)<|p (λ_=>X1 O O ⟨by omega,by omega⟩)<|p (λ_=>YA (k':=.i32) O ⟨by omega,by omega⟩)<|p (λ_=>Qc7 (n:=48+i) (congrArg (Value.int .i32) g5) (by omega)) <|
   p (λ_=>X7 (a:=⟨#[99]⟩) (b:=⟨#[UInt8.ofNat (48+i)]⟩) O O (by show 1+1≤1000000000;omega))<|p (λ_=>Ql)<|p (λ_=>Ql)<|p (λ_=>Qa O)<|p (λ_=>ZP (i:=i) O O (by omega))<|pq (λ_ hc=>UK (us:=bys gr) (mg.step hc n1v) O (by rw[Xm];exact ge) mj)<|?_
  refine pk<|xf<|(zZ (mh.ext g4) (λe he=>by have:=ga e he;omega) gz ge g2).mono ?_;rintro r11 hg ⟨gg,a,⟨xa,xm,hz,rfl,hA⟩,hG,gn⟩;have hC:=g4.trans gg;have p4:=hC.size;have gh:=hA [] (by simp);refine ⟨hC.any,?_⟩
  refine p (λ_=>Yv [(0,[.string nm]),(1,[xa,.int .i64 a.st,xm,hz])] ⟨congrArg (λb=>(Value.string b).cells) hB,O,O,O,La⟩)<|pk<|QL (us:=[Z5 ⟨nm,⟨xa,xm,hz,a⟩⟩]) O O (by decide) (show 1*5≤1000000 by omega) ⟨O,O,La⟩ λb14 hU V hb14 mo=>⟨(hC.trans V).any,?_⟩;have ho:=hC.trans V;have g6:=hj.ext ho
  refine pk<|QZ (news:=Z5 ⟨nm,⟨xa,xm,hz,a⟩⟩) (L:=[]) g6.c O O O (mo.at (by simp)) (QeL gh.al.one gh.mr.one gh.ed.one) (by omega) (by have:=ho.size;omega) λmq hE ka E ms=>⟨(ho.any (L:=ob vc)).trans' E,?_⟩;have mt:=g6.setC (QbZ (q:=⟨nm,⟨xa,xm,hz,a⟩⟩) (N:=U.heap.size) (λL hL=>(hA L hL).ext V) (by omega) hj.avlt) ka E ms
  refine p (λ_=>Qa O)<|pkl (hl:=by kernel_rfl)<|QH ((g1.ext ho).step E n3v) O O (by simp) (Q3 ka) λhH G hV=>pe ?_;have hge:=Qm hj.c;have n4v:Z∉ob vc:=QU hj.c (by omega);have hB416:=((hB410.ext ho).step E n4v).step G (by simp only[List.mem_singleton];omega);have hs710:Step [Z] w7 U:=kn.any.trans' hh
  have hs615:Step [b3,Z] w6 hE:=((h7.trans' (hs710.mono (by simp))).trans ho.any).then E (λb hb=>.inr (hge b hb).1);refine Qx<|QN O O<|Qb<|xe ?_
  refine ⟨(i+1,mq,co++[⟨nm,⟨xa,xm,hz,a⟩⟩],p1,p2),by simp only[];omega,Lb,hy,hs615.trans' (G.mono (by simp)),hV,hB416,mt.low G (λb hb=>by rw[List.mem_singleton.1 hb];omega),by simp only[List.length_append,List.length_singleton];omega,λk hk=>?_,by simp only[];omega,λe=>?_⟩
  ·simp only[] at hk ⊢;by_cases ha:k<co.length
   ·rw[LT ha];exact hS k ha
   have kb:k=i:=by simp only[List.length_append,List.length_singleton] at hk;omega
   subst kb;rw[Mr (by omega)];simp only[gy,Nat.sub_self,List.getElem_cons_zero];exact ⟨hB.symm,hG,λe he=>by rw[gn] at he;exact (ga e he).2⟩
  simp only[] at p3 ⊢;rw[p3,gm];constructor
  ·rintro (⟨q,hq,he⟩ | he)
   ·exact ⟨q,LE _ hq,he⟩
   exact ⟨_,Nc _ (Lc.2 O),by rw[gn];exact he⟩
  rintro ⟨q,hq,he⟩;rcases Lp.1 hq with hq | hq
  ·exact .inl ⟨q,hq,he⟩
  rw[Lc.1 hq,gn] at he;exact .inr he
 rintro ⟨vc,co,va,al⟩ g7 w7 ⟨h7,gl,hZ,hf,gy,hS,k7,gm⟩;simp only[] at gl hZ hf gy hS k7 gm;have hz7:=h7.size;have ma:b1∉[b3,Z]:=by simp only[List.mem_cons,List.not_mem_nil,or_false];omega
 have hT:=k6.step h7 ma;have mu:b1∉[b3]:=by simp only[List.mem_singleton];omega
 have n43:Z∉[b3]:=by simp only[List.mem_singleton];omega
 have p5:=Qeq (l:=l) h.n (j:=90) (by omega);have q90l:=Jc h.b 90;refine Zs (l.ns.getD 90 0) λrn hrn=>?_;rw[hrn] at p5 q90l;refine Zs (rn % 3) λr hr=>?_;have hr2:r≤2:=by omega
 refine Q0 (α:=Value×List IV) [(8,9),(56,87)] (λ_=>[]) (λz w'=>Step [b3] w7 w'∧QX w'.heap b3 47 [ve,vc,z.1,Zr,Zr]∧qG w7.heap.size w' z.1 Zr z.2 []∧z.2.length=r∧∀k (hk:k<z.2.length),ItG 114 k (z.2[k]'hk)∧∀e∈(z.2[k]'hk).p.a.al,e∈al) (by rfl) ?_ ?_
 ·refine Qd<|x (Qa O)<|x (Qc hT O p5)<|x (zt (a:=(rn:Int)) (b:=3) O O (by omega) (by omega))<|x (YA (k':=.i64) O ⟨by omega,by omega⟩)<|Qb<|xe<|Qh<|QC (α:=Nat×Value×List IV) [(8,9),(60,87)] (λz=>[(60,.int .i64 z.1)])
   (λz w'=>z.1≤r∧Step [b3] w7 w'∧QX w'.heap b3 47 [ve,vc,z.2.1,Zr,Zr]∧qG w7.heap.size w' z.2.1 Zr z.2.2 []∧z.2.2.length=z.1∧∀k (hk:k<z.2.2.length),ItG 114 k (z.2.2[k]'hk)∧∀e∈(z.2.2[k]'hk).p.a.al,e∈al)
   (λz=>r - z.1) (by rfl) (0,Zr,[]) Lb
   ⟨Lm _,Step.refl _ _,gl,qG.nil,O,λk hk=>absurd hk (by simp)⟩ ?_
  rintro ⟨i,vr,rq⟩ g8 w8 ⟨hi,Y,gq,h8,ko,h5⟩;simp only[] at hi gq h8 ko h5;refine Qd<|x (QD O O)<|xe<|Qg<|QI O (λmv=>?_) (λmv=>?_)
  ·refine Qy ?_;have k9:i=r:=by have h62:¬(i:Int)<(rn:Int) % 3:=mv;omega
   exact ⟨(vr,rq),La,Y,gq,h8,by simp only[];omega,h5⟩
  have hy:i<r:=by have h62:(i:Int)<(rn:Int) % 3:=mv;omega
  have kc:=hT.step Y mu;have hB48:=hZ.step Y n43;have qs:=Qeq (l:=l) h.n (j:=0+91+i*1) (by omega);have qsl:=Jc h.b (0+91+i*1);refine Zs (l.ns.getD (0+91+i*1) 0) λm hm=>?_;rw[hm] at qs qsl;have mc:=V0 m 5;have gz:=Qbs m 5;have ga:=Qee m 5;refine Zs (setK m 5) λsk g0=>?_;rw[g0] at mc gz ga
  refine Qj<|Qg<|Qh<|Qd<|Qb<|Qf<|Qd<|Qb<|x (Qa O)<|x (ZP (i:=i) O O (by omega))<|x (Qc kc O qs)<|xl O<|xf<|(V1 m qsl _).mono ?_;rintro vs w9 ⟨H,gc⟩;rw[g0] at gc;have p0:=Y.size;have mf:=H.size;have hva8:=Qt (Qi hf.a Y (λb hb hm=>by rw[Lc.1 hm] at hb;exact QU hf.a (by omega) hb)) H;have g3:=Qm gc;have hlv:=QY hf.a
  have hD:=QkD gc (by omega) (hB48.ext H) (λhm=>by have:=(g3 Z hm).1;omega) (QW hva8 (by omega) (λb hb hbs=>by have:=(g3 b hbs).1;have:=hlv b hb;omega));refine x (ZF (l:=[]) (l':=[_]))<|xl O<|xf<|hD.mono ?_;rintro vd U ⟨hh,p6⟩;have p7:ZT (sk.filter λx=>decide (x∈al)):=List.Pairwise.filter _ gz;have hFL:=Mj (λx=>decide (x∈al)) sk
  have kq:∀e∈sk.filter λx=>decide (x∈al),e∈sk∧e∈al:=λe he=>by
   have:=LH.1 he;exact ⟨this.1,of_decide_eq_true this.2⟩
  refine Zs (sk.filter λx=>decide (x∈al)) λF hF=>?_;rw[hF] at p6 p7 hFL kq;refine Qf ?_;have ke:Step [] w8 U:=H.then hh (λb hb=>.inr (g3 b hb).1);have hz10:=ke.size;have hj:=h8.ext ke;have g1:=gq.ext ke;have mg:=kc.ext ke;have mh:QO [] U.heap vd F:=Qn.ints (L:=[]) p6 (by omega) (by simp);have n3v:b3∉ob vr:=QU hj.c (by omega)
  have n1v:b1∉ob vr:=QU hj.c (by omega);have ge:=QhU (ns:=l.ns) (o:=0+93+i*27) (by have:=h.n;omega);have g2:=Qle (o:=0+93+i*27) h.b;have mj:=λj u=>Qdc (l:=l) (o:=0+93+i*27) (m:=27) j u;refine Zs (grN l.ns (0+93+i*27)) λgr p8=>?_;have hgs2:∀j u,(bys gr)[j]?=some u→(YM l)[0+93+i*27+j]?=some u:=by rw[←p8];exact mj
  rw[p8] at ge g2;have g4:Step [] U { U with drawn:=U.drawn+1 }:=Step.drew _ _
  have g5:(48:Int)+(i:Int)=((48+i:Nat):Int):=by omega
  refine Zs (⟨#[114]⟩++⟨#[UInt8.ofNat (48+i)]⟩:ByteArray) λnm hB=>?_;refine QV (Step (ob vr) U) [(0,true),(1,true),(2,true),(3,true),(4,true),(5,true),(6,true),(7,true),(8,true),(9,true),(10,true),(11,true),(12,false),(13,true),(14,false),(15,false),(16,true),(17,false)] mixed (by rfl) (by kernel_rfl) (Step.drew _ _) ?_
  refine p (λ_=>Qa O)<|pq (λ_ hc=>Qc (g1.step hc n3v) O O)<|p (λ_=>Ql)<|p (λ_=>X1 O O ⟨by omega,by omega⟩)<|p (λ_=>YA (k':=.i32) O ⟨by omega,by omega⟩)<|p (λ_=>Qc7 (n:=48+i) (congrArg (Value.int .i32) g5) (by omega)) <|
   p (λ_=>X7 (a:=⟨#[114]⟩) (b:=⟨#[UInt8.ofNat (48+i)]⟩) O O (by show 1+1≤1000000000;omega))<|p (λ_=>Ql)<|p (λ_=>Ql)<|p (λ_=>Qa O)<|p (λ_=>ZP (i:=i) O O (by omega))<|pq (λ_ hc=>UK (us:=bys gr) (mg.step hc n1v) O (by rw[Xm];exact ge) hgs2)<|?_
  refine pk<|xf<|(zZ (mh.ext g4) (λe he=>by have:=ga e (kq e he).1;omega) p7 ge g2).mono ?_;rintro r11 hg ⟨gg,a,⟨xa,xm,hz,rfl,hA⟩,hG,gn⟩;have hC:=g4.trans gg;have p4:=hC.size;have gh:=hA [] (by simp);refine ⟨hC.any,?_⟩
  refine p (λ_=>Yv [(0,[.string nm]),(1,[xa,.int .i64 a.st,xm,hz])] ⟨congrArg (λb=>(Value.string b).cells) hB,O,O,O,La⟩)<|pk<|QL (us:=[Z5 ⟨nm,⟨xa,xm,hz,a⟩⟩]) O O (by decide) (show 1*5≤1000000 by omega) ⟨O,O,La⟩ λb14 hU V hb14 mo=>⟨(hC.trans V).any,?_⟩;have ho:=hC.trans V;have g6:=hj.ext ho
  refine pk<|QZ (news:=Z5 ⟨nm,⟨xa,xm,hz,a⟩⟩) (L:=[]) g6.c O O O (mo.at (by simp)) (QeL gh.al.one gh.mr.one gh.ed.one) (by omega) (by have:=ho.size;omega) λmq hE ka E ms=>⟨(ho.any (L:=ob vr)).trans' E,?_⟩;have mt:=g6.setC (QbZ (q:=⟨nm,⟨xa,xm,hz,a⟩⟩) (N:=U.heap.size) (λL hL=>(hA L hL).ext V) (by omega) hj.avlt) ka E ms
  refine p (λ_=>Qa O)<|pkl (hl:=by kernel_rfl)<|QH ((g1.ext ho).step E n3v) O O (by simp) (Q3 ka) λhH G hV=>pe ?_;have hge:=Qm hj.c;have hs715:Step [b3] w7 hE:=((Y.trans ke.any).trans ho.any).then E (λb hb=>.inr (hge b hb).1);refine Qx<|QN O O<|Qb<|xe ?_
  refine ⟨(i+1,mq,rq++[⟨nm,⟨xa,xm,hz,a⟩⟩]),by simp only[];omega,Lb,hy,hs715.trans' G,hV,mt.low G (λb hb=>by rw[Lc.1 hb];omega),by simp only[List.length_append,List.length_singleton];omega,λk hk=>?_⟩;simp only[] at hk ⊢;by_cases ha:k<rq.length
  ·rw[LT ha];exact h5 k ha
  have kb:k=i:=by simp only[List.length_append,List.length_singleton] at hk;omega
  subst kb;rw[Mr (by omega)];simp only[ko,Nat.sub_self,List.getElem_cons_zero];exact ⟨⟨hB.symm,hG,λe he=>by rw[gn] at he;exact (ga e (kq e he).1).2⟩,λe he=>by rw[gn] at he;exact (kq e he).2⟩
 rintro ⟨vr,rq⟩ g8 w8 ⟨Y,gq,h8,ko,h5⟩;simp only[] at gq h8 ko h5;have p0:=Y.size;have kc:=hT.step Y mu;have g147:=Qhe (l:=l) h.n 0;have hX6:Zz [b3,Z] w6.heap l.vx l.xs.length 4 (l.xs.flatMap Y1):=((h.x.up (L':=[b3,Z]) (λb hb=>.inr (by simp only[List.mem_cons,List.not_mem_nil,or_false] at hb;omega))).ext pj).ext gx
 have p9:Zz [b3] w8.heap l.vx l.xs.length 4 (l.xs.flatMap Y1):=((hX6.st h7).up (L':=[b3]) (λb hb=>.inl (by simp only[List.mem_singleton] at hb;simp[hb]))).st Y
 refine Q0 (α:=Value×List XV) [(10,14),(88,151)] (λ_=>[]) (λz w'=>Step [b3] w8 w'∧QX w'.heap b3 47 [ve,vc,vr,z.1,Zr]∧Uy ZJ 2 122 (λq=>[(q.v,q.ls.length,2,q.ls.flatMap Za)]) w8.heap.size w' z.1 z.2∧z.2.length≤2∧(z.2.map (·.nm)).Nodup∧∀q∈z.2,(∃k,k<2∧q.nm=⟨#[101]⟩++⟨#[UInt8.ofNat (48+k)]⟩)∧q.ls≠[]∧q.ls.length≤3∧Xp (co.map (·.p.a.st)) none q.ls=0) (by rfl) ?_ ?_
 ·refine Qd<|x (Qa O)<|x (Qc kc O g147)<|x (Qw p9 O)<|Qb<|xe<|Qh<|QC (α:=Nat×Value×List XV) [(10,14),(91,151)] (λz=>[(91,.int .i64 z.1)])
   (λz w'=>z.1≤l.xs.length∧z.1≤2∧Step [b3] w8 w'∧QX w'.heap b3 47 [ve,vc,vr,z.2.1,Zr]∧Uy ZJ 2 122 (λq=>[(q.v,q.ls.length,2,q.ls.flatMap Za)]) w8.heap.size w' z.2.1 z.2.2∧z.2.2.length≤z.1∧(z.2.2.map (·.nm)).Nodup∧∀q∈z.2.2,(∃k,k<z.1∧q.nm=⟨#[101]⟩++⟨#[UInt8.ofNat (48+k)]⟩)∧q.ls≠[]∧q.ls.length≤3∧Xp (co.map (·.p.a.st)) none q.ls=0)
   (λz=>l.xs.length - z.1) (by rfl) (0,Zr,[]) Lb
   ⟨Lm _,Lm _,Step.refl _ _,gq,Uy.nil,Lv _,List.Pairwise.nil,λq hq=>by cases hq⟩ ?_
  rintro ⟨i,vx,qx⟩ g9 w9 ⟨hi,hi2,H,hW,h4,kr,hX,hI⟩;simp only[] at hi hi2 hW h4 kr hX hI;have qa:(∀q∈qx,(∃k,k<2∧q.nm=⟨#[101]⟩++⟨#[UInt8.ofNat (48+k)]⟩)∧q.ls≠[]∧q.ls.length≤3∧Xp (co.map (·.p.a.st)) none q.ls=0):=λq hq=>by
   obtain ⟨⟨k,k1,k2⟩,h2⟩:=hI q hq;exact ⟨⟨k,by omega,k2⟩,h2⟩
  refine Qd<|x (QD O O)<|xe<|Qg<|QI O (λqe=>?_) (λqe=>?_)
  ·refine Qy ?_;exact ⟨(vx,qx),La,H,hW,h4,by simp only[];omega,hX,qa⟩
  have hy:i<l.xs.length:=by have h93:(i:Int)<(l.xs.length:Int):=qe;omega
  have hX9:=p9.st H;refine Qj<|Qg<|Qh<|Qd<|Qb<|xig zd hX9 O O hy λa94 ql=>?_;refine Zs (l.xs[i]'hy) λxr hxr=>?_;rw[hxr] at ql;refine x (QQ ql O (zd xr))<|xl O<|Qu (us:=[.int .u8 0,.int .u8 0,.int .u8 0,.int .u8 0]) O λqm U hh hb11 hB11=>x Qe<|xl O<|Qq (us:=Y1 xr) hB11 O O (zd xr) O (QcC xr.1) λhg gg q0=>xe ?_;have h0:Step [] w9 hg:=hh.then1 gg hb11
  refine Qg<|Qd<|Qb<|x (Zf O O)<|xe<|Zc O (λq1=>?_) (λq1=>?_)
  ·refine Qy ?_;exact ⟨(vx,qx),La,H.trans h0.any,hW.ext h0,h4.ext h0,by simp only[];omega,hX,qa⟩
  have hi3:i<2:=by have h98:¬(i:Int)=2:=q1;omega
  have g5:(48:Int)+(i:Int)=((48+i:Nat):Int):=by omega
  have p4:=h0.size;have hl11:=q0.lt;refine Zs (⟨#[101]⟩++⟨#[UInt8.ofNat (48+i)]⟩:ByteArray) λnm hB=>?_;refine Qj<|Qd<|Qb<|QN O O<|x (YA (k':=.i32) O ⟨by omega,by omega⟩)<|x (Qc7 (n:=48+i) (congrArg (Value.int .i32) g5) (by omega))<|x (X7 (a:=⟨#[101]⟩) (b:=⟨#[UInt8.ofNat (48+i)]⟩) O O (by show 1+1≤1000000000;omega))<|x (QG Lb) <|
   xl rfl<|Qu (us:=[.string .empty,Zr]) O λhJ hU V q2 gv=>xl O<|Qq (us:=[.string nm,Zr]) gv O (show Go.Lg.ev _ _=_ from congrArg (λs=>Value.agg #[.string s,Zr]) hB) O O ⟨O,O,La⟩ λhK hM hB1213=>xe ?_
  have kt:Step [] hg hK:=V.then1 hM q2;have ku:=h0.trans kt;have hz1113:=kt.size;have hz913:=ku.size;have mf:=H.size;have hgeC:=Qm hf.c;have hltC:=QY hf.c;have nc3:b3∉ob vc:=QU hf.c (by omega);have q3:∀b∈ob vc,b∉[b3]:=λb hb hm=>by rw[Lc.1 hm] at hb;exact nc3 hb
  have hC13:=Qt (Qi (Qi hf.c Y q3) H q3) ku;have mw:=hW.ext ku;have hB1113:=q0.ext kt;have hl12:=gv.lt;have q4:b3∉[hJ]:=by simp only[List.mem_singleton];omega
  have n1112:qm∉[hJ]:=by simp only[List.mem_singleton];omega
  have j1:=QW (L:=[hJ]) hC13 (by omega) (λb hb hm=>by rw[Lc.1 hm] at hb;have:=hltC hJ hb;omega)
  refine Q0 (α:=Value×List (Int×Int)) [(13,14),(104,140)] (λ_=>[]) (λz w'=>Step [hJ] hK w'∧QX w'.heap hJ 122 [.string nm,z.1]∧w'.ownsRow hK.heap.size 124 2 z.1 z.2.length (z.2.flatMap Za)∧z.2.length≤co.length∧z.2.Pairwise (λp q=>p.1<q.1)∧∀p∈z.2,0≤p.1∧p.1<(co.length:Int)∧0≤p.2∧p.2<cget (co.map (·.p.a.st)) p.1.toNat) (by rfl) ?_ ?_
  ·refine Qd<|x (Qa O)<|x (Qc mw O O)<|x (Qw j1 O)<|Qb<|xe<|Qh<|QC (α:=Nat×Value×List (Int×Int)) [(13,14),(107,140)] (λz=>[(107,.int .i64 z.1)])
    (λz w'=>z.1≤co.length∧Step [hJ] hK w'∧QX w'.heap hJ 122 [.string nm,z.2.1]∧w'.ownsRow hK.heap.size 124 2 z.2.1 z.2.2.length (z.2.2.flatMap Za)∧z.2.2.length≤z.1∧z.2.2.Pairwise (λp q=>p.1<q.1)∧∀p∈z.2.2,0≤p.1∧p.1<(z.1:Int)∧0≤p.2∧p.2<cget (co.map (·.p.a.st)) p.1.toNat)
    (λz=>co.length - z.1) (by rfl) (0,Zr,[]) Lb
    ⟨Lm _,Step.refl _ _,hB1213,QR _ _ _ _,Lv _,List.Pairwise.nil,λp hp=>by cases hp⟩ ?_
   rintro ⟨k,vl,ls⟩ g14 h6 ⟨hk,J,hN,S,my,gi,hO⟩;simp only[] at hk hN S my gi hO;refine Qd<|x (QD O O)<|xe<|Qg<|QI O (λmz=>?_) (λmz=>?_)
   ·refine Qy ?_;have kb:k=co.length:=by have h109:¬(k:Int)<(co.length:Int):=mz;omega
    rw[kb] at hO;exact ⟨(vl,ls),La,J,hN,S,by simp only[];omega,gi,hO⟩
   have ha:k<co.length:=by have h109:(k:Int)<(co.length:Int):=mz;omega
   have hAC14:=j1.st J;have hY:=mw.step J q4;have j2:=hB1113.step J n1112;refine Qj<|Qg<|Qh<|Qd<|Qb<|Qf<|Qd<|x (Qa O)<|x (Qc hY O O)<|Qb<|xig US hAC14 O O ha λa113 za=>?_;refine Zs (co[k]'ha) λq hq=>?_;rw[hq] at za;refine x (Zn O)<|x (Zn O)<|x (Qv ((za.from 1).fld 1 (.int .i64 q.p.a.st) O) O)<|Qf ?_;have m0:=(hS k ha).g;rw[hq] at m0;have hqp:=m0.p
   have hqs:=m0.s;have m2:=U3 (ns:=xr.1) (j:=0+k*1) (by rw[xr.2.1];omega);have qx0l:=Jc xr.2.2 (0+k*1);refine Zs (xr.1.getD (0+k*1) 0) λxk hxk=>?_;rw[hxk] at m2 qx0l;have hmod:0≤(xk:Int) % (q.p.a.st+2):=Int.emod_nonneg _ (by omega)
   refine Qd<|Qb<|x (ZP (i:=k) O O (by omega))<|x (Qc j2 O m2)<|x (YA (k':=.i64) O ⟨by omega,by omega⟩)<|Qb<|QN O O<|x (zt (a:=(xk:Int)) (b:=q.p.a.st+2) O O (by omega) (by omega))<|Qb<|x (QD O O)<|xe ?_;have hgeL:=Qm S;have zb:=J.size;have z0:=hM.size;have z1:hJ∉ob vl:=QU S (by omega);have hn11v:qm∉ob vl:=QU S (by omega)
   have hcget:cget (co.map (·.p.a.st)) k=q.p.a.st:=by
    unfold cget;simp[List.getD,List.getElem?_map,List.getElem?_eq_getElem ha,hq]
   refine QI O (λz2=>?_) (λz2=>?_)
   ·refine Qj<|Qx<|QN O O<|Qb<|xe ?_;exact ⟨(k+1,vl,ls),by simp only[];omega,Lb,ha,J,hN,S,by simp only[];omega,gi,λp hp=>by have:=hO p hp;simp only[];omega⟩
   have h126:(xk:Int) % (q.p.a.st+2)<q.p.a.st:=z2;have hd14:Step [] h6 { h6 with drawn:=h6.drawn+1 }:=Step.drew _ _
   refine Zs ((xk:Int) % (q.p.a.st+2)) λst hst=>?_;refine QV (Step (ob vl) h6) [(0,true),(1,true),(2,true),(3,true),(4,true),(5,true),(6,true),(7,true),(8,true),(9,true),(10,true),(11,false),(12,false),(13,true),(14,false)] mixed (by rfl) (by kernel_rfl) (Step.drew _ _) ?_
   refine p (λ_=>Qa O)<|pq (λ_ hc=>Qc (hN.step hc z1) O O)<|p (λ_=>Ql)<|p (λ_=>Ql)<|p (λ_=>ZP (i:=k) O O (by omega))<|pq (λ_ hc=>Qc (j2.step hc hn11v) O m2)<|p (λ_=>YA (k':=.i64) O ⟨by omega,by omega⟩)<|p (λ_=>Ql)<|p (λ_=>X1 O O ⟨by omega,by omega⟩) <|
    p (λ_=>zt (a:=(xk:Int)) (b:=q.p.a.st+2) O O (by omega) (by omega))<|p (λ_=>QG ⟨O,O,La⟩)<|pk<|QL (us:=[Za ((k:Int),(xk:Int) % (q.p.a.st+2))]) O O (by decide) (show 1*2≤1000000 by omega) ⟨O,O,La⟩ λb137 hE E hb137 hB137=>?_
   have gs:=hd14.trans E;have hz1415:=gs.size;refine ⟨gs.any,?_⟩;refine pk<|QZ (news:=Za ((k:Int),(xk:Int) % (q.p.a.st+2))) (L:=[]) (Qt S gs) O O O (hB137.at (by simp)) (Qes _) (by omega) (by omega) λkv hH gt G z3=>⟨(gs.any (L:=ob vl)).trans' G,?_⟩;have hge16:∀b∈ob kv,hK.heap.size≤b:=λb hb=>(Qm gt b hb).1
   refine p (λ_=>Qa O)<|pkl (hl:=by kernel_rfl)<|QH ((hN.ext gs).step G z1) O O (by simp) (Q3 gt) λm3 hv hT=>pe ?_;refine Qx<|QN O O<|Qb<|xe ?_
   refine ⟨(k+1,kv,ls++[((k:Int),(xk:Int) % (q.p.a.st+2))]),by simp only[];omega,Lb,ha,((J.trans gs.any).then G (λb hb=>.inr (hgeL b hb).1)).trans' hv,hT,?_,by simp only[List.length_append,List.length_singleton];omega,?_,λp hp=>?_⟩
   ·have h9:=Qi gt hv (λb hb=>by have:=hge16 b hb;simp only[List.mem_singleton];omega);simp only[List.length_append,List.flatMap_append];simpa using h9
   ·simp only[];rw[Mu];exact ⟨gi,ND _ _,λp hp p' m4=>by rw[Lc.1 m4];have:=hO p hp;simp only[];omega⟩
   simp only[] at hp ⊢;rcases Lp.1 hp with hp | hp
   ·have:=hO p hp;omega
   rw[Lc.1 hp];simp only[Int.toNat_natCast];rw[hcget];omega
  rintro ⟨vl,ls⟩ g14 h6 ⟨J,hN,S,my,gi,hO⟩;simp only[] at hN S my gi hO;have zb:=J.size;have z0:=hM.size;have hP:Step [] w9 h6:=ku.then1 J (by omega);have hY:=mw.step J q4;have kw:=h4.ext hP;refine Qd<|x (Qa O)<|x (Qc hN O O)<|x (Qw (QW (L:=[]) S (by omega) (by simp)) rfl)<|x (ZL rfl rfl)<|xe<|QI O (λz4=>?_) (λz4=>?_)
  ·refine Qj<|Qx<|QN O O<|Qb<|xe<|⟨(i+1,vx,qx),by simp only[];omega,Lb,hy,by simp only[];omega,H.trans hP.any,hY,kw,by simp only[];omega,hX,λq hq=>?_⟩;obtain ⟨⟨k,k1,k2⟩,h2⟩:=hI q hq;exact ⟨⟨k,by simp only[];omega,k2⟩,h2⟩
  have z5:(0:Int)<(ls.length:Int):=z4;have hxx:=Q3 S;refine Qx<|x (Qa O)<|x (Qc hY O O)<|x (Qo hN O O)<|xl O<|QL (us:=[ZJ ⟨nm,vl,ls⟩]) O O (by decide) (show 1*2≤1000000 by omega) ⟨O,O,La⟩ λb148 hE E hb148 hB148=>?_
  refine xl O<|QZ (news:=ZJ ⟨nm,vl,ls⟩) (L:=[]) (Qt kw.own E) O O O (hB148.at (by simp)) (QdZ hxx) (by omega) (by have:=hP.size;have:=E.size;omega) λkv hH gt G z3=>?_;have hs1115:Step [] hg hE:=(kt.then1 J q2).trans E
  have hM16:=(h4.ext h0).app hs1115 (q:=⟨nm,vl,ls⟩) (λt ht=>by rw[Lc.1 ht];exact ⟨hK.heap.size,124,Qt S E,by show ls.length≤_;omega,hz1113⟩) (by omega) gt G z3;have hgeX:=Qm kw.own;have n3x:b3∉ob vx:=QU kw.own (by omega);refine x (Qa O)<|xl O<|QH ((hY.ext E).step G n3x) O O (by simp) (Q3 gt) λm3 hv hB317=>xe ?_;refine Qx<|QN O O<|Qb<|xe ?_
  have kx:Step [b3] w8 hH:=((H.trans hP.any).trans E.any).then G (λb hb=>.inr (hgeX b hb).1);refine ⟨(i+1,kv,qx++[⟨nm,vl,ls⟩]),by simp only[];omega,Lb,hy,by simp only[];omega,kx.trans' hv,hB317,hM16.low hv (λb hb=>by rw[Lc.1 hb];omega),by simp only[List.length_append,List.length_singleton];omega,?_,λq hq=>?_⟩
  ·simp only[List.map_append,List.map_cons,List.map_nil];rw[M7];refine ⟨hX,by simp,λs hs s' hs' e=>?_⟩;obtain ⟨q,hq,rfl⟩:=Lz.1 hs;obtain ⟨⟨k,k1,k2⟩,_⟩:=hI q hq;have hk0:k=0:=by omega
   have hi1:i=1:=by omega
   rw[Lc.1 hs',k2,←hB,hk0,hi1] at e;exact absurd e (by decide)
  rcases Lp.1 hq with hq | hq
  ·obtain ⟨⟨k,k1,k2⟩,h2⟩:=hI q hq;exact ⟨⟨k,by simp only[];omega,k2⟩,h2⟩
  rw[Lc.1 hq];refine ⟨⟨i,Nat.lt_succ_self _,hB.symm⟩,λe=>by rw[show ls=[] from e] at z5;exact absurd z5 (by decide),by show ls.length≤3;omega,Qe7 ls none (λb hb=>by cases hb) gi (λp hp=>?_)⟩;rw[Lo];exact hO p hp
 rintro ⟨vx,qx⟩ g9 w9 ⟨H,hW,h4,kr,hX,hI⟩;simp only[] at hW h4 kr hX hI;have mf:=H.size;have z6:=kc.step H mu;have g151:=Qhe (l:=l) h.n 4;have hbd:=h.bd;have hbdb:=Qd3 l.bd (b:=8) (by decide);refine Zs (l.bd.tmod 8) λbd z9=>?_;rw[z9] at hbdb;have hbd8:-7≤bd∧bd≤7:=by omega
 refine Qd<|x (Qa O)<|x (Qc z6 O g151)<|x (YA (k':=.i64) O ⟨by omega,by omega⟩)<|x (Qg4 O O (by decide))<|x (QG ⟨O,O,La⟩)<|xl O<|Qu (us:=[.string .empty,Zr,.int .i64 0]) O λb15 U hh m5 m6 =>
  xl rfl<|Qq (us:=[.string ⟨#[107]⟩,Zr,.int .i64 bd]) m6 O (show Go.Lg.ev _ _=_ from congrArg (λn=>Value.agg #[.string ⟨#[107]⟩,Zr,.int .i64 n]) z9) O O ⟨O,O,O,La⟩ λhg gg hB1511=>xe ?_
 have h0:Step [] w9 hg:=hh.then1 gg m5;have hz911:=h0.size;have hB111:=z6.ext h0;have hB311:=hW.ext h0;have n115:b1∉[b15]:=by simp only[List.mem_singleton];omega
 have n315:b3∉[b15]:=by simp only[List.mem_singleton];omega
 have hl15:=hB1511.lt;refine Q0 (α:=Value×List (Int×Int)) [(16,16),(157,179)] (λ_=>[]) (λz w'=>Step [b15] hg w'∧QX w'.heap b15 127 [.string ⟨#[107]⟩,z.1,.int .i64 bd]∧w'.ownsRow hg.heap.size 129 2 z.1 z.2.length (z.2.flatMap Za)∧z.2.length≤n∧z.2.Pairwise (λp q=>p.1<q.1)∧∀p∈z.2,0≤p.1∧p.1<(n:Int)∧-4<p.2∧p.2<4) (by rfl) ?_ ?_
 ·refine Qd<|Qb<|Qb<|xe<|Qh<|QC (α:=Nat×Value×List (Int×Int)) [(16,16),(158,179)] (λz=>[(158,.int .i64 z.1)])
   (λz w'=>z.1≤n∧Step [b15] hg w'∧QX w'.heap b15 127 [.string ⟨#[107]⟩,z.2.1,.int .i64 bd]∧w'.ownsRow hg.heap.size 129 2 z.2.1 z.2.2.length (z.2.2.flatMap Za)∧z.2.2.length≤z.1∧z.2.2.Pairwise (λp q=>p.1<q.1)∧∀p∈z.2.2,0≤p.1∧p.1<(z.1:Int)∧-4<p.2∧p.2<4)
   (λz=>n - z.1) (by rfl) (0,Zr,[]) Lb
   ⟨Lm _,Step.refl _ _,hB1511,QR _ _ _ _,Lv _,List.Pairwise.nil,λp hp=>by cases hp⟩ ?_
  rintro ⟨i,vt,ts⟩ g12 hU ⟨hi,V,hQ,hw,kf,gj,hR⟩;simp only[] at hi hQ hw kf gj hR;refine Qd<|x (QD O O)<|xe<|Qg<|QI O (λm7=>?_) (λm7=>?_)
  ·refine Qy ?_;have k9:i=n:=by have h160:¬(i:Int)<1+(cn:Int) % 3:=m7;omega
   rw[k9] at kf hR;exact ⟨(vt,ts),La,V,hQ,hw,kf,gj,hR⟩
  have hy:i<n:=by have h160:(i:Int)<1+(cn:Int) % 3:=m7;omega
  have hB112:=hB111.step V n115;have qf:=Qnh (l:=l) h.n (i:=i) (by omega);have qfb:=Qng h i (by omega);refine Zs (flk l i) λfk hfk=>?_;rw[hfk] at qf qfb;refine Qj<|Qg<|Qh<|Qd<|Qb<|Qf<|Qd<|Qb<|x (Qa O)<|x (ZP (i:=i) O O (by omega))<|x (Qc hB112 O qf)<|x (Zj O O)<|xe<|QI O (λh165=>?_) (λh165=>?_)
  ·refine Qj<|Qx<|QN O O<|Qb<|xe ?_;exact ⟨(i+1,vt,ts),by simp only[];omega,Lb,hy,V,hQ,hw,by simp only[];omega,gj,λp hp=>by have:=hR p hp;simp only[];omega⟩
  have hmd:=Qd3 fk (b:=4) (by decide);have hd12:Step [] hU { hU with drawn:=hU.drawn+1 }:=Step.drew _ _
  have hz12:=V.size;have hgeT:=Qm hw;have hn15v:b15∉ob vt:=QU hw (by omega);have hn1v:b1∉ob vt:=QU hw (by omega);refine QV (Step (ob vt) hU) [(0,true),(1,true),(2,true),(3,true),(4,true),(5,true),(6,true),(7,true),(8,true),(9,true),(10,false),(11,false),(12,true),(13,false)] mixed (by rfl) (by kernel_rfl) (Step.drew _ _) ?_
  refine p (λ_=>Qa O)<|pq (λ_ hc=>Qc (hQ.step hc hn15v) O O)<|p (λ_=>Ql)<|p (λ_=>Ql)<|p (λ_=>Qa O)<|p (λ_=>ZP (i:=i) O O (by omega))<|pq (λ_ hc=>Qc (hB112.step hc hn1v) O qf)<|p (λ_=>YA (k':=.i64) O ⟨by omega,by omega⟩) <|
   p (λ_=>Qg4 O O (by decide))<|p (λ_=>QG ⟨O,O,La⟩)<|pk<|QL (us:=[Za ((i:Int),fk.tmod 4)]) O O (by decide) (show 1*2≤1000000 by omega) ⟨O,O,La⟩ λb176 hK hM hb176 hB176=>?_
  have gu:=hd12.trans hM;have hz1213:=gu.size;refine ⟨gu.any,?_⟩;refine pk<|QZ (news:=Za ((i:Int),fk.tmod 4)) (L:=[]) (Qt hw gu) O O O (hB176.at (by simp)) (Qes _) (by omega) (by omega) λv14 h6 S J hn14=>⟨(gu.any (L:=ob vt)).trans' J,?_⟩;have hge14:∀b∈ob v14,hg.heap.size≤b:=λb hb=>(Qm S b hb).1
  refine p (λ_=>Qa O)<|pkl (hl:=by kernel_rfl)<|QH ((hQ.ext gu).step J hn15v) O O (by simp) (Q3 S) λhE E m6=>pe ?_;refine Qx<|QN O O<|Qb<|xe<|⟨(i+1,v14,ts++[((i:Int),fk.tmod 4)]),by simp only[];omega,Lb,hy,((V.trans gu.any).then J (λb hb=>.inr (hgeT b hb).1)).trans' E,m6,?_,by simp only[List.length_append,List.length_singleton];omega,?_,λp hp=>?_⟩
  ·have h9:=Qi S E (λb hb=>by have:=hge14 b hb;simp only[List.mem_singleton];omega);simp only[List.length_append,List.flatMap_append];simpa using h9
  ·simp only[];rw[Mu];exact ⟨gj,ND _ _,λp hp p' m4=>by rw[Lc.1 m4];have:=hR p hp;simp only[];omega⟩
  simp only[] at hp ⊢;rcases Lp.1 hp with hp | hp
  ·have:=hR p hp;omega
  rw[Lc.1 hp];simp only[];omega
 rintro ⟨vt,ts⟩ g12 hU ⟨V,hQ,hw,kf,gj,hR⟩;simp only[] at hQ hw kf gj hR;have hz12:=V.size;have hgT:=Qm hw;refine Qd<|x (Qa O)<|x (Qc hQ O O)<|xl O<|xf<|(QkC hw (by omega)).mono ?_;rintro vu hK ⟨hM,kz⟩;have hup:(nzT ts).Pairwise (λp q=>p.1<q.1):=List.Pairwise.filter _ gj;have hul:=Mj (λp:Int×Int=>!decide (p.2=0)) ts
 have hub:∀p∈nzT ts,0≤p.1∧p.1<(n:Int)∧p.2≠0∧-65536≤p.2∧p.2≤65536:=λp hp=>by
  have h1:=LH.1 hp;have h2:=hR p h1.1;have h3:¬p.2=0:=by simpa using h1.2
  omega
 refine Zs (nzT ts) λus hus=>?_;have hul':us.length≤3:=by rw[←hus];exact L5 hul (by omega)
 rw[hus] at kz hup hub;have n15t:b15∉ob vt:=QU hw (by omega);refine x (Qa O)<|xl O<|QH (hQ.step hM n15t) O O (by simp) (Q3 kz) λh6 J hB1514=>xe ?_;have hP:Step [] w9 h6:=(((h0.then1 V m5).then hM (λb hb=>.inr (by have:=(hgT b hb).1;omega)))).then1 J m5;have hz914:=hP.size;have z0:=hM.size;have zb:=J.size;have hgU:=Qm kz
 have S:=Qi kz J (λb hb=>by have:=(hgU b hb).1;simp only[List.mem_singleton];omega);have hY:=hW.ext hP;refine Q0 (α:=Value×List KV) [(184,190)] (λ_=>[]) (λz w'=>Step [b3] h6 w'∧QX w'.heap b3 47 [ve,vc,vr,vx,z.1]∧z.2.length≤1∧(∀q∈z.2,q.nm=⟨#[107]⟩∧Xq (co.map (·.p.a.st)) q.k=0)∧∀L:LN,(∀b∈L,b<w6.heap.size)→yP L w'.heap z.1 z.2) (by rfl) ?_ ?_
 ·refine Qd<|x (Qa O)<|x (Qc hB1514 O O)<|x (Qw (QW (L:=[]) S (by omega) (by simp)) rfl)<|x (ZL rfl rfl)<|xe<|QI O (λh187=>?_) (λh187=>?_)
  ·refine Qj ?_;exact ⟨(Zr,[]),La,Step.refl _ _,hY,by decide,λq hq=>(by cases hq),λL _=>⟨Zz.nil _ _ 3,λq hq=>(by cases hq),λq hq=>(by cases hq)⟩⟩
  have h188:(0:Int)<(us.length:Int):=h187;have huo:=Q3 S;refine Qx<|x (Qo hB1514 O O)<|xl O<|QL (us:=[ZV ⟨⟨#[107]⟩,vu,us,bd⟩]) O O (by decide) (show 1*3≤1000000 by omega) ⟨O,O,La⟩ λb189 hE E hb189 hB189=>?_;have hz15:=E.size;refine x (Qa O)<|xl O<|QH (hY.ext E) O O (by simp) rfl λhH G hV=>xe ?_
  refine ⟨(_,[⟨⟨#[107]⟩,vu,us,bd⟩]),La,E.any.trans' G,hV,Lv _,λq hq=>?_,λL hL=>?_⟩
  ·rw[Lc.1 hq];refine ⟨rfl,?_⟩;have hgr0:grt bd=false:=by unfold grt;rw[decide_eq_false (by omega),decide_eq_false (by omega)];rfl
   have hct:=Qe5 (sz:=co.map (·.p.a.st)) us none (λb hb=>by cases hb) hup (λp hp=>by rw[Lo,gy];exact hub p hp);show Xq _ ⟨_,us,bd⟩=0;unfold Xq;rw[if_neg (by simp only[];omega),if_neg (by rw[hct];decide),if_neg (by simp only[];rw[hgr0];decide)]
  have k0:∀b∈b3::L,b<hg.heap.size:=λb hb=>by
   rcases Li.1 hb with rfl | hb
   ·omega
   have:=hL b hb;omega
  have h1:yP (b3::L) hE.heap (.slice (some ⟨b189,0,none⟩) 1 1) [⟨⟨#[107]⟩,vu,us,bd⟩]:=by
   refine ⟨hB189.arr (λhb=>by have:=k0 _ hb;omega) O (by decide) (Lv _),λq hq=>?_,λq hq=>?_⟩
   ·rw[Lc.1 hq];exact (QW (L:=b3::L) S (by omega) (λb hb kg=>by have:=(hgU b hb).1;have:=k0 b kg;omega)).ext E
   rw[Lc.1 hq];exact jy (by decide)
  exact (h1.st (G.mono (by simp))).up (λb hb=>.inl (Le _ hb))
 rintro ⟨vk,ks⟩ g16 hH ⟨G,hV,ha,hgk,m8⟩;simp only[] at hV ha hgk m8;have hz16:=G.size;have hge3:=Qm gk;have hlt3:=QY gk;have kx:Step [b3] w8 hH:=(H.trans hP.any).trans' G;have hs716:Step [b3] w7 hH:=Y.trans' kx;have m9:Step [b3,Z] w6 hH:=h7.trans' (hs716.mono (by simp));have pa:∀b∈[b3],b<w6.heap.size:=λb hb=>by rw[Lc.1 hb];omega
 have hE16:=Qi (Qt gk pz) m9 (λb hb hm=>by have:=hlt3 b hb;simp only[List.mem_cons,List.not_mem_nil,or_false] at hm;omega);have hC16:=hf.low hs716 pa;have hR16:=h8.low kx (λb hb=>by have:=pa b hb;omega);have hX16:=(h4.ext hP).low G (λb hb=>by have:=pa b hb;omega);have n23:b2∉[b3]:=by simp only[List.mem_singleton];omega
 have n234:b2∉[b3,Z]:=by simp only[List.mem_cons,List.not_mem_nil,or_false];omega
 have hB216:=(ph.ext gx).step m9 n234;refine Qd<|x (Qo hV O O)<|xl O<|Qq (us:=[ve,vc,vr,vx,vk]) hB216 O O O O ⟨Q3 hE16,Q3 hC16.c,Q3 hR16.c,Q3 hX16.own,(m8 [] (by simp)).arr.one,La⟩ λm3 hv hB217=>xe ?_;have pc:∀b∈[b2],b<w6.heap.size:=λb hb=>by rw[Lc.1 hb];omega
 have lo2':∀b∈[b2],b<w2.heap.size:=λb hb=>by rw[Lc.1 hb];omega
 have hE17:=Qi hE16 hv (λb hb hm=>by have:=(hge3 b hb).1;have:=lo2' b hm;omega);have hC17:=hC16.low hv pc;have hR17:=hR16.low hv (λb hb=>by have:=pc b hb;omega);have pd:=hX16.low hv (λb hb=>by have:=pc b hb;omega);have hs017:Step [] w m3:=((pj.trans gx).then m9 (λb hb=>.inr (by simp only[List.mem_cons,List.not_mem_nil,or_false] at hb;omega))).then1 hv (by omega)
 have hcon:∀q∈co,nmB q.nm:=λq hq=>by
  obtain ⟨k,hk,rfl⟩:=LO hq;rw[(hS k hk).nm];exact UP 99 k
 have hrqn:∀q∈rq,nmB q.nm:=λq hq=>by
  obtain ⟨k,hk,rfl⟩:=LO hq;rw[(h5 k hk).1.nm];exact UP 114 k
 have hxnm:∀q∈qx,nmB q.nm:=λq hq=>by
  obtain ⟨⟨k,_,k2⟩,_⟩:=hI q hq;rw[k2];exact UP 101 k
 have hevn:∀e∈ev,nmB e.nm:=λe he=>Qig _ e (by rw[kj];exact he);have hevl:ev.length=5:=by rw[←kj];exact J8 _ _
 refine Qs ⟨[.agg [ve,vc,vr,vx,vk].toArray],⟨⟨_,O,QF O (hB217.at (L:=[]) (by simp)).cells⟩,La⟩,hs017,⟨ev,co.map IV.it,rq.map IV.it,qx.map XV.x,ks.map KV.k⟩,⟨⟨ve,vc,vr,vx,vk,ev,co,rq,qx,ks⟩,rfl,rfl,λL hL=>?_⟩,?_⟩
 ·have k0:∀b∈L,b<w2.heap.size:=λb hb=>by have:=hL b hb;omega
  have hLn:b2∉L:=λhm=>by have:=hL b2 hm;omega
  have kh:∀b∈b2::L,b<w6.heap.size:=λb hb=>by
   rcases Li.1 hb with rfl | hb
   ·omega
   have:=hL b hb;omega
  refine ⟨⟨QW hE17 (by show ev.length≤_;omega) (λb hb kg=>by have:=(hge3 b hb).1;have:=k0 b kg;omega),hevn⟩,hC17.itms (by omega) hcon (λb hb=>by have:=kh b (Le _ hb);omega),hR17.itms (by omega) hrqn (λb hb=>by have:=kh b (Le _ hb);omega),⟨QW pd.own (by show qx.length≤_;omega) (λb hb kg=>by have:=(Qm pd.own b hb).1;have:=kh b (Le _ kg);omega),λq hq=>?_,hxnm⟩,?_⟩
  ·exact pd.each q hq _ (Lc.2 O) L (λb hb=>.inl (by have:=kh b (Le _ hb);omega))
  exact ((m8 (b2::L) kh).st (hv.mono (by simp))).up (λb hb=>.inl (Le _ hb))
 rw[←kj];exact Qmv k4 (by omega) (by omega) hS gm (by omega) h5 kr hX hI ha hgk
section
variable {base:Nat} {w w':World} {vc va vc' va':Value} {co:List IV} {al:List q9}
end
end Go.Proofs.YtdffckgdcegpaaaGreatDoor
namespace Go.Lg
section
variable {P:Program} {f:Fr} {w:World} {d:Option Nat} {ty:Nat} {ps:String} {af:Array Edge} {gd:Option (Nat×Bool)}
abbrev i4 (p:Int×Int×Int×Int):LV:=[.int .i64 p.1,.int .i64 p.2.1,.int .i64 p.2.2.1,.int .i64 p.2.2.2]
end
end Go.Lg
namespace Go.Proofs.YtdffckgdcegpaaaGreatDoor
open Go.Lg
def enc (u:LI):Int:=u.foldl (λn e=>n*33+(e+1)) 0
def rn (a:QE) (x:Int) (u:LI):Int:=u.foldl (λs v=>nxt a.ed s v) x
def x0 (a:QE):Int:=if 0<a.st then 0 else -1
end Go.Proofs.YtdffckgdcegpaaaGreatDoor
namespace Go.Lg
section
variable {P:Program} {ops:List Oper} {K:Fr→World→Prop} {f:Fr} {w:World} {d:Option Nat} {ty:Nat} {ps:String} {af:Array Edge} {gd:Option (Nat×Bool)}
end
section
variable {P:Program} {ops:List Oper} {K:Fr→World→Prop} {f:Fr} {w:World} {d:Option Nat} {ty:Nat} {ps:String} {af:Array Edge} {gd:Option (Nat×Bool)} {C:World→Prop} {pl:List (Nat×Bool)} {i0:Nat}
end
end Go.Lg
namespace Go.Proofs.YtdffckgdcegpaaaGreatDoor
open Go.Lg
end Go.Proofs.YtdffckgdcegpaaaGreatDoor
namespace Go.Lg
end Go.Lg
namespace Go.Proofs.YtdffckgdcegpaaaGreatDoor
open Go.Lg
end Go.Proofs.YtdffckgdcegpaaaGreatDoor
