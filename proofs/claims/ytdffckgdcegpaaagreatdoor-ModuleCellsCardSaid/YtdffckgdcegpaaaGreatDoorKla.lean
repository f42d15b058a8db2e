/- Merged out of 20 texts. -/
import Derived.Orders
import Derived.Below
import Derived.WalkKit
import Derived.Laws.AppendOwn
import Derived.Laws.Rows
import Derived.Laws.Tables
import Derived.Great.BuildSlice
import Derived.Deep.OwnRows
import Derived.MapKept
import Derived.Test.YtdffckgdcegpaaaGreatDoorProg
import Derived.Shelf.Strings.Builder1
import Derived.Shelf.Small.Bits
import Derived.Shelf.Strings.BuilderF
import Derived.Shelf.Strings.BuilderK
import Derived.Shelf.Strconv.Itoa0
import Derived.Shelf.Strconv.Itoa1
import Derived.Shelf.LaysM
import Derived.Shelf.Strconv.Itoa2
import Derived.Shelf.Strconv.Itoa3
import Derived.Shelf.Strings.BuilderCap
import Derived.Ground.SlsfProg
import Derived.Shelf.SlSortCmp.Insertion
import Derived.Shelf.SlSortCmp.SiftDown1
import Derived.Shelf.SlSortCmp.HeapSort1
import Derived.Shelf.SlSortCmp.Insertion1
import Derived.Shelf.SlSortCmp.Median1
import Derived.Shelf.SlSortCmp.Pivot1
import Derived.Shelf.SlSortCmp.ReverseRange1
import Derived.Shelf.SlSortCmp.PartitionEqual1
import Derived.Lib.Builder
import Derived.Laws.Externs
namespace Go
abbrev nS:Value:=.slice none 0 0
abbrev LI:=List Int
abbrev LN:=List Nat
abbrev LV:=List Value
end Go
namespace Go.Lg
open Go.RowKit
abbrev Fr:=Nat→Value
def upd (f:Fr) (d:Nat) (v:Value):Fr:=λt=>bif Nat.beq t d then v else f t
def ev (f:Fr):Operand→Value
 | .tmp t=>f t
 | .const v=>v
 | .global g=>.pointer (some ⟨g,0,none⟩)
 | .func g=>.func (.func g) #[] #[]
def QY (f:Fr):Option Nat→Value→Fr
 | some d,v=>upd f d v
 | none,_=>f
structure yn (n:Nat) (a:Act) (f:Fr):Prop where
 size:a.tmps.size=n
 defers:a.defers=[]
 get:∀t,a.tmps.getD t undef=f t
theorem Yt (f:Fr) (d:Nat) (v:Value):upd f d v d=v:=by simp[upd]
theorem XQ (f:Fr) {d t:Nat}(v:Value) (h:t≠d):upd f d v t=f t:=by
 have:Nat.beq t d=false:=by
  cases e:Nat.beq t d with
  | false=>rfl
  | true=>exact absurd (Nat.eq_of_beq_eq_true e) h
 simp[upd,this]
theorem yn.eval {n:Nat}{a:Act}{f:Fr}(h:yn n a f):a.eval=ev f:=by
 funext x;cases x with
 | tmp t=>exact h.get t
 | _=>rfl
theorem yn.put {n:Nat}{a:Act}{f:Fr}(h:yn n a f) {dst:Option Nat}(hd:∀d,dst=some d→d<n) (v:Value):yn n (a.put dst v) (QY f dst v):=by
 cases dst with
 | none=>exact h
 | some d =>
  have hlt:d<a.tmps.size:=by rw[h.size];exact hd d rfl
  refine ⟨by simp[Act.put,h.size],h.defers,λt=>?_⟩
  by_cases e:t=d
  ·subst e;rw[QY,Yt];simp[Act.put,hlt]
  ·rw[QY,XQ _ _ e,←h.get t]
   simp[Act.put,Array.getElem?_setIfInBounds_ne (Ne.symm e)]
def ZF (l:List Oper) (t:Nat):Bool:=l.any λo=>match o.dst with | some d=>Nat.beq d t | none=>false
def wrs:Code→Nat→Bool
 | .region _ ops _,t=>ZF ops.toList t
 | .seq a b,t=>wrs a t || wrs b t
 | .cond _ a b,t=>wrs a t || wrs b t
 | .block _ a,t=>wrs a t
 | .loop a,t=>wrs a t
 | .skip,_ | .exit _,_ | .label _,_ | .goto _,_ | .ret,_=>false
 | _,_=>true
def Xj (D:List (Nat×Nat)) (t:Nat):Bool:=match D with
 | []=>false
 | (lo,hi)::D=>bif (Nat.ble lo t && Nat.ble t hi) then true else Xj D t
def inD (D:List (Nat×Nat)) (d:Option Nat):Bool:=match d with | none=>true | some d=>Xj D d
def Qa2 (D:List (Nat×Nat)) (l:List Oper):Bool:=l.all λo=>inD D o.dst
def wr (D:List (Nat×Nat)):Code→Bool
 | .region _ ops _=>Qa2 D ops.toList
 | .seq a b=>wr D a && wr D b
 | .cond _ a b=>wr D a && wr D b
 | .block _ a=>wr D a
 | .loop a=>wr D a
 | .skip | .exit _ | .label _ | .goto _ | .ret=>true
 | _=>false
theorem qw {D:List (Nat×Nat)}{l:List Oper}(h:Qa2 D l=true) {t:Nat}(ht:Xj D t=false):ZF l t=false:=by
 unfold Qa2 at h;unfold ZF
 rw[List.any_eq_false]
 intro o ho
 have h1:=List.all_eq_true.1 h o ho
 cases hd:o.dst with
 | none=>simp
 | some d =>
  rw[hd] at h1
  simp only[inD] at h1
  intro e
  have:=Nat.eq_of_beq_eq_true e
  subst this
  rw[h1] at ht;cases ht
theorem Jy {D:List (Nat×Nat)}{t:Nat}(ht:Xj D t=false):∀c:Code,wr D c=true→wrs c t=false
 | .region _ ops _,h=>qw h ht
 | .seq a b,h=>by simp only[wr,Bool.and_eq_true] at h;simp[wrs,Jy ht a h.1,Jy ht b h.2]
 | .cond _ a b,h=>by simp only[wr,Bool.and_eq_true] at h;simp[wrs,Jy ht a h.1,Jy ht b h.2]
 | .block _ a,h=>Jy ht a (by simpa[wr] using h)
 | .loop a,h=>Jy ht a (by simpa[wr] using h)
 | .skip,_=>rfl
 | .exit _,_=>rfl
 | .label _,_=>rfl
 | .goto _,_=>rfl
 | .ret,_=>rfl
 | .rangeFunc ..,h=>by simp[wr] at h
 | .scope _,h=>by simp[wr] at h
 | .refuse _,h=>by simp[wr] at h
def mix (D:List (Nat×Nat)) (f g:Fr):Fr:=λt=>bif Xj D t then g t else f t
theorem JD {D:List (Nat×Nat)}{f g:Fr}(h:∀t,Xj D t=false→g t=f t):mix D f g=g:=by
 funext t;unfold mix;cases e:Xj D t with
 | false=>exact (h t e).symm
 | true=>rfl
def zk (S:List (Nat×Value)) (f:Fr):Fr:=match S with
 | []=>f
 | (t,v)::S=>upd (zk S f) t v
def Xp (f:Fr):List (Nat×Value)→Prop
 | []=>True
 | (t,v)::S=>f t=v∧Xp f S
theorem YK {f:Fr}:∀{S:List (Nat×Value)},Xp f S→zk S f=f
 | [],_=>rfl
 | (t,v)::S,h=>by
  funext s
  simp only[zk,YK h.2]
  by_cases e:s=t
  ·subst e;rw[Yt];exact h.1.symm
  ·exact XQ _ _ e
def W (P:Program) (n:Nat) (c:Code) (Q:Exit→Fr→World→Prop) (f:Fr) (w:World):Prop :=
 ∀a,yn n a f→c.wp P (λe a' w'=>∃f',yn n a' f'∧(∀t,wrs c t=false→f' t=f t)∧Q e f' w') a w
def thn (K:Fr→World→Prop) (Q:Exit→Fr→World→Prop):Exit→Fr→World→Prop
 | .normal,f,w=>K f w
 | e,f,w=>Q e f w
def blk (id:Nat) (Q:Exit→Fr→World→Prop):Exit→Fr→World→Prop
 | .exit i,f,w=>bif Nat.beq i id then Q .normal f w else Q (.exit i) f w
 | e,f,w=>Q e f w
section
variable {P:Program} {n:Nat} {Q:Exit→Fr→World→Prop} {f:Fr} {w:World}
theorem W.mono {c:Code}{Q':Exit→Fr→World→Prop}(h:W P n c Q f w) (hq:∀e f w,Q e f w→Q' e f w):W P n c Q' f w :=
 λa ha=>wp_mono (h a ha) λ_ _ _ ⟨f',h1,h2,h3⟩=>⟨f',h1,h2,hq _ _ _ h3⟩
theorem W.keeps {c:Code}(h:W P n c Q f w):W P n c (λe f' w'=>(∀t,wrs c t=false→f' t=f t)∧Q e f' w') f w :=
 λa ha=>wp_mono (h a ha) λ_ _ _ ⟨f',h1,h2,h3⟩=>⟨f',h1,h2,h2,h3⟩
theorem Qi (h:Q .normal f w):W P n .skip Q f w:=λ_ ha=>wp_skip ⟨f,ha,λ_ _=>rfl,h⟩
theorem Qx {i:Nat}(h:Q (.exit i) f w):W P n (.exit i) Q f w:=λ_ ha=>wp_exit ⟨f,ha,λ_ _=>rfl,h⟩
theorem Ql (h:Q .ret f w):W P n .ret Q f w:=λ_ ha=>wp_ret ⟨f,ha,λ_ _=>rfl,h⟩
theorem Qf {x y:Code}(h:W P n x (thn (λf w=>W P n y Q f w) Q) f w):W P n (.seq x y) Q f w:=by
 intro a ha
 refine wp_seq (wp_mono (h a ha) ?_)
 rintro e a' w' ⟨f',h1,h2,h3⟩
 have k1:∀t,wrs (.seq x y) t=false→f' t=f t:=λt ht=>h2 t (by simp only[wrs,Bool.or_eq_false_iff] at ht;exact ht.1)
 cases e with
 | normal =>
  refine wp_mono (h3 a' h1) λ_ _ _ ⟨f'',g1,g2,g3⟩=>⟨f'',g1,λt ht=>(g2 t ?_).trans (k1 t ht),g3⟩
  simp only[wrs,Bool.or_eq_false_iff] at ht;exact ht.2
 | exit id=>exact ⟨f',h1,k1,h3⟩
 | goto l=>exact ⟨f',h1,k1,h3⟩
 | ret=>exact ⟨f',h1,k1,h3⟩
 | panic ch=>exact ⟨f',h1,k1,h3⟩
 | outgrown=>exact ⟨f',h1,k1,h3⟩
theorem QU {α:Type}{x y:Code}(D:List (Nat×Nat)) (S:α→List (Nat×Value)) (I:α→World→Prop) (hD:wr D x=true)
  (h1:W P n x (thn (λf' w'=>∃z,Xp f' (S z)∧I z w') Q) f w)
  (h2:∀z g w',I z w'→W P n y Q (zk (S z) (mix D f g)) w'):W P n (.seq x y) Q f w:=by
 refine Qf (h1.keeps.mono ?_)
 rintro e f' w' ⟨hk,hq⟩
 cases e with
 | normal =>
  obtain ⟨z,hs,hi⟩:=hq
  have h3:=h2 z f' w' hi
  rw[JD (λt ht=>hk t (Jy ht x hD)),YK hs] at h3
  exact h3
 | exit id=>exact hq
 | goto l=>exact hq
 | ret=>exact hq
 | panic ch=>exact hq
 | outgrown=>exact hq
theorem Q5 {c:Operand}{x y:Code}{t:Bool}(hc:ev f c=.bool t) (ht:t=true→W P n x Q f w) (hf:t=false→W P n y Q f w) :
  W P n (.cond c x y) Q f w:=by
 intro a ha
 have hc':a.eval c=.bool t:=by rw[ha.eval];exact hc
 refine wp_cond_split hc' (λe=>wp_mono (ht e a ha) ?_) (λe=>wp_mono (hf e a ha) ?_) <;>
  (rintro e a' w' ⟨f',h1,h2,h3⟩
   refine ⟨f',h1,λt ht=>h2 t ?_,h3⟩
   simp only[wrs,Bool.or_eq_false_iff] at ht
   first | exact ht.1 | exact ht.2)
theorem Q4 {c:Operand}{x y:Code}{p:Prop}[Decidable p] (hc:ev f c=.bool (decide p)) (ht:p→W P n x Q f w) (hf:¬p→W P n y Q f w) :
  W P n (.cond c x y) Q f w :=
 Q5 hc (λe=>ht (of_decide_eq_true e)) (λe=>hf (of_decide_eq_false e))
theorem QG {c:Operand}{x y:Code}{p:Prop}[Decidable p] (hc:ev f c=.bool (decide p)) (hf:¬p→W P n y Q f w) (ht:p→W P n x Q f w) :
  W P n (.cond c x y) Q f w:=Q4 hc ht hf
theorem U1 {c:Operand}{x y:Code}(hc:ev f c=.bool true) (h:W P n x Q f w):W P n (.cond c x y) Q f w:=Q5 hc (λ_=>h) (λe=>by cases e)
theorem Zy {c:Operand}{x y:Code}(hc:ev f c=.bool false) (h:W P n y Q f w):W P n (.cond c x y) Q f w:=Q5 hc (λe=>by cases e) (λ_=>h)
theorem Qg {id:Nat}{c:Code}(h:W P n c (blk id Q) f w):W P n (.block id c) Q f w:=by
 intro a ha
 refine wp_block (wp_mono (h a ha) ?_)
 rintro e a' w' ⟨f',h1,h2,h3⟩
 have k1:∀t,wrs (.block id c) t=false→f' t=f t:=λt ht=>h2 t (by simpa[wrs] using ht)
 cases e with
 | exit i =>
  simp only[Exit.inBlock]
  simp only[blk] at h3
  by_cases hi:i=id
  ·subst hi
   simp only[Nat.beq_refl,cond_true] at h3
   simp only[if_true]
   exact ⟨f',h1,k1,h3⟩
  ·have hb:Nat.beq i id=false:=by
    cases e:Nat.beq i id with
    | false=>rfl
    | true=>exact absurd (Nat.eq_of_beq_eq_true e) hi
   rw[hb] at h3
   rw[if_neg hi]
   exact ⟨f',h1,k1,h3⟩
 | normal=>exact ⟨f',h1,k1,h3⟩
 | goto l=>exact ⟨f',h1,k1,h3⟩
 | ret=>exact ⟨f',h1,k1,h3⟩
 | panic ch=>exact ⟨f',h1,k1,h3⟩
 | outgrown=>exact ⟨f',h1,k1,h3⟩
theorem QA {α:Type}{c:Code}(D:List (Nat×Nat)) (S:α→List (Nat×Value)) (I:α→World→Prop) (m:α→Nat) (hD:wr D c=true) (z:α)
  (h0:Xp f (S z)) (hI:I z w)
  (round:∀x g w',I x w'→W P n c (thn (λf' w''=>∃x',m x'<m x∧Xp f' (S x')∧I x' w'') Q) (zk (S x) (mix D f g)) w'):W P n (.loop c) Q f w:=by
 intro a ha
 refine wp_loop_ghost (λ(x:α) a' w'=>∃f',yn n a' f'∧(∀t,wrs c t=false→f' t=f t)∧Xp f' (S x)∧I x w') m z ⟨f,ha,λ_ _=>rfl,h0,hI⟩ ?_
 rintro x a' w' ⟨f',h1,h2,h3,h4⟩
 have h5:=round x f' w' h4
 rw[JD (λt ht=>h2 t (Jy ht c hD)),YK h3] at h5
 refine wp_mono (h5 a' h1) ?_
 rintro e a'' w'' ⟨f'',g1,g2,g3⟩
 have k1:∀t,wrs c t=false→f'' t=f t:=λt ht=>(g2 t ht).trans (h2 t ht)
 have k2:∀t,wrs (.loop c) t=false→f'' t=f t:=λt ht=>k1 t (by simpa[wrs] using ht)
 cases e with
 | normal=>obtain ⟨x',hm,hs,hi⟩:=g3;exact ⟨x',hm,f'',g1,k1,hs,hi⟩
 | exit id=>exact ⟨f'',g1,k2,g3⟩
 | goto l=>exact ⟨f'',g1,k2,g3⟩
 | ret=>exact ⟨f'',g1,k2,g3⟩
 | panic ch=>exact ⟨f'',g1,k2,g3⟩
 | outgrown=>exact ⟨f'',g1,k2,g3⟩
where
 wp_loop_ghost {α:Type} {P:Program} {c:Code} {Q:Exit→Act→World→Prop} {a:Act} {w:World} (J:α→Act→World→Prop) (m:α→Nat) (z:α) (h₀:J z a w)
   (round:∀x a w,J x a w→c.wp P (Exit.then (λa' w'=>∃x',m x'<m x∧J x' a' w') Q) a w):(Code.loop c).wp P Q a w:=by
  intro b k cs
  have key:∀i x a w,m x=i→J x a w →
    ∃e a' w',Q e a' w'∧Arrives P (lone (b.at a (.code c::.inLoop c::k)) cs w) b k cs e a' w':=by
   intro i
   induction i using Nat.strongRecOn with
   | _ i ih =>
    intro x a w hx hJ
    obtain ⟨e,a₁,w₁,hq,harr⟩:=round x a w hJ b (.inLoop c::k) cs
    cases e with
    | normal =>
     obtain ⟨x',hlt,hJ'⟩:=hq
     obtain ⟨e₂,a₂,w₂,hq₂,harr₂⟩:=ih (m x') (hx ▸ hlt) x' a₁ w₁ rfl hJ'
     exact ⟨e₂,a₂,w₂,hq₂,.of_steps (Steps.trans harr (.one step_inLoop)) harr₂⟩
    | exit id=>exact ⟨_,a₁,w₁,hq,.pass (x:=.inLoop c) rfl (λ_ _=>.inl (by simp)) harr⟩
    | goto l=>exact ⟨_,a₁,w₁,hq,.pass (x:=.inLoop c) rfl (λ_ _=>.inl (by simp)) harr⟩
    | ret=>exact ⟨_,a₁,w₁,hq,.pass (x:=.inLoop c) rfl (λ_ _=>.inl (by simp)) harr⟩
    | panic ch=>exact ⟨_,a₁,w₁,hq,.pass (x:=.inLoop c) rfl (λ_ _=>.inl (by simp)) harr⟩
    | outgrown=>exact ⟨_,a₁,w₁,hq,.pass (x:=.inLoop c) rfl (λ_ _=>.inl (by simp)) harr⟩
  obtain ⟨e,a',w',hq,harr⟩:=key _ z a w rfl h₀
  exact ⟨e,a',w',hq,.of_steps (.one step_loop) harr⟩
end
def upF (P:Program) (dst:Option Nat) (f:Fr) (K:Fr→World→Prop):Result Next→Prop
 | .ok (.value v) w'=>K (QY f dst v) w'
 | .ok .skip w'=>K (QY f dst undef) w'
 | .ok (.enter g args) w'=>Calls P g args w' λe w''=>match e with | .returned v=>K (QY f dst v) w'' | _=>False
 | _=>False
def XO (P:Program) (o:Oper) (f:Fr) (w:World) (K:Fr→World→Prop):Prop:=upF P o.dst f K ((execOp (ev f) o).run P w)
def Yd (ops:List Oper) (f:Fr) (o:Oper):Bool:=match o.guard with
 | none=>true
 | some (j,want)=>match (ops[j]?).bind (·.dst) with
  | some d=>(match f d with | .bool b=>bif want then b else !b | _=>false)
  | none=>false
def XL (P:Program) (ops:List Oper) (K:Fr→World→Prop):List Oper→Fr→World→Prop
 | [],f,w=>K f w
 | o::l,f,w=>bif Yd ops f o then XO P o f w (XL P ops K l) else XL P ops K l (QY f o.dst undef) w
theorem Vh {n:Nat}{l:List Oper}{a:Act}{f:Fr}(h:yn n a f) (hn:∀o∈l,∀d,o.dst=some d→d<n) (o:Oper):Region.wanted o (yielded l.toArray a.tmps)=Yd l f o:=by
 unfold Region.wanted Yd
 cases o.guard with
 | none=>rfl
 | some p =>
  obtain ⟨j,want⟩:=p
  simp only[yielded,List.getElem?_toArray]
  cases hj:(l[j]?) with
  | none=>simp
  | some o' =>
   cases hd:o'.dst with
   | none=>simp[hd]
   | some d =>
    have hlt:d<a.tmps.size:=by rw[h.size];exact hn o' (List.mem_of_getElem? hj) d hd
    have hg:=h.get d
    simp only[Option.bind_some,hd,Array.getElem?_eq_getElem hlt]
    simp[hlt] at hg
    rw[hg]
    cases f d <;> simp
    cases want <;> simp
theorem Qik {P:Program}{n:Nat}{o:Oper}{a:Act}{f:Fr}{w:World}{K:Fr→World→Prop}{K':Act→World→Prop}{Q:Exit→Act→World→Prop}(h:yn n a f)
  (hK:∀v w',K (QY f o.dst v) w'→K' (a.put o.dst v) w') (hx:XO P o f w K):o.wp P a w K' Q:=by
 unfold XO at hx
 unfold Oper.wp
 rw[h.eval]
 generalize (execOp (ev f) o).run P w=r at hx
 cases r with
 | ok nx w' =>
  cases nx <;> simp only[upF] at hx <;> simp only[Oper.upon]
  case value v=>exact hK v w' hx
  case skip=>exact hK _ w' hx
  case enter g args =>
   refine Calls.mono hx λe w'' he=>?_
   cases e with
   | returned v=>exact hK v w'' he
   | panicked c=>exact he.elim
   | outgrown=>exact he.elim
 | halt x w'=>exact hx.elim
theorem XO.mono {P:Program}{o:Oper}{f:Fr}{w:World}{K K':Fr→World→Prop}(hK:∀v w',K (QY f o.dst v) w'→K' (QY f o.dst v) w') (hx:XO P o f w K):XO P o f w K':=by
 unfold XO at *
 generalize (execOp (ev f) o).run P w=r at *
 cases r with
 | ok nx w' =>
  cases nx <;> simp only[upF] at hx ⊢
  case value v=>exact hK v w' hx
  case skip=>exact hK _ w' hx
  case enter g args =>
   refine Calls.mono hx λe w'' he=>?_
   cases e with
   | returned v=>exact hK v w'' he
   | panicked c=>exact he.elim
   | outgrown=>exact he.elim
 | halt x w'=>exact hx.elim
def XJ (n:Nat) (l:List Oper):Bool:=l.all λo=>match o.dst with | some d=>Nat.blt d n | none=>true
theorem Yz {n:Nat}{l:List Oper}(h:XJ n l=true):∀o∈l,∀d,o.dst=some d→d<n:=by
 intro o ho d hd
 have:=List.all_eq_true.1 h o ho
 simp only[hd,Nat.blt_eq] at this
 exact this
theorem Xf {l:List Oper}{o:Oper}(ho:o∈l) {t:Nat}(h:ZF l t=false):o.dst≠some t:=by
 intro e
 have:=List.any_eq_false.1 h o ho
 simp[e] at this
theorem YL {f:Fr}{dst:Option Nat}{t:Nat}(h:dst≠some t) (v:Value):QY f dst v t=f t:=by
 cases dst with
 | none=>rfl
 | some d=>exact XQ _ _ (λe=>h (by rw[e]))
section
variable {P:Program} {n:Nat} {Q:Exit→Fr→World→Prop} {f:Fr} {w:World}
theorem Qil {all:List Oper}(hn:∀o∈all,∀d,o.dst=some d→d<n) (f0:Fr) :
  ∀(l:List Oper) (k:Nat) (a:Act) (f:Fr) (w:World),(∀j,l[j]?=all[k+j]?)→yn n a f→(∀t,ZF all t=false→f t=f0 t) →
   XL P all (λf w=>Q .normal f w) l f w →
   wpOps P all.toArray (λe a' w'=>∃f',yn n a' f'∧(∀t,ZF all t=false→f' t=f0 t)∧Q e f' w') (List.range' k l.length) a w
 | [],_,a,f,w,_,hr,hk,h=>⟨f,hr,hk,h⟩
 | o::l,k,a,f,w,hl,hr,hk,h=>by
  have h0:all[k]?=some o:=by simpa using (hl 0).symm
  have hmem:o∈all:=List.mem_of_getElem? h0
  have ih:=λa f w=>Qil hn f0 l (k+1) a f w (λj=>by have:=hl (j+1);simpa[Nat.add_assoc,Nat.add_comm 1 j] using this)
  have next:∀v,(∀t,ZF all t=false→QY f o.dst v t=f0 t):=λv t ht=>(YL (Xf hmem ht) v).trans (hk t ht)
  simp only[List.length_cons,List.range'_succ,wpOps,List.getElem?_toArray,h0]
  rw[Vh hr hn o]
  simp only[XL] at h
  cases hg:Yd all f o with
  | false =>
   rw[hg] at h
   exact ih _ _ _ (hr.put (hn o hmem) _) (next _) h
  | true =>
   rw[hg] at h
   exact .inl (Qik hr (λv w' hx=>ih _ _ _ (hr.put (hn o hmem) v) (next v) hx) h)
theorem jN {id:Nat}{l:List Oper}(hn:XJ n l=true) (h:XL P l (λf w=>Q .normal f w) l f w):W P n (.region id l.toArray false) Q f w:=by
 intro a ha
 refine wp_region ?_
 have:=Qil (Yz hn) f l 0 a f w (by simp) ha (λ_ _=>rfl) h
 simpa[List.range_eq_range',wrs] using this
end
def qb (o:Oper):Bool:=match o.op with
 | .move _ | .assign _ | .pick .. | .alloc _ | .box .. | .build .. | .buildSlice .. | .store .. | .nilCheck _ | .binOp .. | .unOp .. | .makeFunc .. | .makeMap .. | .makeSlice .. | .fieldAddr .. | .field .. | .indexAddr .. | .index .. | .extract .. | .insert .. | .mapUpdate ..=>false
 | .slice ..=>false
 | .call ⟨.builtin .append,_,_⟩=>false
 | .call ⟨.builtin .min,_,_⟩=>false
 | .call ⟨.builtin .max,_,_⟩=>false
 | .call ⟨.value _,_,_⟩=>false
 | _=>true
def KS (all:List Oper) (j:Nat):Bool:=match all[j]? with
 | none=>false
 | some o=>(List.range all.length).all λi=>match all[i]? with
  | none=>true
  | some oi=>!qb oi || i == j || o.after.any λe=>Region.binds .any e && e.on == i
def XA (P:Program) (all:List Oper) (C:World→Prop) (K:Fr→World→Prop):Nat→Array Bool→Fr→World→Prop
 | 0,ls,f,w=>Region.ready .any all.toArray ls=[]∧K f w
 | k+1,ls,f,w=>(Region.ready .any all.toArray ls=[]→K f w) ∧
  ∀i∈Region.ready .any all.toArray ls,∀o,all[i]?=some o →
   bif Yd all f o then XO P o f w (λf' w'=>(KS all i=true∨w'=w∨C w')∧XA P all C K k (ls.setIfInBounds i true) f' w') else XA P all C K k (ls.setIfInBounds i true) (QY f o.dst undef) w
section
variable {P:Program} {n:Nat} {f:Fr} {w:World} {all:List Oper} {C:World→Prop} {K:Fr→World→Prop}
theorem Qb8 {Q:Exit→Act→World→Prop}(hn:∀o∈all,∀d,o.dst=some d→d<n) (f0:Fr)
  (hQ:∀a f w,yn n a f→(∀t,ZF all t=false→f t=f0 t)→K f w→Q .normal a w) :
  ∀(k:Nat) (ls:Array Bool) (a:Act) (f:Fr) (w:World),yn n a f→(∀t,ZF all t=false→f t=f0 t)→XA P all C K k ls f w→wpAny P .any all.toArray Q k ls a w
 | 0,_,a,f,w,hr,hk,h=>⟨h.1,hQ a f w hr hk h.2⟩
 | k+1,ls,a,f,w,hr,hk,h=>by
  refine ⟨λh0=>hQ a f w hr hk (h.1 h0),λi hi=>?_⟩
  unfold wpOp
  simp only[List.getElem?_toArray]
  cases ho:all[i]? with
  | none =>
   exfalso
   obtain ⟨_,o,hoo,_⟩:=mem_ready.1 hi
   simp[ho] at hoo
  | some o =>
   have hmem:o∈all:=List.mem_of_getElem? ho
   have h1:=h.2 i hi o ho
   have next:∀v,(∀t,ZF all t=false→QY f o.dst v t=f0 t):=λv t ht=>(YL (Xf hmem ht) v).trans (hk t ht)
   simp only[]
   rw[Vh hr hn o]
   cases hg:Yd all f o with
   | false =>
    rw[hg] at h1
    exact Qb8 hn f0 hQ k _ _ _ _ (hr.put (hn o hmem) _) (next _) h1
   | true =>
    rw[hg] at h1
    exact .inl (Qik hr (λv w' hx=>Qb8 hn f0 hQ k _ _ _ _ (hr.put (hn o hmem) v) (next v) hx.2) h1)
theorem JU (f:Fr) {x y:Option Nat}(v u:Value) (h:∀d,x=some d→y≠some d):QY (QY f x v) y u=QY (QY f y u) x v:=by
 cases x with
 | none=>rfl
 | some d =>
  cases y with
  | none=>rfl
  | some e =>
   have hne:d≠e:=λhe=>h d rfl (he ▸ rfl)
   funext t
   simp only[QY]
   by_cases h1:t=d
   ·subst h1;rw[XQ _ _ hne,Yt,Yt]
   ·by_cases h2:t=e
    ·subst h2;rw[Yt,XQ _ _ h1,Yt]
    ·rw[XQ _ _ h2,XQ _ _ h1,XQ _ _ h1,XQ _ _ h2]
theorem Qhz {f:Fr}{dst:Option Nat}{v:Value}{x:Operand}(h:∀d,dst=some d→x≠.tmp d):ev (QY f dst v) x=ev f x:=by
 cases dst with
 | none=>rfl
 | some d =>
  cases x with
  | tmp t=>exact XQ _ _ (λe=>h d rfl (by rw[e]))
  | _=>rfl
theorem YW {o:Oper}(hs:∀cs b,o.op≠.select cs b) (f:Fr) (dst:Option Nat) (v:Value) (h:∀d,dst=some d→d∉o.looksAt all.toArray) :
  execOp (ev (QY f dst v)) o=execOp (ev f) o :=
 execOp_congr o hs λx hx=>Qhz λd hd hxd=>h d hd (by
  subst hxd
  exact List.mem_append_left _ (List.mem_filterMap.2 ⟨.tmp d,by simpa using hx,rfl⟩))
theorem X4 (o:Oper) (f:Fr) (dst:Option Nat) (v:Value) (h:∀d,dst=some d→d∉o.looksAt all.toArray):Yd all (QY f dst v) o=Yd all f o:=by
 unfold Yd
 cases hg:o.guard with
 | none=>rfl
 | some gw =>
  obtain ⟨g,want⟩:=gw
  simp only[]
  cases ht:(all[g]?).bind (·.dst) with
  | none=>rfl
  | some t =>
   have hne:dst≠some t:=λe=>h t e (by simp[Oper.looksAt,hg,ht])
   simp only[]
   rw[YL hne]
def Qb9 (P:Program) (all:List Oper) (D:World→Prop) (o:Oper) (v:Value) (f:Fr):Prop :=
 (Yd all f o=true∧∀w,D w→(execOp (ev f) o).run P w=.ok (.value v) w)∨(Yd all f o=false∧v=undef)
theorem Qg7 {i j:Nat}{oi oj:Oper}(hi:all[i]?=some oi) (hj:all[j]?=some oj) (hr:qb oi=true) (hne:j≠i) (hl:KS all j=true) (hnot:∀e∈oj.after,Region.binds .any e=true→e.on≠i):False:=by
 simp only[KS,hj,List.all_eq_true,List.mem_range] at hl
 have hlt:i<all.length:=(List.getElem?_eq_some_iff.1 hi).1
 have h1:=hl i hlt
 simp only[hi,hr,Bool.not_true,Bool.false_or,Bool.or_eq_true,beq_iff_eq,Array.any_eq_true',Bool.and_eq_true] at h1
 rcases h1 with h1 | ⟨e,he,hb,ho⟩
 ·exact hne h1.symm
 ·exact hnot e he hb ho
theorem YX {i:Nat}{oi:Oper}{v:Value}{D:World→Prop}(hi:all[i]?=some oi) (hD:∀w,(qb oi=true→C w)→D w) (hsel:∀(j:Nat) (o:Oper) cs b,all[j]?=some o→o.op≠.select cs b) :
  ∀(fuel:Nat) (ls:Array Bool) (f:Fr) (w:World),(qb oi=true→C w) →
   (∀j oj,all[j]?=some oj→j≠i→ls.getD j true=false→(∀e∈oj.after,Region.binds .any e=true→e.on≠i)→oi.apart all.toArray oj=true) →
   i∈Region.ready .any all.toArray ls→Qb9 P all D oi v f →
   XA P all C K fuel (ls.setIfInBounds i true) (QY f oi.dst v) w→XA P all C K (fuel+1) ls f w:=by
 have here:∀(fuel:Nat) (ls:Array Bool) (f:Fr) (w:World),(qb oi=true→C w)→Qb9 P all D oi v f→XA P all C K fuel (ls.setIfInBounds i true) (QY f oi.dst v) w→∀o,all[i]?=some o →
   bif Yd all f o then XO P o f w (λf' w'=>(KS all i=true∨w'=w∨C w')∧XA P all C K fuel (ls.setIfInBounds i true) f' w') else XA P all C K fuel (ls.setIfInBounds i true) (QY f o.dst undef) w:=by
  intro fuel ls f w hC hy H o ho
  rw[hi] at ho
  cases ho
  rcases hy with ⟨hg,hv⟩ | ⟨hg,rfl⟩
  ·rw[hg];simp only[cond_true,XO,hv w (hD w hC),upF];exact ⟨.inr (.inl trivial),H⟩
  ·rw[hg];exact H
 intro fuel
 induction fuel with
 | zero =>
  intro ls f w hC _ hr hy H
  refine ⟨λh=>(by rw[h] at hr;cases hr),λj hj=>?_⟩
  by_cases hji:j=i
  ·subst hji;exact here _ _ _ _ hC hy H
  ·have:=ready_mono hj hji
   rw[H.1] at this
   cases this
 | succ fuel ih =>
  intro ls f w hC hfree hr hy H
  refine ⟨λh=>(by rw[h] at hr;cases hr),λj hj=>?_⟩
  by_cases hji:j=i
  ·subst hji;exact here _ _ _ _ hC hy H
  ·intro oj hoj
   have h1:=H.2 j (ready_mono hj hji) oj hoj
   obtain ⟨hjun,oj',hoj',hall⟩:=mem_ready.1 hj
   have hoj'':oj'=oj:=by rw[List.getElem?_toArray,hoj] at hoj';exact (Option.some.inj hoj').symm
   subst hoj''
   have hnot:∀e∈oj'.after,Region.binds .any e=true→e.on≠i:=λe he hb heq=>by
    have h1:=hall e he hb
    have h0:=(mem_ready.1 hr).1
    rw[heq] at h1
    rcases Nat.lt_or_ge i ls.size with h' | h'
    ·simp[h'] at h0 h1;rw[h0] at h1;cases h1
    ·simp[Array.getElem?_eq_none h'] at h1
   obtain ⟨a1,a2,a3⟩:=Oper.apart_spec (hfree j oj' hoj hji hjun hnot)
   have hfree':∀k ok,all[k]?=some ok→k≠i→(ls.setIfInBounds j true).getD k true=false →
     (∀e∈ok.after,Region.binds .any e=true→e.on≠i)→oi.apart all.toArray ok=true:=λk ok hk hki hun hno=>by
    refine hfree k ok hk hki ?_ hno
    by_cases hjk:j=k
    ·subst hjk;exact hjun
    ·rw[getD_set_ne true hjk] at hun;exact hun
   have keep:∀u,Qb9 P all D oi v (QY f oj'.dst u):=λu=>by
    unfold Qb9 at *
    rw[X4 oi f oj'.dst u a3,YW (all:=all) (hsel i oi · · hi) f oj'.dst u a3]
    exact hy
   have dOf:∀w',(KS all j=true∨w'=w∨C w')→(qb oi=true→C w'):=λw' hl hrd=>by
    rcases hl with hl | rfl | hl
    ·exact (Qg7 hi hoj hrd hji hl hnot).elim
    ·exact hC hrd
    ·exact hl
   have go:∀u w',(qb oi=true→C w')→XA P all C K fuel ((ls.setIfInBounds i true).setIfInBounds j true) (QY (QY f oi.dst v) oj'.dst u) w' →
     XA P all C K (fuel+1) (ls.setIfInBounds j true) (QY f oj'.dst u) w':=λu w' hC' hx=>by
    refine ih _ _ _ hC' hfree' (ready_mono hr (Ne.symm hji)) (keep u) ?_
    rw[Array.setIfInBounds_comm _ _ hji,←JU f v u a2]
    exact hx
   rw[X4 oj' f oi.dst v a1] at h1
   cases hg:Yd all f oj' with
   | false=>rw[hg] at h1;exact go _ _ hC h1
   | true =>
    rw[hg] at h1
    simp only[cond_true] at h1 ⊢
    unfold XO at *
    rw[YW (all:=all) (hsel j oj' · · hoj) f oi.dst v a1] at h1
    generalize (execOp (ev f) oj').run P w=r at *
    cases r with
    | ok nx w' =>
     cases nx <;> simp only[upF] at h1 ⊢
     case value u=>exact ⟨h1.1,go _ _ (dOf _ h1.1) h1.2⟩
     case skip=>exact ⟨h1.1,go _ _ (dOf _ h1.1) h1.2⟩
     case enter g args =>
      refine Calls.mono h1 λe w'' he=>?_
      cases e with
      | returned u=>exact ⟨he.1,go _ _ (dOf _ he.1) he.2⟩
      | panicked c=>exact he.elim
      | outgrown=>exact he.elim
    | halt x w'=>exact h1.elim
def Y1 (all:Array Oper):List (Nat×Bool)→Array Bool→Bool
 | [],ls=>(Region.ready .any all ls).isEmpty
 | (i,true)::pl,ls=>(Region.ready .any all ls).contains i && Region.free .any all ls i && Y1 all pl (ls.setIfInBounds i true)
 | (i,false)::pl,ls=>Region.ready .any all ls == [i] && Y1 all pl (ls.setIfInBounds i true)
def zD (all:List Oper) (pl:List (Nat×Bool)):Bool:=Region.noSelect all.toArray && pl.length == all.length && Y1 all.toArray pl (Array.replicate all.length false)
def Q6:List Oper→Nat→Oper
 | [],_=>default
 | o::_,0=>o
 | _::l,i+1=>Q6 l i
theorem Zq {l:List Oper}{i:Nat}{o:Oper}(h:l[i]?=some o):Q6 l i=o:=by
 induction l generalizing i with
 | nil=>simp at h
 | cons a l ih=>cases i with
  | zero=>simp at h;subst h;rfl
  | succ i=>exact ih (by simpa using h)
def XP (P:Program) (all:List Oper) (C:World→Prop) (K:Fr→World→Prop):List (Nat×Bool)→Fr→World→Prop
 | [],f,w=>K f w
 | (i,q)::pl,f,w=>bif Yd all f (Q6 all i) then
    (bif q then ∃v,(∀w',(qb (Q6 all i)=true→C w')→(execOp (ev f) (Q6 all i)).run P w'=.ok (.value v) w')∧XP P all C K pl (QY f (Q6 all i).dst v) w
     else XO P (Q6 all i) f w λf' w'=>(KS all i=true∨w'=w∨C w')∧XP P all C K pl f' w')
   else XP P all C K pl (QY f (Q6 all i).dst undef) w
def jL (all:List Oper) (ls:Array Bool):Prop:=∀i o,all[i]?=some o→qb o=true→ls.getD i false=true
theorem jL.set {ls:Array Bool}(h:jL all ls) (i:Nat):jL all (ls.setIfInBounds i true):=λj o ho hr=>getD_set_true (h j o ho hr)
theorem ZA (hs:Region.noSelect all.toArray=true):∀(pl:List (Nat×Bool)) (ls:Array Bool) (f:Fr) (w:World),ls.size=all.length→(C w∨jL all ls)→Y1 all.toArray pl ls=true→XP P all C K pl f w →
  XA P all C K pl.length ls f w
 | [],ls,f,w,_,_,hp,h=>⟨by simpa[Y1] using hp,h⟩
 | (i,true)::pl,ls,f,w,hsz,hC,hp,h=>by
  simp only[Y1,Bool.and_eq_true] at hp
  obtain ⟨⟨hr,hf⟩,hp'⟩:=hp
  simp only[XP] at h
  have hri:i∈Region.ready .any all.toArray ls:=by simpa using hr
  cases ho:all[i]? with
  | none =>
   exfalso
   obtain ⟨_,o,hoo,_⟩:=mem_ready.1 hri
   simp[ho] at hoo
  | some o =>
   rw[Zq ho] at h
   have hsel:∀(j:Nat) (o:Oper) cs b,all[j]?=some o→o.op≠.select cs b:=λj o cs b hj=>Region.noSelect_spec hs j o cs b (by simpa using hj)
   have hfree:=λj oj hj=>Region.free_spec (ops:=all.toArray) (md:=.any) (i:=i) (oi:=o) (listed:=ls) (by simpa using ho) hf j oj (by simpa using hj)
   have hun:=(mem_ready.1 hri).1
   have hCr:qb o=true→C w:=λhrd=>hC.resolve_right (λhall=>by
    have h1:=hall i o ho hrd
    have hlt:i<ls.size:=by rw[hsz];exact (List.getElem?_eq_some_iff.1 ho).1
    simp[hlt] at hun h1;rw[hun] at h1;cases h1)
   have hC':C w∨jL all (ls.setIfInBounds i true):=hC.imp id (λh=>h.set i)
   have hsz':(ls.setIfInBounds i true).size=all.length:=by simpa using hsz
   cases hg:Yd all f o with
   | false =>
    rw[hg] at h
    exact YX (v:=undef) (D:=λw=>qb o=true→C w) ho (λ_ h=>h) hsel pl.length ls f w hCr hfree hri (.inr ⟨hg,rfl⟩) (ZA hs pl _ _ _ hsz' hC' hp' h)
   | true =>
    rw[hg] at h
    simp only[cond_true] at h
    obtain ⟨v,hv,hx⟩:=h
    exact YX (v:=v) (D:=λw=>qb o=true→C w) ho (λ_ h=>h) hsel pl.length ls f w hCr hfree hri (.inl ⟨hg,hv⟩) (ZA hs pl _ _ _ hsz' hC' hp' hx)
 | (i,false)::pl,ls,f,w,hsz,hC,hp,h=>by
  simp only[Y1,Bool.and_eq_true,beq_iff_eq] at hp
  obtain ⟨hr,hp'⟩:=hp
  refine ⟨λh0=>(by rw[h0] at hr;cases hr),?_⟩
  have hri:i∈Region.ready .any all.toArray ls:=by rw[hr];simp
  rw[hr]
  intro j hj o ho
  have:j=i:=by simpa using hj
  subst this
  have hsz':(ls.setIfInBounds j true).size=all.length:=by simpa using hsz
  simp only[XP,Zq ho] at h
  cases hg:Yd all f o with
  | false=>rw[hg] at h;exact ZA hs pl _ _ _ hsz' (hC.imp id (λh=>h.set j)) hp' h
  | true =>
   rw[hg] at h
   simp only[cond_true,cond_false] at h ⊢
   refine h.mono λv w' hx=>⟨hx.1,ZA hs pl _ _ _ hsz' ?_ hp' hx.2⟩
   rcases hx.1 with hl | rfl | hc
   ·right
    intro k ok hk hrd
    by_cases hkj:k=j
    ·subst hkj
     have hlt:k<ls.size:=by rw[hsz];exact (List.getElem?_eq_some_iff.1 hk).1
     simp[hlt]
    ·simp only[KS,ho,List.all_eq_true,List.mem_range] at hl
     have h1:=hl k (List.getElem?_eq_some_iff.1 hk).1
     simp only[hk,hrd,Bool.not_true,Bool.false_or,Bool.or_eq_true,beq_iff_eq,Array.any_eq_true',Bool.and_eq_true] at h1
     rcases h1 with h1 | ⟨e,he,hb,hon⟩
     ·exact absurd h1 hkj
     ·obtain ⟨_,o',ho',hall⟩:=mem_ready.1 hri
      have:o'=o:=by rw[List.getElem?_toArray,ho] at ho';exact (Option.some.inj ho').symm
      subst this
      have:=hall e he hb
      rw[hon] at this
      exact getD_set_true this
   ·exact hC.imp id (λh=>h.set j)
   ·exact .inl hc
theorem QS {Q:Exit→Fr→World→Prop}{id:Nat}(C:World→Prop) (pl:List (Nat×Bool)) (hm:P.follows .mixedOrders=true) (hn:XJ n all=true) (hp:zD all pl=true)
  (hC:C { w with drawn:=w.drawn+1 }) (h:XP P all C (λf w=>Q .normal f w) pl f { w with drawn:=w.drawn+1 }):W P n (.region id all.toArray true) Q f w:=by
 intro a ha
 simp only[zD,Bool.and_eq_true,beq_iff_eq] at hp
 obtain ⟨⟨hs,hl⟩,hp⟩:=hp
 refine wp_region_any hm ?_
 have h1:=ZA hs pl _ _ _ (by simp) (.inl hC) hp h
 rw[hl] at h1
 have h2:=Qb8 (n:=n) (Q:=λe a' w'=>∃f',yn n a' f'∧(∀t,ZF all t=false→f' t=f t)∧Q e f' w') (Yz hn) f
  (λa f' w hr hk hq=>⟨f',hr,hk,hq⟩) _ _ a f _ ha (λ_ _=>rfl) h1
 simpa[wrs] using h2
theorem Ks {Q:Exit→Fr→World→Prop}{id:Nat}(C:World→Prop) (hm:P.follows .mixedOrders=true) (hn:XJ n all=true)
  (h:XA P all C (λf w=>Q .normal f w) all.length (Array.replicate all.length false) f { w with drawn:=w.drawn+1 }):W P n (.region id all.toArray true) Q f w:=by
 intro a ha
 refine wp_region_any hm ?_
 have h2:=Qb8 (n:=n) (Q:=λe a' w'=>∃f',yn n a' f'∧(∀t,ZF all t=false→f' t=f t)∧Q e f' w') (Yz hn) f
  (λa f' w hr hk hq=>⟨f',hr,hk,hq⟩) _ _ a f _ ha (λ_ _=>rfl) h
 simpa[wrs] using h2
end
theorem Jl {P:Program}{all:List Oper}{C:World→Prop}{K:Fr→World→Prop}{k:Nat}{ls:Array Bool}{f:Fr}{w:World}(h0:Region.ready .any all.toArray ls=[]→K f w)
  (h:∀i∈Region.ready .any all.toArray ls,∀o,all[i]?=some o →
   bif Yd all f o then XO P o f w (λf' w'=>(KS all i=true∨w'=w∨C w')∧XA P all C K k (ls.setIfInBounds i true) f' w') else XA P all C K k (ls.setIfInBounds i true) (QY f o.dst undef) w):XA P all C K (k+1) ls f w:=⟨h0,h⟩
attribute [irreducible] W XL XP XO XA
class Sl (P:Program) (t:Nat) (e sz bys:outParam Nat) (z:outParam Value):Prop where
 u:P.underlying t=some (.slice e)
 i:(P.info? e).map (λi=>(i.zero,i.size,i.bytes))=some (some z,sz,bys)
 zs:z.cells.size=sz
 pos:0<sz
def Qkw (P:Program) (t j:Nat):Option Nat:=match P.underlying t with
 | some (.struct fs)=>match fs[j]? with
  | some fd=>match P.info? fd.type with
   | some i=>if i.size=0 then none else some fd.offset
   | none=>none
  | none=>none
 | _=>none
class Zh (P:Program) (t j:Nat) (off:outParam Nat):Prop where
 h:Qkw P t j=some off
class XM (P:Program) (t:Nat):Prop where
 u:∃d,P.underlying t=some d∧(match d with | .struct _ | .array ..=>false | _=>true)=true
 i:(P.info? t).map (·.size)=some 1
class Ag (P:Program) (t:Nat) (sz:outParam Nat):Prop where
 u:∃d,P.underlying t=some d∧(match d with | .struct _ | .array ..=>true | _=>false)=true
 i:(P.info? t).map (·.size)=some sz
class Ze (P:Program) (t:Nat) (z:outParam Value):Prop where
 i:(P.info? t).map (·.zero)=some (some z)
class Fu (P:Program) (g:Nat) (fn:outParam Func):Prop where
 f:P.funcs[g]?=some fn
 b:fn.body.isNone=false
 nm:(fn.name == "runtime.NumGoroutine")=false
section
variable {P:Program} {ops:List Oper} {K:Fr→World→Prop} {f:Fr} {w:World}
theorem xe (h:K f w):XL P ops K [] f w:=by simp only[XL];exact h
theorem xl {o:Oper}{l:List Oper}(hg:Yd ops f o=true) (h:XO P o f w (XL P ops K l)):XL P ops K (o::l) f w:=by
 simp only[XL,hg,cond_true];exact h
theorem xs {o:Oper}{l:List Oper}(hg:Yd ops f o=false) (h:XL P ops K l (QY f o.dst undef) w):XL P ops K (o::l) f w:=by
 simp only[XL,hg,cond_false];exact h
theorem xv {o:Oper}{v:Value}{w':World}(hr:(execOp (ev f) o).run P w=.ok (.value v) w') (h:K (QY f o.dst v) w'):XO P o f w K:=by
 simp only[XO,hr,upF];exact h
theorem xk {o:Oper}{w':World}(hr:(execOp (ev f) o).run P w=.ok .skip w') (h:K (QY f o.dst undef) w'):XO P o f w K:=by
 simp only[XO,hr,upF];exact h
theorem x {o:Oper}{l:List Oper}{v:Value}(hr:(execOp (ev f) o).run P w=.ok (.value v) w) (h:XL P ops K l (QY f o.dst v) w) (hg:Yd ops f o=true:=by rfl):XL P ops K (o::l) f w :=
 xl hg (xv hr h)
theorem xb {o:Oper}{l:List Oper}{q:Prop}[Decidable q] (hr:(execOp (ev f) o).run P w=.ok (.value (.bool (decide q))) w) (ht:q→XL P ops K l (QY f o.dst (.bool true)) w) (hf:¬q→XL P ops K l (QY f o.dst (.bool false)) w)
  (hg:Yd ops f o=true:=by rfl):XL P ops K (o::l) f w:=by
 by_cases h:q
 ·rw[decide_eq_true h] at hr;exact x hr (ht h) hg
 ·rw[decide_eq_false h] at hr;exact x hr (hf h) hg
variable {C:World→Prop}
theorem pe (h:K f w):XP P ops C K [] f w:=by simp only[XP];exact h
theorem pq {i:Nat}{pl:List (Nat×Bool)}{v:Value}(hr:∀w',C w'→(execOp (ev f) (Q6 ops i)).run P w'=.ok (.value v) w') (h:XP P ops C K pl (QY f (Q6 ops i).dst v) w)
  (hd:qb (Q6 ops i)=true:=by rfl) (hg:Yd ops f (Q6 ops i)=true:=by rfl):XP P ops C K ((i,true)::pl) f w:=by
 simp only[XP,hg,cond_true];exact ⟨v,λw' hc=>hr w' (hc hd),h⟩
theorem p {i:Nat}{pl:List (Nat×Bool)}{v:Value}(hr:∀w',(execOp (ev f) (Q6 ops i)).run P w'=.ok (.value v) w') (h:XP P ops C K pl (QY f (Q6 ops i).dst v) w)
  (hg:Yd ops f (Q6 ops i)=true:=by rfl):XP P ops C K ((i,true)::pl) f w:=by
 simp only[XP,hg,cond_true];exact ⟨v,λw' _=>hr w',h⟩
theorem ps {i:Nat}{q:Bool}{pl:List (Nat×Bool)}(h:XP P ops C K pl (QY f (Q6 ops i).dst undef) w)
  (hg:Yd ops f (Q6 ops i)=false:=by rfl):XP P ops C K ((i,q)::pl) f w:=by
 simp only[XP,hg,cond_false];exact h
theorem pb {i:Nat}{pl:List (Nat×Bool)}{q:Prop}[Decidable q] (hr:∀w',(execOp (ev f) (Q6 ops i)).run P w'=.ok (.value (.bool (decide q))) w') (ht:q→XP P ops C K pl (QY f (Q6 ops i).dst (.bool true)) w) (hf:¬q→XP P ops C K pl (QY f (Q6 ops i).dst (.bool false)) w)
  (hg:Yd ops f (Q6 ops i)=true:=by rfl):XP P ops C K ((i,true)::pl) f w:=by
 by_cases h:q
 ·rw[decide_eq_true h] at hr;exact p hr (ht h) hg
 ·rw[decide_eq_false h] at hr;exact p hr (hf h) hg
theorem pk {i:Nat}{pl:List (Nat×Bool)}(h:XO P (Q6 ops i) f w λf' w'=>C w'∧XP P ops C K pl f' w')
  (hg:Yd ops f (Q6 ops i)=true:=by rfl):XP P ops C K ((i,false)::pl) f w:=by
 simp only[XP,hg,cond_true,cond_false];exact h.mono λ_ _ hx=>⟨.inr (.inr hx.1),hx.2⟩
theorem pkl {i:Nat}{pl:List (Nat×Bool)}(h:XO P (Q6 ops i) f w λf' w'=>XP P ops C K pl f' w')
  (hl:KS ops i=true:=by rfl) (hg:Yd ops f (Q6 ops i)=true:=by rfl):XP P ops C K ((i,false)::pl) f w:=by
 simp only[XP,hg,cond_true,cond_false];exact h.mono λ_ _ hx=>⟨.inl hl,hx⟩
end
section
variable {P:Program} {f:Fr} {w:World} {d:Option Nat} {ty:Nat} {ps:String} {af:Array Edge} {gd:Option (Nat×Bool)}
theorem Qo {x:Operand}:(execOp (ev f) ⟨d,.move x,ty,ps,af,gd⟩).run P w=.ok (.value (ev f x)) w:=by simp[execOp]
theorem Qh {x:Operand}:(execOp (ev f) ⟨d,.assign x,ty,ps,af,gd⟩).run P w=.ok (.value (ev f x)) w:=by simp[execOp]
theorem Qm {c a b:Operand}{t:Bool}(h:ev f c=.bool t):(execOp (ev f) ⟨d,.pick c a b,ty,ps,af,gd⟩).run P w=.ok (.value (bif t then ev f a else ev f b)) w:=by
 cases t <;> simp[execOp,h,asBool]
theorem Qp {x:Operand}{j:Nat}{vs:LV}{v:Value}(h:ev f x=.tuple vs.toArray) (hj:vs[j]?=some v):(execOp (ev f) ⟨d,.extract x j,ty,ps,af,gd⟩).run P w=.ok (.value v) w:=by
 simp[execOp,h,Instr.extract,hj]
theorem jl {op:BinOp}{t:TypeId}{x y:Operand}{k k':IntKind}{a b:Int}:(eqGuard op t x y (.int k a) (.int k' b)).run P w=.ok () w:=by
 simp only[eqGuard];split <;> simp
theorem YS {op:BinOp}{t t':Nat}{x y:Operand}{k k':IntKind}{a b:Int}{v:Value}(hx:ev f x=.int k a) (hy:ev f y=.int k' b)
  (h:(binOp op t (.int k a) (.int k' b)).run P w=.ok v w):(execOp (ev f) ⟨d,.binOp op t x y t',ty,ps,af,gd⟩).run P w=.ok (.value v) w:=by
 simp[execOp,hx,hy,jl,h]
def inK (k:IntKind) (n:Int):Prop:=match k with
 | .i64=>-9223372036854775808≤n∧n≤9223372036854775807
 | .u8=>0≤n∧n≤255
 | .u16=>0≤n∧n≤65535
 | .u32=>0≤n∧n≤4294967295
 | .u64=>0≤n∧n≤18446744073709551615
 | .i32=>-2147483648≤n∧n≤2147483647
 | _=>False
theorem Ye {k:IntKind}{n:Int}(h:inK k n):k.wrap n=n:=by
 cases k <;> simp only[inK] at h <;> simp only[IntKind.wrap,IntKind.bits,IntKind.signed] <;> first | exact h.elim | (simp;omega)
theorem XY {t t':Nat}{x y:Operand}{k:IntKind}{a b:Int}(hx:ev f x=.int k a) (hy:ev f y=.int k b) (h:inK k (a+b)) :
  (execOp (ev f) ⟨d,.binOp .add t x y t',ty,ps,af,gd⟩).run P w=.ok (.value (.int k (a+b))) w:=YS hx hy (by simp[binOp,Op.intArith,Ye h])
theorem Jp {t t':Nat}{x y:Operand}{k:IntKind}{a b:Int}(hx:ev f x=.int k a) (hy:ev f y=.int k b) (h:inK k (a - b)) :
  (execOp (ev f) ⟨d,.binOp .sub t x y t',ty,ps,af,gd⟩).run P w=.ok (.value (.int k (a - b))) w:=YS hx hy (by simp[binOp,Op.intArith,Ye h])
theorem Qd6 {t t':Nat}{x y:Operand}{k:IntKind}{a b:Int}(hx:ev f x=.int k a) (hy:ev f y=.int k b) (h:inK k (a*b)) :
  (execOp (ev f) ⟨d,.binOp .mul t x y t',ty,ps,af,gd⟩).run P w=.ok (.value (.int k (a*b))) w:=YS hx hy (by simp[binOp,Op.intArith,Ye h])
theorem QB {t t':Nat}{x y:Operand}{k:IntKind}{a b:Int}(hx:ev f x=.int k a) (hy:ev f y=.int k b) :
  (execOp (ev f) ⟨d,.binOp .lss t x y t',ty,ps,af,gd⟩).run P w=.ok (.value (.bool (decide (a<b)))) w:=YS hx hy (by simp[binOp,Op.intCmp])
theorem XX {t t':Nat}{x y:Operand}{k:IntKind}{a b:Int}(hx:ev f x=.int k a) (hy:ev f y=.int k b) :
  (execOp (ev f) ⟨d,.binOp .leq t x y t',ty,ps,af,gd⟩).run P w=.ok (.value (.bool (decide (a≤b)))) w:=YS hx hy (by simp[binOp,Op.intCmp])
theorem ZO {t t':Nat}{x y:Operand}{k:IntKind}{a b:Int}(hx:ev f x=.int k a) (hy:ev f y=.int k b) :
  (execOp (ev f) ⟨d,.binOp .gtr t x y t',ty,ps,af,gd⟩).run P w=.ok (.value (.bool (decide (b<a)))) w:=YS hx hy (by simp[binOp,Op.intCmp])
theorem ZR {t t':Nat}{x y:Operand}{k:IntKind}{a b:Int}(hx:ev f x=.int k a) (hy:ev f y=.int k b) :
  (execOp (ev f) ⟨d,.binOp .geq t x y t',ty,ps,af,gd⟩).run P w=.ok (.value (.bool (decide (b≤a)))) w:=YS hx hy (by simp[binOp,Op.intCmp])
theorem Q7 {t t':Nat}{x y:Operand}{k:IntKind}{a b:Int}(hx:ev f x=.int k a) (hy:ev f y=.int k b) :
  (execOp (ev f) ⟨d,.binOp .eql t x y t',ty,ps,af,gd⟩).run P w=.ok (.value (.bool (decide (a=b)))) w :=
 YS hx hy (by simp[binOp,Op.intCmp];by_cases h:a=b <;> simp[h])
theorem Q8 {t t':Nat}{x y:Operand}{k:IntKind}{a b:Int}(hx:ev f x=.int k a) (hy:ev f y=.int k b) :
  (execOp (ev f) ⟨d,.binOp .neq t x y t',ty,ps,af,gd⟩).run P w=.ok (.value (.bool (decide (¬a=b)))) w :=
 YS hx hy (by simp[binOp,Op.intCmp];by_cases h:a=b <;> simp[h])
theorem Zn {t:Nat}{x:Operand}{b:Bool}(hx:ev f x=.bool b):(execOp (ev f) ⟨d,.unOp .not t x,ty,ps,af,gd⟩).run P w=.ok (.value (.bool (!b))) w:=by
 simp[execOp,hx,Op.unary]
theorem yM {x:Operand}{t e sz bys:Nat}{z:Value}[h:Sl P t e sz bys z] {a:Option Addr}{n c:Nat}(hx:ev f x=.slice a n c) :
  (execOp (ev f) ⟨d,.call ⟨.builtin .len,#[x],#[t]⟩,ty,ps,af,gd⟩).run P w=.ok (.value (.int .i64 n)) w:=by
 simp[execOp,resolve,invoke,builtin,Builtin.len_,hx,run_underlying h.u,goInt]
theorem Sl.info {t e sz bys:Nat}{z:Value}(h:Sl P t e sz bys z):∃i,P.info? e=some i∧i.zero=some z∧i.size=sz∧i.bytes=bys:=by
 have:=h.i
 cases hi:P.info? e with
 | none=>simp[hi] at this
 | some i=>simp[hi] at this;exact ⟨i,rfl,this.1,this.2.1,this.2.2⟩
theorem Y8 {x y:Operand}{t e sz bys:Nat}{z:Value}[h:Sl P t e sz bys z] {a:Addr}{n c:Nat}{k:IntKind}{i:Int}(hx:ev f x=.slice (some a) n c) (hy:ev f y=.int k i) (h0:0≤i) (h1:i<n) :
  (execOp (ev f) ⟨d,.indexAddr t x y,ty,ps,af,gd⟩).run P w=.ok (.value (.pointer (some (a.add (i.toNat*sz))))) w:=by
 obtain ⟨ii,hi,_,hs,_⟩:=Sl.info h
 simp[execOp,hx,hy,Instr.indexAt,asIntOf,run_underlying h.u,h0,h1,sizeOf,typeInfo,hi,hs]
theorem QcK {t:Nat}[h:XM P t]:(isAgg t).run P w=.ok false w:=by
 obtain ⟨d,hu,hd⟩:=h.u
 unfold isAgg
 cases d <;> simp at hd <;> simp[run_underlying hu]
theorem Qe0 {t sz:Nat}[h:Ag P t sz]:(isAgg t).run P w=.ok true w:=by
 obtain ⟨d,hu,hd⟩:=h.u
 unfold isAgg
 cases d <;> simp at hd <;> simp[run_underlying hu]
theorem Yx {t:Nat}[h:XM P t] {a:Addr}{v:Value}(hc:w.cell? a=some v):(loadVar t a).run P w=.ok v w:=by
 simp[loadVar,QcK,hc]
theorem j7 {t:Nat}[h:XM P t]:(sizeOf t).run P w=.ok 1 w:=by
 have:=h.i
 cases hi:P.info? t with
 | none=>simp[hi] at this
 | some i=>simp[hi] at this;simp[sizeOf,typeInfo,hi,this]
theorem Vj {t sz:Nat}[h:Ag P t sz]:(sizeOf t).run P w=.ok sz w:=by
 have:=h.i
 cases hi:P.info? t with
 | none=>simp[hi] at this
 | some i=>simp[hi] at this;simp[sizeOf,typeInfo,hi,this]
theorem XC {a:Addr}:∀(vs:LV) (i:Nat) (acc:Array Value),(∀j v,vs[j]?=some v→w.cell? (a.add (i+j))=some v)→(loadCellsFrom a i vs.length acc).run P w=.ok (acc++vs.toArray) w
 | [],_,acc,_=>by simp[loadCellsFrom]
 | v::vs,i,acc,h=>by
  have h0:=h 0 v rfl
  have ih:=XC vs (i+1) (acc.push v) (λj u hu=>by have:=h (j+1) u (by simpa using hu);simpa[Nat.add_assoc,Nat.add_comm 1 j] using this)
  simp only[Nat.add_zero] at h0
  simp[loadCellsFrom,h0,ih]
theorem Qz {t sz:Nat}[h:Ag P t sz] {a:Addr}{vs:LV}(hl:vs.length=sz) (hc:∀j v,vs[j]?=some v→w.cell? (a.add j)=some v):(loadVar t a).run P w=.ok (.agg vs.toArray) w:=by
 have:=XC (P:=P) (w:=w) (a:=a) vs 0 #[] (by simpa using hc)
 subst hl
 simp[loadVar,Qe0,Vj (sz:=vs.length),loadCells,this]
theorem Qd7 {t:Nat}[h:XM P t] {x:Operand}{a:Addr}{v:Value}(hx:ev f x=.pointer (some a)) (hc:w.cell? a=some v) :
  (execOp (ev f) ⟨d,.load t x,ty,ps,af,gd⟩).run P w=.ok (.value v) w:=by
 simp[execOp,hx,Instr.loadAt,Instr.sureAddr,Yx hc]
theorem V6 {t sz:Nat}[h:Ag P t sz] {x:Operand}{a:Addr}{vs:LV}(hx:ev f x=.pointer (some a)) (hl:vs.length=sz) (hc:∀j v,vs[j]?=some v→w.cell? (a.add j)=some v) :
  (execOp (ev f) ⟨d,.load t x,ty,ps,af,gd⟩).run P w=.ok (.value (.agg vs.toArray)) w:=by
 simp[execOp,hx,Instr.loadAt,Instr.sureAddr,Qz hl hc]
theorem Zc {t j off:Nat}[h:Zh P t j off] {x:Operand}{a:Addr}(hx:ev f x=.pointer (some a)) :
  (execOp (ev f) ⟨d,.fieldAddr t x j,ty,ps,af,gd⟩).run P w=.ok (.value (.pointer (some (a.add off)))) w:=by
 have hh:=h.h
 unfold Qkw at hh
 cases hu:P.underlying t with
 | none=>simp[hu] at hh
 | some dd =>
  cases dd <;> simp[hu] at hh
  rename_i fs
  cases hf:fs[j]? with
  | none=>simp[hf] at hh
  | some fd =>
   cases hi:P.info? fd.type with
   | none=>simp[hf,hi] at hh
   | some i =>
    simp[hf,hi] at hh
    simp[execOp,hx,Instr.fieldAt,run_underlying hu,hf,Instr.sureAddr,fieldPlace,sizeOf,typeInfo,hi,hh]
theorem QI {x:Operand}{a:Addr}(hx:ev f x=.pointer (some a)):(execOp (ev f) ⟨d,.nilCheck x,ty,ps,af,gd⟩).run P w=.ok (.value (.pointer (some a))) w:=by
 simp[execOp,hx]
theorem Zr {fn:Fn}{l l':List Operand}:(execOp (ev f) ⟨d,.makeFunc fn l.toArray l'.toArray,ty,ps,af,gd⟩).run P w=.ok (.value (.func fn (l.map (ev f)).toArray (l'.map (ev f)).toArray)) w:=by
 simp[execOp,Instr.makeFunc]
end
def QJ (P:Program) (g:Nat) (args:LV) (w:World) (R:Value→World→Prop):Prop :=
 Calls P g args.toArray w λe w'=>match e with | .returned v=>R v w' | _=>False
theorem QJ.mono {P:Program}{g:Nat}{args:LV}{w:World}{R R':Value→World→Prop}(h:QJ P g args w R) (hr:∀v w',R v w'→R' v w'):QJ P g args w R' :=
 Calls.mono h λe w' he=>by cases e <;> first | exact hr _ _ he | exact he
theorem xc {P:Program}{f:Fr}{w:World}{K:Fr→World→Prop}{d:Option Nat}{ty:Nat}{ps:String}{af:Array Edge}{gd:Option (Nat×Bool)}{x:Operand}{l:List Operand}{at_:Array Nat}
  {g:Nat} {fn:Func} {first capt:LV} [hF:Fu P g fn] (hx:ev f x=.func (.func g) first.toArray capt.toArray) (h:QJ P g (first++l.map (ev f)++capt) w λv w'=>K (QY f d v) w') :
  XO P ⟨d,.call ⟨.value x,l.toArray,at_⟩,ty,ps,af,gd⟩ f w K:=by
 have hr:(execOp (ev f) ⟨d,.call ⟨.value x,l.toArray,at_⟩,ty,ps,af,gd⟩).run P w=.ok (.enter g (first++l.map (ev f)++capt).toArray) w:=by
  have h1:¬fn.name = "runtime.NumGoroutine" := by simpa using hF.nm
  have h2:¬fn.body=none:=by have:=hF.b;intro e;rw[e] at this;cases this
  simp[execOp,resolve,hx,Deferred.ofValue,invoke,callFunc,hF.f,h1,h2]
 simp only[XO,hr,upF]
 exact h
theorem xf {P:Program}{f:Fr}{w:World}{K:Fr→World→Prop}{d:Option Nat}{ty:Nat}{ps:String}{af:Array Edge}{gd:Option (Nat×Bool)}{l:List Operand}{at_:Array Nat}
  {g:Nat} {fn:Func} [hF:Fu P g fn] (h:QJ P g (l.map (ev f)) w λv w'=>K (QY f d v) w') :
  XO P ⟨d,.call ⟨.value (.func g),l.toArray,at_⟩,ty,ps,af,gd⟩ f w K :=
 xc (first:=[]) (capt:=[]) (g:=g) (fn:=fn) rfl (by simpa using h)
def ent:LV→Fr
 | [],_=>undef
 | v::_,0=>v
 | _::l,t+1=>ent l t
def Vd (P:Program) (f:Fr) (w:World):List ResultVar→LV→Prop
 | [],[]=>True
 | .tmp t::rs,v::vs=>f t=v∧Vd P f w rs vs
 | .cell a t::rs,v::vs=>(∃ad,f a=.pointer (some ad)∧(loadVar t ad).run P w=.ok v w)∧Vd P f w rs vs
 | _,_=>False
def tup:LV→Value
 | [v]=>v
 | vs=>.tuple vs.toArray
def rq (P:Program) (rs:List ResultVar) (R:Value→World→Prop):Exit→Fr→World→Prop
 | .ret,f,w=>∃vs,Vd P f w rs vs∧R (tup vs) w
 | .normal,f,w=>∃vs,Vd P f w rs vs∧R (tup vs) w
 | _,_,_=>False
theorem XB {P:Program}{n:Nat}{a:Act}{f:Fr}{w:World}(hr:yn n a f) (g:ResultVar→Sem Value) (g1:∀t,g (.tmp t)=pure (a.tmps.getD t undef))
  (g2:∀ad t,g (.cell ad t)=(do loadVar t (←asAddr (a.tmps.getD ad undef)))):∀(rs:List ResultVar) (vs:LV),Vd P f w rs vs→(rs.mapM g).run P w=.ok vs w
 | [],[],_=>by simp
 | [],_::_,h=>h.elim
 | .tmp t::rs,[],h=>h.elim
 | .cell _ _::rs,[],h=>h.elim
 | .tmp t::rs,v::vs,h=>by
  have ih:=XB hr g g1 g2 rs vs h.2
  have hg:=hr.get t
  rw[h.1] at hg
  simp only[List.mapM_cons,Sem.run_bind,Sem.run_pure,Result.andThen_ok,ih,hg,g1]
 | .cell ad t::rs,v::vs,h=>by
  have ih:=XB hr g g1 g2 rs vs h.2
  obtain ⟨⟨a0,h1,h2⟩,_⟩:=h
  have hg:=hr.get ad
  rw[h1] at hg
  have h5:(asAddr (.pointer (some a0))).run P w=.ok a0 w:=rfl
  simp only[List.mapM_cons,Sem.run_bind,g2,hg,h5,Sem.run_pure,Result.andThen_ok,h2,ih]
theorem QJ.of_W {P:Program}{g:Nat}{fn:Func}{c:Code}{args:LV}{w:World}{R:Value→World→Prop}{n:Nat}{rs:List ResultVar}
  (hf:P.funcs[g]?=some fn) (hb:fn.body=some c) (hn:fn.ntmps=n) (hrs:fn.results=rs.toArray) (hl:args.length≤n)
  (h:W P n c (rq P rs R) (ent args) w):QJ P g args w R:=by
 unfold W at h
 refine calls_of_wp hf hb (wp_mono (h _ ?_) ?_)
 ·refine ⟨by simp[hn];omega,rfl,λt=>?_⟩
  have key:∀(l:LV) (t:Nat),l[t]?.getD undef=ent l t:=by
   intro l
   induction l with
   | nil=>intro t;rfl
   | cons v l ih=>intro t;cases t with | zero=>rfl | succ t=>simpa[ent] using ih t
  rw[←key]
  simp only[Array.getD_eq_getD_getElem?,Array.getElem?_append,List.size_toArray,List.getElem?_toArray]
  by_cases ht:t<args.length
  ·simp[ht]
  ·simp[ht,Array.getElem?_replicate];split <;> rfl
 ·rintro e a' w' ⟨f',h1,_,h3⟩
  have fin:(∃vs,Vd P f' w' rs vs∧R (tup vs) w')→a'.defers=[]∧∃v,(results fn a'.tmps).run P w'=.ok v w'∧R v w':=by
   rintro ⟨vs,hv,hR⟩
   refine ⟨h1.defers,tup vs,?_,hR⟩
   simp only[results,hrs,List.mapM_toArray,Sem.run_bind,Sem.run_map]
   rw[XB h1 _ (λ_=>rfl) (λ_ _=>rfl) rs vs hv]
   cases vs with
   | nil=>rfl
   | cons v vs=>cases vs with | nil=>rfl | cons u us=>rfl
  cases e with
  | normal=>exact fin h3
  | ret=>exact fin h3
  | exit id=>exact h3.elim
  | goto l=>exact h3.elim
  | panic c=>exact h3.elim
  | outgrown=>exact h3.elim
attribute [irreducible] QJ
theorem Zg {P:Program}{g:Nat}{fn:Func}(f:P.funcs[g]?=some fn) (b:fn.body.isNone=false:=by kernel_rfl) (nm:(fn.name == "runtime.NumGoroutine")=false:=by kernel_rfl):Fu P g fn:=⟨f,b,nm⟩
theorem Qc {P:Program}{n:Nat}{f:Fr}{w:World}{Q:Exit→Fr→World→Prop}{id:Nat}{l:List Oper}{y:Code}(h:XL P l (λf w=>thn (λf w=>W P n y Q f w) Q .normal f w) l f w) (hn:XJ n l=true:=by rfl):W P n (.seq (.region id l.toArray false) y) Q f w:=Qf (jN hn h)
theorem Qw {P:Program}{n:Nat}{f:Fr}{w:World}{Q:Exit→Fr→World→Prop}{id:Nat}{l:List Oper}(h:XL P l (λf w=>Q .normal f w) l f w) (hn:XJ n l=true:=by rfl):W P n (.region id l.toArray false) Q f w:=jN hn h
section
variable {P:Program} {ops:List Oper} {K:Fr→World→Prop} {f:Fr} {w:World} {d:Option Nat} {ty:Nat} {ps:String} {af:Array Edge} {gd:Option (Nat×Bool)} {l:List Oper} {y:Operand}
theorem Qb (h:XL P ops K l (QY f d (ev f y)) w) (hg:Yd ops f ⟨d,.move y,ty,ps,af,gd⟩=true:=by rfl):XL P ops K (⟨d,.move y,ty,ps,af,gd⟩::l) f w:=x Qo h hg
theorem QO {t t':Nat}{x' y':Operand}{k:IntKind}{a b:Int}(hx:ev f x'=.int k a) (hy:ev f y'=.int k b) (h:XL P ops K l (QY f d (.int k (a+b))) w) (hk:inK k (a+b):=by exact ⟨by omega,by omega⟩)
  (hg:Yd ops f ⟨d,.binOp .add t x' y' t',ty,ps,af,gd⟩=true:=by rfl):XL P ops K (⟨d,.binOp .add t x' y' t',ty,ps,af,gd⟩::l) f w:=x (XY hx hy hk) h hg
theorem Qe (h:K (QY f d (ev f y)) w) (hg:Yd ops f ⟨d,.assign y,ty,ps,af,gd⟩=true:=by rfl):XL P ops K [⟨d,.assign y,ty,ps,af,gd⟩] f w:=x Qh (xe h) hg
end
structure Step (L:LN) (w w':World):Prop where
 os:w'.os=w.os
 tape:w'.tape=w.tape
 output:w'.output=w.output
 size:w.heap.size≤w'.heap.size
 block:∀k,k<w.heap.size→k∉L→w'.heap[k]?=w.heap[k]?
theorem Step.refl (L:LN) (w:World):Step L w w:=⟨rfl,rfl,rfl,Nat.le_refl _,λ_ _ _=>rfl⟩
theorem Step.drew (L:LN) (w:World):Step L w { w with drawn:=w.drawn+1 }:=⟨rfl,rfl,rfl,Nat.le_refl _,λ_ _ _=>rfl⟩
theorem Step.mono {L L':LN}{w w':World}(h:Step L w w') (hL:∀b∈L,b∈L'):Step L' w w' :=
 ⟨h.os,h.tape,h.output,h.size,λk hk hn=>h.block k hk (λhm=>hn (hL k hm))⟩
theorem Step.any {L:LN}{w w':World}(h:Step [] w w'):Step L w w':=h.mono (λ_ hb=>by cases hb)
theorem Step.then {L L':LN}{w0 w w':World}(h:Step L w0 w) (k:Step L' w w') (hn:∀b∈L',b∈L∨w0.heap.size≤b):Step L w0 w' :=
 ⟨k.os.trans h.os,k.tape.trans h.tape,k.output.trans h.output,Nat.le_trans h.size k.size,λi hi hL =>
  (k.block i (Nat.lt_of_lt_of_le hi h.size) (λhm=>by rcases hn i hm with h1 | h1;exact hL h1;omega)).trans (h.block i hi hL)⟩
theorem Step.trans {L:LN}{w0 w w':World}(h:Step L w0 w) (k:Step [] w w'):Step L w0 w':=h.then k (λ_ hb=>by cases hb)
theorem Step.trans' {L:LN}{w0 w w':World}(h:Step L w0 w) (k:Step L w w'):Step L w0 w':=h.then k (λ_ hb=>.inl hb)
theorem Step.below {w w':World}(h:Step [] w w'):Below w.heap.size w w':=⟨h.os,h.tape,h.output,h.size,λk hk=>h.block k hk (by simp)⟩
theorem Step.of_below {w w':World}(h:Below w.heap.size w w'):Step [] w w':=⟨h.os,h.tape,h.output,h.size,λk hk _=>h.block k hk⟩
theorem Step.of_grown {w w':World}{row:Option Nat}(h:w.grownBy w' row):Step row.toList w w' :=
 ⟨h.os,h.tape,h.output,h.size,λk hk hn=>h.block k hk (λe=>hn (by simp[←e]))⟩
theorem yh (w:World) (o:Obj) (k:Nat) (h:k<w.heap.size):(w.alloc o).heap[k]?=w.heap[k]?:=by
 show (w.heap.push o)[k]?=_
 rw[Array.getElem?_push,if_neg (by omega)]
theorem JO (w:World) (o:Obj):(w.alloc o).heap[w.heap.size]?=some o:=by
 show (w.heap.push o)[w.heap.size]?=_
 simp
theorem Ue (w:World) (o:Obj):(w.alloc o).heap.size=w.heap.size+1:=by show (w.heap.push o).size=_;simp
theorem Step.alloc (w:World) (o:Obj):Step [] w (w.alloc o):=⟨rfl,rfl,rfl,by rw[Ue];omega,λk hk _=>yh w o k hk⟩
theorem Step.setRow (w:World) (g:Nat) (cs:Array Value):Step [g] w (w.setRow g cs) :=
 ⟨rfl,rfl,rfl,by simp[World.setRow],λk _ hn=>setRow_other w g k cs (λe=>hn (by simp[e]))⟩
def cel (H:Array Obj) (a:Addr):Option Value:=match H[a.block]? with
 | some (.cells c _ _)=>if a.spot.isSome then none else c[a.off]?
 | _=>none
theorem X7 (w:World) (a:Addr):w.cell? a=cel w.heap a:=rfl
structure At (L:LN) (H:Array Obj) (a:Addr) (us:LV):Prop where
 out:∀u∈us,a.block∉L
 lt:∀u∈us,a.block<H.size
 cell:∀j u,us[j]?=some u→cel H (a.add j)=some u
theorem Z1 (a:Addr) (j:Nat):(a.add j).block=a.block:=by unfold Addr.add;split <;> rfl
theorem QfJ {L:LN}{w w':World}(h:Step L w w') {a:Addr}(ho:a.block∉L) (hl:a.block<w.heap.size):cel w'.heap a=cel w.heap a:=by
 unfold cel;rw[h.block _ hl ho]
theorem At.step {L X:LN}{w w':World}{a:Addr}{us:LV}(h:At L w.heap a us) (hs:Step X w w') (hX:∀b∈X,b∈L):At L w'.heap a us :=
 ⟨h.out,λu hu=>Nat.lt_of_lt_of_le (h.lt u hu) hs.size,λj u hu=>by
  have hm:=List.mem_of_getElem? hu
  rw[QfJ (L:=X) hs (by rw[Z1];exact λhx=>h.out u hm (hX _ hx)) (by rw[Z1];exact h.lt u hm)];exact h.cell j u hu⟩
theorem At.ext {L:LN}{w w':World}{a:Addr}{us:LV}(h:At L w.heap a us) (hs:Step [] w w'):At L w'.heap a us:=h.step hs (λ_ hb=>by cases hb)
theorem At.st {L:LN}{w w':World}{a:Addr}{us:LV}(h:At L w.heap a us) (hs:Step L w w'):At L w'.heap a us:=h.step hs (λ_ hb=>hb)
theorem At.one {L:LN}{w:World}{a:Addr}{u:Value}(h:At L w.heap a [u]):w.cell? a=some u:=by
 have:=h.cell 0 u rfl
 simp only[Addr.add,if_true] at this
 exact this
theorem At.cells {L:LN}{w:World}{a:Addr}{us:LV}(h:At L w.heap a us):∀j v,us[j]?=some v→w.cell? (a.add j)=some v:=h.cell
theorem Addr.add_add (a:Addr) (i j:Nat):(a.add i).add j=a.add (i+j):=by
 unfold Addr.add
 by_cases hi:i=0
 ·subst hi;simp
 ·by_cases hj:j=0
  ·subst hj;simp
  ·simp[hi,hj,Nat.add_assoc]
theorem At.fld {L:LN}{H:Array Obj}{a:Addr}{us:LV}(h:At L H a us) (j:Nat) (u:Value) (hu:us[j]?=some u):At L H (a.add j) [u] :=
 ⟨λ_ _=>by rw[Z1];exact h.out u (List.mem_of_getElem? hu),λ_ _=>by rw[Z1];exact h.lt u (List.mem_of_getElem? hu),λi v hv=>by
  cases i with
  | zero=>simp at hv;subst hv;rw[Addr.add_add,Nat.add_zero];exact h.cell j u hu
  | succ i=>simp at hv⟩
theorem At.up {L L':LN}{H:Array Obj}{a:Addr}{us:LV}(h:At L H a us) (hL:∀b∈L',b∈L∨H.size≤b):At L' H a us :=
 ⟨λu hu hm=>by rcases hL _ hm with h1 | h1;exact h.out u hu h1;have:=h.lt u hu;omega,h.lt,h.cell⟩
def Zj (L:LN) (H:Array Obj) (v:Value) (n sz:Nat) (cs:LV):Prop :=
 cs.length=n*sz∧n≤1099511627776∧((v=nS∧n=0)∨∃a cap,v=.slice (some a) n cap∧n≤cap∧At L H a cs)
theorem Zj.step {L X:LN}{w w':World}{v:Value}{n sz:Nat}{cs:LV}(h:Zj L w.heap v n sz cs) (hs:Step X w w') (hX:∀b∈X,b∈L):Zj L w'.heap v n sz cs :=
 ⟨h.1,h.2.1,h.2.2.imp id λ⟨a,cap,h1,h2,h3⟩=>⟨a,cap,h1,h2,h3.step hs hX⟩⟩
theorem Zj.ext {L:LN}{w w':World}{v:Value}{n sz:Nat}{cs:LV}(h:Zj L w.heap v n sz cs) (hs:Step [] w w'):Zj L w'.heap v n sz cs:=h.step hs (λ_ hb=>by cases hb)
theorem Zj.st {L:LN}{w w':World}{v:Value}{n sz:Nat}{cs:LV}(h:Zj L w.heap v n sz cs) (hs:Step L w w'):Zj L w'.heap v n sz cs:=h.step hs (λ_ hb=>hb)
theorem Zj.up {L L':LN}{H:Array Obj}{v:Value}{n sz:Nat}{cs:LV}(h:Zj L H v n sz cs) (hL:∀b∈L',b∈L∨H.size≤b):Zj L' H v n sz cs :=
 ⟨h.1,h.2.1,h.2.2.imp id λ⟨a,cap,h1,h2,h3⟩=>⟨a,cap,h1,h2,h3.up hL⟩⟩
theorem Zj.nil (L:LN) (H:Array Obj) (sz:Nat):Zj L H (nS) 0 sz []:=⟨by simp,by omega,.inl ⟨rfl,rfl⟩⟩
theorem Zj.shape {L:LN}{H:Array Obj}{v:Value}{n sz:Nat}{cs:LV}(h:Zj L H v n sz cs):∃a cap,v=.slice a n cap:=by
 rcases h.2.2 with ⟨h1,h2⟩ | ⟨a,cap,h1,_⟩
 ·exact ⟨none,0,by rw[h1,h2]⟩
 ·exact ⟨some a,cap,h1⟩
theorem Zj.one {L:LN}{H:Array Obj}{v:Value}{n sz:Nat}{cs:LV}(h:Zj L H v n sz cs):v.oneCell'=true:=by obtain ⟨a,cap,rfl⟩:=h.shape;rfl
theorem Zj.cells {L:LN}{H:Array Obj}{v:Value}{n sz:Nat}{cs:LV}(h:Zj L H v n sz cs):v.cells=[v].toArray:=by obtain ⟨a,cap,rfl⟩:=h.shape;rfl
theorem Zj.le {L:LN}{H:Array Obj}{v:Value}{n sz:Nat}{cs:LV}(h:Zj L H v n sz cs):n≤1099511627776:=h.2.1
theorem Zj.at {L:LN}{H:Array Obj}{v:Value}{n sz:Nat}{cs:LV}(h:Zj L H v n sz cs) {i:Nat}(hi:i<n) :
  ∃a cap,v=.slice (some a) n cap∧At L H (a.add (i*sz)) ((cs.drop (i*sz)).take sz):=by
 rcases h.2.2 with ⟨_,h2⟩ | ⟨a,cap,h1,_,h3⟩
 ·omega
 ·refine ⟨a,cap,h1,λu hu=>by rw[Z1];exact h3.out u (List.mem_of_mem_drop (List.mem_of_mem_take hu)),λu hu=>by rw[Z1];exact h3.lt u (List.mem_of_mem_drop (List.mem_of_mem_take hu)),λj u hu=>?_⟩
  rw[Addr.add_add]
  refine h3.cell _ u ?_
  rw[List.getElem?_take] at hu
  split at hu
  ·simpa using hu
  ·cases hu
abbrev QL (L:LN) (H:Array Obj) (v:Value) (l:LI):Prop:=Zj L H v l.length 1 (l.map (.int .i64))
theorem QL.at {L:LN}{H:Array Obj}{v:Value}{l:LI}(h:QL L H v l) {i:Nat}(hi:i<l.length) :
  ∃a cap,v=.slice (some a) l.length cap∧At L H (a.add (i*1)) [.int .i64 l[i]]:=by
 obtain ⟨a,cap,h1,h2⟩:=Zj.at h hi
 refine ⟨a,cap,h1,?_⟩
 have:((l.map (Value.int .i64)).drop (i*1)).take 1=[.int .i64 l[i]]:=by
  rw[Nat.mul_one,List.drop_eq_getElem_cons (by simpa using hi)];simp
 rw[this] at h2
 exact h2
def Q2 (H:Array Obj) (b T:Nat) (cs:LV):Prop:=H[b]?=some (.cells cs.toArray T (0,0))
theorem Q2.lt {H:Array Obj}{b T:Nat}{cs:LV}(h:Q2 H b T cs):b<H.size:=(Array.getElem?_eq_some_iff.1 h).1
theorem Q2.step {X:LN}{w w':World}{b T:Nat}{cs:LV}(h:Q2 w.heap b T cs) (hs:Step X w w') (hb:b∉X):Q2 w'.heap b T cs:=by
 unfold Q2;rw[hs.block b h.lt hb];exact h
theorem Q2.ext {w w':World}{b T:Nat}{cs:LV}(h:Q2 w.heap b T cs) (hs:Step [] w w'):Q2 w'.heap b T cs:=h.step hs (by simp)
theorem Q2.cell {H:Array Obj}{b T:Nat}{cs:LV}(h:Q2 H b T cs) (j:Nat):cel H ⟨b,j,none⟩=cs[j]?:=by
 unfold Q2 at h;simp[cel,h]
theorem Qbz (b j:Nat):(⟨b,0,none⟩:Addr).add j=⟨b,j,none⟩:=by unfold Addr.add;split <;> simp_all
theorem JF (b i j:Nat):(⟨b,i,none⟩:Addr).add j=⟨b,i+j,none⟩:=by unfold Addr.add;split <;> simp_all
theorem Q2.at {L:LN}{H:Array Obj}{b T:Nat}{cs:LV}(h:Q2 H b T cs) (hb:b∉L):At L H ⟨b,0,none⟩ cs :=
 ⟨λ_ _=>hb,λ_ _=>h.lt,λj u hu=>by rw[Qbz,h.cell];exact hu⟩
theorem Q2.arr {L:LN}{H:Array Obj}{b T:Nat}{cs:LV}(h:Q2 H b T cs) (hb:b∉L) {n cap sz:Nat}(hl:cs.length=n*sz) (hn:n≤1099511627776) (hc:n≤cap) :
  Zj L H (.slice (some ⟨b,0,none⟩) n cap) n sz cs:=⟨hl,hn,.inr ⟨_,_,rfl,hc,h.at hb⟩⟩
def ob:Value→LN
 | .slice (some a) _ _=>[a.block]
 | _=>[]
theorem zG (v:Value):ob v=v.ownBlock.toList:=by
 cases v <;> try rfl
 rename_i a _ _;cases a <;> rfl
theorem Qj {X:LN}{w w':World}{base e sz n:Nat}{v:Value}{cs:LV}(h:w.ownsRow base e sz v n cs) (hs:Step X w w') (hX:∀b∈ob v,b∉X):w'.ownsRow base e sz v n cs:=by
 refine ⟨h.1,h.2.imp id λ⟨g,cap,cur,h1,h2,h3,h4⟩=>⟨g,cap,cur,h1,h2,?_,h4⟩⟩
 rw[hs.block g (Array.getElem?_eq_some_iff.1 h3).1 (hX g (by rw[h1];simp[ob]))];exact h3
theorem Qs {w w':World}{base e sz n:Nat}{v:Value}{cs:LV}(h:w.ownsRow base e sz v n cs) (hs:Step [] w w'):w'.ownsRow base e sz v n cs:=Qj h hs (λ_ _=>by simp)
theorem Qk {w:World}{base e sz n:Nat}{v:Value}{cs:LV}(h:w.ownsRow base e sz v n cs):∀b∈ob v,base≤b∧b<w.heap.size:=by
 intro b hb
 rcases h.2 with ⟨h1,_⟩ | ⟨g,cap,cur,h1,h2,h3,_⟩
 ·subst h1;simp[ob] at hb
 ·subst h1;simp[ob] at hb;subst hb;exact ⟨h2,(Array.getElem?_eq_some_iff.1 h3).1⟩
theorem Zo {w:World}{base base' e sz n:Nat}{v:Value}{cs:LV}(h:w.ownsRow base e sz v n cs) (hb:base'≤base):w.ownsRow base' e sz v n cs :=
 ⟨h.1,h.2.imp id λ⟨g,cap,cur,h1,h2,h3⟩=>⟨g,cap,cur,h1,Nat.le_trans hb h2,h3⟩⟩
theorem QT {L:LN}{w:World}{base e sz n:Nat}{v:Value}{cs:LV}(h:w.ownsRow base e sz v n cs) (hn:n≤1099511627776) (hL:∀b∈ob v,b∉L):Zj L w.heap v n sz cs:=by
 refine ⟨h.1,hn,?_⟩
 rcases h.2 with h1 | ⟨g,cap,cur,h1,h2,h3,h4,h5,h6,h7⟩
 ·exact .inl h1
 ·refine .inr ⟨_,_,h1,h4,λ_ _=>hL g (by rw[h1];simp[ob]),λ_ _=>(Array.getElem?_eq_some_iff.1 h3).1,λj u hu=>?_⟩
  rw[Qbz]
  unfold cel;simp only[h3]
  rw[←h7,List.getElem?_take] at hu
  split at hu
  ·simpa using hu
  ·cases hu
theorem QP (w:World) (base e sz:Nat):w.ownsRow base e sz (nS) 0 []:=World.ownsRow_nil w base e sz
theorem Q2.own {w:World}{b T sz n:Nat}{cs:LV}(h:Q2 w.heap b T cs) (hl:cs.length=n*sz) (hn:n≤1099511627776) {base:Nat}(hb:base≤b):w.ownsRow base T sz (.slice (some ⟨b,0,none⟩) n n) n cs :=
 ⟨hl,.inr ⟨b,n,cs.toArray,rfl,hb,h,Nat.le_refl _,by simp only[maxLen];omega,by simp[hl],by simp[←hl]⟩⟩
section
variable {P:Program} {ops:List Oper} {K:Fr→World→Prop} {f:Fr} {w:World} {d:Option Nat} {ty:Nat} {ps:String} {af:Array Edge} {gd:Option (Nat×Bool)} {l:List Oper}
theorem Qr {x:Operand}{t e sz' bys:Nat}{z:Value}[Sl P t e sz' bys z] {L:LN}{n sz:Nat}{cs:LV}{v:Value}{H:Array Obj}(h:Zj L H v n sz cs) (hv:ev f x=v) :
  (execOp (ev f) ⟨d,.call ⟨.builtin .len,#[x],#[t]⟩,ty,ps,af,gd⟩).run P w=.ok (.value (.int .i64 n)) w:=by
 obtain ⟨a,cap,h1⟩:=h.shape
 exact yM (hv.trans h1)
theorem xii {x y:Operand}{t e bys:Nat}{z:Value}[Sl P t e 1 bys z] {L:LN}{li:LI}{v:Value}{k:IntKind}{i:Nat}
  (h:QL L w.heap v li) (hv:ev f x=v) (hy:ev f y=.int k i) (hi:i<li.length)
  (hK:∀a,At L w.heap a [.int .i64 li[i]]→XL P ops K l (QY f d (.pointer (some a))) w) (hg:Yd ops f ⟨d,.indexAddr t x y,ty,ps,af,gd⟩=true:=by rfl) :
  XL P ops K (⟨d,.indexAddr t x y,ty,ps,af,gd⟩::l) f w:=by
 obtain ⟨a,cap,h1,h2⟩:=QL.at h hi
 refine xl hg (xv (Y8 (hv.trans h1) hy (by omega) (by omega)) (hK _ ?_))
 simpa using h2
theorem Qv {t:Nat}[XM P t] {x:Operand}{a:Addr}{L:LN}{u:Value}(h:At L w.heap a [u]) (hx:ev f x=.pointer (some a)) :
  (execOp (ev f) ⟨d,.load t x,ty,ps,af,gd⟩).run P w=.ok (.value u) w:=Qd7 hx h.one
theorem QC {t sz:Nat}[Ag P t sz] {x:Operand}{a:Addr}{L:LN}{us:LV}(h:At L w.heap a us) (hx:ev f x=.pointer (some a)) (hl:us.length=sz) :
  (execOp (ev f) ⟨d,.load t x,ty,ps,af,gd⟩).run P w=.ok (.value (.agg us.toArray)) w:=V6 hx hl h.cells
theorem Qd {t:Nat}[XM P t] {x:Operand}{b T j:Nat}{cs:LV}{u:Value}(h:Q2 w.heap b T cs) (hx:ev f x=.pointer (some ⟨b,j,none⟩)) (hj:cs[j]?=some u) :
  (execOp (ev f) ⟨d,.load t x,ty,ps,af,gd⟩).run P w=.ok (.value u) w:=Qd7 hx (by rw[X7,h.cell];exact hj)
theorem Qq {t sz:Nat}[Ag P t sz] {x:Operand}{b T:Nat}{cs:LV}(h:Q2 w.heap b T cs) (hx:ev f x=.pointer (some ⟨b,0,none⟩)) (hl:cs.length=sz) :
  (execOp (ev f) ⟨d,.load t x,ty,ps,af,gd⟩).run P w=.ok (.value (.agg cs.toArray)) w:=V6 hx hl (h.at (L:=[]) (by simp)).cells
theorem Qa {t j off:Nat}[Zh P t j off] {x:Operand}{b o:Nat}(hx:ev f x=.pointer (some ⟨b,o,none⟩)) :
  (execOp (ev f) ⟨d,.fieldAddr t x j,ty,ps,af,gd⟩).run P w=.ok (.value (.pointer (some ⟨b,o+off,none⟩))) w:=by
 rw[←JF];exact Zc hx
end
section
variable {P:Program} {K:Fr→World→Prop} {f:Fr} {w:World} {d:Option Nat} {ty:Nat} {ps:String} {af:Array Edge} {gd:Option (Nat×Bool)}
theorem QQ {t:Nat}{x:Operand}{us:LV}(hx:(ev f x).cells=us.toArray)
  (hK:∀b w',Step [] w w'→w.heap.size≤b→Q2 w'.heap b t us→K (QY f d (.pointer (some ⟨b,0,none⟩))) w'):XO P ⟨d,.box t x,ty,ps,af,gd⟩ f w K:=by
 have hr:(execOp (ev f) ⟨d,.box t x,ty,ps,af,gd⟩).run P w=.ok (.value (.pointer (some ⟨w.heap.size,0,none⟩))) (w.alloc (.cells us.toArray t)):=by
  simp[execOp,Instr.box,newVar,newRow,hx]
 exact xv hr (hK _ _ (Step.alloc w _) (Nat.le_refl _) (JO w _))
theorem Qt {t:Nat}{z:Value}[h:Ze P t z] {us:LV}(hz:z.cells=us.toArray)
  (hK:∀b w',Step [] w w'→w.heap.size≤b→Q2 w'.heap b t us→K (QY f d (.pointer (some ⟨b,0,none⟩))) w'):XO P ⟨d,.alloc t,ty,ps,af,gd⟩ f w K:=by
 have hr:(execOp (ev f) ⟨d,.alloc t,ty,ps,af,gd⟩).run P w=.ok (.value (.pointer (some ⟨w.heap.size,0,none⟩))) (w.alloc (.cells us.toArray t)):=by
  have hi:=h.i
  cases hq:P.info? t with
  | none=>simp[hq] at hi
  | some i =>
   simp[hq] at hi
   simp[execOp,Instr.alloc,newVar,newRow,zeroValue,typeInfo,hq,hi,hz]
 exact xv hr (hK _ _ (Step.alloc w _) (Nat.le_refl _) (JO w _))
def yj (sz:Nat):LV→List (LV)→Prop
 | [],[]=>True
 | v::vs,u::us=>v.cells=u.toArray∧u.length=sz∧yj sz vs us
 | _,_=>False
theorem UO {sz:Nat}:∀(vs:LV) (us:List (LV)) (i0:Nat) (pre rest:LV),yj sz vs us→pre.length=i0*sz→rest.length=vs.length*sz →
  Instr.fill (λi=>some (i*sz,sz)) (pre++rest).toArray ((vs.zipIdx i0).map λx=>(x.2,x.1))=some (pre++us.flatten).toArray
 | [],[],i0,pre,rest,_,_,hr=>by
  have:rest=[]:=List.eq_nil_of_length_eq_zero (by simpa using hr)
  subst this;simp[Instr.fill]
 | [],_::_,_,_,_,h,_,_=>h.elim
 | _::_,[],_,_,_,h,_,_=>h.elim
 | v::vs,u::us,i0,pre,rest,h,hp,hr=>by
  obtain ⟨h1,h2,h3⟩:=h
  have hr':sz≤rest.length:=by rw[hr];simp[Nat.add_mul]
  have ih:=UO vs us (i0+1) (pre++u) (rest.drop sz) h3 (by simp[hp,h2,Nat.add_mul]) (by simp only[List.length_drop,hr,List.length_cons,Nat.add_mul,Nat.one_mul];omega)
  simp only[List.zipIdx_cons,List.map_cons]
  unfold Instr.fill
  have hsz:v.cells.size=sz:=by rw[h1];simp[h2]
  simp only[hsz]
  rw[if_neg (by simp;omega)]
  have key:v.cells.zipIdx.foldl (λcs (x:Value×Nat)=>cs.setIfInBounds (i0*sz+x.2) x.1) (pre++rest).toArray=(pre++u++rest.drop sz).toArray:=by
   rw[←Array.foldl_toList,Array.toList_zipIdx,h1]
   obtain ⟨g1,g2⟩:=Great.foldl_set (i0*sz) u 0 (pre++rest).toArray
   apply Array.ext'
   apply List.ext_getElem?
   intro k
   have g3:=g2 k
   simp only[Array.getElem?_toList]
   rw[g3]
   simp only[Nat.add_zero,List.size_toArray,List.length_append,List.getElem?_toArray]
   split
   ·rename_i hc
    rw[List.append_assoc,List.getElem?_append_right (by omega),List.getElem?_append_left (by omega),←hp]
   ·rename_i hc
    by_cases hk:k<pre.length
    ·rw[List.append_assoc,List.getElem?_append_left hk,List.getElem?_append_left hk]
    ·rw[List.append_assoc,List.getElem?_append_right (by omega),List.getElem?_append_right (by omega)]
     by_cases hk2:k<pre.length+sz
     ·exfalso;apply hc;omega
     ·rw[List.getElem?_append_right (by omega),List.getElem?_drop]
      congr 1;omega
  have ih':=ih
  rw[List.append_assoc pre u] at key
  rw[show (v.cells.zipIdx.foldl (λcs (x:Value×Nat)=>cs.setIfInBounds (i0*sz+x.2) x.1) (pre++rest).toArray)=(pre++u++rest.drop sz).toArray by rw[key,List.append_assoc]]
  rw[ih]
  simp
theorem qv (f:Fr):∀(ps:List (Nat×Operand)) (i:Nat),ps.map (·.1)=List.range' i ps.length→(ps.map λx=>(x.1,ev f x.2))=((ps.map λx=>ev f x.2).zipIdx i).map λx=>(x.2,x.1)
 | [],_,_=>rfl
 | p::ps,i,h=>by
  simp only[List.map_cons,List.length_cons,List.range'_succ,List.cons.injEq] at h
  simp only[List.map_cons,List.zipIdx_cons]
  rw[qv f ps (i+1) h.2,h.1]
theorem QD {t e sz bys:Nat}{z:Value}[h:Sl P t e sz bys z] {n:Nat}{parts:List (Nat×Operand)}{us:List (LV)}(hp:parts.map (·.1)=List.range' 0 n) (hn:parts.length=n) (h0:0<n) (hs:n*sz≤1000000)
  (hc:yj sz (parts.map λx=>ev f x.2) us)
  (hK:∀b w',Step [] w w'→w.heap.size≤b→Q2 w'.heap b e us.flatten→K (QY f d (.slice (some ⟨b,0,none⟩) n n)) w'):XO P ⟨d,.buildSlice t n parts.toArray,ty,ps,af,gd⟩ f w K:=by
 obtain ⟨ie,hie,hz,hsz,_⟩:=Sl.info h
 subst hn
 have hpos:=h.pos
 have hm:0<parts.length*sz:=Nat.mul_pos h0 hpos
 have hfill:Instr.fill (λi=>some (i*ie.size,ie.size)) ((Array.range (parts.length*ie.size)).map (z.cells[· % z.cells.size]!)) (parts.toArray.map λ(i,x)=>(i,ev f x)).toList=some us.flatten.toArray:=by
  rw[hsz]
  have:=UO (parts.map λx=>ev f x.2) us 0 [] ((Array.range (parts.length*sz)).map (z.cells[· % z.cells.size]!)).toList hc (by simp) (by simp)
  simp only[List.nil_append,Array.toArray_toList] at this
  rw[←this,←qv f parts 0 hp]
  simp
 have hr:(execOp (ev f) ⟨d,.buildSlice t parts.length parts.toArray,ty,ps,af,gd⟩).run P w=.ok (.value (.slice (some ⟨w.heap.size,0,none⟩) parts.length parts.length)) (w.alloc (.cells us.flatten.toArray e)):=by
  have:=run_buildSlice (P:=P) w t e parts.length (parts.toArray.map λ(i,x)=>(i,ev f x)) us.flatten.toArray ie z h.u hie hz (by rw[hsz];omega) (by rw[hsz];omega) hfill
  simp only[execOp,Sem.run_bind,this,Result.andThen_ok,Sem.run_pure]
 exact xv hr (hK _ _ (Step.alloc w _) (Nat.le_refl _) (JO w _))
theorem qg {base t ty e:Nat}{sz bys:Nat}{z:Value}[h:Sl P t e sz bys z] {v:Value}{n:Nat}{cs:LV}(hown:w.ownsRow base e sz v n cs)
  {a:Addr} {m c:Nat} {news:LV} (hl:news.length=m*sz) (hnews:∀j u,news[j]?=some u→w.cell? (a.add j)=some u) (h1:∀u∈news,u.oneCell'=true)
  (hb:n+m≤1099511627776) (hby:bys≤128) (hbase:base≤w.heap.size) :
  ∃v' w',(Builtin.append_ #[t,t] ty #[v,.slice (some a) m c]).run P w=.ok v' w'∧w'.ownsRow base e sz v' (n+m) (cs++news)∧Step (ob v) w w'∧(∀b∈ob v',b∈ob v∨w.heap.size≤b):=by
 obtain ⟨i,hi,hz,hsz,hbys⟩:=Sl.info h
 have hbytes:(n+m)*bys≤140737488355328:=Nat.le_trans (Nat.mul_le_mul hb hby) (by omega)
 have h63:n+m≤maxLen:=by simp only[maxLen];omega
 by_cases hg:∃g cap cur,v=.slice (some ⟨g,0,none⟩) n cap∧w.heap[g]?=some (.cells cur e (0,0))∧n+m≤cap
 ·obtain ⟨v',w',hr,ho,hgr,_⟩:=run_append_own (P:=P) w base t ty e i z sz bys h.u hi hz hsz hbys h.zs h.pos v n cs hown a m c news hl hnews h1 h63 hbytes hbase
  refine ⟨v',w',hr,ho,by rw[zG];exact Step.of_grown hgr,?_⟩
  obtain ⟨g,cap,cur,rfl,hgg,hroom⟩:=hg
  rcases hown.2 with ⟨h2,_⟩ | ⟨g2,cap2,cur2,h2,h3,h4,h5,h6,h7,h8⟩
  ·cases h2
  ·cases h2
   have hfit:n*i.size+news.length≤cur2.size:=by rw[hl,h7,hsz,←Nat.add_mul];exact Nat.mul_le_mul_right _ hroom
   have hr2:=run_append_room (P:=P) w t ty e i h.u hi g n cap cur2 h4 a m c news (by rw[hsz];exact hl) hnews h1 hroom hfit
   rw[hr2] at hr
   cases hr
   intro b hb'
   exact .inl hb'
 ·have new:∀(old:Nat),old<n+m→∀o',o'=(Obj.cells (cs.toArray++news.toArray++Builtin.zeroCells z.cells (grownCap w (n+m) old e - (n+m))) e) →
    (w.drew.alloc o').ownsRow base e sz (.slice (some ⟨w.heap.size,0,none⟩) (n+m) (grownCap w (n+m) old e)) (n+m) (cs++news):=by
   intro old ho o' ho'
   subst ho'
   have hge:=grownCap_ge w (n+m) old e
   have hcm:grownCap w (n+m) old e≤maxLen:=grownCap_le_maxLen w (n+m) old e h63
   have hlen:(cs++news).length=(n+m)*sz:=by rw[List.length_append,hown.1,hl,Nat.add_mul]
   refine ⟨hlen,.inr ⟨w.heap.size,_,_,rfl,hbase,JO w.drew _,hge,hcm,?_,?_⟩⟩
   ·simp only[Array.size_append,List.size_toArray,size_zeroCells,h.zs,hown.1,hl,←Nat.add_mul]
    congr 1;omega
   ·simp only[Array.toList_append,List.append_assoc]
    rw[←List.append_assoc,←hlen]
    exact List.take_left
  have stp:∀o',Step (ob v) w (w.drew.alloc o'):=λo'=>⟨rfl,rfl,rfl,by rw[Ue];exact Nat.le_succ _,λk hk _=>yh w.drew o' k hk⟩
  have fin:∀(b:Nat),b∈ob (.slice (some ⟨w.heap.size,0,none⟩) (n+m) 0)→b∈ob v∨w.heap.size≤b:=λb hb'=>by simp[ob] at hb';omega
  rcases hown.2 with ⟨rfl,rfl⟩ | ⟨g,cap,cur,rfl,hbg,hgg,hnc,hcm,hcs,htake⟩
  ·have hx:cs=[]:=List.eq_nil_of_length_eq_zero (by simpa using hown.1)
   subst hx
   by_cases hm:m=0
   ·subst hm
    have hn:news=[]:=List.eq_nil_of_length_eq_zero (by simpa using hl)
    subst hn
    refine ⟨nS,w,?_,QP _ _ _ _,Step.refl _ _,λb hb'=>by simp[ob] at hb'⟩
    simp[Builtin.append_,run_underlying h.u,sizeOf,typeInfo,hi,Builtin.lenOf,Builtin.firstCells,loadCells,loadCellsFrom]
   ·have hr:=run_append_nil (P:=P) w t ty e i z h.u hi hz a m c news (by rw[hsz];exact hl) hnews (by omega) (by omega) (by rw[hbys];have hb2:=hbytes;simp only[Nat.zero_add] at hb2;omega)
    have hn:=new 0 (by omega) _ rfl
    simp only[Nat.zero_add,List.nil_append,Array.empty_append] at hn ⊢
    exact ⟨_,_,hr,hn,stp _,λb hb'=>fin b hb'⟩
  ·have hroom:cap<n+m:=by
    rcases Nat.lt_or_ge cap (n+m) with hlt | hge
    ·exact hlt
    ·exact absurd ⟨g,cap,cur,rfl,hgg,hge⟩ hg
   have holds:∀j u,cs[j]?=some u→w.cell? ((⟨g,0,none⟩:Addr).add j)=some u:=hown.cells (g:=g) rfl
   have hr:=run_append_grow (P:=P) w t ty e i z h.u hi hz ⟨g,0,none⟩ n cap cs (by rw[hsz];exact hown.1) holds a m c news (by rw[hsz];exact hl) hnews hroom (by omega) (growslice_fits hroom (by rw[hbys];exact hbytes))
   exact ⟨_,_,hr,new cap hroom _ rfl,stp _,λb hb'=>fin b hb'⟩
theorem QZ {t e sz bys:Nat}{z:Value}[h:Sl P t e sz bys z] {s y:Operand}{base:Nat}{v:Value}{n:Nat}{cs:LV}(hown:w.ownsRow base e sz v n cs) (hs:ev f s=v)
  {a:Addr} {m c:Nat} {news:LV} (hy:ev f y=.slice (some a) m c) (hl:news.length=m*sz) {L:LN} (hsrc:At L w.heap a news) (h1:∀u∈news,u.oneCell'=true)
  (hb:n+m≤1099511627776) (hbase:base≤w.heap.size)
  (hK:∀v' w',w'.ownsRow base e sz v' (n+m) (cs++news)→Step (ob v) w w'→(∀b∈ob v',b∈ob v∨w.heap.size≤b)→K (QY f d v') w') (hby:bys≤128:=by decide) :
  XO P ⟨d,.call ⟨.builtin .append,#[s,y],#[t,t]⟩,ty,ps,af,gd⟩ f w K:=by
 obtain ⟨v',w',hr,h2,h3,h4⟩:=qg (P:=P) (t:=t) (ty:=ty) hown hl hsrc.cells h1 hb hby hbase (c:=c)
 have hr':(execOp (ev f) ⟨d,.call ⟨.builtin .append,#[s,y],#[t,t]⟩,ty,ps,af,gd⟩).run P w=.ok (.value v') w':=by
  simp[execOp,resolve,invoke,builtin,hs,hy,hr]
 exact xv hr' (hK v' w' h2 h3 h4)
end
def QjG (P:Program) (t:Nat):Option (LV×LN):=match P.info? t,P.underlying t with
 | some it,some (.struct fs)=>match it.zero,fs.toList.mapM (λf=>(P.info? f.type).bind λi=>if i.size=1 then some f.offset else none) with
  | some (.agg zs),some offs=>some (zs.toList,offs)
  | _,_=>none
 | some it,some (.array n e)=>match it.zero,P.info? e with
  | some (.agg zs),some ie=>if ie.size=1 then some (zs.toList,List.range n) else none
  | _,_=>none
 | _,_=>none
class Bs (P:Program) (t:Nat) (zs:outParam (LV)) (offs:outParam (LN)):Prop where
 h:QjG P t=some (zs,offs)
 b:offs.all (·<zs.length)=true
def bld (offs:LN) (zs:LV):List (Nat×Value)→LV
 | []=>zs
 | (j,v)::ps=>bld offs (zs.set (offs.getD j 0) v) ps
def Qh2:LV→Prop
 | []=>True
 | v::vs=>v.cells=[v].toArray∧Qh2 vs
theorem UN {place:Nat→Option (Nat×Nat)}{offs:LN}(hp:∀j,j<offs.length→place j=some (offs.getD j 0,1)):∀(ps:List (Nat×Value)) (zs:LV),Qh2 (ps.map (·.2))→ps.all (λp=>p.1<offs.length)=true →
  (∀o∈offs,o<zs.length)→Instr.fill place zs.toArray ps=some (bld offs zs ps).toArray
 | [],zs,_,_,_=>rfl
 | (j,v)::ps,zs,h1,h2,h3=>by
  simp only[List.all_cons,Bool.and_eq_true,decide_eq_true_eq] at h2
  have hj:=hp j h2.1
  have hoff:offs.getD j 0<zs.length:=h3 _ (by simp[List.getD,List.getElem?_eq_getElem h2.1])
  unfold Instr.fill
  simp only[hj]
  have hc:v.cells=#[v]:=h1.1
  simp only[hc]
  rw[if_neg (by rw[show (#[v]:Array Value).size=1 from rfl,List.size_toArray];simp only[ne_eq,not_true,decide_false,Bool.false_or,decide_eq_true_eq];omega)]
  have:(#[v]:Array Value).zipIdx.foldl (λcs (x:Value×Nat)=>cs.setIfInBounds (offs.getD j 0+x.2) x.1) zs.toArray=(zs.set (offs.getD j 0) v).toArray:=by
   simp[Array.zipIdx]
  rw[this]
  exact UN hp ps _ h1.2 h2.2 (λo ho=>by rw[List.length_set];exact h3 o ho)
theorem QaQ {P:Program}{t:Nat}{zs:LV}{offs:LN}(h:QjG P t=some (zs,offs)) (hb:offs.all (·<zs.length)=true) (ps:List (Nat×Value)) (h1:Qh2 (ps.map (·.2))) (h2:ps.all (λp=>p.1<offs.length)=true) :
  P.built t ps=some (bld offs zs ps).toArray:=by
 have h3:∀o∈offs,o<zs.length:=λo ho=>by simpa using List.all_eq_true.1 hb o ho
 unfold QjG at h
 unfold Program.built
 cases hi:P.info? t with
 | none=>simp[hi] at h
 | some it =>
  cases hu:P.underlying t with
  | none=>simp[hi,hu] at h
  | some dd =>
   simp only[hi,hu] at h
   cases dd <;> simp only[] at h <;> try (cases h)
   case struct fs =>
    cases hz:it.zero with
    | none=>simp[hz] at h
    | some z =>
     cases z <;> simp only[hz] at h <;> try (cases h)
     rename_i za
     cases hm:fs.toList.mapM (λf=>(P.info? f.type).bind λi=>if i.size=1 then some f.offset else none) with
     | none=>simp[hm] at h
     | some offs' =>
      simp only[hm,Option.some.injEq,Prod.mk.injEq] at h
      obtain ⟨rfl,rfl⟩:=h
      have key:∀(l:List Field) (offs:LN),l.mapM (λf=>(P.info? f.type).bind λi=>if i.size=1 then some f.offset else none)=some offs →
        l.mapM (λf=>(P.info? f.type).map λi=>(f.offset,i.size))=some (offs.map λo=>(o,1)):=by
       intro l
       induction l with
       | nil=>intro offs h;simp at h;subst h;rfl
       | cons f l ih =>
        intro offs h
        simp only[List.mapM_cons] at h ⊢
        cases hf:P.info? f.type with
        | none=>simp[hf] at h
        | some i =>
         by_cases hs:i.size=1
         ·simp only[hf,Option.bind_some,hs,if_true,Option.bind_eq_bind] at h
          cases hl:l.mapM (λf=>(P.info? f.type).bind λi=>if i.size=1 then some f.offset else none) with
          | none=>simp[hl] at h
          | some os =>
           simp[hl] at h
           subst h
           simp[ih os hl,hs]
         ·simp[hf,hs] at h
      have hm':=key _ _ hm
      simp only[hz,hm',Value.cells]
      rw[←UN (place:=λj=>((offs'.map λo=>(o,1)).toArray)[j]?) (λj hj=>by simp[List.getElem?_eq_getElem hj,List.getD]) ps za.toList h1 h2 h3]
   case array n e =>
    cases hz:it.zero with
    | none=>simp[hz] at h
    | some z =>
     cases z <;> simp only[hz] at h <;> try (cases h)
     rename_i za
     cases hie:P.info? e with
     | none=>simp[hie] at h
     | some ie =>
      simp only[hie] at h
      split at h
      ·rename_i hs
       simp only[Option.some.injEq,Prod.mk.injEq] at h
       obtain ⟨rfl,rfl⟩:=h
       simp only[hz,hie,Value.cells]
       rw[←UN (place:=λi=>some (i*ie.size,ie.size)) (λj hj=>by simp at hj;simp[hs,List.getD,hj]) ps za.toList h1 h2 h3]
      ·cases h
theorem QE {P:Program}{f:Fr}{w:World}{d:Option Nat}{ty:Nat}{ps:String}{af:Array Edge}{gd:Option (Nat×Bool)}{t:Nat}{zs:LV}{offs:LN}[h:Bs P t zs offs] {parts:List (Nat×Operand)}
  (h1:Qh2 (parts.map λx=>ev f x.2)) (h2:parts.all (λp=>p.1<offs.length)=true:=by rfl) :
  (execOp (ev f) ⟨d,.build t parts.toArray,ty,ps,af,gd⟩).run P w=.ok (.value (.agg (bld offs zs (parts.map λx=>(x.1,ev f x.2))).toArray)) w:=by
 have hb:=QaQ h.h h.b (parts.map λx=>(x.1,ev f x.2)) (by rw[List.map_map];exact h1) (by rw[List.all_map];exact h2)
 have hr:=run_build (P:=P) w t (parts.toArray.map λ(i,x)=>(i,ev f x)) _ (by simpa using hb)
 simp only[execOp,Sem.run_bind,hr,Result.andThen_ok,Sem.run_pure]
section
variable {κ:Type} [DecidableEq κ]
def mget:List (κ×Value)→κ→Option Value
 | [],_=>none
 | (k',v)::m,k=>if k'=k then some v else mget m k
def mput:List (κ×Value)→κ→Value→List (κ×Value)
 | [],k,v=>[(k,v)]
 | (k',v')::m,k,v=>if k'=k then (k',v)::m else (k',v')::mput m k v
theorem X3 (m:List (κ×Value)) (k k':κ) (v:Value):mget (mput m k v) k'=if k=k' then some v else mget m k':=by
 induction m with
 | nil=>simp[mget,mput]
 | cons p m ih =>
  obtain ⟨q,u⟩:=p
  simp only[mput]
  by_cases h:q=k
  ·subst h;simp[mget];by_cases h2:q=k' <;> simp[h2]
  ·simp only[h,if_false,mget,ih]
   by_cases h2:q=k'
   ·subst h2;simp[Ne.symm h]
   ·simp[h2]
def fnd (k:κ):List κ→List MapEntry→Nat→Option (Nat×Value)
 | q::ks,e::es,i=>if k=q then some (i,e.val) else fnd k ks es (i+1)
 | _,_,_=>none
end
class Key (P:Program) (kt:Nat) {κ:Type} [DecidableEq κ] (enc:κ→Value):Prop where
 check:∀(w:World) (em:Bool) (k:κ),(Instr.checkKey em 10000 kt (enc k)).run P w=.ok () w
 find:∀(w:World) (k:κ) (ks:List κ) (es:List MapEntry),es.map (·.key)=ks.map enc→(Instr.findKey kt (enc k) es).run P w=.ok (fnd k ks es 0) w
 same:∀k,Instr.sameBits 10000 (enc k) (enc k)=true
abbrev Ki (n:Int):Value:=.int .i64 n
abbrev Y4 (p:Int×Int):Value:=.agg #[.int .i64 p.1,.int .i64 p.2]
abbrev Xl (s:ByteArray):Value:=.string s
theorem Qg9 {P:Program}{kt:Nat}(hu:P.underlying kt=some (.int .i64)):Key P kt Ki:=by
 refine ⟨λw em k=>?_,λw k ks es h=>?_,λk=>by simp[Instr.sameBits]⟩
 ·have hck:∀n,(Instr.checkKey em (n+1) kt (Ki k)).run P w=.ok () w:=λn=>by simp[Instr.checkKey,run_underlying hu]
  exact hck 9999
 ·have key:∀(ks:LI) (es:List MapEntry) (i:Nat),es.map (·.key)=ks.map Ki→Instr.findNow (.int .i64) (Ki k) es i=some (fnd k ks es i):=by
   intro ks
   induction ks with
   | nil=>intro es i h;simp at h;subst h;rfl
   | cons q ks ih =>
    intro es i h
    cases es with
    | nil=>simp at h
    | cons e es =>
     simp only[List.map_cons,List.cons.injEq] at h
     have ih':=ih es (i+1) h.2
     simp only[Instr.findNow,h.1,Instr.sameNow,Ki,if_true,fnd]
     by_cases hq:k=q
     ·subst hq;simp
     ·have:(k == q)=false:=by simpa using hq
      simp[hq,this,ih']
  simp[Instr.findKey,run_underlying hu,key ks es 0 h]
theorem Qg8 {P:Program}{kt:Nat}(hu:P.underlying kt=some .string):Key P kt Xl:=by
 refine ⟨λw em k=>?_,λw k ks es h=>?_,λk=>by simp[Instr.sameBits,(MapKept.bytes_beq k k).2 rfl]⟩
 ·have hck:∀n,(Instr.checkKey em (n+1) kt (Xl k)).run P w=.ok () w:=λn=>by simp[Instr.checkKey,run_underlying hu]
  exact hck 9999
 ·have key:∀(ks:List ByteArray) (es:List MapEntry) (i:Nat),es.map (·.key)=ks.map Xl→Instr.findNow .string (Xl k) es i=some (fnd k ks es i):=by
   intro ks
   induction ks with
   | nil=>intro es i h;simp at h;subst h;rfl
   | cons q ks ih =>
    intro es i h
    cases es with
    | nil=>simp at h
    | cons e es =>
     simp only[List.map_cons,List.cons.injEq] at h
     have ih':=ih es (i+1) h.2
     simp only[Instr.findNow,h.1,Instr.sameNow,Xl,fnd]
     by_cases hq:k=q
     ·subst hq;simp[(MapKept.bytes_beq k k).2 rfl]
     ·have:(k == q)=false:=by
       cases hb:(k == q) with
       | false=>rfl
       | true=>exact absurd ((MapKept.bytes_beq k q).1 hb) hq
      simp[hq,this,ih']
  simp[Instr.findKey,run_underlying hu,key ks es 0 h]
theorem Uo {P:Program}{kt e:Nat}(hu:P.underlying kt=some (.array 2 e)) (he:P.underlying e=some (.int .i64)) (hs:(P.info? e).map (·.size)=some 1) (w:World) (p q:Int×Int) :
  (Op.equal kt (Y4 p) (Y4 q)).run P w=.ok (decide (p=q)) w:=by
 obtain ⟨a,b⟩:=p
 obtain ⟨c,d⟩:=q
 cases hi:P.info? e with
 | none=>simp[hi] at hs
 | some ie =>
  simp[hi] at hs
  have hag:∀w,(isAgg e).run P w=.ok false w:=λw=>by simp[isAgg,run_underlying he]
  have hp:∀(x y:Int) (w:World),(part e #[.int .i64 x,.int .i64 y] 0).run P w=.ok (.int .i64 x) w:=λx y w=>by simp[part,hag]
  have hp1:∀(x y:Int) (w:World),(part e #[.int .i64 x,.int .i64 y] 1).run P w=.ok (.int .i64 y) w:=λx y w=>by simp[part,hag]
  have heq:∀(m:Nat) (x y:Int) (w:World),(Op.equalIn (m+1) e (.int .i64 x) (.int .i64 y)).run P w=.ok (x == y) w:=λm x y w=>by simp[Op.equalIn,run_underlying he]
  simp only[Op.equal,Op.maxDepth,Y4]
  unfold Op.equalIn
  simp only[Sem.run_bind,run_underlying hu,Result.andThen_ok,sizeOf,typeInfo,run_program,hi,Sem.run_pure,hs]
  simp only[Std.Legacy.Range.forIn_eq_forIn_range',Std.Legacy.Range.size,Nat.sub_zero,Nat.add_sub_cancel,Nat.div_one,List.range'_succ,List.range'_zero,List.forIn_cons,List.forIn_nil,Nat.zero_mul,Nat.one_mul,Nat.zero_add]
  by_cases h1:a=c
  ·subst h1
   by_cases h2:b=d
   ·subst h2;simp[hp,hp1,heq]
   ·simp[hp,hp1,heq,h2]
  ·simp[hp,heq,h1]
theorem QeJ {P:Program}{kt e:Nat}(hu:P.underlying kt=some (.array 2 e)) (he:P.underlying e=some (.int .i64)) (hs:(P.info? e).map (·.size)=some 1):Key P kt Y4:=by
 refine ⟨λw em k=>?_,λw k ks es h=>?_,λk=>?_⟩
 ·obtain ⟨a,b⟩:=k
  cases hi:P.info? e with
  | none=>simp[hi] at hs
  | some ie =>
   simp[hi] at hs
   have hag:∀w,(isAgg e).run P w=.ok false w:=λw=>by simp[isAgg,run_underlying he]
   have hp:∀(x y:Int) (w:World),(part e #[.int .i64 x,.int .i64 y] 0).run P w=.ok (.int .i64 x) w:=λx y w=>by simp[part,hag]
   have hp1:∀(x y:Int) (w:World),(part e #[.int .i64 x,.int .i64 y] 1).run P w=.ok (.int .i64 y) w:=λx y w=>by simp[part,hag]
   have hck:∀(m:Nat) (x:Int) (w:World),(Instr.checkKey em (m+1) e (.int .i64 x)).run P w=.ok () w:=λm x w=>by simp[Instr.checkKey,run_underlying he]
   simp only[Y4]
   unfold Instr.checkKey
   simp only[Sem.run_bind,run_underlying hu,Result.andThen_ok,sizeOf,typeInfo]
   simp[Std.Legacy.Range.forIn_eq_forIn_range',Std.Legacy.Range.size,List.range'_succ,hi,hs,hp,hp1,hck]
 ·have hno:∀es i,es.map (·.key)=ks.map Y4→Instr.findNow (.array 2 e) (Y4 k) es i=none∨es=[]:=by
   intro es i h
   cases es with
   | nil=>exact .inr rfl
   | cons e es=>left;simp[Instr.findNow,Instr.sameNow]
  have ask:∀(ks:List (Int×Int)) (es:List MapEntry) (i:Nat),es.map (·.key)=ks.map Y4→(Instr.findAsking kt (Y4 k) es i).run P w=.ok (fnd k ks es i) w:=by
   intro ks
   induction ks with
   | nil=>intro es i h;simp at h;subst h;simp[Instr.findAsking,fnd]
   | cons q ks ih =>
    intro es i h
    cases es with
    | nil=>simp at h
    | cons e es =>
     simp only[List.map_cons,List.cons.injEq] at h
     have ih':=ih es (i+1) h.2
     simp only[Instr.findAsking,h.1,Sem.run_bind,Uo hu he hs,Result.andThen_ok,fnd]
     by_cases hq:k=q
     ·subst hq;simp
     ·simp[hq,ih']
  rcases hno es 0 h with h1 | h1
  ·simp[Instr.findKey,run_underlying hu,h1,ask ks es 0 h]
  ·subst h1
   have:ks=[]:=by simpa using h.symm
   subst this
   simp[Instr.findKey,run_underlying hu,Instr.findNow,fnd]
 ·simp[Instr.sameBits]
class Mp (P:Program) (t:Nat) (kt et:outParam Nat) (z:outParam Value):Prop where
 u:P.underlying t=some (.map kt et)
 z:(P.info? et).map (·.zero)=some (some z)
def Z2 {κ:Type}(enc:κ→Value) (H:Array Obj) (b:Nat) (m:List (κ×Value)):Prop :=
 ∃es clock,H[b]?=some (.map es clock)∧es.toList.map (λe=>(e.key,e.val))=m.map (λp=>(enc p.1,p.2))
section
variable {κ:Type} {enc:κ→Value}
theorem Z2.lt {H:Array Obj}{b:Nat}{m:List (κ×Value)}(h:Z2 enc H b m):b<H.size:=by
 obtain ⟨es,c,h1,_⟩:=h;exact (Array.getElem?_eq_some_iff.1 h1).1
theorem Z2.step {X:LN}{w w':World}{b:Nat}{m:List (κ×Value)}(h:Z2 enc w.heap b m) (hs:Step X w w') (hb:b∉X):Z2 enc w'.heap b m:=by
 have hl:=h.lt
 obtain ⟨es,c,h1,h2⟩:=h
 exact ⟨es,c,by rw[hs.block b hl hb];exact h1,h2⟩
theorem Z2.ext {w w':World}{b:Nat}{m:List (κ×Value)}(h:Z2 enc w.heap b m) (hs:Step [] w w'):Z2 enc w'.heap b m:=h.step hs (by simp)
theorem zT {m:List (κ×Value)}{es:List MapEntry}(h:es.map (λe=>(e.key,e.val))=m.map (λp=>(enc p.1,p.2))):es.map (·.key)=(m.map (·.1)).map enc:=by
 have:=congrArg (List.map Prod.fst) h
 simp only[List.map_map] at this ⊢
 exact this
variable [DecidableEq κ]
theorem K2 {k:κ}:∀{m:List (κ×Value)}{es:List MapEntry}{i:Nat},es.map (λe=>(e.key,e.val))=m.map (λp=>(enc p.1,p.2))→mget m k=none→fnd k (m.map (·.1)) es i=none
 | [],es,i,h,_=>by simp[fnd]
 | (q,u)::m,[],i,h,_=>by simp at h
 | (q,u)::m,e::es,i,h,hm=>by
  simp only[List.map_cons,List.cons.injEq] at h
  simp only[mget] at hm
  by_cases hq:q=k
  ·simp[hq] at hm
  ·simp only[hq,if_false] at hm
   simp only[List.map_cons,fnd,Ne.symm hq,if_false]
   exact K2 h.2 hm
theorem K1 {k:κ}{u:Value}:∀{m:List (κ×Value)}{es:List MapEntry}{i:Nat},es.map (λe=>(e.key,e.val))=m.map (λp=>(enc p.1,p.2))→mget m k=some u →
  ∃j,fnd k (m.map (·.1)) es i=some (i+j,u)∧j<es.length∧(∃e,es[j]?=some e∧e.key=enc k) ∧
   ∀v,(es.modify j λe=>{ e with key:=enc k,val:=v }).map (λe=>(e.key,e.val))=(mput m k v).map (λp=>(enc p.1,p.2))
 | [],es,i,_,h=>by simp[mget] at h
 | (q,x)::m,[],i,h,_=>by simp at h
 | (q,x)::m,e::es,i,h,hm=>by
  simp only[List.map_cons,List.cons.injEq,Prod.mk.injEq] at h
  simp only[mget] at hm
  by_cases hq:q=k
  ·subst hq
   simp at hm;subst hm
   refine ⟨0,by simp[fnd,h.1.2],by simp,⟨e,rfl,h.1.1⟩,λv=>?_⟩
   simp[mput,h.2]
  ·simp only[hq,if_false] at hm
   obtain ⟨j,h1,h2,⟨e',h3,h3'⟩,h4⟩:=K1 (i:=i+1) h.2 hm
   refine ⟨j+1,?_,by simp;omega,⟨e',by simpa using h3,h3'⟩,λv=>?_⟩
   ·simp only[List.map_cons,fnd,Ne.symm hq,if_false,h1]
    congr 2;omega
   ·simp only[mput,hq,if_false,List.modify_succ_cons,List.map_cons,h4 v,h.1]
end
section
variable {P:Program} {K:Fr→World→Prop} {f:Fr} {w:World} {d:Option Nat} {ty:Nat} {ps:String} {af:Array Edge} {gd:Option (Nat×Bool)} {κ:Type} [DecidableEq κ]
omit [DecidableEq κ] in
theorem Yn {t:Nat}(enc:κ→Value)
  (hK:∀b w',Step [] w w'→w.heap.size≤b→Z2 enc w'.heap b []→K (QY f d (.map (some b))) w'):XO P ⟨d,.makeMap t none,ty,ps,af,gd⟩ f w K:=by
 have hr:(execOp (ev f) ⟨d,.makeMap t none,ty,ps,af,gd⟩).run P w=.ok (.value (.map (some w.heap.size))) (w.alloc (.map #[] 0)):=by
  simp[execOp,Instr.makeMap]
 exact xv hr (hK _ _ (Step.alloc w _) (Nat.le_refl _) ⟨#[],0,JO w _,rfl⟩)
theorem YP {b:Nat}{es:Array MapEntry}{c:Nat}(h:w.heap[b]?=some (.map es c)):(getObj b).run P w=.ok (.map es c) w:=by
 simp[getObj,Sem.run,h]
theorem J4 {b:Nat} {es es':Array MapEntry} {c c':Nat} (h:w.heap[b]?=some (.map es c)):(setObj b (.map es' c')).run P w=.ok () { w with heap:=w.heap.setIfInBounds b (.map es' c') }:=by
 simp[setObj,Sem.run,h]
theorem KK {t kt et:Nat}{z:Value}[hm:Mp P t kt et z] {enc:κ→Value}[hk:Key P kt enc] {x y:Operand}{b:Nat}{m:List (κ×Value)}{k:κ}(h:Z2 enc w.heap b m) (hx:ev f x=.map (some b)) (hy:ev f y=enc k) :
  (execOp (ev f) ⟨d,.lookup t x y true,ty,ps,af,gd⟩).run P w=.ok (.value (match mget m k with | some u=>.tuple #[u,.bool true] | none=>.tuple #[z,.bool false])) w:=by
 obtain ⟨es,c,h1,h2⟩:=h
 have hf:=hk.find w k (m.map (·.1)) es.toList (zT h2)
 have hz:(zeroValue et).run P w=.ok z w:=by
  have:=hm.z
  cases hi:P.info? et with
  | none=>simp[hi] at this
  | some i=>simp[hi] at this;simp[zeroValue,typeInfo,hi,this]
 simp only[execOp,Sem.run_bind,Instr.lookup,run_underlying hm.u,Result.andThen_ok,hx,hy,YP h1,Sem.run_pure,hk.check,hf]
 cases hg:mget m k with
 | none=>rw[K2 h2 hg];simp[hz]
 | some u =>
  obtain ⟨j,hj,_⟩:=K1 (i:=0) h2 hg
  rw[hj];simp
theorem XW {t kt et:Nat}{z:Value}[hm:Mp P t kt et z] {enc:κ→Value}[hk:Key P kt enc] {x y:Operand}{b:Nat}{m:List (κ×Value)}{k:κ}(h:Z2 enc w.heap b m) (hx:ev f x=.map (some b)) (hy:ev f y=enc k) :
  (execOp (ev f) ⟨d,.lookup t x y false,ty,ps,af,gd⟩).run P w=.ok (.value (match mget m k with | some u=>u | none=>z)) w:=by
 obtain ⟨es,c,h1,h2⟩:=h
 have hf:=hk.find w k (m.map (·.1)) es.toList (zT h2)
 have hz:(zeroValue et).run P w=.ok z w:=by
  have:=hm.z
  cases hi:P.info? et with
  | none=>simp[hi] at this
  | some i=>simp[hi] at this;simp[zeroValue,typeInfo,hi,this]
 simp only[execOp,Sem.run_bind,Instr.lookup,run_underlying hm.u,Result.andThen_ok,hx,hy,YP h1,Sem.run_pure,hk.check,hf]
 cases hg:mget m k with
 | none=>rw[K2 h2 hg];simp[hz]
 | some u =>
  obtain ⟨j,hj,_⟩:=K1 (i:=0) h2 hg
  rw[hj];simp
theorem Un {t kt et:Nat}{z:Value}[hm:Mp P t kt et z] {enc:κ→Value}[hk:Key P kt enc] {b:Nat}{m:List (κ×Value)}{k:κ}{u:Value}(h:Z2 enc w.heap b m) :
  ∃w',(Instr.mapUpdate t (.map (some b)) (enc k) u).run P w=.ok () w'∧Step [b] w w'∧Z2 enc w'.heap b (mput m k u):=by
 have hl:=h.lt
 obtain ⟨es,c,h1,h2⟩:=h
 have hf:=hk.find w k (m.map (·.1)) es.toList (zT h2)
 have stp:∀es' c',Step [b] w { w with heap:=w.heap.setIfInBounds b (.map es' c') }:=λes' c' =>
  ⟨rfl,rfl,rfl,by simp,λi hi hn=>by
   have:b≠i:=λe=>hn (by simp[e])
   simp[Array.getElem?_setIfInBounds_ne this]⟩
 cases hg:mget m k with
 | none =>
  rw[K2 h2 hg] at hf
  refine ⟨_,?_,stp (es.push { key:=enc k,val:=u,born:=c }) (c+1),es.push { key:=enc k,val:=u,born:=c },c+1,?_,?_⟩
  ·simp only[Instr.mapUpdate,Sem.run_bind,run_underlying hm.u,Result.andThen_ok,YP h1,hk.check,hf,J4 h1]
  ·simp[hl]
  ·have hput:mput m k u=m++[(k,u)]:=by
    clear h2 hf
    induction m with
    | nil=>rfl
    | cons p m ih =>
     obtain ⟨q,x⟩:=p
     by_cases hq:q=k
     ·simp[mget,hq] at hg
     ·simp only[mget,hq,if_false] at hg;simp[mput,hq,ih hg]
   simp[hput,h2]
 | some u0 =>
  obtain ⟨j,hj,hlt,⟨e,he,hek⟩,hmod⟩:=K1 (i:=0) h2 hg
  rw[hj] at hf
  simp only[Nat.zero_add] at hf
  have hst:∀w,(Instr.keyThatStays (enc k) (enc k)).run P w=.ok (enc k) w:=λw=>by simp[Instr.keyThatStays,hk.same]
  have hkey:((es[j]?).map (·.key)).getD (enc k)=enc k:=by
   have:es[j]?=some e:=by simpa using he
   simp[this,hek]
  refine ⟨_,?_,stp (es.modify j λe=>{ e with key:=enc k,val:=u }) c,es.modify j λe=>{ e with key:=enc k,val:=u },c,?_,?_⟩
  ·simp only[Instr.mapUpdate,Sem.run_bind,run_underlying hm.u,Result.andThen_ok,YP h1,hk.check,hf,hkey,hst,J4 h1]
  ·simp[hl]
  ·rw[Array.toList_modify];exact hmod u
theorem Xi {t kt et:Nat}{z:Value}[hm:Mp P t kt et z] {enc:κ→Value}[hk:Key P kt enc] {x y v:Operand}{b:Nat}{m:List (κ×Value)}{k:κ}(h:Z2 enc w.heap b m) (hx:ev f x=.map (some b)) (hy:ev f y=enc k)
  (hK:∀w',Step [b] w w'→Z2 enc w'.heap b (mput m k (ev f v))→K (QY f d undef) w'):XO P ⟨d,.mapUpdate t x y v,ty,ps,af,gd⟩ f w K:=by
 obtain ⟨w',h1,h2,h3⟩:=Un (P:=P) (t:=t) (k:=k) (u:=ev f v) h
 exact xk (w':=w') (by simp[execOp,hx,hy,h1]) (hK w' h2 h3)
theorem YT {t kt et:Nat}{z:Value}[hm:Mp P t kt et z] {enc:κ→Value}[hk:Key P kt enc] {x y v:Operand}{b:Nat}{m:List (κ×Value)}{k:κ}(h:Z2 enc w.heap b m) (hx:ev f x=.map (some b)) (hy:ev f y=enc k)
  (hK:∀w',Step [b] w w'→Z2 enc w'.heap b (mput m k (ev f v))→K (QY f d undef) w'):XO P ⟨d,.insert t x y v,ty,ps,af,gd⟩ f w K:=by
 obtain ⟨w',h1,h2,h3⟩:=Un (P:=P) (t:=t) (k:=k) (u:=ev f v) h
 exact xk (w':=w') (by simp[execOp,hx,hy,h1]) (hK w' h2 h3)
end
section
variable {P:Program} {ops:List Oper} {K:Fr→World→Prop} {f:Fr} {w:World} {d:Option Nat} {ty:Nat} {ps:String} {af:Array Edge} {gd:Option (Nat×Bool)} {l:List Oper}
theorem Jb {b T:Nat}{cs cs':LV}(h:Q2 w.heap b T cs):Q2 (w.setRow b cs'.toArray).heap b T cs':=setRow_heap w b cs.toArray cs'.toArray T (0,0) h
theorem qe (cs:LV) (j:Nat) (u:Value) (h:j<cs.length):cs.take j++[u]++cs.drop (j+1)=cs.set j u:=by
 rw[List.set_eq_take_append_cons_drop,if_pos h];simp
theorem QF {t:Nat}[h1:XM P t] {x y:Operand}{b T j:Nat}{cs:LV}{u:Value}(hB:Q2 w.heap b T cs) (hx:ev f x=.pointer (some ⟨b,j,none⟩)) (hy:ev f y=u) (hj:j<cs.length) (hu:u.oneCell'=true)
  (hK:∀w',Step [b] w w'→Q2 w'.heap b T (cs.set j u)→K (QY f d undef) w'):XO P ⟨d,.store t x y,ty,ps,af,gd⟩ f w K:=by
 have hc:u.cells=#[u]:=by cases u <;> first | rfl | cases hu
 have hr:=run_storeCells_at P b j T [u] 0 cs.toArray w hB (by simp;omega) (by simp[hu])
 simp only[Nat.add_zero,List.length_singleton,qe cs j u hj] at hr
 refine xk (w':=w.setRow b (cs.set j u).toArray) ?_ (hK _ (Step.setRow _ _ _) (Jb hB))
 simp[execOp,hx,hy,Instr.storeAt,Instr.sureAddr,storeVar,j7,hc,hr]
def Zw:LV→Prop
 | []=>True
 | u::us=>u.oneCell'=true∧Zw us
theorem Zw.all:∀{us:LV},Zw us→∀u∈us,u.oneCell'=true
 | [],_,u,hu=>by cases hu
 | v::us,h,u,hu=>by
  rcases List.mem_cons.1 hu with rfl | hu
  ·exact h.1
  ·exact Zw.all h.2 u hu
theorem Qn {t sz:Nat}[h1:Ag P t sz] {x y:Operand}{b T:Nat}{cs us:LV}(hB:Q2 w.heap b T cs) (hx:ev f x=.pointer (some ⟨b,0,none⟩)) (hy:ev f y=.agg us.toArray) (hl:us.length=sz) (hj:cs.length=sz) (hu:Zw us)
  (hK:∀w',Step [b] w w'→Q2 w'.heap b T us→K (QY f d undef) w'):XO P ⟨d,.store t x y,ty,ps,af,gd⟩ f w K:=by
 have hr:=run_storeCells_at P b 0 T us 0 cs.toArray w hB (by simp;omega) hu.all
 have e:(cs.take 0++us++cs.drop us.length)=us:=by rw[hl,←hj];simp
 simp only[Nat.add_zero,Nat.zero_add,e] at hr
 refine xk (w':=w.setRow b us.toArray) ?_ (hK _ (Step.setRow _ _ _) (Jb hB))
 subst hl
 simp[execOp,hx,hy,Instr.storeAt,Instr.sureAddr,storeVar,Vj (sz:=us.length),Value.cells,hr]
theorem Zk {x y:Operand}{t e sz bys:Nat}{z:Value}[h:Sl P t e sz bys z] {b o n c:Nat}{k:IntKind}{i:Nat}(hx:ev f x=.slice (some ⟨b,o,none⟩) n c) (hy:ev f y=.int k i) (h1:i<n) :
  (execOp (ev f) ⟨d,.indexAddr t x y,ty,ps,af,gd⟩).run P w=.ok (.value (.pointer (some ⟨b,o+i*sz,none⟩))) w:=by
 have:=Y8 (P:=P) (w:=w) (d:=d) (ty:=ty) (ps:=ps) (af:=af) (gd:=gd) (t:=t) hx hy (by omega) (by omega)
 rw[JF] at this
 simpa using this
theorem Vr {t e sz bys:Nat}{z:Value}[h:Sl P t e sz bys z] {x y:Operand}{k k':IntKind}{n:Nat}(hx:ev f x=.int k n) (hy:ev f y=.int k' n) (hn:n≤1099511627776)
  (hK:∀b w',Step [] w w'→w.heap.size≤b→Q2 w'.heap b e (List.replicate n z.cells.toList).flatten→K (QY f d (.slice (some ⟨b,0,none⟩) n n)) w') (hby:bys≤128:=by decide) :
  XO P ⟨d,.makeSlice t x y,ty,ps,af,gd⟩ f w K:=by
 obtain ⟨i,hi,hz,hsz,hbys⟩:=Sl.info h
 have hb:i.bytes*n≤281474976710656:=by
  rw[hbys];exact Nat.le_trans (Nat.mul_le_mul hby hn) (by omega)
 have hb':(i.bytes:Int)*(n:Int)≤281474976710656:=by
  have h:((i.bytes*n:Nat):Int)≤281474976710656:=by omega
  rwa [Int.natCast_mul] at h
 have hr:=run_make (P:=P) w t e i z h.u hi hz k k' n n (by omega) (Int.le_refl _) hb' (by omega)
 simp only[Int.toNat_natCast] at hr
 have hcells:madeCells z.cells (n*i.size)=(List.replicate n z.cells.toList).flatten.toArray:=by
  have hzs:z.cells.size=i.size:=by rw[h.zs,hsz]
  have hpos:0<z.cells.size:=by rw[h.zs];exact h.pos
  apply Array.ext'
  apply List.ext_getElem?
  intro j
  simp only[madeCells,←hzs,Array.toList_map,Array.toList_range,List.getElem?_map]
  have hlen:∀n,(List.replicate n z.cells.toList).flatten.length=n*z.cells.size:=λn=>by simp
  have key:∀n j,j<n*z.cells.size→(List.replicate n z.cells.toList).flatten[j]?=some z.cells[j % z.cells.size]!:=by
   intro n
   induction n with
   | zero=>intro j hj;omega
   | succ n ih =>
    intro j hj
    rw[List.replicate_succ,List.flatten_cons]
    by_cases hlt:j<z.cells.size
    ·rw[List.getElem?_append_left (by simpa using hlt),Nat.mod_eq_of_lt hlt]
     simp[hlt]
    ·rw[List.getElem?_append_right (by simp;omega)]
     have:=ih (j - z.cells.size) (by rw[Nat.add_mul] at hj;omega)
     rw[Array.length_toList,this]
     rw[←Nat.mod_eq_sub_mod (by omega)]
  by_cases hj:j<n*z.cells.size
  ·rw[key n j hj];simp[hj]
  ·rw[List.getElem?_eq_none (by simpa using Nat.le_of_not_lt hj),List.getElem?_eq_none (by rw[hlen];omega)];rfl
 rw[hcells] at hr
 refine xv (w':=w.alloc (.cells (List.replicate n z.cells.toList).flatten.toArray e)) (v:=.slice (some ⟨w.heap.size,0,none⟩) n n) ?_ (hK _ _ (Step.alloc w _) (Nat.le_refl _) (JO w _))
 simp[execOp,hx,hy,hr]
theorem ZY {k:IntKind}{i y:Nat}{c:BoundsCode}(h:i≤y):(Instr.sliceBound (.int k i) y c).run P w=.ok i w:=by
 simp[Instr.sliceBound,asIntOf,h]
theorem Zj.cut {L:LN}{H:Array Obj}{a:Addr}{n cap sz:Nat}{cs:LV}(h:Zj L H (.slice (some a) n cap) n sz cs) {lo hi:Nat}(h1:lo≤hi) (h2:hi≤n) :
  Zj L H (.slice (if cap=lo then some a else some (a.add (lo*sz))) (hi - lo) (cap - lo)) (hi - lo) sz ((cs.drop (lo*sz)).take ((hi - lo)*sz)):=by
 obtain ⟨h3,h4,h5⟩:=h
 rcases h5 with ⟨h6,_⟩ | ⟨a',cap',h6,h7,h8⟩
 ·cases h6
 ·cases h6
  refine ⟨?_,by omega,.inr ?_⟩
  ·simp only[List.length_take,List.length_drop,h3,←Nat.sub_mul]
   rw[Nat.min_eq_left];exact Nat.mul_le_mul_right _ (by omega)
  ·split
   ·rename_i hc
    have:hi - lo=0:=by omega
    refine ⟨a,cap - lo,by rw[this],by omega,λu hu=>?_,λu hu=>?_,λj u hu=>?_⟩
    ·simp[this] at hu
    ·simp[this] at hu
    simp[this] at hu
   ·refine ⟨a.add (lo*sz),cap - lo,rfl,by omega,λu hu=>by rw[Z1];exact h8.out u (List.mem_of_mem_drop (List.mem_of_mem_take hu)),λu hu=>by rw[Z1];exact h8.lt u (List.mem_of_mem_drop (List.mem_of_mem_take hu)),λj u hu=>?_⟩
    rw[Addr.add_add]
    rw[List.getElem?_take] at hu
    split at hu
    ·exact h8.cell _ u (by simpa using hu)
    ·cases hu
theorem QgN {t e sz bys:Nat}{z:Value}[h:Sl P t e sz bys z] {x y1 y2:Operand}{L:LN}{v:Value}{n:Nat}{cs:LV}{H:Array Obj}{k k':IntKind}{lo hi:Nat}(hA:Zj L H v n sz cs) (hx:ev f x=v) (hl:ev f y1=.int k lo) (hh:ev f y2=.int k' hi)
  (h1:lo≤hi) (h2:hi≤n):∃v',Zj L H v' (hi - lo) sz ((cs.drop (lo*sz)).take ((hi - lo)*sz))∧∀w,(execOp (ev f) ⟨d,.slice t x (some y1) (some y2) none,ty,ps,af,gd⟩).run P w=.ok (.value v') w:=by
 obtain ⟨i,hi',_,hsz,_⟩:=Sl.info h
 rcases hA.2.2 with ⟨hv,hn⟩ | ⟨a,cap,hv,hc,hat⟩
 ·have e1:hi=0:=by omega
  have e2:lo=0:=by omega
  subst e1 e2
  refine ⟨nS,⟨by simp,by omega,.inl ⟨rfl,rfl⟩⟩,λw=>?_⟩
  simp[execOp,hx,hv,hl,hh,Instr.sliceAt,Instr.slice,run_underlying h.u,Instr.sliceBounds,Instr.sliceBound,asIntOf,sizeOf,typeInfo,hi']
 ·subst hv
  refine ⟨_,hA.cut h1 h2,λw=>?_⟩
  have e1:(Instr.sliceBound (.int k' hi) cap .sliceAcap).run P w=.ok hi w:=ZY (by omega)
  have e2:(Instr.sliceBound (.int k lo) hi .sliceB).run P w=.ok lo w:=ZY (by omega)
  simp[execOp,hx,hl,hh,Instr.sliceAt,Instr.slice,run_underlying h.u,Instr.sliceBounds,e1,e2,sizeOf,typeInfo,hi',hsz]
theorem Qd0 {t e sz bys:Nat}{z:Value}[h:Sl P t e sz bys z] {x y1:Operand}{L:LN}{v:Value}{n:Nat}{cs:LV}{H:Array Obj}{k:IntKind}{lo:Nat}(hA:Zj L H v n sz cs) (hx:ev f x=v) (hl:ev f y1=.int k lo)
  (h1:lo≤n):∃v',Zj L H v' (n - lo) sz (cs.drop (lo*sz))∧∀w,(execOp (ev f) ⟨d,.slice t x (some y1) none none,ty,ps,af,gd⟩).run P w=.ok (.value v') w:=by
 obtain ⟨i,hi',_,hsz,_⟩:=Sl.info h
 rcases hA.2.2 with ⟨hv,hn⟩ | ⟨a,cap,hv,hc,hat⟩
 ·have e2:lo=0:=by omega
  subst e2 hn
  have:cs=[]:=List.eq_nil_of_length_eq_zero (by simpa using hA.1)
  subst this
  refine ⟨nS,⟨by simp,by omega,.inl ⟨rfl,rfl⟩⟩,λw=>?_⟩
  simp[execOp,hx,hv,hl,Instr.sliceAt,Instr.slice,run_underlying h.u,Instr.sliceBounds,Instr.sliceBound,asIntOf,sizeOf,typeInfo,hi']
 ·subst hv
  have hcut:=hA.cut h1 (Nat.le_refl n)
  have e:(cs.drop (lo*sz)).take ((n - lo)*sz)=cs.drop (lo*sz):=List.take_of_length_le (by rw[List.length_drop,hA.1,←Nat.sub_mul];exact Nat.le_refl _)
  rw[e] at hcut
  refine ⟨_,hcut,λw=>?_⟩
  have e2:(Instr.sliceBound (.int k lo) n .sliceB).run P w=.ok lo w:=ZY h1
  simp[execOp,hx,hl,Instr.sliceAt,Instr.slice,run_underlying h.u,Instr.sliceBounds,e2,sizeOf,typeInfo,hi',hsz]
theorem Qd1 {t e sz bys:Nat}{z:Value}[h:Sl P t e sz bys z] {x y2:Operand}{L:LN}{v:Value}{n:Nat}{cs:LV}{H:Array Obj}{k:IntKind}{hi:Nat}(hA:Zj L H v n sz cs) (hx:ev f x=v) (hh:ev f y2=.int k hi)
  (h1:hi≤n):∃v',Zj L H v' hi sz (cs.take (hi*sz))∧∀w,(execOp (ev f) ⟨d,.slice t x none (some y2) none,ty,ps,af,gd⟩).run P w=.ok (.value v') w:=by
 obtain ⟨i,hi',_,hsz,_⟩:=Sl.info h
 rcases hA.2.2 with ⟨hv,hn⟩ | ⟨a,cap,hv,hc,hat⟩
 ·have e2:hi=0:=by omega
  subst e2
  refine ⟨nS,⟨by simp,by omega,.inl ⟨rfl,rfl⟩⟩,λw=>?_⟩
  simp[execOp,hx,hv,hh,Instr.sliceAt,Instr.slice,run_underlying h.u,Instr.sliceBounds,Instr.sliceBound,asIntOf,sizeOf,typeInfo,hi']
 ·subst hv
  have hcut:=hA.cut (Nat.zero_le hi) h1
  simp only[Nat.zero_mul,List.drop_zero,Nat.sub_zero] at hcut
  refine ⟨_,hcut,λw=>?_⟩
  have e2:(Instr.sliceBound (.int k hi) cap .sliceAcap).run P w=.ok hi w:=ZY (by omega)
  simp[execOp,hx,hh,Instr.sliceAt,Instr.slice,run_underlying h.u,Instr.sliceBounds,e2,sizeOf,typeInfo,hi']
end
section
variable {P:Program} {ops:List Oper} {K:Fr→World→Prop} {C:World→Prop} {f:Fr} {w w0:World} {d:Option Nat} {ty:Nat} {ps:String} {af:Array Edge} {gd:Option (Nat×Bool)} {pl:List (Nat×Bool)} {i0:Nat}
theorem pi {x y:Operand}{t e sz bys:Nat}{z:Value}[Sl P t e sz bys z] {L:LN}{n:Nat}{cs:LV}{v:Value}{H:Array Obj}{k:IntKind}{i:Nat}
  (ho:Q6 ops i0=⟨d,.indexAddr t x y,ty,ps,af,gd⟩) (h:Zj L H v n sz cs) (hv:ev f x=v) (hy:ev f y=.int k i) (hi:i<n)
  (hK:∀a,At L H a ((cs.drop (i*sz)).take sz)→XP P ops C K pl (QY f d (.pointer (some a))) w) (hg:Yd ops f (Q6 ops i0)=true:=by rfl) :
  XP P ops C K ((i0,true)::pl) f w:=by
 obtain ⟨a,cap,h1,h2⟩:=h.at hi
 refine Lg.p (λw'=>by rw[ho];exact Y8 (hv.trans h1) hy (by omega) (by omega)) ?_ hg
 rw[ho]
 refine hK _ ?_
 simpa using h2
theorem pii {x y:Operand}{t e bys:Nat}{z:Value}[Sl P t e 1 bys z] {L:LN}{li:LI}{v:Value}{H:Array Obj}{k:IntKind}{i:Nat}
  (ho:Q6 ops i0=⟨d,.indexAddr t x y,ty,ps,af,gd⟩) (h:QL L H v li) (hv:ev f x=v) (hy:ev f y=.int k i) (hi:i<li.length)
  (hK:∀a,At L H a [.int .i64 li[i]]→XP P ops C K pl (QY f d (.pointer (some a))) w) (hg:Yd ops f (Q6 ops i0)=true:=by rfl) :
  XP P ops C K ((i0,true)::pl) f w:=by
 obtain ⟨a,cap,h1,h2⟩:=QL.at h hi
 refine Lg.p (λw'=>by rw[ho];exact Y8 (hv.trans h1) hy (by omega) (by omega)) ?_ hg
 rw[ho]
 refine hK _ ?_
 simpa using h2
end
abbrev Ed:=Int×Int×Int
def Qy (e:Ed):LV:=[.int .i64 e.1,.int .i64 e.2.1,.int .i64 e.2.2]
abbrev U9 (L:LN) (H:Array Obj) (v:Value) (es:List Ed):Prop:=Zj L H v es.length 3 (es.flatMap Qy)
theorem XH {α:Type}(g:α→LV) (sz:Nat) (hg:∀x,(g x).length=sz):∀(l:List α) (i:Nat) (h:i<l.length),((l.flatMap g).drop (i*sz)).take sz=g l[i]
 | x::l,0,_=>by simp[hg]
 | x::l,i+1,h=>by
  have:=XH g sz hg l i (by simpa using h)
  simp only[List.flatMap_cons,List.getElem_cons_succ]
  rw[←this,Nat.add_mul,Nat.one_mul,Nat.add_comm,List.drop_append,hg]
  simp[Nat.add_sub_cancel_left,List.drop_eq_nil_of_le,hg]
theorem JK {α:Type}(g:α→LV) (sz:Nat) (hg:∀x,(g x).length=sz) (l:List α):(l.flatMap g).length=l.length*sz:=by
 induction l with
 | nil=>simp
 | cons x l ih=>simp[ih,hg,Nat.add_mul,Nat.add_comm]
theorem XI (e:Ed):(Qy e).length=3:=rfl
structure QV where
 al:LI
 st:Int
 mr:LI
 ed:List Ed
structure Zt (L:LN) (H:Array Obj) (va vm ve:Value) (a:QV):Prop where
 al:QL L H va a.al
 mr:QL L H vm a.mr
 ed:U9 L H ve a.ed
def Qlx (L:LN) (H:Array Obj) (v:Value) (a:QV):Prop:=∃va vm ve,v=.agg #[va,.int .i64 a.st,vm,ve]∧Zt L H va vm ve a
theorem Zt.ext {L:LN}{w w':World}{va vm ve:Value}{a:QV}(h:Zt L w.heap va vm ve a) (hs:Step [] w w'):Zt L w'.heap va vm ve a:=⟨h.al.ext hs,h.mr.ext hs,h.ed.ext hs⟩
theorem Zt.st {L:LN}{w w':World}{va vm ve:Value}{a:QV}(h:Zt L w.heap va vm ve a) (hs:Step L w w'):Zt L w'.heap va vm ve a:=⟨h.al.st hs,h.mr.st hs,h.ed.st hs⟩
theorem Zt.up {L L':LN}{H:Array Obj}{va vm ve:Value}{a:QV}(h:Zt L H va vm ve a) (hL:∀b∈L',b∈L∨H.size≤b):Zt L' H va vm ve a:=⟨h.al.up hL,h.mr.up hL,h.ed.up hL⟩
section
variable {P:Program} {f:Fr} {w:World} {d:Option Nat} {ty:Nat} {ps:String} {af:Array Edge} {gd:Option (Nat×Bool)}
class Ik (P:Program) (t:Nat) (k:outParam IntKind):Prop where
 u:P.underlying t=some (.int k)
theorem ZK {t t':Nat}{k k':IntKind}[h:Ik P t k] [h':Ik P t' k'] {x:Operand}{n:Int}{k0:IntKind}(hx:ev f x=.int k0 n) (hn:inK k' n) :
  (execOp (ev f) ⟨d,.convert t t' x,ty,ps,af,gd⟩).run P w=.ok (.value (.int k' n)) w:=by
 simp[execOp,hx,convert,run_underlying h.u,run_underlying h'.u,Conv.intToInt,Ye hn]
class St (P:Program) (t:Nat):Prop where
 u:P.underlying t=some .string
end
theorem QX {α:Type}{l:List α}{k:Nat}(h:k<l.length):l.drop k=l[k]::l.drop (k+1):=List.drop_eq_getElem_cons h
theorem U9.at {L:LN}{H:Array Obj}{v:Value}{es:List Ed}(h:U9 L H v es) {i:Nat}(hi:i<es.length) :
  ∃a cap,v=.slice (some a) es.length cap∧At L H (a.add (i*3)) (Qy es[i]):=by
 obtain ⟨a,cap,h1,h2⟩:=Zj.at h hi
 rw[XH Qy 3 XI es i hi] at h2
 exact ⟨a,cap,h1,h2⟩
section
variable {P:Program} {ops:List Oper} {K:Fr→World→Prop} {f:Fr} {w:World} {d:Option Nat} {ty:Nat} {ps:String} {af:Array Edge} {gd:Option (Nat×Bool)} {l:List Oper} {C:World→Prop} {pl:List (Nat×Bool)} {i0:Nat}
theorem xie {x y:Operand}{t e bys:Nat}{z:Value}[Sl P t e 3 bys z] {L:LN}{es:List Ed}{v:Value}{k:IntKind}{i:Nat}
  (h:U9 L w.heap v es) (hv:ev f x=v) (hy:ev f y=.int k i) (hi:i<es.length)
  (hK:∀a,At L w.heap a (Qy es[i])→XL P ops K l (QY f d (.pointer (some a))) w) (hg:Yd ops f ⟨d,.indexAddr t x y,ty,ps,af,gd⟩=true:=by rfl) :
  XL P ops K (⟨d,.indexAddr t x y,ty,ps,af,gd⟩::l) f w:=by
 obtain ⟨a,cap,h1,h2⟩:=U9.at h hi
 refine xl hg (xv (Y8 (hv.trans h1) hy (by omega) (by omega)) (hK _ ?_))
 simpa using h2
theorem pie {x y:Operand}{t e bys:Nat}{z:Value}[Sl P t e 3 bys z] {L:LN}{es:List Ed}{v:Value}{H:Array Obj}{k:IntKind}{i:Nat}
  (ho:Q6 ops i0=⟨d,.indexAddr t x y,ty,ps,af,gd⟩) (h:U9 L H v es) (hv:ev f x=v) (hy:ev f y=.int k i) (hi:i<es.length)
  (hK:∀a,At L H a (Qy es[i])→XP P ops C K pl (QY f d (.pointer (some a))) w) (hg:Yd ops f (Q6 ops i0)=true:=by rfl) :
  XP P ops C K ((i0,true)::pl) f w:=by
 obtain ⟨a,cap,h1,h2⟩:=U9.at h hi
 refine Lg.p (λw'=>by rw[ho];exact Y8 (hv.trans h1) hy (by omega) (by omega)) ?_ hg
 rw[ho]
 refine hK _ ?_
 simpa using h2
end
section
variable {P:Program} {f:Fr} {w:World} {d:Option Nat} {ty:Nat} {ps:String} {af:Array Edge} {gd:Option (Nat×Bool)}
theorem qK {t t':Nat}{x y:Operand}{k k':IntKind}{a:Int}{n:Nat}(hx:ev f x=.int k a) (hy:ev f y=.int k' n) (hn:n≤k.bits) :
  (execOp (ev f) ⟨d,.binOp .shr t x y t',ty,ps,af,gd⟩).run P w=.ok (.value (.int k (a / 2 ^ n))) w:=by
 refine YS hx hy ?_
 have h1:¬((n:Int)<0):=by omega
 simp only[binOp,Op.shift,h1,if_false,Int.toNat_natCast,Nat.min_eq_left hn,Sem.run_pure]
 rw[Int.fdiv_eq_ediv_of_nonneg _ (Int.le_of_lt (Int.pow_pos (by decide)))]
class S3 (P:Program) (t:Nat):Prop where
 u:∃f0 f1 f2,P.underlying t=some (.struct #[f0,f1,f2])∧f0.name ≠ "_" ∧ f1.name ≠ "_" ∧ f2.name ≠ "_" ∧ f0.offset=0∧f1.offset=1∧f2.offset=2 ∧
  P.underlying f0.type=some (.int .i64)∧P.underlying f1.type=some (.int .i64)∧P.underlying f2.type=some (.int .i64)
 s:P.stoodInHeld t=false
 g:P.eqGuardType P.depth t=false
theorem KH {t:Nat}[h:S3 P t] (w:World) (p q:Ed):(Op.equal t (.agg (Qy p).toArray) (.agg (Qy q).toArray)).run P w=.ok (decide (p=q)) w:=by
 obtain ⟨a,b,c⟩:=p
 obtain ⟨a',b',c'⟩:=q
 obtain ⟨f0,f1,f2,hu,n0,n1,n2,o0,o1,o2,u0,u1,u2⟩:=h.u
 have hag:∀e w,P.underlying e=some (.int .i64)→(isAgg e).run P w=.ok false w:=λe w he=>by simp[isAgg,run_underlying he]
 have hp:∀e (x y z:Int) (w:World),P.underlying e=some (.int .i64)→(part e #[.int .i64 x,.int .i64 y,.int .i64 z] 0).run P w=.ok (.int .i64 x) w:=λe x y z w he=>by simp[part,hag e w he]
 have hp1:∀e (x y z:Int) (w:World),P.underlying e=some (.int .i64)→(part e #[.int .i64 x,.int .i64 y,.int .i64 z] 1).run P w=.ok (.int .i64 y) w:=λe x y z w he=>by simp[part,hag e w he]
 have hp2:∀e (x y z:Int) (w:World),P.underlying e=some (.int .i64)→(part e #[.int .i64 x,.int .i64 y,.int .i64 z] 2).run P w=.ok (.int .i64 z) w:=λe x y z w he=>by simp[part,hag e w he]
 have heq:∀e (m:Nat) (x y:Int) (w:World),P.underlying e=some (.int .i64)→(Op.equalIn (m+1) e (.int .i64 x) (.int .i64 y)).run P w=.ok (x == y) w:=λe m x y w he=>by simp[Op.equalIn,run_underlying he]
 have key:∀m,(Op.equalIn (m+2) t (.agg (Qy (a,b,c)).toArray) (.agg (Qy (a',b',c')).toArray)).run P w=.ok (decide ((a,b,c)=(a',b',c'))) w:=by
  intro m
  simp only[Qy]
  unfold Op.equalIn
  simp only[Sem.run_bind,run_underlying hu,Result.andThen_ok]
  by_cases e1:a=a'
  ·subst e1
   by_cases e2:b=b'
   ·subst e2
    by_cases e3:c=c'
    ·subst e3;simp[h.s,n0,n1,n2,o0,o1,o2,hp _ _ _ _ _ u0,hp1 _ _ _ _ _ u1,hp2 _ _ _ _ _ u2,heq _ _ _ _ _ u0,heq _ _ _ _ _ u1,heq _ _ _ _ _ u2]
    ·simp[h.s,n0,n1,n2,o0,o1,o2,hp _ _ _ _ _ u0,hp1 _ _ _ _ _ u1,hp2 _ _ _ _ _ u2,heq _ _ _ _ _ u0,heq _ _ _ _ _ u1,heq _ _ _ _ _ u2,e3]
   ·simp[h.s,n0,n1,o0,o1,hp _ _ _ _ _ u0,hp1 _ _ _ _ _ u1,heq _ _ _ _ _ u0,heq _ _ _ _ _ u1,e2]
  ·simp[h.s,n0,o0,hp _ _ _ _ _ u0,heq _ _ _ _ _ u0,e1]
 exact key 9998
theorem KJ {t t':Nat}[h:S3 P t] {x y:Operand}{p q:Ed}(hx:ev f x=.agg (Qy p).toArray) (hy:ev f y=.agg (Qy q).toArray) :
  (execOp (ev f) ⟨d,.binOp .neq t x y t',ty,ps,af,gd⟩).run P w=.ok (.value (.bool (decide (¬p=q)))) w:=by
 have hg:(eqGuard .neq t x y (.agg (Qy p).toArray) (.agg (Qy q).toArray)).run P w=.ok () w:=by simp[eqGuard,h.g]
 simp only[execOp,hx,hy,Sem.run_bind,hg,Result.andThen_ok,binOp,KH,Sem.run_pure]
 by_cases e:p=q <;> simp[e]
end
theorem Step.then1 {L:LN}{w0 w w':World}{b:Nat}(h:Step L w0 w) (k:Step [b] w w') (hb:w0.heap.size≤b):Step L w0 w':=h.then k (λc hc=>.inr (by simp at hc;omega))
section
variable {P:Program} {K:Fr→World→Prop} {f:Fr} {w:World} {d:Option Nat} {ty:Nat} {ps:String} {af:Array Edge} {gd:Option (Nat×Bool)}
theorem KL {t t' e sz bys:Nat}{z:Value}[h:Sl P t e sz bys z] {x y:Operand}{a:Option Addr}{n c:Nat}(hx:ev f x=.slice a n c) (hy:ev f y=nS) :
  (execOp (ev f) ⟨d,.binOp .eql t x y t',ty,ps,af,gd⟩).run P w=.ok (.value (.bool a.isNone)) w:=by
 have hg:(eqGuard .eql t x y (.slice a n c) (nS)).run P w=.ok () w:=by simp[eqGuard]
 have key:∀m,(Op.equalIn (m+1) t (.slice a n c) (nS)).run P w=.ok a.isNone w:=by
  intro m
  unfold Op.equalIn
  cases a <;> simp[run_underlying h.u]
 have he:(Op.equal t (.slice a n c) (nS)).run P w=.ok a.isNone w:=key 9999
 simp only[execOp,hx,hy,Sem.run_bind,hg,Result.andThen_ok,binOp,he,Sem.run_pure]
theorem Kg {t e sz bys:Nat}{z:Value}[h:Sl P t e sz bys z]
  (hK:∀b w',Step [] w w'→w.heap.size≤b→Q2 w'.heap b e []→K (QY f d (.slice (some ⟨b,0,none⟩) 0 0)) w'):XO P ⟨d,.buildSlice t 0 #[],ty,ps,af,gd⟩ f w K:=by
 obtain ⟨ie,hie,hz,hsz,_⟩:=Sl.info h
 have hr:(execOp (ev f) ⟨d,.buildSlice t 0 #[],ty,ps,af,gd⟩).run P w=.ok (.value (.slice (some ⟨w.heap.size,0,none⟩) 0 0)) (w.alloc (.cells #[] e)):=by
  simp[execOp,Instr.buildSlice,run_underlying h.u,sizeOf,typeInfo,hie,Instr.fill,newRow]
  have e0:Array.map (λ_=>(default:Value)) (Array.range 0)=#[]:=by apply Array.ext';simp
  rw[e0]
 exact xv hr (hK _ _ (Step.alloc w _) (Nat.le_refl _) (JO w _))
end
abbrev Qu (e base:Nat) (w:World) (v:Value) (l:LI):Prop:=w.ownsRow base e 1 v l.length (l.map (.int .i64))
theorem Qu.ints {e base:Nat}{w:World}{v:Value}{l:LI}{L:LN}(h:Qu e base w v l) (hn:l.length≤1099511627776) (hL:∀b∈L,b<base):QL L w.heap v l :=
 QT h hn (λb hb hbL=>by have:=(Qk h b hb).1;have:=hL b hbL;omega)
theorem KM (l:LI):∀u∈l.map (Value.int .i64),u.oneCell'=true:=by
 intro u hu;obtain ⟨n,_,rfl⟩:=List.mem_map.1 hu;rfl
section
variable {P:Program} {ops:List Oper} {K:Fr→World→Prop} {f:Fr} {w:World} {d:Option Nat} {ty:Nat} {ps:String} {af:Array Edge} {gd:Option (Nat×Bool)} {l:List Oper} {C:World→Prop} {pl:List (Nat×Bool)} {i0:Nat}
 {t e sz bys:Nat} {z:Value} {x y1 y2:Operand} {L:LN} {v:Value} {n:Nat} {cs:LV} {H:Array Obj} {k k':IntKind} {lo hi:Nat}
theorem QiP [h:Sl P t e sz bys z] (ho:Q6 ops i0=⟨d,.slice t x (some y1) none none,ty,ps,af,gd⟩) (hA:Zj L H v n sz cs) (hx:ev f x=v) (hl:ev f y1=.int k lo) (h1:lo≤n) (hK:∀v',Zj L H v' (n - lo) sz (cs.drop (lo*sz))→XP P ops C K pl (QY f d v') w)
  (hg:Yd ops f (Q6 ops i0)=true:=by rfl):XP P ops C K ((i0,true)::pl) f w:=by
 obtain ⟨v',h2,h3⟩:=Qd0 (P:=P) (d:=d) (ty:=ty) (ps:=ps) (af:=af) (gd:=gd) (t:=t) hA hx hl h1
 exact Lg.p (λw'=>by rw[ho];exact h3 w') (by rw[ho];exact hK v' h2) hg
theorem QkX [h:Sl P t e sz bys z] (hA:Zj L H v n sz cs) (hx:ev f x=v) (hl:ev f y1=.int k lo) (hh:ev f y2=.int k' hi) (h1:lo≤hi) (h2:hi≤n) (hK:∀v',Zj L H v' (hi - lo) sz ((cs.drop (lo*sz)).take ((hi - lo)*sz))→XL P ops K l (QY f d v') w)
  (hg:Yd ops f ⟨d,.slice t x (some y1) (some y2) none,ty,ps,af,gd⟩=true:=by rfl):XL P ops K (⟨d,.slice t x (some y1) (some y2) none,ty,ps,af,gd⟩::l) f w:=by
 obtain ⟨v',h3,h4⟩:=QgN (P:=P) (d:=d) (ty:=ty) (ps:=ps) (af:=af) (gd:=gd) (t:=t) hA hx hl hh h1 h2
 exact xl hg (xv (h4 w) (hK v' h3))
theorem Qiq [h:Sl P t e sz bys z] (hA:Zj L H v n sz cs) (hx:ev f x=v) (hh:ev f y2=.int k hi) (h1:hi≤n) (hK:∀v',Zj L H v' hi sz (cs.take (hi*sz))→XL P ops K l (QY f d v') w)
  (hg:Yd ops f ⟨d,.slice t x none (some y2) none,ty,ps,af,gd⟩=true:=by rfl):XL P ops K (⟨d,.slice t x none (some y2) none,ty,ps,af,gd⟩::l) f w:=by
 obtain ⟨v',h2,h3⟩:=Qd1 (P:=P) (d:=d) (ty:=ty) (ps:=ps) (af:=af) (gd:=gd) (t:=t) hA hx hh h1
 exact xl hg (xv (h3 w) (hK v' h2))
end
theorem QL.drop {L:LN}{H:Array Obj}{v:Value}{l:LI}{lo:Nat}(h:Zj L H v (l.length - lo) 1 ((l.map (Value.int .i64)).drop (lo*1))):QL L H v (l.drop lo):=by
 rw[Nat.mul_one,←List.map_drop] at h
 have e:(l.drop lo).length=l.length - lo:=List.length_drop
 unfold QL
 rw[e];exact h
theorem Qu.snoc {e base:Nat}{w:World}{v:Value}{l:LI}{n:Int}(h:w.ownsRow base e 1 v (l.length+1) (l.map (Value.int .i64)++[.int .i64 n])):Qu e base w v (l++[n]):=by
 unfold Qu
 rw[List.length_append,List.map_append];exact h
def Dj (u v:Value):Prop:=∀b∈ob u,b∉ob v
theorem Dj.symm {u v:Value}(h:Dj u v):Dj v u:=λb hb hu=>h b hu hb
theorem Dj.nil (v:Value):Dj (nS) v:=λb hb=>by simp[ob] at hb
theorem Dj.nil' (v:Value):Dj v (nS):=(Dj.nil v).symm
theorem Dj.grow {u v v':Value}{N:Nat}(h:Dj u v) (hn:∀b∈ob v',b∈ob v∨N≤b) (hu:∀b∈ob u,b<N):Dj u v' :=
 λb hb hv=>by rcases hn b hv with h1 | h1;exact h b hb h1;have:=hu b hb;omega
theorem QR {w:World}{base e sz n:Nat}{v:Value}{cs:LV}(h:w.ownsRow base e sz v n cs):∀b∈ob v,b<w.heap.size:=λb hb=>(Qk h b hb).2
theorem QM {w:World}{base e sz n:Nat}{v:Value}{cs:LV}(h:w.ownsRow base e sz v n cs) {b:Nat}(hb:b<base):b∉ob v:=λhm=>by have:=(Qk h b hm).1;omega
abbrev Z4 (e base:Nat) (w:World) (v:Value) (l:List Ed):Prop:=w.ownsRow base e 3 v l.length (l.flatMap Qy)
theorem Z4.snoc {e base:Nat}{w:World}{v:Value}{l:List Ed}{n:Ed}(h:w.ownsRow base e 3 v (l.length+1) (l.flatMap Qy++Qy n)):Z4 e base w v (l++[n]):=by
 unfold Z4
 rw[List.length_append,List.flatMap_append];simpa using h
theorem Z4.eds {e base:Nat}{w:World}{v:Value}{l:List Ed}{L:LN}(h:Z4 e base w v l) (hn:l.length≤1099511627776) (hL:∀b∈L,b<base):U9 L w.heap v l :=
 QT h hn (λb hb hbL=>by have:=(Qk h b hb).1;have:=hL b hbL;omega)
def Xr (N:Nat) (H:Array Obj) (v:Value) (a:QV):Prop:=∃va vm ve,v=.agg #[va,.int .i64 a.st,vm,ve]∧∀L:LN,(∀b∈L,b<N)→Zt L H va vm ve a
theorem Xr.v {N:Nat}{H:Array Obj}{v:Value}{a:QV}(h:Xr N H v a) {L:LN}(hL:∀b∈L,b<N):Qlx L H v a:=let ⟨va,vm,ve,h1,h2⟩:=h;⟨va,vm,ve,h1,h2 L hL⟩
theorem Xr.mono {N M:Nat}{H:Array Obj}{v:Value}{a:QV}(h:Xr N H v a) (hM:M≤N):Xr M H v a:=let ⟨va,vm,ve,h1,h2⟩:=h;⟨va,vm,ve,h1,λL hL=>h2 L (λb hb=>Nat.lt_of_lt_of_le (hL b hb) hM)⟩
section
variable {P:Program} {K:Fr→World→Prop} {f:Fr} {w:World} {d:Option Nat} {ty:Nat} {ps:String} {af:Array Edge} {gd:Option (Nat×Bool)}
theorem V7 {t:Nat}[XM P t] {x:Operand}{b T i:Nat}{l:LI}(h:Q2 w.heap b T (l.map (.int .i64))) (hx:ev f x=.pointer (some ⟨b,0+i*1,none⟩)) (hi:i<l.length) :
  (execOp (ev f) ⟨d,.load t x,ty,ps,af,gd⟩).run P w=.ok (.value (.int .i64 l[i])) w:=Qd h hx (by simp[hi])
theorem X0 {t:Nat}[h1:XM P t] {x y:Operand}{b T i:Nat}{l:LI}{u:Int}(hB:Q2 w.heap b T (l.map (.int .i64))) (hx:ev f x=.pointer (some ⟨b,0+i*1,none⟩)) (hy:ev f y=.int .i64 u) (hi:i<l.length)
  (hK:∀w',Step [b] w w'→Q2 w'.heap b T ((l.set i u).map (.int .i64))→K (QY f d undef) w'):XO P ⟨d,.store t x y,ty,ps,af,gd⟩ f w K:=by
 refine QF hB hx hy (by simpa using hi) rfl λw' hs hB'=>hK w' hs ?_
 rw[List.map_set]
 simpa using hB'
end
theorem yJ (n:Nat) (u:Value):(List.replicate n [u]).flatten=List.replicate n u:=by
 induction n with
 | zero=>rfl
 | succ n ih=>simp[List.replicate_succ,ih]
end Go.Lg
namespace Go.Proofs
open Go.Proofs.Tryz
open Go.Lg
instance:Sl prog 32 119 4 4 (.agg #[.int .u8 0,.int .u8 0,.int .u8 0,.int .u8 0]):=⟨underlying32,by kernel_rfl,rfl,by decide⟩
instance:Sl prog 37 3 1 8 (.int .i64 0):=⟨underlying37,by kernel_rfl,rfl,by decide⟩
instance:Sl prog 42 87 5 32 (.agg #[.string ByteArray.empty,.bool false,.bool false,.bool false,.int .i64 0]):=⟨underlying42,by kernel_rfl,rfl,by decide⟩
instance:Sl prog 43 66 5 96 (.agg #[.string ByteArray.empty,nS,.int .i64 0,nS,nS]):=⟨underlying43,by kernel_rfl,rfl,by decide⟩
instance:Sl prog 44 122 2 40 (.agg #[.string ByteArray.empty,nS]):=⟨underlying44,by kernel_rfl,rfl,by decide⟩
instance:Sl prog 45 127 3 48 (.agg #[.string ByteArray.empty,nS,.int .i64 0]):=⟨underlying45,by kernel_rfl,rfl,by decide⟩
instance:Sl prog 50 39 3 40 (.agg #[.int .i64 0,.int .i64 0,nS]):=⟨underlying50,by kernel_rfl,rfl,by decide⟩
instance:Sl prog 56 144 3 24 (.agg #[.int .i64 0,.int .i64 0,.int .i64 0]):=⟨underlying56,by kernel_rfl,rfl,by decide⟩
instance:Sl prog 67 58 4 80 (.agg #[nS,.int .i64 0,nS,nS]):=⟨underlying67,by kernel_rfl,rfl,by decide⟩
instance:Sl prog 73 5 1 1 (.int .u8 0):=⟨underlying73,by kernel_rfl,rfl,by decide⟩
instance:Sl prog 74 37 1 24 (nS):=⟨underlying74,by kernel_rfl,rfl,by decide⟩
instance:Sl prog 75 83 4 32 (.agg #[.int .i64 0,.int .i64 0,.int .i64 0,.int .i64 0]):=⟨underlying75,by kernel_rfl,rfl,by decide⟩
instance:Sl prog 120 124 2 16 (.agg #[.int .i64 0,.int .i64 0]):=⟨underlying120,by kernel_rfl,rfl,by decide⟩
instance:Sl prog 125 129 2 16 (.agg #[.int .i64 0,.int .i64 0]):=⟨underlying125,by kernel_rfl,rfl,by decide⟩
instance:Sl prog 132 137 3 24 (.agg #[.int .i64 0,.int .i64 0,.nilFunc]):=⟨underlying132,by kernel_rfl,rfl,by decide⟩
instance:Sl prog 166 320 4 32 (.agg #[.int .i64 0,.int .i64 0,.int .i64 0,.int .i64 0]):=⟨underlying166,by kernel_rfl,rfl,by decide⟩
instance:Sl prog 174 173 2 32 (.agg #[nS,.int .i64 0]):=⟨underlying174,by kernel_rfl,rfl,by decide⟩
instance:Sl prog 196 140 1 2 (.int .u16 0):=⟨underlying196,by kernel_rfl,rfl,by decide⟩
instance:Sl prog 241 225 1 8 (.map none):=⟨underlying241,by kernel_rfl,rfl,by decide⟩
instance:Sl prog 260 313 1 8 (.nilFunc):=⟨underlying260,by kernel_rfl,rfl,by decide⟩
instance:Sl prog 283 4 1 1 (.bool false):=⟨underlying283,by kernel_rfl,rfl,by decide⟩
instance:Sl prog 371 56 1 24 (nS):=⟨underlying371,by kernel_rfl,rfl,by decide⟩
instance:Sl prog 385 384 2 32 (.agg #[nS,.int .i64 0]):=⟨underlying385,by kernel_rfl,rfl,by decide⟩
instance:Zh prog 28 0 0:=⟨by kernel_rfl⟩
instance:Zh prog 28 1 1:=⟨by kernel_rfl⟩
instance:Zh prog 28 2 2:=⟨by kernel_rfl⟩
instance:Zh prog 36 0 0:=⟨by kernel_rfl⟩
instance:Zh prog 36 1 5:=⟨by kernel_rfl⟩
instance:Zh prog 36 2 6:=⟨by kernel_rfl⟩
instance:Zh prog 36 3 9:=⟨by kernel_rfl⟩
instance:Zh prog 36 4 90:=⟨by kernel_rfl⟩
instance:Zh prog 36 5 91:=⟨by kernel_rfl⟩
instance:Zh prog 36 6 93:=⟨by kernel_rfl⟩
instance:Zh prog 36 7 147:=⟨by kernel_rfl⟩
instance:Zh prog 36 8 148:=⟨by kernel_rfl⟩
instance:Zh prog 36 9 151:=⟨by kernel_rfl⟩
instance:Zh prog 39 0 0:=⟨by kernel_rfl⟩
instance:Zh prog 39 1 1:=⟨by kernel_rfl⟩
instance:Zh prog 39 2 2:=⟨by kernel_rfl⟩
instance:Zh prog 47 0 0:=⟨by kernel_rfl⟩
instance:Zh prog 47 1 1:=⟨by kernel_rfl⟩
instance:Zh prog 47 2 2:=⟨by kernel_rfl⟩
instance:Zh prog 47 3 3:=⟨by kernel_rfl⟩
instance:Zh prog 47 4 4:=⟨by kernel_rfl⟩
instance:Zh prog 58 0 0:=⟨by kernel_rfl⟩
instance:Zh prog 58 1 1:=⟨by kernel_rfl⟩
instance:Zh prog 58 2 2:=⟨by kernel_rfl⟩
instance:Zh prog 58 3 3:=⟨by kernel_rfl⟩
instance:Zh prog 66 0 0:=⟨by kernel_rfl⟩
instance:Zh prog 66 1 1:=⟨by kernel_rfl⟩
instance:Zh prog 77 0 0:=⟨by kernel_rfl⟩
instance:Zh prog 77 1 4:=⟨by kernel_rfl⟩
instance:Zh prog 77 2 5:=⟨by kernel_rfl⟩
instance:Zh prog 77 3 6:=⟨by kernel_rfl⟩
instance:Zh prog 77 4 7:=⟨by kernel_rfl⟩
instance:Zh prog 83 0 0:=⟨by kernel_rfl⟩
instance:Zh prog 87 0 0:=⟨by kernel_rfl⟩
instance:Zh prog 87 1 1:=⟨by kernel_rfl⟩
instance:Zh prog 87 2 2:=⟨by kernel_rfl⟩
instance:Zh prog 87 3 3:=⟨by kernel_rfl⟩
instance:Zh prog 87 4 4:=⟨by kernel_rfl⟩
instance:Zh prog 95 0 0:=⟨by kernel_rfl⟩
instance:Zh prog 95 1 1:=⟨by kernel_rfl⟩
instance:Zh prog 95 2 2:=⟨by kernel_rfl⟩
instance:Zh prog 95 3 3:=⟨by kernel_rfl⟩
instance:Zh prog 122 0 0:=⟨by kernel_rfl⟩
instance:Zh prog 122 1 1:=⟨by kernel_rfl⟩
instance:Zh prog 124 0 0:=⟨by kernel_rfl⟩
instance:Zh prog 124 1 1:=⟨by kernel_rfl⟩
instance:Zh prog 127 0 0:=⟨by kernel_rfl⟩
instance:Zh prog 127 1 1:=⟨by kernel_rfl⟩
instance:Zh prog 127 2 2:=⟨by kernel_rfl⟩
instance:Zh prog 129 0 0:=⟨by kernel_rfl⟩
instance:Zh prog 129 1 1:=⟨by kernel_rfl⟩
instance:Zh prog 137 0 0:=⟨by kernel_rfl⟩
instance:Zh prog 137 1 1:=⟨by kernel_rfl⟩
instance:Zh prog 137 2 2:=⟨by kernel_rfl⟩
instance:Zh prog 144 0 0:=⟨by kernel_rfl⟩
instance:Zh prog 144 1 1:=⟨by kernel_rfl⟩
instance:Zh prog 144 2 2:=⟨by kernel_rfl⟩
instance:Zh prog 151 0 0:=⟨by kernel_rfl⟩
instance:Zh prog 151 1 1:=⟨by kernel_rfl⟩
instance:Zh prog 151 2 2:=⟨by kernel_rfl⟩
instance:Zh prog 154 0 0:=⟨by kernel_rfl⟩
instance:Zh prog 154 1 5:=⟨by kernel_rfl⟩
instance:Zh prog 154 2 9:=⟨by kernel_rfl⟩
instance:Zh prog 154 3 10:=⟨by kernel_rfl⟩
instance:Zh prog 154 4 14:=⟨by kernel_rfl⟩
instance:Zh prog 154 5 15:=⟨by kernel_rfl⟩
instance:Zh prog 154 6 18:=⟨by kernel_rfl⟩
instance:Zh prog 168 0 0:=⟨by kernel_rfl⟩
instance:Zh prog 168 1 1:=⟨by kernel_rfl⟩
instance:Zh prog 168 2 2:=⟨by kernel_rfl⟩
instance:Zh prog 170 0 0:=⟨by kernel_rfl⟩
instance:Zh prog 170 1 3:=⟨by kernel_rfl⟩
instance:Zh prog 170 2 4:=⟨by kernel_rfl⟩
instance:Zh prog 170 3 8:=⟨by kernel_rfl⟩
instance:Zh prog 173 0 0:=⟨by kernel_rfl⟩
instance:Zh prog 173 1 1:=⟨by kernel_rfl⟩
instance:Zh prog 243 0 0:=⟨by kernel_rfl⟩
instance:Zh prog 243 1 1:=⟨by kernel_rfl⟩
instance:Zh prog 243 2 2:=⟨by kernel_rfl⟩
instance:Zh prog 251 0 0:=⟨by kernel_rfl⟩
instance:Zh prog 251 1 1:=⟨by kernel_rfl⟩
instance:Zh prog 320 0 0:=⟨by kernel_rfl⟩
instance:Zh prog 324 0 0:=⟨by kernel_rfl⟩
instance:Zh prog 324 1 4:=⟨by kernel_rfl⟩
instance:Zh prog 324 2 5:=⟨by kernel_rfl⟩
instance:Zh prog 324 3 6:=⟨by kernel_rfl⟩
instance:Zh prog 384 0 0:=⟨by kernel_rfl⟩
instance:Zh prog 384 1 1:=⟨by kernel_rfl⟩
instance:XM prog 3:=⟨⟨_,underlying3,rfl⟩,by kernel_rfl⟩
instance:XM prog 4:=⟨⟨_,underlying4,rfl⟩,by kernel_rfl⟩
instance:XM prog 5:=⟨⟨_,underlying5,rfl⟩,by kernel_rfl⟩
instance:XM prog 9:=⟨⟨_,underlying9,rfl⟩,by kernel_rfl⟩
instance:XM prog 24:=⟨⟨_,underlying24,rfl⟩,by kernel_rfl⟩
instance:XM prog 32:=⟨⟨_,underlying32,rfl⟩,by kernel_rfl⟩
instance:XM prog 33:=⟨⟨_,underlying33,rfl⟩,by kernel_rfl⟩
instance:XM prog 37:=⟨⟨_,underlying37,rfl⟩,by kernel_rfl⟩
instance:XM prog 42:=⟨⟨_,underlying42,rfl⟩,by kernel_rfl⟩
instance:XM prog 43:=⟨⟨_,underlying43,rfl⟩,by kernel_rfl⟩
instance:XM prog 44:=⟨⟨_,underlying44,rfl⟩,by kernel_rfl⟩
instance:XM prog 45:=⟨⟨_,underlying45,rfl⟩,by kernel_rfl⟩
instance:XM prog 49:=⟨⟨_,underlying49,rfl⟩,by kernel_rfl⟩
instance:XM prog 56:=⟨⟨_,underlying56,rfl⟩,by kernel_rfl⟩
instance:XM prog 67:=⟨⟨_,underlying67,rfl⟩,by kernel_rfl⟩
instance:XM prog 73:=⟨⟨_,underlying73,rfl⟩,by kernel_rfl⟩
instance:XM prog 74:=⟨⟨_,underlying74,rfl⟩,by kernel_rfl⟩
instance:XM prog 75:=⟨⟨_,underlying75,rfl⟩,by kernel_rfl⟩
instance:XM prog 120:=⟨⟨_,underlying120,rfl⟩,by kernel_rfl⟩
instance:XM prog 125:=⟨⟨_,underlying125,rfl⟩,by kernel_rfl⟩
instance:XM prog 135:=⟨⟨_,underlying135,rfl⟩,by kernel_rfl⟩
instance:XM prog 140:=⟨⟨_,underlying140,rfl⟩,by kernel_rfl⟩
instance:XM prog 147:=⟨⟨_,underlying147,rfl⟩,by kernel_rfl⟩
instance:XM prog 152:=⟨⟨_,underlying152,rfl⟩,by kernel_rfl⟩
instance:XM prog 166:=⟨⟨_,underlying166,rfl⟩,by kernel_rfl⟩
instance:XM prog 225:=⟨⟨_,underlying225,rfl⟩,by kernel_rfl⟩
instance:XM prog 241:=⟨⟨_,underlying241,rfl⟩,by kernel_rfl⟩
instance:XM prog 249:=⟨⟨_,underlying249,rfl⟩,by kernel_rfl⟩
instance:XM prog 283:=⟨⟨_,underlying283,rfl⟩,by kernel_rfl⟩
instance:XM prog 313:=⟨⟨_,underlying313,rfl⟩,by kernel_rfl⟩
instance:XM prog 322:=⟨⟨_,underlying322,rfl⟩,by kernel_rfl⟩
instance:Ag prog 23 5:=⟨⟨_,underlying23,rfl⟩,by kernel_rfl⟩
instance:Ag prog 28 27:=⟨⟨_,underlying28,rfl⟩,by kernel_rfl⟩
instance:Ag prog 36 152:=⟨⟨_,underlying36,rfl⟩,by kernel_rfl⟩
instance:Ag prog 39 3:=⟨⟨_,underlying39,rfl⟩,by kernel_rfl⟩
instance:Ag prog 47 5:=⟨⟨_,underlying47,rfl⟩,by kernel_rfl⟩
instance:Ag prog 58 4:=⟨⟨_,underlying58,rfl⟩,by kernel_rfl⟩
instance:Ag prog 66 5:=⟨⟨_,underlying66,rfl⟩,by kernel_rfl⟩
instance:Ag prog 77 8:=⟨⟨_,underlying77,rfl⟩,by kernel_rfl⟩
instance:Ag prog 83 4:=⟨⟨_,underlying83,rfl⟩,by kernel_rfl⟩
instance:Ag prog 87 5:=⟨⟨_,underlying87,rfl⟩,by kernel_rfl⟩
instance:Ag prog 95 4:=⟨⟨_,underlying95,rfl⟩,by kernel_rfl⟩
instance:Ag prog 119 4:=⟨⟨_,underlying119,rfl⟩,by kernel_rfl⟩
instance:Ag prog 122 2:=⟨⟨_,underlying122,rfl⟩,by kernel_rfl⟩
instance:Ag prog 124 2:=⟨⟨_,underlying124,rfl⟩,by kernel_rfl⟩
instance:Ag prog 127 3:=⟨⟨_,underlying127,rfl⟩,by kernel_rfl⟩
instance:Ag prog 129 2:=⟨⟨_,underlying129,rfl⟩,by kernel_rfl⟩
instance:Ag prog 137 3:=⟨⟨_,underlying137,rfl⟩,by kernel_rfl⟩
instance:Ag prog 144 3:=⟨⟨_,underlying144,rfl⟩,by kernel_rfl⟩
instance:Ag prog 151 3:=⟨⟨_,underlying151,rfl⟩,by kernel_rfl⟩
instance:Ag prog 170 9:=⟨⟨_,underlying170,rfl⟩,by kernel_rfl⟩
instance:Ag prog 173 2:=⟨⟨_,underlying173,rfl⟩,by kernel_rfl⟩
instance:Ag prog 243 3:=⟨⟨_,underlying243,rfl⟩,by kernel_rfl⟩
instance:Ag prog 320 4:=⟨⟨_,underlying320,rfl⟩,by kernel_rfl⟩
instance:Ag prog 384 2:=⟨⟨_,underlying384,rfl⟩,by kernel_rfl⟩
instance:Ze prog 3 (.int .i64 0):=⟨by kernel_rfl⟩
instance:Ze prog 4 (.bool false):=⟨by kernel_rfl⟩
instance:Ze prog 37 (nS):=⟨by kernel_rfl⟩
instance:Ze prog 39 (.agg #[.int .i64 0,.int .i64 0,nS]):=⟨by kernel_rfl⟩
instance:Ze prog 47 (.agg #[nS,nS,nS,nS,nS]):=⟨by kernel_rfl⟩
instance:Ze prog 49 (.int .i64 0):=⟨by kernel_rfl⟩
instance:Ze prog 58 (.agg #[nS,.int .i64 0,nS,nS]):=⟨by kernel_rfl⟩
instance:Ze prog 66 (.agg #[.string ByteArray.empty,nS,.int .i64 0,nS,nS]):=⟨by kernel_rfl⟩
instance:Ze prog 77 (.agg #[nS,.int .i64 0,nS,nS,nS,nS,nS,nS]):=⟨by kernel_rfl⟩
instance:Ze prog 83 (.agg #[.int .i64 0,.int .i64 0,.int .i64 0,.int .i64 0]):=⟨by kernel_rfl⟩
instance:Ze prog 87 (.agg #[.string ByteArray.empty,.bool false,.bool false,.bool false,.int .i64 0]):=⟨by kernel_rfl⟩
instance:Ze prog 95 (.agg #[nS,nS,nS,nS]):=⟨by kernel_rfl⟩
instance:Ze prog 119 (.agg #[.int .u8 0,.int .u8 0,.int .u8 0,.int .u8 0]):=⟨by kernel_rfl⟩
instance:Ze prog 122 (.agg #[.string ByteArray.empty,nS]):=⟨by kernel_rfl⟩
instance:Ze prog 124 (.agg #[.int .i64 0,.int .i64 0]):=⟨by kernel_rfl⟩
instance:Ze prog 127 (.agg #[.string ByteArray.empty,nS,.int .i64 0]):=⟨by kernel_rfl⟩
instance:Ze prog 129 (.agg #[.int .i64 0,.int .i64 0]):=⟨by kernel_rfl⟩
instance:Ze prog 137 (.agg #[.int .i64 0,.int .i64 0,.nilFunc]):=⟨by kernel_rfl⟩
instance:Ze prog 144 (.agg #[.int .i64 0,.int .i64 0,.int .i64 0]):=⟨by kernel_rfl⟩
instance:Ze prog 151 (.agg #[nS,nS,nS]):=⟨by kernel_rfl⟩
instance:Ze prog 170 (.agg #[nS,nS,nS,.int .i64 0,nS,.int .i64 0,nS,nS,nS]):=⟨by kernel_rfl⟩
instance:Ze prog 173 (.agg #[nS,.int .i64 0]):=⟨by kernel_rfl⟩
instance:Ze prog 243 (.agg #[nS,nS,nS]):=⟨by kernel_rfl⟩
instance:Ze prog 251 (.agg #[.pointer none,nS]):=⟨by kernel_rfl⟩
instance:Ze prog 320 (.agg #[.int .i64 0,.int .i64 0,.int .i64 0,.int .i64 0]):=⟨by kernel_rfl⟩
instance:Ze prog 384 (.agg #[nS,.int .i64 0]):=⟨by kernel_rfl⟩
instance:Bs prog 39 [.int .i64 0,.int .i64 0,nS] [0,1,2]:=⟨by kernel_rfl,by decide⟩
instance:Bs prog 47 [nS,nS,nS,nS,nS] [0,1,2,3,4]:=⟨by kernel_rfl,by decide⟩
instance:Bs prog 58 [nS,.int .i64 0,nS,nS] [0,1,2,3]:=⟨by kernel_rfl,by decide⟩
instance:Bs prog 83 [.int .i64 0,.int .i64 0,.int .i64 0,.int .i64 0] [0,1,2,3]:=⟨by kernel_rfl,by decide⟩
instance:Bs prog 87 [.string ByteArray.empty,.bool false,.bool false,.bool false,.int .i64 0] [0,1,2,3,4]:=⟨by kernel_rfl,by decide⟩
instance:Bs prog 95 [nS,nS,nS,nS] [0,1,2,3]:=⟨by kernel_rfl,by decide⟩
instance:Bs prog 122 [.string ByteArray.empty,nS] [0,1]:=⟨by kernel_rfl,by decide⟩
instance:Bs prog 124 [.int .i64 0,.int .i64 0] [0,1]:=⟨by kernel_rfl,by decide⟩
instance:Bs prog 127 [.string ByteArray.empty,nS,.int .i64 0] [0,1,2]:=⟨by kernel_rfl,by decide⟩
instance:Bs prog 129 [.int .i64 0,.int .i64 0] [0,1]:=⟨by kernel_rfl,by decide⟩
instance:Bs prog 137 [.int .i64 0,.int .i64 0,.nilFunc] [0,1,2]:=⟨by kernel_rfl,by decide⟩
instance:Bs prog 144 [.int .i64 0,.int .i64 0,.int .i64 0] [0,1,2]:=⟨by kernel_rfl,by decide⟩
instance:Bs prog 151 [nS,nS,nS] [0,1,2]:=⟨by kernel_rfl,by decide⟩
instance:Bs prog 173 [nS,.int .i64 0] [0,1]:=⟨by kernel_rfl,by decide⟩
instance:Bs prog 227 [.int .i64 0,.int .i64 0] [0,1]:=⟨by kernel_rfl,by decide⟩
instance:Bs prog 243 [nS,nS,nS] [0,1,2]:=⟨by kernel_rfl,by decide⟩
instance:Bs prog 320 [.int .i64 0,.int .i64 0,.int .i64 0,.int .i64 0] [0,1,2,3]:=⟨by kernel_rfl,by decide⟩
instance:Bs prog 384 [nS,.int .i64 0] [0,1]:=⟨by kernel_rfl,by decide⟩
instance:Ik prog 3 .i64:=⟨underlying3⟩
instance:Ik prog 5 .u8:=⟨underlying5⟩
instance:St prog 9:=⟨underlying9⟩
instance:Ik prog 21 .i32:=⟨underlying21⟩
instance:Ik prog 33 .i8:=⟨underlying33⟩
instance:Ik prog 269 .u64:=⟨underlying269⟩
instance:S3 prog 144:=⟨⟨_,_,_,underlying144,by decide,by decide,by decide,rfl,rfl,rfl,underlying3,underlying3,underlying3⟩,by kernel_rfl,by kernel_rfl⟩
instance:Mp prog 152 9 3 (.int .i64 0):=⟨underlying152,by kernel_rfl⟩
instance:Key prog 9 Xl:=Qg8 underlying9
instance:Mp prog 192 9 4 (.bool false):=⟨underlying192,by kernel_rfl⟩
instance:Mp prog 214 3 213 (.nilFunc):=⟨underlying214,by kernel_rfl⟩
instance:Key prog 3 Ki:=Qg9 underlying3
instance:Mp prog 225 227 3 (.int .i64 0):=⟨underlying225,by kernel_rfl⟩
instance:Key prog 227 Y4:=QeJ underlying227 underlying3 (by kernel_rfl)
instance:Mp prog 302 3 3 (.int .i64 0):=⟨underlying302,by kernel_rfl⟩
instance:Mp prog 322 3 37 (nS):=⟨underlying322,by kernel_rfl⟩
instance:Fu prog 12 Tryz.f12:=Zg func12
instance:Fu prog 13 Tryz.f13:=Zg func13
instance:Fu prog 14 Tryz.f14:=Zg func14
instance:Fu prog 15 Tryz.f15:=Zg func15
instance:Fu prog 16 Tryz.f16:=Zg func16
instance:Fu prog 17 Tryz.f17:=Zg func17
instance:Fu prog 18 Tryz.f18:=Zg func18
instance:Fu prog 19 Tryz.f19:=Zg func19
instance:Fu prog 20 Tryz.f20:=Zg func20
instance:Fu prog 21 Tryz.f21:=Zg func21
instance:Fu prog 22 Tryz.f22:=Zg func22
instance:Fu prog 25 Tryz.f25:=Zg func25
instance:Fu prog 27 Tryz.f27:=Zg func27
instance:Fu prog 28 Tryz.f28:=Zg func28
instance:Fu prog 29 Tryz.f29:=Zg func29
instance:Fu prog 30 Tryz.f30:=Zg func30
instance:Fu prog 31 Tryz.f31:=Zg func31
instance:Fu prog 32 Tryz.f32:=Zg func32
instance:Fu prog 33 Tryz.f33:=Zg func33
instance:Fu prog 34 Tryz.f34:=Zg func34
instance:Fu prog 35 Tryz.f35:=Zg func35
instance:Fu prog 37 Tryz.f37:=Zg func37
instance:Fu prog 38 Tryz.f38:=Zg func38
instance:Fu prog 41 Tryz.f41:=Zg func41
instance:Fu prog 44 Tryz.f44:=Zg func44
instance:Fu prog 49 Tryz.f49:=Zg func49
instance:Fu prog 50 Tryz.f50:=Zg func50
instance:Fu prog 51 Tryz.f51:=Zg func51
instance:Fu prog 52 Tryz.f52:=Zg func52
instance:Fu prog 53 Tryz.f53:=Zg func53
instance:Fu prog 54 Tryz.f54:=Zg func54
instance:Fu prog 55 Tryz.f55:=Zg func55
instance:Fu prog 56 Tryz.f56:=Zg func56
instance:Fu prog 57 Tryz.f57:=Zg func57
instance:Fu prog 58 Tryz.f58:=Zg func58
instance:Fu prog 59 Tryz.f59:=Zg func59
instance:Fu prog 60 Tryz.f60:=Zg func60
instance:Fu prog 61 Tryz.f61:=Zg func61
instance:Fu prog 62 Tryz.f62:=Zg func62
instance:Fu prog 63 Tryz.f63:=Zg func63
instance:Fu prog 64 Tryz.f64:=Zg func64
instance:Fu prog 65 Tryz.f65:=Zg func65
instance:Fu prog 66 Tryz.f66:=Zg func66
instance:Fu prog 67 Tryz.f67:=Zg func67
instance:Fu prog 68 Tryz.f68:=Zg func68
instance:Fu prog 69 Tryz.f69:=Zg func69
instance:Fu prog 70 Tryz.f70:=Zg func70
instance:Fu prog 71 Tryz.f71:=Zg func71
instance:Fu prog 72 Tryz.f72:=Zg func72
instance:Fu prog 73 Tryz.f73:=Zg func73
instance:Fu prog 74 Tryz.f74:=Zg func74
instance:Fu prog 75 Tryz.f75:=Zg func75
instance:Fu prog 76 Tryz.f76:=Zg func76
instance:Fu prog 77 Tryz.f77:=Zg func77
instance:Fu prog 78 Tryz.f78:=Zg func78
instance:Fu prog 79 Tryz.f79:=Zg func79
instance:Fu prog 80 Tryz.f80:=Zg func80
instance:Fu prog 81 Tryz.f81:=Zg func81
instance:Fu prog 82 Tryz.f82:=Zg func82
instance:Fu prog 83 Tryz.f83:=Zg func83
instance:Fu prog 84 Tryz.f84:=Zg func84
instance:Fu prog 85 Tryz.f85:=Zg func85
instance:Fu prog 86 Tryz.f86:=Zg func86
instance:Fu prog 87 Tryz.f87:=Zg func87
instance:Fu prog 88 Tryz.f88:=Zg func88
instance:Fu prog 89 Tryz.f89:=Zg func89
instance:Fu prog 90 Tryz.f90:=Zg func90
instance:Fu prog 91 Tryz.f91:=Zg func91
instance:Fu prog 92 Tryz.f92:=Zg func92
instance:Fu prog 93 Tryz.f93:=Zg func93
instance:Fu prog 94 Tryz.f94:=Zg func94
instance:Fu prog 95 Tryz.f95:=Zg func95
instance:Fu prog 96 Tryz.f96:=Zg func96
instance:Fu prog 97 Tryz.f97:=Zg func97
instance:Fu prog 98 Tryz.f98:=Zg func98
instance:Fu prog 99 Tryz.f99:=Zg func99
instance:Fu prog 101 Tryz.f101:=Zg func101
instance:Fu prog 109 Tryz.f109:=Zg func109
instance:Fu prog 114 Tryz.f114:=Zg func114
instance:Fu prog 118 Tryz.f118:=Zg func118
instance:Fu prog 123 Tryz.f123:=Zg func123
instance:Fu prog 126 Tryz.f126:=Zg func126
instance:Fu prog 127 Tryz.f127:=Zg func127
instance:Fu prog 128 Tryz.f128:=Zg func128
instance:Fu prog 129 Tryz.f129:=Zg func129
instance:Fu prog 130 Tryz.f130:=Zg func130
instance:Fu prog 131 Tryz.f131:=Zg func131
instance:Fu prog 132 Tryz.f132:=Zg func132
instance:Fu prog 133 Tryz.f133:=Zg func133
instance:Fu prog 134 Tryz.f134:=Zg func134
instance:Fu prog 135 Tryz.f135:=Zg func135
instance:Fu prog 136 Tryz.f136:=Zg func136
instance:Fu prog 137 Tryz.f137:=Zg func137
instance:Fu prog 138 Tryz.f138:=Zg func138
instance:Fu prog 139 Tryz.f139:=Zg func139
instance:Fu prog 140 Tryz.f140:=Zg func140
instance:Fu prog 141 Tryz.f141:=Zg func141
instance:Fu prog 142 Tryz.f142:=Zg func142
instance:Fu prog 143 Tryz.f143:=Zg func143
instance:Fu prog 144 Tryz.f144:=Zg func144
instance:Fu prog 145 Tryz.f145:=Zg func145
instance:Fu prog 146 Tryz.f146:=Zg func146
instance:Fu prog 147 Tryz.f147:=Zg func147
instance:Fu prog 148 Tryz.f148:=Zg func148
instance:Fu prog 149 Tryz.f149:=Zg func149
instance:Fu prog 150 Tryz.f150:=Zg func150
instance:Fu prog 151 Tryz.f151:=Zg func151
instance:Fu prog 152 Tryz.f152:=Zg func152
instance:Fu prog 153 Tryz.f153:=Zg func153
instance:Fu prog 154 Tryz.f154:=Zg func154
instance:Fu prog 155 Tryz.f155:=Zg func155
instance:Fu prog 156 Tryz.f156:=Zg func156
instance:Fu prog 157 Tryz.f157:=Zg func157
instance:Fu prog 158 Tryz.f158:=Zg func158
instance:Fu prog 159 Tryz.f159:=Zg func159
instance:Fu prog 160 Tryz.f160:=Zg func160
instance:Fu prog 161 Tryz.f161:=Zg func161
instance:Fu prog 162 Tryz.f162:=Zg func162
instance:Fu prog 163 Tryz.f163:=Zg func163
instance:Fu prog 164 Tryz.f164:=Zg func164
instance:Fu prog 165 Tryz.f165:=Zg func165
instance:Fu prog 166 Tryz.f166:=Zg func166
instance:Fu prog 167 Tryz.f167:=Zg func167
instance:Fu prog 168 Tryz.f168:=Zg func168
instance:Fu prog 169 Tryz.f169:=Zg func169
instance:Fu prog 170 Tryz.f170:=Zg func170
instance:Fu prog 171 Tryz.f171:=Zg func171
instance:Fu prog 172 Tryz.f172:=Zg func172
instance:Fu prog 173 Tryz.f173:=Zg func173
instance:Fu prog 174 Tryz.f174:=Zg func174
instance:Fu prog 185 Tryz.f185:=Zg func185
instance:Fu prog 194 Tryz.f194:=Zg func194
instance:Fu prog 195 Tryz.f195:=Zg func195
instance:Fu prog 196 Tryz.f196:=Zg func196
instance:Fu prog 197 Tryz.f197:=Zg func197
instance:Fu prog 198 Tryz.f198:=Zg func198
instance:Fu prog 199 Tryz.f199:=Zg func199
instance:Fu prog 200 Tryz.f200:=Zg func200
instance:Fu prog 201 Tryz.f201:=Zg func201
instance:Fu prog 202 Tryz.f202:=Zg func202
instance:Fu prog 203 Tryz.f203:=Zg func203
instance:Fu prog 204 Tryz.f204:=Zg func204
instance:Fu prog 206 Tryz.f206:=Zg func206
instance:Fu prog 207 Tryz.f207:=Zg func207
instance:Fu prog 208 Tryz.f208:=Zg func208
instance:Fu prog 209 Tryz.f209:=Zg func209
instance:Fu prog 210 Tryz.f210:=Zg func210
instance:Fu prog 211 Tryz.f211:=Zg func211
instance:Fu prog 212 Tryz.f212:=Zg func212
instance:Fu prog 213 Tryz.f213:=Zg func213
instance:Fu prog 214 Tryz.f214:=Zg func214
instance:Fu prog 215 Tryz.f215:=Zg func215
instance:Fu prog 217 Tryz.f217:=Zg func217
instance:Fu prog 218 Tryz.f218:=Zg func218
instance:Fu prog 219 Tryz.f219:=Zg func219
instance:Fu prog 220 Tryz.f220:=Zg func220
instance:Fu prog 244 Tryz.f244:=Zg func244
instance:Fu prog 245 Tryz.f245:=Zg func245
instance:Fu prog 247 Tryz.f247:=Zg func247
instance:Fu prog 248 Tryz.f248:=Zg func248
instance:Fu prog 249 Tryz.f249:=Zg func249
instance:Fu prog 250 Tryz.f250:=Zg func250
instance:Fu prog 251 Tryz.f251:=Zg func251
instance:Fu prog 252 Tryz.f252:=Zg func252
instance:Fu prog 253 Tryz.f253:=Zg func253
instance:Fu prog 254 Tryz.f254:=Zg func254
instance:Fu prog 255 Tryz.f255:=Zg func255
instance:Fu prog 256 Tryz.f256:=Zg func256
instance:Fu prog 259 Tryz.f259:=Zg func259
instance:Fu prog 260 Tryz.f260:=Zg func260
instance:Fu prog 261 Tryz.f261:=Zg func261
instance:Fu prog 262 Tryz.f262:=Zg func262
instance:Fu prog 263 Tryz.f263:=Zg func263
instance:Fu prog 264 Tryz.f264:=Zg func264
instance:Fu prog 265 Tryz.f265:=Zg func265
instance:Fu prog 278 Tryz.f278:=Zg func278
instance:Fu prog 279 Tryz.f279:=Zg func279
instance:Fu prog 280 Tryz.f280:=Zg func280
instance:Fu prog 281 Tryz.f281:=Zg func281
instance:Fu prog 282 Tryz.f282:=Zg func282
instance:Fu prog 287 Tryz.f287:=Zg func287
instance:Fu prog 306 Tryz.f306:=Zg func306
instance:Fu prog 307 Tryz.f307:=Zg func307
instance:Fu prog 319 Tryz.f319:=Zg func319
theorem mixed:prog.follows .mixedOrders=true:=by kernel_rfl
end Go.Proofs
namespace Go.Proofs.YtdffckgdcegpaaaGreatDoor
open Go.Lg
def nxt (es:List Ed) (s e:Int):Int:=match es with
 | []=>-1
 | x::es=>if x.1=s∧x.2.1=e then x.2.2 else nxt es s e
abbrev Yi (l:LI):Prop:=l.Pairwise (·<·)
def UC:Option Int→Int→Bool
 | none,_=>false
 | some b,a=>decide (a≤b)
def Xt (n:Int):Option Int→LI→Int
 | _,[]=>0
 | pr,a::l=>if a<0∨n≤a then 2 else if UC pr a=true then 5 else Xt n (some a) l
def pv {α:Type}(l:List α) (k:Nat):Option α:=if k=0 then none else l[k - 1]?
theorem Jc {α:Type}{l:List α}{k:Nat}(h:k<l.length):pv l (k+1)=some l[k]:=by simp[pv,h]
def edO:Option Ed→Ed→Bool
 | none,_=>false
 | some y,a=>decide (a.1<y.1∨(a.1=y.1∧a.2.1≤y.2.1))
def ckE (al:LI) (st:Int):Option Ed→List Ed→Int
 | _,[]=>0
 | pr,a::l=>if a.1<0∨st≤a.1∨a.2.2<0∨st≤a.2.2 then 2 else if a.2.1∉al then 9 else if edO pr a=true then 5 else ckE al st (some a) l
def Jh (a:QV):Int :=
 if Xt 32 none a.al≠0 then Xt 32 none a.al else if a.st<0 then 2 else if 4096<a.st then 3 else if Xt a.st none a.mr≠0 then Xt a.st none a.mr else ckE a.al a.st none a.ed
def Xb:LI→LI→Bool
 | [],_=>false
 | _::_,[]=>true
 | a::_,b::_=>decide (a≤b)
def tl (c:Bool) (l:LI):LI:=bif c then l.tail else l
def hx (a b:LI):Int:=bif Xb b a then b.headD 0 else a.headD 0
def qm (keep:Bool→Bool→Bool):Nat→LI→LI→LI
 | 0,_,_=>[]
 | n+1,a,b=>if a=[]∧b=[] then [] else (bif keep (Xb a b) (Xb b a) then [hx a b] else [])++qm keep n (tl (Xb a b) a) (tl (Xb b a) b)
def mrg (keep:Bool→Bool→Bool) (a b:LI):LI:=qm keep (a.length+b.length) a b
theorem UH {a b:LI}(h:¬(a=[]∧b=[])):(tl (Xb a b) a).length+(tl (Xb b a) b).length<a.length+b.length:=by
 cases a with
 | nil=>cases b with
  | nil=>simp at h
  | cons y b=>simp[Xb,tl]
 | cons x a=>cases b with
  | nil=>simp[Xb,tl]
  | cons y b =>
   simp only[Xb,tl]
   by_cases h1:x≤y <;> by_cases h2:y≤x <;> simp[h1,h2] <;> omega
theorem qO (keep:Bool→Bool→Bool):∀(n:Nat) (a b:LI),a.length+b.length≤n→qm keep n a b=mrg keep a b:=by
 have key:∀(n m:Nat) (a b:LI),a.length+b.length≤n→a.length+b.length≤m→qm keep n a b=qm keep m a b:=by
  intro n
  induction n with
  | zero =>
   intro m a b h1 _
   have ha:a=[]:=List.eq_nil_of_length_eq_zero (by omega)
   have hb:b=[]:=List.eq_nil_of_length_eq_zero (by omega)
   subst ha hb
   cases m <;> simp[qm]
  | succ n ih =>
   intro m a b h1 h2
   by_cases h:a=[]∧b=[]
   ·obtain ⟨rfl,rfl⟩:=h
    cases m <;> simp[qm]
   ·have hlt:=UH h
    cases m with
    | zero=>omega
    | succ m=>rw[qm,qm,if_neg h,if_neg h,ih m _ _ (by omega) (by omega)]
 intro n a b h
 exact key n _ a b h (Nat.le_refl _)
theorem Je (keep:Bool→Bool→Bool):mrg keep [] []=[]:=rfl
theorem X2 (keep:Bool→Bool→Bool) {a b:LI}(h:¬(a=[]∧b=[])) :
  mrg keep a b=(bif keep (Xb a b) (Xb b a) then [hx a b] else [])++mrg keep (tl (Xb a b) a) (tl (Xb b a) b):=by
 have hlt:=UH h
 rw[←qO keep (a.length+b.length - 1+1) a b (by omega),qm,if_neg h,qO keep _ _ _ (by omega)]
theorem Qan (keep:Bool→Bool→Bool):∀(n:Nat) (a b:LI),a.length+b.length≤n→(mrg keep a b).length≤a.length+b.length:=by
 intro n
 induction n with
 | zero =>
  intro a b h
  have ha:a=[]:=List.eq_nil_of_length_eq_zero (by omega)
  have hb:b=[]:=List.eq_nil_of_length_eq_zero (by omega)
  subst ha hb;simp[Je]
 | succ n ih =>
  intro a b hn
  by_cases h:a=[]∧b=[]
  ·obtain ⟨rfl,rfl⟩:=h;simp[Je]
  ·have hlt:=UH h
   rw[X2 keep h]
   have:=ih (tl (Xb a b) a) (tl (Xb b a) b) (by omega)
   cases keep (Xb a b) (Xb b a) <;> simp <;> omega
theorem zL (keep:Bool→Bool→Bool) (a b:LI):(mrg keep a b).length≤a.length+b.length:=Qan keep _ a b (Nat.le_refl _)
theorem QaI {α:Type}(q:α→Bool) (es:List α) (lo hi:Nat) (h1:lo≤hi) (h2:hi≤es.length) (ha:∀m (hm:m<es.length),m<lo→q es[m]=false) (hb:∀m (hm:m<es.length),lo≤m→m<hi→q es[m]=true)
  (hc:∀m (hm:m<es.length),hi≤m→q es[m]=false):(es.drop lo).take (hi - lo)=es.filter q:=by
 have e1:es=es.take lo++((es.drop lo).take (hi - lo)++es.drop hi):=by
  conv=>lhs;rw[←List.take_append_drop lo es]
  congr 1
  conv=>lhs;rw[←List.take_append_drop (hi - lo) (es.drop lo)]
  rw[List.drop_drop]
  congr 2;omega
 have f1:(es.take lo).filter q=[]:=by
  rw[List.filter_eq_nil_iff]
  intro a ha'
  obtain ⟨m,hm,rfl⟩:=List.getElem_of_mem ha'
  rw[List.length_take] at hm
  rw[List.getElem_take,ha m (by omega) (by omega)];simp
 have f3:(es.drop hi).filter q=[]:=by
  rw[List.filter_eq_nil_iff]
  intro a ha'
  obtain ⟨m,hm,rfl⟩:=List.getElem_of_mem ha'
  rw[List.length_drop] at hm
  rw[List.getElem_drop,hc (hi+m) (by omega) (by omega)];simp
 have f2:((es.drop lo).take (hi - lo)).filter q=(es.drop lo).take (hi - lo):=by
  rw[List.filter_eq_self]
  intro a ha'
  obtain ⟨m,hm,rfl⟩:=List.getElem_of_mem ha'
  rw[List.length_take,List.length_drop] at hm
  rw[List.getElem_take,List.getElem_drop]
  exact hb (lo+m) (by omega) (by omega) (by omega)
 conv=>rhs;rw[e1]
 rw[List.filter_append,List.filter_append,f1,f2,f3];simp
def ZJ (es:List Ed) (s:Int):List Ed:=es.filter λe=>decide (e.1=s)
open Go.Proofs.Tryz
theorem Qe1 {L:LN}{w:World}{v:Value}{l:LI}(h:QL L w.heap v l) (n:Int) :
  QJ prog 132 [v,.int .i64 n] w λr w'=>w'=w∧∃i:Int,r=.int .i64 i∧(0≤i↔n∈l):=by
 have hle:=h.le
 refine QJ.of_W func132 rfl ntmps132 results132 (by simp) ?_
 refine Qc<|Qe<|Qf<|Qc<|Qb<|x (Qr h rfl)<|Qb<|xe ?_
 refine Qg<|QA (α:=Nat) [(4,5),(8,18)] (λk=>[(8,.int .i64 k)]) (λk w'=>w'=w∧k≤l.length∧(n∈l↔n∈l.drop k)) (λk=>l.length - k) (by rfl) 0 ⟨rfl,trivial⟩ ⟨rfl,Nat.zero_le _,by simp⟩ ?_
 rintro k g w1 ⟨rfl,hk,hm⟩
 refine Qc<|x (QB rfl rfl)<|xe ?_
 refine Qf<|QG rfl (λh9=>?_) (λh9=>?_)
 ·refine Qx ?_
  refine Qc<|Qe<|Ql ⟨[.int .i64 (-1)],⟨rfl,trivial⟩,rfl,-1,rfl,?_⟩
  rw[List.drop_of_length_le (by omega)] at hm
  simp[hm]
 have hlt:k<l.length:=by omega
 have hd:=QX hlt
 refine Qi<|Qf<|Qg<|Qc<|Qb<|Qe<|Qc<|Qb<|Qb<|Qb<|xii h rfl rfl hlt λa14 h14=>x (Qv h14 rfl)<|x (Q7 rfl rfl)<|xe ?_
 refine Q4 rfl (λh16=>?_) (λh16=>?_)
 ·refine Qc<|Qb<|Qe<|Ql ⟨[.int .i64 k],⟨rfl,trivial⟩,rfl,k,rfl,?_⟩
  have:n∈l:=by rw[hm,hd,h16];exact List.mem_cons_self
  simp[this]
 refine Qi<|Qw<|QO rfl rfl<|Qb<|xe ?_
 refine ⟨k+1,by omega,⟨rfl,trivial⟩,rfl,by omega,?_⟩
 rw[hm,hd,List.mem_cons]
 exact ⟨λh=>h.resolve_left h16,.inr⟩
theorem ZI {L:LN}{w:World}{v:Value}{l:LI}(h:QL L w.heap v l) (n:Int) :
  QJ prog 57 [v,.int .i64 n] w λr w'=>r=.bool (decide (n∈l))∧w'=w:=by
 refine QJ.of_W func57 rfl ntmps57 results57 (by simp) ?_
 refine Qc<|Qe<|Qc<|Qb<|Qb<|xl rfl<|xf<|(Qe1 h n).mono ?_
 rintro r1 w1 ⟨rfl,i,rfl,hi⟩
 refine x (ZR rfl rfl)<|Qe<|Ql ⟨[.bool (decide (0≤i))],⟨rfl,trivial⟩,?_,rfl⟩
 simp[tup,hi]
theorem JZ {L L':LN}{w:World}{v v':Value}{l l':LI}(h:QL L w.heap v l) (h':QL L' w.heap v' l') :
  QJ prog 64 [v,v'] w λr w'=>r=.bool (decide (l=l'))∧Step [] w w':=by
 have hle:=h.le
 refine QJ.of_W func64 rfl ntmps64 results64 (by simp) ?_
 refine Qc<|Qe<|Qf<|Qc<|Qb<|x (Qr h rfl)<|Qb<|x (Qr h' rfl)<|x (Q8 rfl rfl)<|xe ?_
 refine Q4 rfl (λh10=>?_) (λh10=>?_)
 ·refine Qc<|Qe<|Ql ⟨[.bool false],⟨rfl,trivial⟩,?_,Step.refl _ _⟩
  have:l≠l':=λe=>h10 (by rw[e])
  simp[tup,this]
 have hll:l.length=l'.length:=by omega
 refine Qi<|Qf<|Qc<|Qb<|x (Qr h rfl)<|Qb<|xe ?_
 refine Qg<|QA (α:=Nat) [(4,5),(13,25)] (λk=>[(13,.int .i64 k)]) (λk w'=>Step [] w w'∧k≤l.length∧(l=l'↔l.drop k=l'.drop k)) (λk=>l.length - k) (by rfl) 0 ⟨rfl,trivial⟩ ⟨Step.refl _ _,Nat.zero_le _,by simp⟩ ?_
 rintro k g w1 ⟨hs,hk,hm⟩
 replace h:=h.ext hs
 replace h':=h'.ext hs
 refine Qc<|x (QB rfl rfl)<|xe ?_
 refine Qf<|QG rfl (λh14=>?_) (λh14=>?_)
 ·refine Qx ?_
  refine Qc<|Qe<|Ql ⟨[.bool true],⟨rfl,trivial⟩,?_,hs⟩
  rw[List.drop_of_length_le (by omega),List.drop_of_length_le (by omega)] at hm
  simp[tup,hm]
 have hlt:k<l.length:=by omega
 have hlt':k<l'.length:=by omega
 refine Qi<|Qf<|Qg<|Qc<|Qb<|Qe<|Qf<|QS (Step [] w1) [(0,true),(1,true),(2,true),(3,true),(4,true),(5,true),(6,true),(7,true),(8,true)] mixed (by rfl) (by kernel_rfl) (Step.drew _ _) ?_
 refine p (λ_=>Qo)<|p (λ_=>Qo)<|pii rfl h rfl rfl hlt λa18 h18=>pq (λ_ hc=>Qv (h18.ext hc) rfl) <|
  p (λ_=>Qo)<|p (λ_=>Qo)<|pii rfl h' rfl rfl hlt' λa22 h22=>pq (λ_ hc=>Qv (h22.ext hc) rfl)<|p (λ_=>Q8 rfl rfl)<|pe ?_
 have hs':=hs.trans (Step.drew [] w1)
 refine Q4 rfl (λh24=>?_) (λh24=>?_)
 ·refine Qc<|Qe<|Ql ⟨[.bool false],⟨rfl,trivial⟩,?_,hs'⟩
  have:l≠l':=λe=>h24 (by simp[e])
  simp[tup,this]
 refine Qi<|Qw<|QO rfl rfl<|Qb<|xe ?_
 refine ⟨k+1,by omega,⟨rfl,trivial⟩,hs',by omega,?_⟩
 have e:l[k]=l'[k]:=Decidable.not_not.1 h24
 rw[hm,QX hlt,QX hlt',e];exact ⟨λh=>(List.cons.inj h).2,λh=>by rw[h]⟩
theorem QcU {L L':LN}{w:World}{v v':Value}{l l':List Ed}(h:U9 L w.heap v l) (h':U9 L' w.heap v' l') :
  QJ prog 68 [v,v'] w λr w'=>r=.bool (decide (l=l'))∧Step [] w w':=by
 have hle:=h.le
 refine QJ.of_W func68 rfl ntmps68 results68 (by simp) ?_
 refine Qc<|Qe<|Qf<|Qc<|Qb<|x (Qr h rfl)<|Qb<|x (Qr h' rfl)<|x (Q8 rfl rfl)<|xe ?_
 refine Q4 rfl (λh10=>?_) (λh10=>?_)
 ·refine Qc<|Qe<|Ql ⟨[.bool false],⟨rfl,trivial⟩,?_,Step.refl _ _⟩
  have:l≠l':=λe=>h10 (by rw[e])
  simp[tup,this]
 have hll:l.length=l'.length:=by omega
 refine Qi<|Qf<|Qc<|Qb<|x (Qr h rfl)<|Qb<|xe ?_
 refine Qg<|QA (α:=Nat) [(4,5),(13,25)] (λk=>[(13,.int .i64 k)]) (λk w'=>Step [] w w'∧k≤l.length∧(l=l'↔l.drop k=l'.drop k)) (λk=>l.length - k) (by rfl) 0 ⟨rfl,trivial⟩ ⟨Step.refl _ _,Nat.zero_le _,by simp⟩ ?_
 rintro k g w1 ⟨hs,hk,hm⟩
 replace h:=h.ext hs
 replace h':=h'.ext hs
 refine Qc<|x (QB rfl rfl)<|xe ?_
 refine Qf<|QG rfl (λh14=>?_) (λh14=>?_)
 ·refine Qx ?_
  refine Qc<|Qe<|Ql ⟨[.bool true],⟨rfl,trivial⟩,?_,hs⟩
  rw[List.drop_of_length_le (by omega),List.drop_of_length_le (by omega)] at hm
  simp[tup,hm]
 have hlt:k<l.length:=by omega
 have hlt':k<l'.length:=by omega
 refine Qi<|Qf<|Qg<|Qc<|Qb<|Qe<|Qf<|QS (Step [] w1) [(0,true),(1,true),(2,true),(3,true),(4,true),(5,true),(6,true),(7,true),(8,true)] mixed (by rfl) (by kernel_rfl) (Step.drew _ _) ?_
 refine p (λ_=>Qo)<|p (λ_=>Qo)<|pie rfl h rfl rfl hlt λa18 h18=>pq (λ_ hc=>QC (h18.ext hc) rfl rfl) <|
  p (λ_=>Qo)<|p (λ_=>Qo)<|pie rfl h' rfl rfl hlt' λa22 h22=>pq (λ_ hc=>QC (h22.ext hc) rfl rfl)<|p (λ_=>KJ rfl rfl)<|pe ?_
 have hs':=hs.trans (Step.drew [] w1)
 refine Q4 rfl (λh24=>?_) (λh24=>?_)
 ·refine Qc<|Qe<|Ql ⟨[.bool false],⟨rfl,trivial⟩,?_,hs'⟩
  have:l≠l':=λe=>h24 (by simp[e])
  simp[tup,this]
 refine Qi<|Qw<|QO rfl rfl<|Qb<|xe ?_
 refine ⟨k+1,by omega,⟨rfl,trivial⟩,hs',by omega,?_⟩
 have e:l[k]=l'[k]:=Decidable.not_not.1 h24
 rw[hm,QX hlt,QX hlt',e];exact ⟨λh=>(List.cons.inj h).2,λh=>by rw[h]⟩
theorem jc {w:World}(n:Int):QJ prog 161 [.int .i64 n] w λr w'=>r=.bool false∧w'=w:=by
 refine QJ.of_W func161 rfl ntmps161 results161 (by simp) ?_
 refine Qc<|Qe<|Qc<|Qb<|Qb<|x (Q8 rfl rfl)<|Qe ?_
 exact Ql ⟨[.bool (decide (¬n=n))],⟨rfl,trivial⟩,by simp[tup],rfl⟩
theorem QcJ {w:World}(n:Int):QJ prog 219 [.int .i64 n] w λr w'=>r=.bool false∧w'=w:=by
 refine QJ.of_W func219 rfl ntmps219 results219 (by simp) ?_
 refine Qc<|Qe<|Qc<|Qb<|Qb<|x (Q8 rfl rfl)<|Qe ?_
 exact Ql ⟨[.bool (decide (¬n=n))],⟨rfl,trivial⟩,by simp[tup],rfl⟩
theorem QbA {w:World}(m n:Int):QJ prog 160 [.int .i64 m,.int .i64 n] w λr w'=>r=.bool (decide (m<n))∧w'=w:=by
 refine QJ.of_W func160 rfl ntmps160 results160 (by simp) ?_
 refine Qc<|Qe<|Qc<|Qb<|xl rfl<|xf<|(QcJ m).mono ?_
 rintro r1 w1 ⟨rfl,rfl⟩
 refine Qb<|xs rfl<|xs rfl<|xs rfl<|x (Qm rfl)<|Qb<|Qb<|Qb<|x (QB rfl rfl)<|x (Qm rfl)<|Qe ?_
 exact Ql ⟨[.bool (decide (m<n))],⟨rfl,trivial⟩,rfl,rfl⟩
theorem Yi.get {l:LI}(h:Yi l) {i j:Nat}(hj:j<l.length) (hij:i<j):l[i]<l[j]:=List.pairwise_iff_getElem.1 h i j (by omega) hj hij
theorem UY {L:LN}{w:World}{v:Value}{l:LI}(h:QL L w.heap v l) (hi:Yi l) (n:Int) :
  QJ prog 84 [v,.int .i64 n] w λr w'=>w'=w∧∃i:Int,r=.tuple #[.int .i64 i,.bool (decide (n∈l))]:=by
 have hle:=h.le
 refine QJ.of_W func84 rfl ntmps84 results84 (by simp) ?_
 refine Qc<|x Qh<|Qe<|Qc<|Qb<|x (Qr h rfl)<|Qe<|Qc<|Qb<|x Qh<|Qe<|Qf<|Qg<|QA (α:=Nat×Nat) [(7,9),(13,30)] (λz=>[(7,.int .i64 z.1),(8,.int .i64 z.2)])
  (λz w'=>w'=w∧z.1≤z.2∧z.2≤l.length∧(∀m (hm:m<l.length),m<z.1→l[m]<n)∧(∀m (hm:m<l.length),z.2≤m→n≤l[m])) (λz=>z.2 - z.1) (by rfl) (0,l.length) ⟨rfl,rfl,trivial⟩
  ⟨rfl,Nat.zero_le _,Nat.le_refl _,λm _ h0=>absurd h0 (Nat.not_lt_zero m),λm h1 h0=>absurd h1 (by simp only[] at h0;omega)⟩ ?_
 rintro ⟨i,j⟩ g w1 ⟨rfl,hij,hj,hlo,hhi⟩
 simp only[] at hij hj hlo hhi
 refine Qf<|Qc<|Qb<|Qb<|x (QB rfl rfl)<|xe ?_
 refine QG rfl (λh15=>?_) (λh15=>?_)
 ·have e:i=j:=by omega
  subst e
  refine Qx ?_
  refine QU (α:=Bool) [(4,5),(31,53)] (λz=>[(4,.int .i64 i),(5,.bool z)]) (λz w'=>w'=w1∧z=decide (n∈l)) (by rfl) ?_ ?_
  ·refine Qw<|Qb<|Qb<|Qb<|xb (QB rfl rfl) (λh34=>?_) (λh34=>?_)
   ·have hlt:i<l.length:=by omega
    refine Qb<|Qb<|Qb<|xii h rfl rfl hlt λa38 h38=>x (Qv h38 rfl)<|Qb<|xb (Q7 rfl rfl) (λh41=>?_) (λh41=>?_)
    ·refine Qb<|xs rfl<|xs rfl<|xs rfl<|xs rfl<|xs rfl<|xs rfl<|xs rfl<|xs rfl<|xs rfl<|x (Qm rfl)<|x (Qm rfl)<|x Qh<|Qe ?_
     have:n∈l:=by rw[←h41];exact List.getElem_mem hlt
     exact ⟨true,⟨rfl,rfl,trivial⟩,rfl,by simp[this]⟩
    refine Qb<|Qb<|Qb<|xii h rfl rfl hlt λa45 h45=>x (Qv h45 rfl)<|xl rfl<|xf<|(jc _).mono ?_
    rintro r3 w3 ⟨rfl,rfl⟩
    refine Qb<|xs rfl<|xs rfl<|x (Qm rfl)<|x (Qm rfl)<|x (Qm rfl)<|x Qh<|Qe<|⟨false,⟨rfl,rfl,trivial⟩,rfl,?_⟩
    have:n∉l:=by
     intro hm
     obtain ⟨m,hm1,hm2⟩:=List.getElem_of_mem hm
     by_cases hmi:m<i
     ·have:=hlo m hm1 hmi;omega
     ·by_cases hme:m=i
      ·subst hme;exact h41 hm2
      ·have:=Yi.get hi hm1 (show i<m by omega)
       have:=hhi i hlt (Nat.le_refl _)
       omega
    simp[this]
   refine Qb<|xs rfl<|xs rfl<|xs rfl<|xs rfl<|xs rfl<|xs rfl<|xs rfl<|xs rfl<|xs rfl<|xs rfl<|xs rfl<|xs rfl<|xs rfl<|xs rfl<|xs rfl<|xs rfl<|xs rfl <|
    x (Qm rfl)<|x Qh<|Qe<|⟨false,⟨rfl,rfl,trivial⟩,rfl,?_⟩
   have:n∉l:=by
    intro hm
    obtain ⟨m,hm1,hm2⟩:=List.getElem_of_mem hm
    have:=hlo m hm1 (by omega);omega
   simp[this]
  rintro z g w7 ⟨rfl,rfl⟩
  exact Ql ⟨[.int .i64 i,.bool (decide (n∈l))],⟨rfl,rfl,trivial⟩,rfl,i,rfl⟩
 have hij':i<j:=by omega
 refine Qi<|Qg<|Qc<|Qb<|Qb<|QO rfl rfl<|x (ZK rfl (by exact ⟨by omega,by omega⟩))<|x (qK (n:=1) rfl rfl (by decide))<|x (ZK rfl (by exact ⟨by omega,by omega⟩))<|Qe ?_
 have hh:(((i:Int)+(j:Int)) / 2 ^ 1)=(((i+j) / 2:Nat):Int):=by omega
 rw[hh]
 generalize hq:(i+j) / 2=q
 have hqi:i≤q:=by omega
 have hqj:q<j:=by omega
 have hql:q<l.length:=by omega
 refine Qc<|Qb<|Qb<|xii h rfl rfl hql λa24 h24=>x (Qv h24 rfl)<|Qb<|xl rfl<|xf<|(QbA _ _).mono ?_
 rintro r8 w8 ⟨rfl,rfl⟩
 refine xe ?_
 refine QG rfl (λh27=>?_) (λh27=>?_)
 ·refine Qw<|Qb<|Qe<|⟨(i,q),by simp only[];omega,⟨rfl,rfl,trivial⟩,rfl,hqi,by omega,hlo,λm hm hqm=>?_⟩
  by_cases e:q=m
  ·subst e;omega
  ·have:=Yi.get hi hm (show q<m by simp only[] at hqm;omega);omega
 refine Qw<|Qb<|QO rfl rfl<|Qe<|⟨(q+1,j),by simp only[];omega,⟨rfl,rfl,trivial⟩,rfl,hqj,hj,λm hm hmq=>?_,hhi⟩
 by_cases e:m=q
 ·subst e;exact h27
 ·have:=Yi.get hi hql (show m<q by simp only[] at hmq;omega);omega
theorem XS {L:LN}{w:World}{v:Value}{l:LI}(h:QL L w.heap v l) (hi:Yi l) (n:Int) :
  QJ prog 195 [v,.int .i64 n] w λr w'=>r=.bool (decide (n∈l))∧w'=w:=by
 refine QJ.of_W func195 rfl ntmps195 results195 (by simp) ?_
 refine Qc<|Qe<|Qc<|Qb<|Qb<|xl rfl<|xf<|(UY h hi n).mono ?_
 rintro r1 w1 ⟨rfl,i,rfl⟩
 refine Qb<|x (Qp rfl rfl)<|x (Qp rfl rfl)<|x Qh<|Qe<|Qc<|Qb<|Qe ?_
 exact Ql ⟨[.bool (decide (n∈l))],⟨rfl,trivial⟩,rfl,rfl⟩
theorem VR {L:LN}{w:World}{v:Value}{l:LI}(h:QL L w.heap v l) (n:Int) :
  QJ prog 211 [v,.int .i64 n] w λr w'=>r=.int .i64 (Xt n none l)∧w'=w:=by
 have hle:=h.le
 refine QJ.of_W func211 rfl ntmps211 results211 (by simp) ?_
 refine Qc<|Qe<|Qf<|Qc<|Qb<|x (Qr h rfl)<|Qb<|xe ?_
 refine Qg<|QA (α:=Nat) [(4,6),(9,34)] (λk=>[(9,.int .i64 k)]) (λk w'=>w'=w∧k≤l.length∧Xt n (pv l k) (l.drop k)=Xt n none l) (λk=>l.length - k) (by rfl) 0 ⟨rfl,trivial⟩ ⟨rfl,Nat.zero_le _,rfl⟩ ?_
 rintro k g w1 ⟨rfl,hk,hm⟩
 refine Qc<|x (QB rfl rfl)<|xe ?_
 refine Qf<|QG rfl (λh10=>?_) (λh10=>?_)
 ·refine Qx ?_
  refine Qc<|Qe<|Ql ⟨[.int .i64 0],⟨rfl,trivial⟩,?_,rfl⟩
  rw[←hm,List.drop_of_length_le (by omega)];rfl
 have hlt:k<l.length:=by omega
 have hd:=QX hlt
 rw[hd,Xt] at hm
 refine Qi<|Qf<|Qg<|Qc<|Qb<|xii h rfl rfl hlt λa12 h12=>x (Qv h12 rfl)<|x Qh<|Qe<|Qg<|QU (α:=Bool) [(14,21)] (λz=>[(14,.bool z)]) (λz w'=>w'=w1∧z=decide (l[k]<0∨n≤l[k])) (by rfl) ?_ ?_
 ·refine Qw<|Qb<|xb (QB rfl rfl) (λh16=>?_) (λh16=>?_)
  ·refine Qb<|xs rfl<|xs rfl<|xs rfl<|x (Qm rfl)<|Qe ?_
   exact ⟨true,⟨rfl,trivial⟩,rfl,by simp[h16]⟩
  refine Qb<|Qb<|Qb<|x (ZR rfl rfl)<|x (Qm rfl)<|Qe ?_
  exact ⟨_,⟨rfl,trivial⟩,rfl,by simp[h16]⟩
 rintro z g w2 ⟨rfl,rfl⟩
 refine Q4 rfl (λh14=>?_) (λh14=>?_)
 ·refine Qc<|Qe<|Ql ⟨[.int .i64 2],⟨rfl,trivial⟩,?_,rfl⟩
  rw[←hm,if_pos h14];rfl
 rw[if_neg h14] at hm
 refine QU (α:=Bool) [(22,33)] (λz=>[(22,.bool z)]) (λz w'=>w'=w2∧z=UC (pv l k) l[k]) (by rfl) ?_ ?_
 ·refine Qw<|Qb<|xb (ZO rfl rfl) (λh24=>?_) (λh24=>?_)
  ·have hk1:((k:Int) - 1)=((k - 1:Nat):Int):=by omega
   refine Qb<|Qb<|Qb<|Qb<|x (Jp rfl rfl ⟨by omega,by omega⟩)<|xii (i:=k - 1) h rfl (by show Value.int _ ((k:Int) - 1)=_;rw[hk1]) (by omega) λa30 h30=>x (Qv h30 rfl)<|x (XX rfl rfl)<|x (Qm rfl)<|Qe<|⟨_,⟨rfl,trivial⟩,rfl,?_⟩
   have:pv l k=some l[k - 1]:=by
    have h0:k≠0:=by omega
    simp[pv,h0,show k - 1<l.length by omega]
   rw[this];rfl
  refine Qb<|xs rfl<|xs rfl<|xs rfl<|xs rfl<|xs rfl<|xs rfl<|xs rfl<|x (Qm rfl)<|Qe ?_
  have h0:k=0:=by omega
  exact ⟨false,⟨rfl,trivial⟩,rfl,by simp[pv,h0,UC]⟩
 rintro z g w3 ⟨rfl,rfl⟩
 refine Q5 rfl (λh22=>?_) (λh22=>?_)
 ·refine Qc<|Qe<|Ql ⟨[.int .i64 5],⟨rfl,trivial⟩,?_,rfl⟩
  rw[←hm,if_pos h22];rfl
 rw[if_neg (by simp[h22])] at hm
 refine Qi<|Qw<|QO rfl rfl<|Qb<|xe ?_
 exact ⟨k+1,by omega,⟨rfl,trivial⟩,rfl,by omega,by rw[Jc hlt];exact hm⟩
theorem qn {L:LN}{w:World}{va vm ve:Value}{a:QV}(h:Zt L w.heap va vm ve a) :
  QJ prog 212 [.agg #[va,.int .i64 a.st,vm,ve]] w λr w'=>r=.int .i64 (ckE a.al a.st none a.ed)∧Step [] w w':=by
 obtain ⟨hal,_,hed⟩:=h
 have hle:=hed.le
 refine QJ.of_W func212 rfl ntmps212 results212 (by simp) ?_
 refine Qc<|xl rfl<|QQ (us:=[va,.int .i64 a.st,vm,ve]) rfl λb1 w1 hs1 hb1 hB1=>Qe ?_
 replace hal:=hal.ext hs1
 replace hed:=hed.ext hs1
 refine Qf<|Qc<|x (Qa rfl)<|x (Qd hB1 rfl rfl)<|x (Qr hed rfl)<|Qb<|xe ?_
 refine Qg<|QA (α:=Nat) [(2,5),(9,71)] (λk=>[(9,.int .i64 k)]) (λk w'=>Step [] w1 w'∧k≤a.ed.length∧ckE a.al a.st (pv a.ed k) (a.ed.drop k)=ckE a.al a.st none a.ed) (λk=>a.ed.length - k) (by rfl) 0 ⟨rfl,trivial⟩
  ⟨Step.refl _ _,Nat.zero_le _,rfl⟩ ?_
 rintro k g w2 ⟨hs2,hk,hm⟩
 replace hal:=hal.ext hs2
 replace hed:=hed.ext hs2
 replace hB1:=hB1.ext hs2
 refine Qc<|x (QB rfl rfl)<|xe ?_
 refine Qf<|QG rfl (λh10=>?_) (λh10=>?_)
 ·refine Qx ?_
  refine Qc<|Qe<|Ql ⟨[.int .i64 0],⟨rfl,trivial⟩,?_,hs1.trans hs2⟩
  rw[←hm,List.drop_of_length_le (by omega)];rfl
 have hlt:k<a.ed.length:=by omega
 have hd:=QX hlt
 rw[hd,ckE] at hm
 refine Qi<|Qf<|Qg<|Qc<|Qb<|xie hed rfl rfl hlt λa12 h12=>x (QC h12 rfl rfl)<|xl rfl<|Qt (us:=[.int .i64 0,.int .i64 0,.int .i64 0]) rfl λb4 w3 hs3 hb4 hB4=>x Qh <|
  xl rfl<|Qn hB4 rfl rfl rfl rfl ⟨rfl,rfl,rfl,trivial⟩ λw4 hs4 hB4=>xe ?_
 have hs5:=hs3.then1 hs4 hb4
 replace hal:=hal.ext hs5
 replace hed:=hed.ext hs5
 replace hB1:=hB1.ext hs5
 have hsA:=(hs1.trans hs2).trans hs5
 refine Qf<|Qg<|QU (α:=Bool) [(14,36)] (λz=>[(14,.bool z)]) (λz w'=>w'=w4∧z=decide (a.ed[k].1<0∨a.st≤a.ed[k].1∨a.ed[k].2.2<0∨a.st≤a.ed[k].2.2)) (by rfl) ?_ ?_
 ·refine Qw<|x (Qa rfl)<|x (Qd hB4 rfl rfl)<|xb (QB rfl rfl) (λh17=>?_) (λh17=>?_)
  ·refine Qb<|xs rfl<|xs rfl<|xs rfl<|xs rfl<|xs rfl<|x (Qm rfl)<|Qb<|xs rfl<|xs rfl<|xs rfl<|x (Qm rfl)<|Qb<|xs rfl<|xs rfl<|xs rfl<|xs rfl<|xs rfl<|x (Qm rfl)<|Qe ?_
   exact ⟨true,⟨rfl,trivial⟩,rfl,by simp[h17]⟩
  refine Qb<|x (Qa rfl)<|x (Qd hB4 rfl rfl)<|x (Qa rfl)<|x (Qd hB1 rfl rfl)<|xb (ZR rfl rfl) (λh23=>?_) (λh23=>?_)
  ·refine x (Qm rfl)<|Qb<|xs rfl<|xs rfl<|xs rfl<|x (Qm rfl)<|Qb<|xs rfl<|xs rfl<|xs rfl<|xs rfl<|xs rfl<|x (Qm rfl)<|Qe ?_
   exact ⟨true,⟨rfl,trivial⟩,rfl,by simp[h23]⟩
  refine x (Qm rfl)<|Qb<|x (Qa rfl)<|x (Qd hB4 rfl rfl)<|xb (QB rfl rfl) (λh28=>?_) (λh28=>?_)
  ·refine x (Qm rfl)<|Qb<|xs rfl<|xs rfl<|xs rfl<|xs rfl<|xs rfl<|x (Qm rfl)<|Qe ?_
   exact ⟨true,⟨rfl,trivial⟩,rfl,by simp[h28]⟩
  refine x (Qm rfl)<|Qb<|x (Qa rfl)<|x (Qd hB4 rfl rfl)<|x (Qa rfl)<|x (Qd hB1 rfl rfl)<|x (ZR rfl rfl)<|x (Qm rfl)<|Qe ?_
  exact ⟨_,⟨rfl,trivial⟩,rfl,by simp[h17,h23,h28]⟩
 rintro z g w5 ⟨rfl,rfl⟩
 refine Q4 rfl (λh14=>?_) (λh14=>?_)
 ·refine Qc<|Qe<|Ql ⟨[.int .i64 2],⟨rfl,trivial⟩,?_,hsA⟩
  rw[←hm,if_pos h14];rfl
 rw[if_neg h14] at hm
 refine Qc<|x (Qa rfl)<|x (Qd hB1 rfl rfl)<|x (Qa rfl)<|x (Qd hB4 rfl rfl)<|xl rfl<|xf<|(ZI hal _).mono ?_
 rintro r4 w6 ⟨rfl,rfl⟩
 refine x (Zn rfl)<|Qe<|Q5 rfl (λh37=>?_) (λh37=>?_)
 ·have hn:a.ed[k].2.1∉a.al:=by simpa using h37
  refine Qc<|Qe<|Ql ⟨[.int .i64 9],⟨rfl,trivial⟩,?_,hsA⟩
  rw[←hm,if_pos hn];rfl
 have hn:¬(a.ed[k].2.1∉a.al):=by simpa using h37
 rw[if_neg hn] at hm
 refine Qi<|Qf<|Qc<|Qb<|x (Q7 rfl rfl)<|xe ?_
 refine Q4 rfl (λh45=>?_) (λh45=>?_)
 ·have h0:k=0:=by omega
  rw[if_neg (by simp[pv,h0,edO])] at hm
  refine Qx ?_
  refine Qw<|QO rfl rfl<|Qb<|xe ?_
  exact ⟨k+1,by omega,⟨rfl,trivial⟩,hs2.trans hs5,by omega,by rw[Jc hlt];exact hm⟩
 have h0:k≠0:=by omega
 have hk1:((k:Int) - 1)=((k - 1:Nat):Int):=by omega
 have hlt1:k - 1<a.ed.length:=by omega
 refine Qi<|Qc<|x (Qa rfl)<|x (Qd hB1 rfl rfl)<|Qb<|x (Jp rfl rfl ⟨by omega,by omega⟩)<|xie (i:=k - 1) hed rfl (by show Value.int _ ((k:Int) - 1)=_;rw[hk1]) hlt1 λa50 h50 =>
  x (QC h50 rfl rfl)<|xl rfl<|Qt (us:=[.int .i64 0,.int .i64 0,.int .i64 0]) rfl λb5 w7 hs7 hb5 hB5=>xl rfl<|Qn hB5 rfl rfl rfl rfl ⟨rfl,rfl,rfl,trivial⟩ λw8 hs8 hB5=>xe ?_
 have hs9:=hs7.then1 hs8 hb5
 replace hB4:=hB4.ext hs9
 replace hsA:=hsA.trans hs9
 have hp:pv a.ed k=some a.ed[k - 1]:=by simp[pv,h0,hlt1]
 rw[hp] at hm
 refine QU (α:=Bool) [(52,70)] (λz=>[(70,.bool z)]) (λz w'=>w'=w8∧z=edO (some a.ed[k - 1]) a.ed[k]) (by rfl) ?_ ?_
 ·refine Qw<|x (Qa rfl)<|x (Qd hB4 rfl rfl)<|x (Qa rfl)<|x (Qd hB5 rfl rfl)<|xb (QB rfl rfl) (λh56=>?_) (λh56=>?_)
  ·refine Qb<|xs rfl<|xs rfl<|xs rfl<|xs rfl<|xs rfl<|xs rfl<|xs rfl<|xs rfl<|xs rfl<|xs rfl<|xs rfl<|xs rfl<|x (Qm rfl)<|xe ?_
   exact ⟨true,⟨rfl,trivial⟩,rfl,by simp[edO,h56]⟩
  refine Qb<|x (Qa rfl)<|x (Qd hB4 rfl rfl)<|x (Qa rfl)<|x (Qd hB5 rfl rfl)<|xb (Q7 rfl rfl) (λh62=>?_) (λh62=>?_)
  ·refine Qb<|x (Qa rfl)<|x (Qd hB4 rfl rfl)<|x (Qa rfl)<|x (Qd hB5 rfl rfl)<|x (XX rfl rfl)<|x (Qm rfl)<|x (Qm rfl)<|xe ?_
   exact ⟨_,⟨rfl,trivial⟩,rfl,by simp[edO,h62]⟩
  refine Qb<|xs rfl<|xs rfl<|xs rfl<|xs rfl<|xs rfl<|x (Qm rfl)<|x (Qm rfl)<|xe ?_
  exact ⟨false,⟨rfl,trivial⟩,rfl,by simp[edO,h62,h56]⟩
 rintro z g w9 ⟨rfl,rfl⟩
 refine Q5 rfl (λh70=>?_) (λh70=>?_)
 ·refine Qc<|Qe<|Ql ⟨[.int .i64 5],⟨rfl,trivial⟩,?_,hsA⟩
  rw[←hm,if_pos h70];rfl
 rw[if_neg (by simp[h70])] at hm
 refine Qi<|Qw<|QO rfl rfl<|Qb<|xe ?_
 exact ⟨k+1,by omega,⟨rfl,trivial⟩,(hs2.trans hs5).trans hs9,by omega,by rw[Jc hlt];exact hm⟩
theorem Xo {L:LN}{w:World}{va vm ve:Value}{a:QV}(h:Zt L w.heap va vm ve a) :
  QJ prog 153 [.agg #[va,.int .i64 a.st,vm,ve]] w λr w'=>r=.int .i64 (Jh a)∧Step [] w w':=by
 refine QJ.of_W func153 rfl ntmps153 results153 (by simp) ?_
 refine Qc<|xl rfl<|QQ (us:=[va,.int .i64 a.st,vm,ve]) rfl λb1 w1 hs1 hb1 hB1=>Qe ?_
 replace h:=h.ext hs1
 refine Qf<|Qc<|x (Qa rfl)<|x (Qd hB1 rfl rfl)<|xl rfl<|xf<|(VR h.al 32).mono ?_
 rintro r2 w2 ⟨rfl,rfl⟩
 refine Qe<|Qc<|Qb<|x (Q8 rfl rfl)<|xe ?_
 refine Q4 rfl (λh9=>?_) (λh9=>?_)
 ·refine Qc<|Qb<|Qe<|Ql ⟨[.int .i64 (Xt 32 none a.al)],⟨rfl,trivial⟩,?_,hs1⟩
  rw[Jh,if_pos h9];rfl
 refine Qi<|Qf<|Qg<|Qc<|x (Qa rfl)<|x (Qd hB1 rfl rfl)<|x (QB rfl rfl)<|Qe<|Q4 rfl (λh11=>?_) (λh11=>?_)
 ·refine Qc<|Qe<|Ql ⟨[.int .i64 2],⟨rfl,trivial⟩,?_,hs1⟩
  rw[Jh,if_neg h9,if_pos h11];rfl
 refine Qc<|x (Qa rfl)<|x (Qd hB1 rfl rfl)<|x (ZO rfl rfl)<|Qe<|Q4 rfl (λh15=>?_) (λh15=>?_)
 ·refine Qc<|Qe<|Ql ⟨[.int .i64 3],⟨rfl,trivial⟩,?_,hs1⟩
  rw[Jh,if_neg h9,if_neg h11,if_pos h15];rfl
 refine Qi<|Qf<|Qc<|x (Qa rfl)<|x (Qd hB1 rfl rfl)<|x (Qa rfl)<|x (Qd hB1 rfl rfl)<|xl rfl<|xf<|(VR h.mr a.st).mono ?_
 rintro r3 w3 ⟨rfl,rfl⟩
 refine Qe<|Qc<|Qb<|x (Q8 rfl rfl)<|xe ?_
 refine Q4 rfl (λh25=>?_) (λh25=>?_)
 ·refine Qc<|Qb<|Qe<|Ql ⟨[.int .i64 (Xt a.st none a.mr)],⟨rfl,trivial⟩,?_,hs1⟩
  rw[Jh,if_neg h9,if_neg h11,if_neg h15,if_pos h25];rfl
 refine Qi<|Qc<|x (Qq hB1 rfl rfl)<|xl rfl<|xf<|(qn h).mono ?_
 rintro r4 w4 ⟨rfl,hs4⟩
 refine Qe<|Ql ⟨[.int .i64 (ckE a.al a.st none a.ed)],⟨rfl,trivial⟩,?_,hs1.trans hs4⟩
 rw[Jh,if_neg h9,if_neg h11,if_neg h15,if_neg h25];rfl
theorem ZU {L:LN}{w:World}{v:Value}{l:LI}(h:QL L w.heap v l) :
  QJ prog 66 [v] w λr w'=>Step [] w w'∧Qu 3 w.heap.size w' r l:=by
 have hle:=h.le
 refine QJ.of_W func66 rfl ntmps66 results66 (by simp) ?_
 refine Qc<|Qe ?_
 obtain ⟨ao,cap,hv⟩:=h.shape
 refine Qf<|Qc<|Qb<|x (KL (show ev _ _=_ from hv) rfl)<|xe ?_
 refine Q5 rfl (λh4=>?_) (λh4=>?_)
 ·refine Qc<|Qe<|Ql ⟨[nS],⟨rfl,trivial⟩,Step.refl _ _,?_⟩
  rcases h.2.2 with ⟨h1,h2⟩ | ⟨a,c,h1,_⟩
  ·have:l=[]:=List.eq_nil_of_length_eq_zero h2
   subst this;exact QP _ _ _ _
  ·rw[h1] at hv;cases hv;cases h4
 rcases h.2.2 with ⟨h1,h2⟩ | ⟨a,c,h1,h2,h3⟩
 ·rw[h1] at hv;injection hv with e1;subst e1;cases h4
 refine Qi<|Qc<|xl rfl<|Kg λb5 w1 hs1 hb5 hB5=>Qb<|xl rfl<|QZ (base:=w.heap.size) (hB5.own (n:=0) (sz:=1) rfl (by omega) hb5) rfl (show ev _ _=_ from h1) (by simp) (h3.ext hs1) (KM l) (by omega) (by have:=hB5.lt;omega) λv2 w2 ho2 hs2 hn2=>Qe<|Ql ⟨[v2],⟨rfl,trivial⟩,hs1.then1 hs2 hb5,?_⟩
 simpa[tup] using ho2
theorem yV {g:Nat}{fn:Func}[Fu prog g fn] {keep:Bool→Bool→Bool}(hk:∀(p q:Bool) (w:World),QJ prog g [.bool p,.bool q] w λr w'=>r=.bool (keep p q)∧w'=w)
  {L L':LN} {w:World} {va vb:Value} {a b:LI} (ha:QL L w.heap va a) (hb:QL L' w.heap vb b) (hlen:a.length+b.length≤1099511627776) :
  QJ prog 166 [va,vb,.func (.func g) #[] #[]] w λr w'=>Step [] w w'∧Qu 3 w.heap.size w' r (mrg keep a b):=by
 refine QJ.of_W func166 rfl ntmps166 results166 (by simp) ?_
 refine Qc<|Qe<|Qc<|Qe<|Qf<|Qg<|QA (α:=(LI×Value)×(LI×Value)×(LI×Value)) [(0,1),(7,72)] (λz=>[(0,z.1.2),(1,z.2.1.2),(7,z.2.2.2)])
  (λz w'=>QL L w.heap z.1.2 z.1.1∧QL L' w.heap z.2.1.2 z.2.1.1∧Qu 3 w.heap.size w' z.2.2.2 z.2.2.1∧Step [] w w'∧z.2.2.1++mrg keep z.1.1 z.2.1.1=mrg keep a b∧z.2.2.1.length+z.1.1.length+z.2.1.1.length≤1099511627776)
  (λz=>z.1.1.length+z.2.1.1.length) (by rfl) ((a,va),(b,vb),([],nS)) ⟨rfl,rfl,rfl,trivial⟩ ⟨ha,hb,QP _ _ _ _,Step.refl _ _,rfl,by simp;omega⟩ ?_
 clear ha hb
 rintro ⟨⟨a1,va1⟩,⟨b1,vb1⟩,⟨o,vo⟩⟩ g1 w1 ⟨ha,hb,ho,hs,hm,hl⟩
 simp only[] at ha hb ho hs hm hl
 refine Qf<|QU (α:=Bool) [(11,18)] (λz=>[(18,.bool z)]) (λz w'=>w'=w1∧z=decide (¬(a1=[]∧b1=[]))) (by rfl) ?_ ?_
 ·refine Qw<|Qb<|x (Qr ha rfl)<|xb (ZO rfl rfl) (λh13=>?_) (λh13=>?_)
  ·refine Qb<|xs rfl<|xs rfl<|xs rfl<|x (Qm rfl)<|xe ?_
   have:a1≠[]:=by intro e;subst e;simp at h13
   exact ⟨true,⟨rfl,trivial⟩,rfl,by simp[this]⟩
  refine Qb<|Qb<|x (Qr hb rfl)<|x (ZO rfl rfl)<|x (Qm rfl)<|xe ?_
  have:a1=[]:=List.eq_nil_of_length_eq_zero (by omega)
  refine ⟨_,⟨rfl,trivial⟩,rfl,?_⟩
  cases b1 <;> simp[this]
 rintro z g2 w2 ⟨rfl,rfl⟩
 refine QG rfl (λh18=>?_) (λh18=>?_)
 ·refine Qx ?_
  refine Qc<|Qb<|Qe<|Ql ⟨[vo],⟨rfl,trivial⟩,hs,?_⟩
  obtain ⟨rfl,rfl⟩:=Decidable.not_not.1 h18
  rw[Je,List.append_nil] at hm
  rw[←hm];exact ho
 refine Qi ?_
 rw[X2 keep h18] at hm
 have hlt:=UH h18
 have hla:=ha.le
 have hlb:=hb.le
 refine Qg<|QU (α:=Bool) [(8,8),(19,35)] (λz=>[(8,.bool z)]) (λz w'=>Step [] w2 w'∧z=Xb a1 b1) (by rfl) ?_ ?_
 ·refine QS (Step [] w2) [(0,true),(1,true),(2,true),(3,true),(4,true),(5,true),(6,true),(7,true),(8,true),(9,true),(10,true),(11,true),(12,true),(13,true),(14,true),(15,true),(16,true),(17,true)] mixed (by rfl) (by kernel_rfl) (Step.drew _ _) ?_
  refine p (λ_=>Qo)<|p (λ_=>Qr ha rfl)<|pb (λ_=>ZO rfl rfl) (λh21=>?_) (λh21=>?_)
  ·refine p (λ_=>Qo)<|p (λ_=>Qo)<|p (λ_=>Qr hb rfl)<|pb (λ_=>Q7 rfl rfl) (λh25=>?_) (λh25=>?_)
   ·refine p (λ_=>Qo)<|ps<|ps<|ps<|ps<|ps<|ps<|ps<|p (λ_=>Qm rfl)<|p (λ_=>Qm rfl)<|p (λ_=>Qh)<|pe ?_
    refine ⟨true,⟨rfl,trivial⟩,Step.drew _ _,?_⟩
    have:b1=[]:=List.eq_nil_of_length_eq_zero (by omega)
    subst this
    cases a1 with
    | nil=>simp at h21
    | cons y a1=>rfl
   have hA:0<a1.length:=by omega
   have hB:0<b1.length:=by omega
   refine p (λ_=>Qo)<|p (λ_=>Qo)<|pii rfl (i:=0) (ha.ext hs) rfl rfl hA λa28 h28=>pq (λ_ hc=>Qv (h28.ext hc) rfl) <|
    p (λ_=>Qo)<|pii rfl (i:=0) (hb.ext hs) rfl rfl hB λa31 h31=>pq (λ_ hc=>Qv (h31.ext hc) rfl)<|p (λ_=>XX rfl rfl) <|
    p (λ_=>Qm rfl)<|p (λ_=>Qm rfl)<|p (λ_=>Qh)<|pe ?_
   refine ⟨_,⟨rfl,trivial⟩,Step.drew _ _,?_⟩
   cases a1 with
   | nil=>simp at hA
   | cons y a1=>cases b1 with
    | nil=>simp at hB
    | cons z b1=>rfl
  refine p (λ_=>Qo)<|ps<|ps<|ps<|ps<|ps<|ps<|ps<|ps<|ps<|ps<|ps<|ps<|p (λ_=>Qm rfl)<|p (λ_=>Qh)<|pe ?_
  refine ⟨false,⟨rfl,trivial⟩,Step.drew _ _,?_⟩
  have:a1=[]:=List.eq_nil_of_length_eq_zero (by omega)
  subst this;rfl
 rintro z g3 w3 ⟨hs3,rfl⟩
 replace ho:=Qs ho hs3
 replace hs:=hs.trans hs3
 refine QU (α:=Bool) [(9,9),(36,52)] (λz=>[(9,.bool z)]) (λz w'=>Step [] w3 w'∧z=Xb b1 a1) (by rfl) ?_ ?_
 ·refine QS (Step [] w3) [(0,true),(1,true),(2,true),(3,true),(4,true),(5,true),(6,true),(7,true),(8,true),(9,true),(10,true),(11,true),(12,true),(13,true),(14,true),(15,true),(16,true),(17,true)] mixed (by rfl) (by kernel_rfl) (Step.drew _ _) ?_
  refine p (λ_=>Qo)<|p (λ_=>Qr hb rfl)<|pb (λ_=>ZO rfl rfl) (λh38=>?_) (λh38=>?_)
  ·refine p (λ_=>Qo)<|p (λ_=>Qo)<|p (λ_=>Qr ha rfl)<|pb (λ_=>Q7 rfl rfl) (λh42=>?_) (λh42=>?_)
   ·refine p (λ_=>Qo)<|ps<|ps<|ps<|ps<|ps<|ps<|ps<|p (λ_=>Qm rfl)<|p (λ_=>Qm rfl)<|p (λ_=>Qh)<|pe ?_
    refine ⟨true,⟨rfl,trivial⟩,Step.drew _ _,?_⟩
    have:a1=[]:=List.eq_nil_of_length_eq_zero (by omega)
    subst this
    cases b1 with
    | nil=>simp at h38
    | cons y b1=>rfl
   have hA:0<a1.length:=by omega
   have hB:0<b1.length:=by omega
   refine p (λ_=>Qo)<|p (λ_=>Qo)<|pii rfl (i:=0) (hb.ext hs) rfl rfl hB λa45 h45=>pq (λ_ hc=>Qv (h45.ext hc) rfl) <|
    p (λ_=>Qo)<|pii rfl (i:=0) (ha.ext hs) rfl rfl hA λa48 h48=>pq (λ_ hc=>Qv (h48.ext hc) rfl)<|p (λ_=>XX rfl rfl) <|
    p (λ_=>Qm rfl)<|p (λ_=>Qm rfl)<|p (λ_=>Qh)<|pe ?_
   refine ⟨_,⟨rfl,trivial⟩,Step.drew _ _,?_⟩
   cases a1 with
   | nil=>simp at hA
   | cons y a1=>cases b1 with
    | nil=>simp at hB
    | cons z b1=>rfl
  refine p (λ_=>Qo)<|ps<|ps<|ps<|ps<|ps<|ps<|ps<|ps<|ps<|ps<|ps<|ps<|p (λ_=>Qm rfl)<|p (λ_=>Qh)<|pe ?_
  refine ⟨false,⟨rfl,trivial⟩,Step.drew _ _,?_⟩
  have:b1=[]:=List.eq_nil_of_length_eq_zero (by omega)
  subst this;rfl
 rintro z g4 w4 ⟨hs4,rfl⟩
 replace ho:=Qs ho hs4
 replace hs:=hs.trans hs4
 refine Qc<|Qe<|QU (α:=Value) [(0,0),(10,10),(53,58)] (λz=>[(0,z),(10,.int .i64 (bif Xb a1 b1 then a1.headD 0 else 0))]) (λz w'=>Step [] w4 w'∧QL L w.heap z (tl (Xb a1 b1) a1)) (by rfl) ?_ ?_
 ·refine Qc<|Qb<|xe ?_
  refine Q5 rfl (λh53=>?_) (λh53=>?_)
  ·have hA:0<a1.length:=by cases a1 with | nil=>simp[Xb] at h53 | cons y a1=>simp
   refine QS (Step [] w4) [(0,true),(1,true),(2,true),(3,true),(4,true),(5,true),(6,true)] mixed (by rfl) (by kernel_rfl) (Step.drew _ _) ?_
   refine p (λ_=>Qo)<|pii rfl (i:=0) (ha.ext hs) rfl rfl hA λa55 h55=>pq (λ_ hc=>Qv (h55.ext hc) rfl)<|p (λ_=>Qo) <|
    QiP rfl (lo:=1) ha rfl rfl hA λv' hv'=>p (λ_=>Qh)<|p (λ_=>Qh)<|pe ?_
   have hv2:=QL.drop hv'
   refine ⟨v',⟨rfl,?_,trivial⟩,Step.drew _ _,?_⟩
   ·show Value.int .i64 a1[0]=_
    rw[h53];cases a1 with | nil=>simp at hA | cons y a1=>rfl
   ·rw[h53];simpa[tl] using hv2
  refine Qi<|⟨va1,⟨rfl,by show _=_;rw[h53];rfl,trivial⟩,Step.refl _ _,?_⟩
  rw[h53];exact ha
 rintro va2 g5 w5 ⟨hs5,ha2⟩
 replace ho:=Qs ho hs5
 replace hs:=hs.trans hs5
 refine QU (α:=Value) [(1,1),(10,10),(59,64)] (λz=>[(1,z),(10,.int .i64 (bif Xb b1 a1 then b1.headD 0 else bif Xb a1 b1 then a1.headD 0 else 0))]) (λz w'=>Step [] w5 w'∧QL L' w.heap z (tl (Xb b1 a1) b1)) (by rfl) ?_ ?_
 ·refine Qc<|Qb<|xe ?_
  refine Q5 rfl (λh59=>?_) (λh59=>?_)
  ·have hB:0<b1.length:=by cases b1 with | nil=>simp[Xb] at h59 | cons y b1=>simp
   refine QS (Step [] w5) [(0,true),(1,true),(2,true),(3,true),(4,true),(5,true),(6,true)] mixed (by rfl) (by kernel_rfl) (Step.drew _ _) ?_
   refine p (λ_=>Qo)<|pii rfl (i:=0) (hb.ext hs) rfl rfl hB λa55 h55=>pq (λ_ hc=>Qv (h55.ext hc) rfl)<|p (λ_=>Qo) <|
    QiP rfl (lo:=1) hb rfl rfl hB λv' hv'=>p (λ_=>Qh)<|p (λ_=>Qh)<|pe ?_
   have hv2:=QL.drop hv'
   refine ⟨v',⟨rfl,?_,trivial⟩,Step.drew _ _,?_⟩
   ·show Value.int .i64 b1[0]=_
    rw[h59];cases b1 with | nil=>simp at hB | cons y b1=>rfl
   ·rw[h59];simpa[tl] using hv2
  refine Qi<|⟨vb1,⟨rfl,by show _=_;rw[h59];rfl,trivial⟩,Step.refl _ _,?_⟩
  rw[h59];exact hb
 rintro vb2 g6 w6 ⟨hs6,hb2⟩
 replace ho:=Qs ho hs6
 replace hs:=hs.trans hs6
 have hxe:(bif Xb b1 a1 then b1.headD 0 else bif Xb a1 b1 then a1.headD 0 else 0)=hx a1 b1:=by
  unfold hx
  cases e:Xb b1 a1 with
  | true=>rfl
  | false =>
   cases e2:Xb a1 b1 with
   | true=>rfl
   | false=>rw[e,e2] at hlt;simp[tl] at hlt
 refine Qc<|Qb<|Qb<|Qb<|xl rfl<|xc (first:=[]) (capt:=[]) rfl<|(hk _ _ _).mono ?_
 rintro r7 w7 ⟨rfl,rfl⟩
 refine xe ?_
 refine Q5 rfl (λh68=>?_) (λh68=>?_)
 ·refine Qw ?_
  rw[h68,cond_true] at hm
  refine Qb<|Qb<|xl rfl<|QD (us:=[[.int .i64 (hx a1 b1)]]) rfl rfl (by decide) (by simp) ⟨by rw[←hxe];rfl,rfl,trivial⟩ λb71 w8 hs8 hb71 hB71 =>
   xl rfl<|QZ (news:=[.int .i64 (hx a1 b1)]) (L:=[]) (Qs ho hs8) rfl rfl rfl (hB71.at (by simp)) (by simp[Value.oneCell']) (by omega) (by have:=hs.size;have:=hs8.size;omega) λv9 w9 ho9 hs9 hn9=>Qe ?_
  have hge:=Qk ho
  refine ⟨((tl (Xb a1 b1) a1,va2),(tl (Xb b1 a1) b1,vb2),(o++[hx a1 b1],v9)),by simp only[];omega,⟨rfl,rfl,rfl,trivial⟩,ha2,hb2,?_,(hs.trans hs8).then hs9 (λb hb=>.inr (hge b hb).1),by rw[List.append_assoc];exact hm,by simp only[List.length_append,List.length_singleton];omega⟩
  exact Qu.snoc ho9
 rw[h68,cond_false,List.nil_append] at hm
 refine Qi ?_
 exact ⟨((tl (Xb a1 b1) a1,va2),(tl (Xb b1 a1) b1,vb2),(o,vo)),by simp only[];omega,⟨rfl,rfl,rfl,trivial⟩,ha2,hb2,ho,hs,hm,by simp only[];omega⟩
theorem Qkh (p q:Bool) (w:World):QJ prog 167 [.bool p,.bool q] w λr w'=>r=.bool (p || q)∧w'=w:=by
 refine QJ.of_W func167 rfl ntmps167 results167 (by simp) ?_
 refine Qc<|Qe<|Qc ?_
 cases p
 ·refine Qb<|Qb<|Qb<|x (Qm rfl)<|Qe ?_
  exact Ql ⟨[.bool q],⟨rfl,trivial⟩,rfl,rfl⟩
 ·refine Qb<|Qb<|xs rfl<|x (Qm rfl)<|Qe ?_
  exact Ql ⟨[.bool true],⟨rfl,trivial⟩,rfl,rfl⟩
theorem QeB (p q:Bool) (w:World):QJ prog 185 [.bool p,.bool q] w λr w'=>r=.bool (p && !q)∧w'=w:=by
 refine QJ.of_W func185 rfl ntmps185 results185 (by simp) ?_
 refine Qc<|Qe<|Qc ?_
 cases p
 ·refine Qb<|Qb<|xs rfl<|xs rfl<|x (Qm rfl)<|Qe ?_
  exact Ql ⟨[.bool false],⟨rfl,trivial⟩,rfl,rfl⟩
 ·refine Qb<|Qb<|Qb<|x (Zn rfl)<|x (Qm rfl)<|Qe ?_
  exact Ql ⟨[.bool (!q)],⟨rfl,trivial⟩,rfl,rfl⟩
theorem jO {L L':LN}{w:World}{va vb:Value}{a b:LI}(ha:QL L w.heap va a) (hb:QL L' w.heap vb b) (hlen:a.length+b.length≤1099511627776) :
  QJ prog 96 [va,vb] w λr w'=>Step [] w w'∧Qu 3 w.heap.size w' r (mrg (· || ·) a b):=by
 refine QJ.of_W func96 rfl ntmps96 results96 (by simp) ?_
 refine Qc<|Qe<|Qc<|Qb<|Qb<|xl rfl<|xf<|(yV Qkh ha hb hlen).mono ?_
 rintro r1 w1 ⟨hs,ho⟩
 refine Qe ?_
 exact Ql ⟨[r1],⟨rfl,trivial⟩,hs,ho⟩
theorem Qf7 {L L':LN}{w:World}{va vb:Value}{a b:LI}(ha:QL L w.heap va a) (hb:QL L' w.heap vb b) (hlen:a.length+b.length≤1099511627776) :
  QJ prog 118 [va,vb] w λr w'=>Step [] w w'∧Qu 3 w.heap.size w' r (mrg (λp q=>p && !q) a b):=by
 refine QJ.of_W func118 rfl ntmps118 results118 (by simp) ?_
 refine Qc<|Qe<|Qc<|Qb<|Qb<|xl rfl<|xf<|(yV QeB ha hb hlen).mono ?_
 rintro r1 w1 ⟨hs,ho⟩
 refine Qe ?_
 exact Ql ⟨[r1],⟨rfl,trivial⟩,hs,ho⟩
theorem Qc6 {L L':LN}{w:World}{va vb:Value}{a b:LI}(ha:QL L w.heap va a) (hb:QL L' w.heap vb b) (hlen:a.length+b.length≤1099511627776) :
  QJ prog 165 [va,vb] w λr w'=>Step [] w w'∧r=.bool (decide (mrg (λp q=>p && !q) a b=[])):=by
 refine QJ.of_W func165 rfl ntmps165 results165 (by simp) ?_
 refine Qc<|Qe<|Qc<|Qb<|Qb<|xl rfl<|xf<|(Qf7 ha hb hlen).mono ?_
 rintro r1 w1 ⟨hs,ho⟩
 have hm:=zL (λp q=>p && !q) a b
 have hi:=Qu.ints (L:=[]) ho (by omega) (by simp)
 refine x (Qr hi rfl)<|x (Q7 rfl rfl)<|Qe<|Ql ⟨[.bool (decide (((mrg (λp q=>p && !q) a b).length:Int)=0))],⟨rfl,trivial⟩,hs,?_⟩
 simp[tup]
theorem QfS {g:Nat}{fn:Func}[Fu prog g fn] (hk:∀(e:Ed) (s:Int) (w:World),0≤e.1→e.1≤1099511627776→0≤s→s≤1099511627776→QJ prog g [.agg (Qy e).toArray,.int .i64 s] w λr w'=>r=.int .i64 (e.1 - s)∧Step [] w w')
  {L:LN} {w:World} {v:Value} {es:List Ed} (h:U9 L w.heap v es) (hi:es.Pairwise (λa b=>a.1≤b.1)) (hb:∀e∈es,0≤e.1∧e.1≤1099511627776) (s:Int) (hs0:0≤s) (hs1:s≤1099511627776) :
  QJ prog 154 [v,.int .i64 s,.func (.func g) #[] #[]] w λr w'=>Step [] w w'∧∃(i:Nat) (b:Bool),r=.tuple #[.int .i64 i,.bool b]∧i≤es.length ∧
   (∀m (hm:m<es.length),m<i→es[m].1<s)∧(∀m (hm:m<es.length),i≤m→s≤es[m].1):=by
 have hle:=h.le
 have hget:∀{i j:Nat} (hj:j<es.length) (hij:i<j),es[i].1≤es[j].1:=λ{i j} hj hij=>List.pairwise_iff_getElem.1 hi i j (by omega) hj hij
 have hbd:∀m (hm:m<es.length),0≤es[m].1∧es[m].1≤1099511627776:=λm hm=>hb _ (List.getElem_mem hm)
 refine QJ.of_W func154 rfl ntmps154 results154 (by simp) ?_
 refine Qc<|x Qh<|Qe<|Qc<|Qb<|x (Qr h rfl)<|Qe<|Qc<|Qb<|x Qh<|Qe<|Qf<|Qg<|QA (α:=Nat×Nat) [(9,11),(15,34)] (λz=>[(9,.int .i64 z.1),(10,.int .i64 z.2)])
  (λz w'=>Step [] w w'∧z.1≤z.2∧z.2≤es.length∧(∀m (hm:m<es.length),m<z.1→es[m].1<s)∧(∀m (hm:m<es.length),z.2≤m→s≤es[m].1)) (λz=>z.2 - z.1) (by rfl) (0,es.length) ⟨rfl,rfl,trivial⟩
  ⟨Step.refl _ _,Nat.zero_le _,Nat.le_refl _,λm _ h0=>absurd h0 (Nat.not_lt_zero m),λm h1 h0=>absurd h1 (by simp only[] at h0;omega)⟩ ?_
 rintro ⟨i,j⟩ g1 w1 ⟨hst,hij,hj,hlo,hhi⟩
 simp only[] at hij hj hlo hhi
 refine Qf<|Qc<|Qb<|Qb<|x (QB rfl rfl)<|xe ?_
 refine QG rfl (λh17=>?_) (λh17=>?_)
 ·have e:i=j:=by omega
  subst e
  refine Qx ?_
  refine QU (α:=Bool) [(6,7),(35,48)] (λz=>[(6,.int .i64 i),(7,.bool z)]) (λz w'=>Step [] w1 w') (by rfl) ?_ ?_
  ·refine Qw<|Qb<|Qb<|Qb<|xb (QB rfl rfl) (λh38=>?_) (λh38=>?_)
   ·have hlt:i<es.length:=by omega
    have hq:=hbd i hlt
    refine Qb<|Qb<|Qb<|Qb<|xie (h.ext hst) rfl rfl hlt λa43 h43=>x (QC h43 rfl rfl)<|Qb<|xl rfl<|xc (first:=[]) (capt:=[]) rfl<|(hk es[i] s _ hq.1 hq.2 hs0 hs1).mono ?_
    rintro r2 w2 ⟨rfl,hs2⟩
    refine x (Q7 rfl rfl)<|x (Qm rfl)<|x Qh<|Qe ?_
    exact ⟨_,⟨rfl,rfl,trivial⟩,hs2⟩
   refine Qb<|xs rfl<|xs rfl<|xs rfl<|xs rfl<|xs rfl<|xs rfl<|xs rfl<|xs rfl<|x (Qm rfl)<|x Qh<|Qe ?_
   exact ⟨false,⟨rfl,rfl,trivial⟩,Step.refl _ _⟩
  rintro z g3 w3 hs3
  exact Ql ⟨[.int .i64 i,.bool z],⟨rfl,rfl,trivial⟩,hst.trans hs3,i,z,rfl,hj,hlo,hhi⟩
 have hij':i<j:=by omega
 refine Qi<|Qg<|Qc<|Qb<|Qb<|QO rfl rfl<|x (ZK rfl (by exact ⟨by omega,by omega⟩))<|x (qK (n:=1) rfl rfl (by decide))<|x (ZK rfl (by exact ⟨by omega,by omega⟩))<|Qe ?_
 have hh:(((i:Int)+(j:Int)) / 2 ^ 1)=(((i+j) / 2:Nat):Int):=by omega
 rw[hh]
 generalize hq:(i+j) / 2=q
 have hqi:i≤q:=by omega
 have hqj:q<j:=by omega
 have hql:q<es.length:=by omega
 have hqb:=hbd q hql
 refine Qc<|Qb<|Qb<|Qb<|xie (h.ext hst) rfl rfl hql λa27 h27=>x (QC h27 rfl rfl)<|Qb<|xl rfl<|xc (first:=[]) (capt:=[]) rfl<|(hk es[q] s _ hqb.1 hqb.2 hs0 hs1).mono ?_
 rintro r4 w4 ⟨rfl,hs4⟩
 refine x (QB rfl rfl)<|xe ?_
 refine QG rfl (λh31=>?_) (λh31=>?_)
 ·refine Qw<|Qb<|Qe<|⟨(i,q),by simp only[];omega,⟨rfl,rfl,trivial⟩,hst.trans hs4,hqi,by omega,hlo,λm hm hqm=>?_⟩
  by_cases e:q=m
  ·subst e;omega
  ·have:=hget hm (show q<m by simp only[] at hqm;omega);omega
 refine Qw<|Qb<|QO rfl rfl<|Qe<|⟨(q+1,j),by simp only[];omega,⟨rfl,rfl,trivial⟩,hst.trans hs4,hqj,hj,λm hm hmq=>?_,hhi⟩
 by_cases e:m=q
 ·subst e;omega
 ·have:=hget hql (show m<q by simp only[] at hmq;omega);omega
theorem QgT (e:Ed) (s:Int) (w:World) (h0:0≤e.1) (h1:e.1≤1099511627776) (h2:0≤s) (h3:s≤1099511627776) :
  QJ prog 155 [.agg (Qy e).toArray,.int .i64 s] w λr w'=>r=.int .i64 (e.1 - s)∧Step [] w w':=by
 refine QJ.of_W func155 rfl ntmps155 results155 (by simp) ?_
 refine Qc<|xl rfl<|QQ (us:=Qy e) rfl λb2 w1 hs1 hb2 hB2=>Qe<|Qc<|x (Qa rfl)<|x (Qd hB2 rfl rfl)<|Qb<|x (Jp rfl rfl ⟨by omega,by omega⟩)<|Qe ?_
 exact Ql ⟨[.int .i64 (e.1 - s)],⟨rfl,trivial⟩,rfl,hs1⟩
theorem QgS (e:Ed) (s:Int) (w:World) (h0:0≤e.1) (h1:e.1≤1099511627776) (h2:0≤s) (h3:s≤1099511627776) :
  QJ prog 156 [.agg (Qy e).toArray,.int .i64 s] w λr w'=>r=.int .i64 (e.1 - s)∧Step [] w w':=by
 refine QJ.of_W func156 rfl ntmps156 results156 (by simp) ?_
 refine Qc<|xl rfl<|QQ (us:=Qy e) rfl λb2 w1 hs1 hb2 hB2=>Qe<|Qc<|x (Qa rfl)<|x (Qd hB2 rfl rfl)<|Qb<|x (Jp rfl rfl ⟨by omega,by omega⟩)<|Qe ?_
 exact Ql ⟨[.int .i64 (e.1 - s)],⟨rfl,trivial⟩,rfl,hs1⟩
theorem zE {L:LN}{w:World}{va vm ve:Value}{st:Int}{es:List Ed}(h:U9 L w.heap ve es) (hi:es.Pairwise (λa b=>a.1≤b.1)) (hb:∀e∈es,0≤e.1∧e.1≤1099511627776) (s:Int) (hs0:0≤s) (hs1:s<1099511627776) :
  QJ prog 77 [.agg #[va,.int .i64 st,vm,ve],.int .i64 s] w λr w'=>Step [] w w'∧U9 L w'.heap r (ZJ es s):=by
 refine QJ.of_W func77 rfl ntmps77 results77 (by simp) ?_
 refine Qc<|xl rfl<|QQ (us:=[va,.int .i64 st,vm,ve]) rfl λb2 w1 hs1' hb2 hB2=>Qe ?_
 replace h:=h.ext hs1'
 refine Qc<|x (Qa rfl)<|x (Qd hB2 rfl rfl)<|Qb<|xl rfl<|xf<|(QfS QgT h hi hb s hs0 (by omega)).mono ?_
 rintro r2 w2 ⟨hs2,lo,b,rfl,hlo,hl1,hl2⟩
 replace h:=h.ext hs2
 replace hB2:=hB2.ext hs2
 refine Qb<|x (Qp rfl rfl)<|x (Qp rfl rfl)<|x Qh<|Qe<|Qc<|x (Qa rfl)<|x (Qd hB2 rfl rfl)<|Qb<|QO rfl rfl<|xl rfl<|xf<|(QfS QgS h hi hb (s+1) (by omega) (by omega)).mono ?_
 rintro r3 w3 ⟨hs3,hi',b',rfl,hhi,hh1,hh2⟩
 replace h:=h.ext hs3
 replace hB2:=hB2.ext hs3
 refine Qb<|x (Qp rfl rfl)<|x (Qp rfl rfl)<|x Qh<|Qe ?_
 have hlh:lo≤hi':=by
  rcases Nat.lt_or_ge hi' lo with hlt | hge
  ·have h1:=hl1 hi' (by omega) hlt
   have h2:=hh2 hi' (by omega) (Nat.le_refl _)
   omega
  ·exact hge
 refine Qc<|x (Qa rfl)<|x (Qd hB2 rfl rfl)<|Qb<|Qb<|QkX h rfl rfl rfl hlh hhi λv' hv'=>Qe<|Ql ⟨[v'],⟨rfl,trivial⟩,(hs1'.trans hs2).trans hs3,?_⟩
 have hc:=QaI (λe:Ed=>decide (e.1=s)) es lo hi' hlh hhi (λm hm hml=>by have:=hl1 m hm hml;simp;omega) (λm hm h1 h2=>by have:=hl2 m hm h1;have:=hh1 m hm h2;simp;omega) (λm hm h1=>by have:=hh2 m hm h1;simp;omega)
 have hlen:(ZJ es s).length=hi' - lo:=by unfold ZJ;rw[←hc,List.length_take,List.length_drop];omega
 show Zj L w3.heap v' (ZJ es s).length 3 _
 rw[hlen]
 have e1:(ZJ es s).flatMap Qy=((es.flatMap Qy).drop (lo*3)).take ((hi' - lo)*3):=by
  unfold ZJ
  rw[←hc]
  have key:∀(l:List Ed) (k:Nat),(l.flatMap Qy).drop (k*3)=(l.drop k).flatMap Qy:=by
   intro l
   induction l with
   | nil=>intro k;simp
   | cons a l ih=>intro k;cases k with
    | zero=>simp
    | succ k=>simp only[List.flatMap_cons,List.drop_succ_cons,Nat.add_mul,Nat.one_mul];rw[Nat.add_comm,←List.drop_drop,show (Qy a++l.flatMap Qy).drop 3=l.flatMap Qy from rfl,ih]
  have key2:∀(l:List Ed) (k:Nat),(l.flatMap Qy).take (k*3)=(l.take k).flatMap Qy:=by
   intro l
   induction l with
   | nil=>intro k;simp
   | cons a l ih=>intro k;cases k with
    | zero=>simp
    | succ k =>
     simp only[List.flatMap_cons,List.take_succ_cons,Nat.add_mul,Nat.one_mul]
     rw[List.take_append,XI,←ih,List.take_of_length_le (by simp[XI])]
     simp
  rw[key,key2]
 rw[e1];exact hv'
structure Zs (a:QV):Prop where
 al:∀e∈a.al,0≤e∧e<32
 ali:Yi a.al
 st0:0≤a.st
 st1:a.st≤4096
 mr:∀s∈a.mr,0≤s∧s<a.st
 mri:Yi a.mr
 ed:∀e∈a.ed,0≤e.1∧e.1<a.st∧e.2.1∈a.al∧0≤e.2.2∧e.2.2<a.st
 edi:a.ed.Pairwise λx y=>x.1<y.1∨(x.1=y.1∧x.2.1<y.2.1)
theorem YG (n:Int):∀(l:LI) (pr:Option Int),Xt n pr l=0↔(∀x∈l,0≤x∧x<n)∧Yi l∧∀y,pr=some y→∀x∈l,y<x
 | [],pr=>by simp[Xt]
 | a::l,pr=>by
  have ih:=YG n l (some a)
  rw[Xt]
  by_cases h1:a<0∨n≤a
  ·rw[if_pos h1]
   simp only[List.forall_mem_cons]
   constructor
   ·intro h;cases h
   ·rintro ⟨⟨h,_⟩,_⟩;omega
  ·rw[if_neg h1]
   by_cases h2:UC pr a=true
   ·rw[if_pos h2]
    constructor
    ·intro h;cases h
    ·rintro ⟨_,_,h⟩
     cases pr with
     | none=>simp[UC] at h2
     | some y=>simp[UC] at h2;have:=h y rfl a List.mem_cons_self;omega
   ·rw[if_neg h2,ih]
    simp only[List.forall_mem_cons,List.pairwise_cons]
    constructor
    ·rintro ⟨h3,h4,h5⟩
     refine ⟨⟨by omega,h3⟩,⟨λb hb=>h5 a rfl b hb,h4⟩,?_⟩
     rintro y rfl
     simp[UC] at h2
     exact ⟨h2,λz hz=>by have:=h5 a rfl z hz;omega⟩
    ·rintro ⟨⟨_,h3⟩,⟨h4,h5⟩,_⟩
     exact ⟨h3,h5,λy hy z hz=>by cases hy;exact h4 z hz⟩
theorem jz (al:LI) (st:Int):∀(l:List Ed) (pr:Option Ed),ckE al st pr l=0↔(∀e∈l,0≤e.1∧e.1<st∧e.2.1∈al∧0≤e.2.2∧e.2.2<st)∧(l.Pairwise λx y=>x.1<y.1∨(x.1=y.1∧x.2.1<y.2.1)) ∧
  ∀y,pr=some y→∀e∈l,y.1<e.1∨(y.1=e.1∧y.2.1<e.2.1)
 | [],pr=>by simp[ckE]
 | a::l,pr=>by
  have ih:=jz al st l (some a)
  rw[ckE]
  by_cases h1:a.1<0∨st≤a.1∨a.2.2<0∨st≤a.2.2
  ·rw[if_pos h1]
   simp only[List.forall_mem_cons]
   constructor
   ·intro h;cases h
   ·rintro ⟨⟨h,_⟩,_⟩;omega
  ·rw[if_neg h1]
   by_cases h2:a.2.1∉al
   ·rw[if_pos h2]
    constructor
    ·intro h;cases h
    ·rintro ⟨h,_⟩;exact absurd (h a List.mem_cons_self).2.2.1 h2
   ·rw[if_neg h2]
    by_cases h3:edO pr a=true
    ·rw[if_pos h3]
     constructor
     ·intro h;cases h
     ·rintro ⟨_,_,h⟩
      cases pr with
      | none=>simp[edO] at h3
      | some y=>simp[edO] at h3;have:=h y rfl a List.mem_cons_self;omega
    ·rw[if_neg h3,ih]
     simp only[List.forall_mem_cons,List.pairwise_cons]
     have h2':a.2.1∈al:=Decidable.not_not.1 h2
     constructor
     ·rintro ⟨h4,h5,h6⟩
      refine ⟨⟨⟨by omega,by omega,h2',by omega,by omega⟩,h4⟩,⟨λb hb=>h6 a rfl b hb,h5⟩,?_⟩
      rintro y rfl
      simp[edO] at h3
      have hya:y.1<a.1∨y.1=a.1∧y.2.1<a.2.1:=by omega
      exact ⟨hya,λz hz=>by have:=h6 a rfl z hz;omega⟩
     ·rintro ⟨⟨_,h4⟩,⟨h5,h6⟩,_⟩
      exact ⟨h4,h6,λy hy z hz=>by cases hy;exact h5 z hz⟩
theorem ZE (a:QV):Jh a=0↔Zs a:=by
 unfold Jh
 by_cases h1:Xt 32 none a.al≠0
 ·rw[if_pos h1]
  exact ⟨λh=>absurd h h1,λh=>absurd ((YG 32 a.al none).2 ⟨h.al,h.ali,λ_ h=>by cases h⟩) h1⟩
 ·rw[if_neg h1]
  have h1':=(YG 32 a.al none).1 (Decidable.not_not.1 h1)
  by_cases h2:a.st<0
  ·rw[if_pos h2];exact ⟨λh=>(by cases h),λh=>(by have:=h.st0;omega)⟩
  ·rw[if_neg h2]
   by_cases h3:4096<a.st
   ·rw[if_pos h3];exact ⟨λh=>(by cases h),λh=>(by have:=h.st1;omega)⟩
   ·rw[if_neg h3]
    by_cases h4:Xt a.st none a.mr≠0
    ·rw[if_pos h4]
     exact ⟨λh=>absurd h h4,λh=>absurd ((YG a.st a.mr none).2 ⟨h.mr,h.mri,λ_ h=>by cases h⟩) h4⟩
    ·rw[if_neg h4,jz]
     have h4':=(YG a.st a.mr none).1 (Decidable.not_not.1 h4)
     exact ⟨λh=>⟨h1'.1,h1'.2.1,by omega,by omega,h4'.1,h4'.2.1,h.1,h.2.1⟩,λh=>⟨h.ed,h.edi,λ_ h=>by cases h⟩⟩
theorem Xm:∀(l:LI) (a n:Int),Yi l→(∀x∈l,a≤x∧x<n)→(l.length:Int)≤max 0 (n - a)
 | [],a,n,_,_=>by simp;omega
 | x::l,a,n,h1,h2=>by
  simp only[List.pairwise_cons,List.forall_mem_cons] at h1 h2
  have:=Xm l (x+1) n h1.2 (λy hy=>⟨by have:=h1.1 y hy;omega,(h2.2 y hy).2⟩)
  simp only[List.length_cons]
  omega
theorem Zs.al_le {a:QV}(h:Zs a):a.al.length≤32:=by have:=Xm a.al 0 32 h.ali h.al;omega
theorem Zs.mr_le {a:QV}(h:Zs a):a.mr.length≤4096:=by have:=Xm a.mr 0 a.st h.mri h.mr;have:=h.st1;omega
theorem Zs.eds {a:QV}(h:Zs a):a.ed.Pairwise λx y=>x.1≤y.1:=h.edi.imp λh=>by omega
structure Cs where
 ord:LI
 num:LI
 mk':LI
 ed:List Ed
def Xc (l:LI) (k:Int):Int:=l.getD k.toNat 0
def Zx (i:Nat) (c:Cs) (e:Ed):Cs :=
 if Xc c.num e.2.2<0 then ⟨c.ord++[e.2.2],c.num.set e.2.2.toNat c.ord.length,c.mk',c.ed++[((i:Int),e.2.1,(c.ord.length:Int))]⟩
 else ⟨c.ord,c.num,c.mk',c.ed++[((i:Int),e.2.1,Xc c.num e.2.2)]⟩
def Yk (a:QV) (i:Nat) (c:Cs):Cs:=if Xc c.ord i∈a.mr then ⟨c.ord,c.num,c.mk'++[(i:Int)],c.ed⟩ else c
def qi (a:QV) (i:Nat) (c:Cs):Cs:=(ZJ a.ed (Xc c.ord i)).foldl (Zx i) (Yk a i c)
def Jt (a:QV):Nat→Nat→Cs→Cs
 | 0,_,c=>c
 | f+1,i,c=>if i<c.ord.length then Jt a f (i+1) (qi a i c) else c
def Jk (a:QV):Cs:=⟨[0],(List.replicate a.st.toNat (-1)).set 0 0,[],[]⟩
def Ju (a:QV):QV:=if a.st=0 then ⟨a.al,0,[],[]⟩ else
 let c:=Jt a a.st.toNat 0 (Jk a);⟨a.al,c.ord.length,c.mk',c.ed⟩
def neg (l:LI):Nat:=(l.filter (·<0)).length
theorem KO:∀(l:LI) (k:Nat) (v:Int) (h:k<l.length),l[k]<0→0≤v→neg (l.set k v)+1=neg l
 | a::l,0,v,_,h1,h2=>by
  have h1':a<0:=h1
  simp[neg,h1',show ¬v<0 by omega]
 | a::l,k+1,v,h,h1,h2=>by
  have ih:=KO l k v (by simpa using h) h1 h2
  unfold neg at *
  simp only[List.set_cons_succ,List.filter_cons]
  split
  ·simp only[List.length_cons];omega
  ·exact ih
structure Kw (st:Int) (c:Cs):Prop where
 nl:c.num.length=st.toNat
 sum:c.ord.length+neg c.num=st.toNat
 ord:∀s∈c.ord,0≤s∧s<st
 num:∀v∈c.num,v<c.ord.length
 el:c.ed.length≤1000000000
theorem Kw.le {st:Int}{c:Cs}(h:Kw st c):c.ord.length≤st.toNat:=by have:=h.sum;omega
theorem KY {l:LI}{k:Int}(h:k.toNat<l.length):Xc l k=l[k.toNat]:=by unfold Xc;simp[List.getD,h]
theorem yx {st:Int}{c:Cs}{i:Nat}{e:Ed}(h:Kw st c) (h0:0≤e.2.2) (h1:e.2.2<st) (hl:c.ed.length+1≤1000000000):Kw st (Zx i c e):=by
 have hk:e.2.2.toNat<c.num.length:=by rw[h.nl];omega
 unfold Zx
 split
 ·rename_i hn
  rw[KY hk] at hn
  refine ⟨by simp[h.nl],?_,?_,?_,by simpa using hl⟩
  ·have:=KO c.num e.2.2.toNat c.ord.length hk hn (by omega)
   have:=h.sum
   simp only[List.length_append,List.length_singleton];omega
  ·intro s hs
   simp only[List.mem_append,List.mem_singleton] at hs
   rcases hs with hs | rfl
   ·exact h.ord s hs
   ·exact ⟨h0,h1⟩
  ·intro v hv
   simp only[List.length_append,List.length_singleton]
   rcases List.mem_or_eq_of_mem_set hv with hv | rfl
   ·have:=h.num v hv;omega
   ·omega
 ·exact ⟨h.nl,h.sum,h.ord,h.num,by simpa using hl⟩
theorem yz (i:Nat) (c:Cs) (e:Ed):(Zx i c e).ed.length=c.ed.length+1:=by unfold Zx;split <;> simp
theorem QeE {a:QV}{st:Int}{c:Cs}{i:Nat}(h:Kw st c):Kw st (Yk a i c):=by
 unfold Yk;split
 ·exact ⟨h.nl,h.sum,h.ord,h.num,h.el⟩
 ·exact h
theorem ZL {es:List Ed}{s:Int}{e:Ed}(h:e∈ZJ es s):e∈es∧e.1=s:=by unfold ZJ at h;simpa using h
theorem Qb1 {a:QV}(h0:0<a.st):Kw a.st (Jk a):=by
 have hpos:0<a.st.toNat:=by omega
 refine ⟨by simp[Jk],?_,?_,?_,by simp[Jk]⟩
 ·have hlt:0<(List.replicate a.st.toNat (-1:Int)).length:=by simpa using hpos
  have h1:=KO (List.replicate a.st.toNat (-1)) 0 0 hlt (by simp) (Int.le_refl _)
  have h2:neg (List.replicate a.st.toNat (-1))=a.st.toNat:=by
   unfold neg;rw[List.filter_eq_self.2 (by intro b hb;have:=List.eq_of_mem_replicate hb;subst this;rfl)];simp
  simp only[Jk,List.length_singleton];omega
 ·intro s hs;simp[Jk] at hs;subst hs;omega
 ·intro v hv
  simp only[Jk,List.length_singleton] at *
  rcases List.mem_or_eq_of_mem_set hv with hv | rfl
  ·have:=List.eq_of_mem_replicate hv;omega
  ·omega
theorem q8 {a:QV}{f i:Nat}{c:Cs}(h:¬i<c.ord.length):Jt a f i c=c:=by
 cases f with
 | zero=>rfl
 | succ f=>rw[Jt,if_neg h]
theorem Zs.ed_le {a:QV}(h:Zs a):a.ed.length≤131072:=by
 have h1:Yi (a.ed.map λe=>e.1*32+e.2.1):=by
  refine List.pairwise_map.2 (List.Pairwise.imp_of_mem ?_ h.edi)
  intro x y hx hy hxy
  have h2:=h.al _ (h.ed x hx).2.2.1
  have h3:=h.al _ (h.ed y hy).2.2.1
  omega
 have h2:=Xm _ 0 131072 h1 (by
  intro v hv
  obtain ⟨e,he,rfl⟩:=List.mem_map.1 hv
  have h3:=h.ed e he
  have h4:=h.al _ h3.2.2.1
  have:=h.st1
  omega)
 simp only[List.length_map] at h2
 omega
theorem JB (es:List Ed) (s:Int):(ZJ es s).length≤es.length:=List.length_filter_le _ _
structure Jn (b3 b22:Nat) (r3:Value) (wS:World) (c:Cs) (vo vk ve:Value) (w:World):Prop where
 st:Step [b3,b22] wS w
 B3:Q2 w.heap b3 58 [r3,.int .i64 0,vk,ve]
 B22:Q2 w.heap b22 3 (c.num.map (Value.int .i64))
 o:Qu 3 wS.heap.size w vo c.ord
 k:Qu 3 wS.heap.size w vk c.mk'
 e:Z4 144 wS.heap.size w ve c.ed
 d1:Dj vo vk
 d2:Dj vo ve
 d3:Dj vk ve
theorem Jn.ext {b3 b22:Nat}{r3:Value}{wS:World}{c:Cs}{vo vk ve:Value}{w w':World}(h:Jn b3 b22 r3 wS c vo vk ve w) (hs:Step [] w w'):Jn b3 b22 r3 wS c vo vk ve w' :=
 ⟨h.st.trans hs,h.B3.ext hs,h.B22.ext hs,Qs h.o hs,Qs h.k hs,Qs h.e hs,h.d1,h.d2,h.d3⟩
section
variable {b3 b22:Nat} {r3:Value} {wS:World} {c:Cs} {vo vk ve:Value} {w w' w'':World}
theorem Jn.setK (h:Jn b3 b22 r3 wS c vo vk ve w) (l3:b3<wS.heap.size) (l22:b22<wS.heap.size) (ne:b3≠b22) {vk':Value}{m:LI}(hs:Step (ob vk) w w') (hk':Qu 3 wS.heap.size w' vk' m)
  (hn:∀b∈ob vk',b∈ob vk∨w.heap.size≤b) (hs2:Step [b3] w' w'') (hB:Q2 w''.heap b3 58 [r3,.int .i64 0,vk',ve]):Jn b3 b22 r3 wS ⟨c.ord,c.num,m,c.ed⟩ vo vk' ve w'':=by
 have hge:=Qk h.k
 refine ⟨(h.st.then hs (λb hb=>.inr (hge b hb).1)).then hs2 (λb hb=>.inl (by simp at hb;simp[hb])),hB,(h.B22.step hs (QM h.k l22)).step hs2 (by simp;omega),
  Qj (Qj h.o hs h.d1) hs2 (λb hb=>by have:=(Qk h.o b hb).1;simp;omega),Qj hk' hs2 (λb hb=>by have:=(Qk hk' b hb).1;simp;omega),
  Qj (Qj h.e hs h.d3.symm) hs2 (λb hb=>by have:=(Qk h.e b hb).1;simp;omega),h.d1.grow hn (QR h.o),h.d2,(h.d3.symm.grow hn (QR h.e)).symm⟩
theorem Jn.setE (h:Jn b3 b22 r3 wS c vo vk ve w) (l3:b3<wS.heap.size) (l22:b22<wS.heap.size) (ne:b3≠b22) {ve':Value}{m:List Ed}(hs:Step (ob ve) w w') (hk':Z4 144 wS.heap.size w' ve' m)
  (hn:∀b∈ob ve',b∈ob ve∨w.heap.size≤b) (hs2:Step [b3] w' w'') (hB:Q2 w''.heap b3 58 [r3,.int .i64 0,vk,ve']):Jn b3 b22 r3 wS ⟨c.ord,c.num,c.mk',m⟩ vo vk ve' w'':=by
 have hge:=Qk h.e
 refine ⟨(h.st.then hs (λb hb=>.inr (hge b hb).1)).then hs2 (λb hb=>.inl (by simp at hb;simp[hb])),hB,(h.B22.step hs (QM h.e l22)).step hs2 (by simp;omega),
  Qj (Qj h.o hs h.d2) hs2 (λb hb=>by have:=(Qk h.o b hb).1;simp;omega),Qj (Qj h.k hs h.d3) hs2 (λb hb=>by have:=(Qk h.k b hb).1;simp;omega),
  Qj hk' hs2 (λb hb=>by have:=(Qk hk' b hb).1;simp;omega),h.d1,h.d2.grow hn (QR h.o),h.d3.grow hn (QR h.k)⟩
theorem Jn.setN (h:Jn b3 b22 r3 wS c vo vk ve w) (l22:b22<wS.heap.size) (ne:b3≠b22) {m:LI}(hs2:Step [b22] w w') (hB:Q2 w'.heap b22 3 (m.map (Value.int .i64))):Jn b3 b22 r3 wS ⟨c.ord,m,c.mk',c.ed⟩ vo vk ve w' :=
 ⟨h.st.then hs2 (λb hb=>.inl (by simp at hb;simp[hb])),h.B3.step hs2 (by simp;omega),hB,Qj h.o hs2 (λb hb=>by have:=(Qk h.o b hb).1;simp;omega),
  Qj h.k hs2 (λb hb=>by have:=(Qk h.k b hb).1;simp;omega),Qj h.e hs2 (λb hb=>by have:=(Qk h.e b hb).1;simp;omega),h.d1,h.d2,h.d3⟩
theorem Jn.setO (h:Jn b3 b22 r3 wS c vo vk ve w) (l3:b3<wS.heap.size) (l22:b22<wS.heap.size) {vo':Value}{m:LI}(hs:Step (ob vo) w w') (hk':Qu 3 wS.heap.size w' vo' m)
  (hn:∀b∈ob vo',b∈ob vo∨w.heap.size≤b):Jn b3 b22 r3 wS ⟨m,c.num,c.mk',c.ed⟩ vo' vk ve w' :=
 ⟨h.st.then hs (λb hb=>.inr (Qk h.o b hb).1),h.B3.step hs (QM h.o l3),h.B22.step hs (QM h.o l22),hk',Qj h.k hs h.d1.symm,Qj h.e hs h.d2.symm,
  (h.d1.symm.grow hn (QR h.k)).symm,(h.d2.symm.grow hn (QR h.e)).symm,h.d3⟩
end
def ZP (c:Cs) (e:Ed):Cs:=if Xc c.num e.2.2<0 then ⟨c.ord++[e.2.2],c.num.set e.2.2.toNat c.ord.length,c.mk',c.ed⟩ else c
theorem Qbq (c:Cs) (e:Ed):(ZP c e).num.length=c.num.length:=by unfold ZP;split <;> simp
theorem Ui {i:Nat}{c:Cs}{e:Ed}(h:e.2.2.toNat<c.num.length):Zx i c e=⟨(ZP c e).ord,(ZP c e).num,(ZP c e).mk',(ZP c e).ed++[((i:Int),e.2.1,Xc (ZP c e).num e.2.2)]⟩:=by
 unfold Zx ZP
 split
 ·simp[Xc,List.getD,h]
 ·rfl
set_option maxHeartbeats 1000000 in
theorem Ji {L:LN}{w:World}{va vm ve:Value}{a:QV}(h:Zt L w.heap va vm ve a) (hok:Zs a) :
  QJ prog 194 [.agg #[va,.int .i64 a.st,vm,ve]] w λr w'=>Step [] w w'∧Xr w.heap.size w'.heap r (Ju a):=by
 have hst0:=hok.st0
 have hst1:=hok.st1
 refine QJ.of_W func194 rfl ntmps194 results194 (by simp) ?_
 refine Qc<|xl rfl<|QQ (us:=[va,.int .i64 a.st,vm,ve]) rfl λb1 w1 hs1 hb1 hB1=>xl rfl<|Qt (us:=[nS,.int .i64 0,nS,nS]) rfl λb2 w2 hs2 hb2 hB2=>xe ?_
 have hz1:=hs1.size
 have hz2:=hs2.size
 have hl1:=hB1.lt
 have hl2:=hB2.lt
 refine Qc<|x (Qa rfl)<|x (Qd (hB1.ext hs2) rfl rfl)<|xl rfl<|xf<|(ZU ((h.al.ext hs1).ext hs2)).mono ?_
 rintro r3 w3 ⟨hs3,hr3⟩
 have hz3:=hs3.size
 refine x (QE ⟨(Qu.ints (L:=[]) hr3 h.al.le (by simp)).cells,trivial⟩)<|xl rfl<|Qt (us:=[nS,.int .i64 0,nS,nS]) rfl λb3 w4 hs4 hb3 hB3 =>
  xl rfl<|Qn (us:=[r3,.int .i64 0,nS,nS]) hB3 rfl rfl rfl rfl ⟨(Qu.ints (L:=[]) hr3 h.al.le (by simp)).one,rfl,rfl,rfl,trivial⟩ λw5 hs5 hB3=>xe ?_
 have hS5:Step [] w3 w5:=hs4.then1 hs5 hb3
 have hz5:=hS5.size
 have hl3:=hB3.lt
 have hW5:Step [] w w5:=((hs1.trans hs2).trans hs3).trans hS5
 refine Qf<|Qc<|x (Qa rfl)<|x (Qd (((hB1.ext hs2).ext hs3).ext hS5) rfl rfl)<|x (Q7 rfl rfl)<|xe ?_
 refine Q4 rfl (λh18=>?_) (λh18=>?_)
 ·refine Qc<|x (Qq hB3 rfl rfl)<|xl rfl<|Qn (us:=[r3,.int .i64 0,nS,nS]) ((hB2.ext hs3).ext hS5) rfl rfl rfl rfl ⟨(Qu.ints (L:=[]) hr3 h.al.le (by simp)).one,rfl,rfl,rfl,trivial⟩ λw6 hs6 hB2=>xe ?_
  refine Ql ⟨[.agg #[r3,.int .i64 0,nS,nS]],⟨⟨_,rfl,Qz rfl (hB2.at (L:=[]) (by simp)).cells⟩,trivial⟩,hW5.then1 hs6 (by omega),?_⟩
  have hr6:=Qj (Qs hr3 hS5) hs6 (λb hb=>by have:=(Qk hr3 b hb).1;simp;omega)
  unfold Ju
  rw[if_pos h18]
  exact ⟨r3,_,_,rfl,λL' hL'=>⟨Qu.ints hr6 h.al.le (λb hb=>by have:=hL' b hb;omega),Zj.nil _ _ _,Zj.nil _ _ _⟩⟩
 have hpos:0<a.st:=by omega
 obtain ⟨n,hn⟩:∃n:Nat,a.st=n:=⟨a.st.toNat,by omega⟩
 have hnn:a.st.toNat=n:=by omega
 refine Qi<|Qc<|x (Qa rfl)<|x (Qd (((hB1.ext hs2).ext hs3).ext hS5) rfl rfl)<|xl rfl<|Vr (n:=n) (congrArg (Value.int .i64) hn) (congrArg (Value.int .i64) hn) (by omega) λb22 w7 hs7 hb22 hB22=>Qe ?_
 have hz7:=hs7.size
 have hl22:=hB22.lt
 have hW7:=hW5.trans hs7
 rw[show (List.replicate n (Value.int .i64 0).cells.toList).flatten=((List.replicate n 0).map (Value.int .i64)) by rw[show (Value.int .i64 0).cells.toList=[Value.int .i64 0] from rfl,yJ,List.map_replicate]] at hB22
 have hw7A:Step [] w3 w7:=hS5.trans hs7
 refine Qf<|Qc<|Qb<|x (yM rfl)<|Qb<|xe ?_
 refine Qg<|QA (α:=Nat) [(5,5),(25,31)] (λk=>[(25,.int .i64 k)]) (λk w'=>Step [b22] w7 w'∧k≤n∧Q2 w'.heap b22 3 ((List.replicate k (-1)++List.replicate (n - k) 0).map (Value.int .i64))) (λk=>n - k) (by rfl) 0 ⟨rfl,trivial⟩
  ⟨Step.refl _ _,Nat.zero_le _,by simpa using hB22⟩ ?_
 rintro k g w8 ⟨hs8,hk,hB8⟩
 refine Qc<|x (QB rfl rfl)<|xe ?_
 refine Qf<|QG rfl (λh26=>?_) (λh26=>?_)
 rotate_left
 ·have hlt:k<n:=by omega
  refine Qi<|Qf<|Qg<|Qc<|Qb<|Qe<|Qw<|Qb<|Qb<|x (Zk rfl rfl hlt)<|xl rfl<|X0 hB8 rfl rfl (by simp;omega) λw9 hs9 hB9=>xe ?_
  refine Qw<|QO rfl rfl<|Qb<|xe ?_
  refine ⟨k+1,by omega,⟨rfl,trivial⟩,hs8.trans' hs9,by omega,?_⟩
  have e:(List.replicate k (-1:Int)++List.replicate (n - k) 0).set k (-1)=List.replicate (k+1) (-1)++List.replicate (n - (k+1)) 0:=by
   rw[List.set_append_right _ _ (by simp)]
   obtain ⟨m,hm⟩:∃m,n - k=m+1:=⟨n - k - 1,by omega⟩
   rw[hm,show n - (k+1)=m by omega,List.replicate_succ,List.replicate_succ' (n:=k)]
   simp
  rw[e] at hB9;exact hB9
 have hkn:n=k:=by omega
 subst hkn
 simp only[Nat.sub_self,List.replicate_zero,List.append_nil] at hB8
 refine Qx ?_
 refine Qc<|Qb<|x (Zk (i:=0) rfl rfl (by omega))<|xl rfl<|X0 (i:=0) hB8 rfl rfl (by simp;omega) λwS hs9 hBS=>xe ?_
 have hzS:w8.heap.size≤wS.heap.size:=hs9.size
 have hz8:=hs8.size
 have hSS:Step [b22] w7 wS:=hs8.trans' hs9
 have hWS:Step [] w wS:=hW7.then1 hSS (by omega)
 have hA:Zt [b3,b22] wS.heap va vm ve a:=(h.up (λb hb=>.inr (by simp at hb;omega))).ext hWS
 have hB1S:Q2 wS.heap b1 58 [va,.int .i64 a.st,vm,ve]:=((((hB1.ext hs2).ext hs3).ext hS5).ext hs7).step hSS (by simp;omega)
 have hB2S:Q2 wS.heap b2 58 [nS,.int .i64 0,nS,nS]:=(((hB2.ext hs3).ext hS5).ext hs7).step hSS (by simp;omega)
 have hB3S:Q2 wS.heap b3 58 [r3,.int .i64 0,nS,nS]:=(hB3.ext hs7).step hSS (by simp;omega)
 have hr3S:Qu 3 w2.heap.size wS r3 a.al:=Qj (Qs hr3 hw7A) hSS (λb hb=>by have:=QR hr3 b hb;simp;omega)
 have hr3lt:∀b∈ob r3,b<w3.heap.size:=QR hr3
 have hlb3:b3<wS.heap.size:=by omega
 have hlb22:b22<wS.heap.size:=by omega
 have hne:b3≠b22:=by omega
 refine Qc<|xl rfl<|QD (us:=[[.int .i64 0]]) rfl rfl (by decide) (by simp) ⟨rfl,rfl,trivial⟩ λb34 w10 hs10 hb34 hB34=>Qe ?_
 have ho10:Qu 3 wS.heap.size w10 (.slice (some ⟨b34,0,none⟩) 1 1) [0]:=hB34.own (n:=1) (sz:=1) rfl (by omega) (by omega)
 refine Qf<|Qc<|Qe ?_
 have hedle:=hok.ed_le
 have hbound:∀e∈a.ed,0≤e.1∧e.1≤1099511627776:=λe he=>by have:=hok.ed e he;omega
 refine Qg<|QA (α:=Nat×Cs×Value×Value×Value) [(6,9),(11,11),(35,100)] (λz=>[(6,z.2.2.1),(7,.int .i64 z.1)])
  (λz w'=>Jn b3 b22 r3 wS z.2.1 z.2.2.1 z.2.2.2.1 z.2.2.2.2 w'∧z.1≤z.2.1.ord.length∧Kw a.st z.2.1∧z.2.1.mk'.length≤z.1∧z.2.1.ed.length≤z.1*131072∧Jt a (a.st.toNat - z.1) z.1 z.2.1=Jt a a.st.toNat 0 (Jk a))
  (λz=>a.st.toNat - z.1) (by rfl) (0,Jk a,.slice (some ⟨b34,0,none⟩) 1 1,nS,nS) ⟨rfl,rfl,trivial⟩
  ⟨⟨hs10.any,hB3S.ext hs10,by show Q2 _ _ _ (List.map _ ((List.replicate a.st.toNat (-1)).set 0 0));rw[hnn];exact hBS.ext hs10,ho10,QP _ _ _ _,QP _ _ _ _,Dj.nil' _,Dj.nil' _,Dj.nil' _⟩,Nat.zero_le _,Qb1 hpos,Nat.zero_le _,Nat.zero_le _,rfl⟩ ?_
 rintro ⟨i,c,vo,vk,ve'⟩ g2 w11 ⟨hI,hi,hc,hmk,hed,hcan⟩
 simp only[] at hI hi hc hmk hed hcan
 have hcle:=hc.le
 have hoA:=Qu.ints (L:=[]) hI.o (by omega) (by simp)
 have hA11:=hA.st hI.st
 have hB1':=hB1S.step hI.st (by simp;omega)
 refine Qf<|Qc<|Qb<|Qb<|x (Qr hoA rfl)<|x (QB rfl rfl)<|xe ?_
 refine QG rfl (λh38=>?_) (λh38=>?_)
 ·have hend:c=Jt a a.st.toNat 0 (Jk a):=by rw[←hcan,q8 (by omega)]
  refine Qx ?_
  refine Qc<|Qb<|x (Qr hoA rfl)<|x (Qa rfl)<|xl rfl<|QF hI.B3 rfl rfl (by simp) rfl λw12 hs12 hB12=>xe ?_
  refine Qc ?_
  have hkA:=Qu.ints (L:=[]) hI.k (by omega) (by simp)
  have heA:=Z4.eds (L:=[]) hI.e (by have:=hc.el;omega) (by simp)
  have hr3A:=Qu.ints (L:=[]) hr3 h.al.le (by simp)
  refine x (Qq hB12 rfl rfl)<|xl rfl<|Qn (us:=[r3,.int .i64 c.ord.length,vk,ve']) (((hB2S.step hI.st (by simp;omega))).step hs12 (by simp;omega)) rfl rfl rfl rfl ⟨hr3A.one,rfl,hkA.one,heA.one,trivial⟩ λw13 hs13 hB13=>xe ?_
  have hE1:Step [b3,b22] wS w12:=hI.st.then hs12 (λb hb=>.inl (by simp at hb;simp[hb]))
  have hfin:Step [] w w13:=(hWS.then hE1 (λb hb=>.inr (by simp at hb;omega))).then1 hs13 (by omega)
  refine Ql ⟨[.agg #[r3,.int .i64 c.ord.length,vk,ve']],⟨⟨_,rfl,Qz rfl (hB13.at (L:=[]) (by simp)).cells⟩,trivial⟩,hfin,?_⟩
  unfold Ju
  rw[if_neg h18]
  simp only[]
  rw[←hend]
  have hNge:w.heap.size≤wS.heap.size:=hWS.size
  have k1:=Qj (Qj hI.k hs12 (λb hb=>by have:=(Qk hI.k b hb).1;simp;omega)) hs13 (λb hb=>by have:=(Qk hI.k b hb).1;simp;omega)
  have k2:=Qj (Qj hI.e hs12 (λb hb=>by have:=(Qk hI.e b hb).1;simp;omega)) hs13 (λb hb=>by have:=(Qk hI.e b hb).1;simp;omega)
  have k3:=Qj (Qj hr3S hE1 (λb hb=>by have:=hr3lt b hb;simp;omega)) hs13 (λb hb=>by have:=(Qk hr3 b hb).1;simp;omega)
  exact ⟨r3,vk,ve',rfl,λL' hL'=>⟨Qu.ints k3 h.al.le (λb hb=>by have:=hL' b hb;omega),Qu.ints k1 (by show c.mk'.length≤_;omega) (λb hb=>by have:=hL' b hb;omega),Z4.eds k2 (by show c.ed.length≤_;have:=hc.el;omega) (λb hb=>by have:=hL' b hb;omega)⟩⟩
 have hlt:i<c.ord.length:=by omega
 refine Qi<|Qf<|Qg<|QU (α:=Value) [(8,9),(41,57)] (λz=>[]) (λz w'=>Jn b3 b22 r3 wS (Yk a i c) vo z ve' w') (by rfl) ?_ ?_
 ·refine Qf<|QS (Step [] w11) [(0,true),(1,true),(2,true),(3,true),(4,true),(5,true),(6,false),(7,true),(8,true),(9,true),(10,true),(11,true)] mixed (by rfl) (by kernel_rfl) (Step.drew _ _) ?_
  refine p (λ_=>Qa rfl)<|pq (λ_ hc=>Qd (hB1'.ext hc) rfl rfl)<|p (λ_=>Qo)<|p (λ_=>Qo)<|pii rfl hoA rfl rfl hlt λa46 h46 =>
   pq (λ_ hc=>Qv (h46.ext hc) rfl)<|pk<|xf<|(UY (hA11.mr.ext (Step.drew _ _)) hok.mri _).mono ?_
  rintro r14 w14 ⟨rfl,j14,rfl⟩
  refine ⟨Step.drew _ _,?_⟩
  refine p (λ_=>Qo)<|p (λ_=>Qp rfl rfl)<|p (λ_=>Qp rfl rfl)<|p (λ_=>Qh)<|p (λ_=>Qh)<|pe ?_
  have hI':=hI.ext (Step.drew [] w11)
  refine Qc<|Qb<|xe ?_
  have hgi:Xc c.ord i=c.ord[i]:=KY (by simpa using hlt)
  refine QG rfl (λh51=>?_) (λh51=>?_)
  ·refine Qi<|⟨vk,trivial,?_⟩
   unfold Yk;rw[hgi,if_neg h51];exact hI'
  refine Qw<|x (Qa rfl)<|x (Qd hI'.B3 rfl rfl)<|Qb<|xl rfl<|QD (us:=[[.int .i64 i]]) rfl rfl (by decide) (by simp) ⟨rfl,rfl,trivial⟩ λb55 w15 hs15 hb55 hB55=>?_
  have hI15:=hI'.ext hs15
  refine xl rfl<|QZ (news:=[.int .i64 i]) (L:=[]) hI15.k rfl rfl rfl (hB55.at (by simp)) (by simp[Value.oneCell']) (by omega) hI15.st.size λv16 w16 ho16 hs16 hn16=>?_
  have hk16:Qu 3 wS.heap.size w16 v16 (c.mk'++[(i:Int)]):=Qu.snoc ho16
  refine x (Qa rfl)<|xl rfl<|QF (hI15.B3.step hs16 (QM hI15.k hlb3)) rfl rfl (by simp) (Qu.ints (L:=[]) hk16 (by simp;omega) (by simp)).one λw17 hs17 hB17=>xe ?_
  refine ⟨v16,trivial,?_⟩
  unfold Yk;rw[hgi,if_pos h51]
  exact hI15.setK hlb3 hlb22 hne hs16 hk16 hn16 hs17 hB17
 rintro vk2 g3 w18 hI2
 have hc2:Kw a.st (Yk a i c):=QeE hc
 have hord2:(Yk a i c).ord=c.ord:=by unfold Yk;split <;> rfl
 have hed2:(Yk a i c).ed=c.ed:=by unfold Yk;split <;> rfl
 have hmk2:(Yk a i c).mk'.length≤i+1:=by
  unfold Yk;split
  ·simp only[List.length_append,List.length_singleton];omega
  ·omega
 have hoA2:QL [] w18.heap vo (Yk a i c).ord:=Qu.ints (L:=[]) hI2.o (by rw[hord2];omega) (by simp)
 rw[hord2] at hoA2
 have hW18:Step [] w w18:=hWS.then hI2.st (λb hb=>.inr (by simp at hb;omega))
 have hNw:=hWS.size
 have hA18:Zt (b3::b22::(ob vo++ob ve')) w18.heap va vm ve a:=(h.up (λb hb=>.inr (by
  simp only[List.mem_cons,List.mem_append] at hb
  rcases hb with rfl | rfl | hb | hb
  ·omega
  ·omega
  ·have:=(Qk hI2.o b hb).1;omega
  ·have:=(Qk hI2.e b hb).1;omega))).ext hW18
 have hB1'':=hB1S.step hI2.st (by simp;omega)
 have hs:=hc.ord c.ord[i] (List.getElem_mem hlt)
 refine Qf<|QS (Step [] w18) [(0,true),(1,true),(2,true),(3,true),(4,true),(7,true),(5,false),(6,true)] mixed (by rfl) (by kernel_rfl) (Step.drew _ _) ?_
 refine pq (λ_ hc=>Qq (hB1''.ext hc) rfl rfl)<|p (λ_=>Qo)<|p (λ_=>Qo)<|pii rfl hoA2 rfl rfl hlt λa61 h61 =>
  pq (λ_ hc=>Qv (h61.ext hc) rfl)<|p (λ_=>Qo)<|pk<|xf<|(zE (hA18.ed.ext (Step.drew _ _)) hok.eds hbound c.ord[i] hs.1 (by omega)).mono ?_
 rintro r19 w19 ⟨hs19,hr19⟩
 have hs19':Step [] w18 w19:=(Step.drew [] w18).trans hs19
 refine ⟨hs19',?_⟩
 refine p (λ_=>Qr hr19 rfl)<|pe ?_
 have hI3:=hI2.ext hs19'
 have hgi:Xc c.ord i=c.ord[i]:=KY (by simpa using hlt)
 have hol:=JB a.ed c.ord[i]
 have hrow:qi a i c=(ZJ a.ed c.ord[i]).foldl (Zx i) (Yk a i c):=by unfold qi;rw[hgi]
 generalize hos:ZJ a.ed c.ord[i]=os at *
 have hosm:∀e∈os,0≤e.2.2∧e.2.2<a.st:=λe he=>by rw[←hos] at he;have:=hok.ed e (ZL he).1;omega
 refine Qg<|QA (α:=Nat×Cs×Value×Value) [(6,6),(11,11),(65,100)] (λz=>[(6,z.2.2.1),(65,.int .i64 z.1)])
  (λz w'=>Jn b3 b22 r3 wS z.2.1 z.2.2.1 vk2 z.2.2.2 w'∧Step (b3::b22::(ob vo++ob ve')) w19 w'∧(∀b∈ob z.2.2.1,b∈ob vo∨w19.heap.size≤b)∧(∀b∈ob z.2.2.2,b∈ob ve'∨w19.heap.size≤b)∧z.1≤os.length∧Kw a.st z.2.1∧z.2.1.mk'=(Yk a i c).mk'∧z.2.1.ed.length=c.ed.length+z.1∧c.ord.length≤z.2.1.ord.length∧(os.drop z.1).foldl (Zx i) z.2.1=qi a i c)
  (λz=>os.length - z.1) (by rfl) (0,Yk a i c,vo,ve') ⟨rfl,rfl,trivial⟩
  ⟨hI3,Step.refl _ _,λ_ hb=>.inl hb,λ_ hb=>.inl hb,Nat.zero_le _,hc2,rfl,by simp[hed2],by simp[hord2],by rw[hrow];rfl⟩ ?_
 rintro ⟨k,d,vo2,ve2⟩ g4 w20 ⟨hI4,hS4,hv4,hw4,hk4,hc4,hm4,he4,ho4,hf4⟩
 simp only[] at hI4 hS4 hv4 hw4 hk4 hc4 hm4 he4 ho4 hf4
 refine Qc<|x (QB rfl rfl)<|xe ?_
 refine Qf<|QG rfl (λh66=>?_) (λh66=>?_)
 ·rw[List.drop_of_length_le (by omega),List.foldl_nil] at hf4
  subst hf4
  refine Qx ?_
  refine Qw<|Qb<|QO rfl rfl<|Qe ?_
  have hcle4:=hc4.le
  refine ⟨(i+1,qi a i c,vo2,vk2,ve2),by simp only[];omega,⟨rfl,rfl,trivial⟩,hI4,by simp only[];omega,hc4,by simp only[];rw[hm4];exact hmk2,by simp only[];omega,?_⟩
  simp only[]
  rw[←hcan]
  obtain ⟨m,hm⟩:∃m,a.st.toNat - i=m+1:=⟨a.st.toNat - i - 1,by omega⟩
  rw[hm,Jt,if_pos hlt,show a.st.toNat - (i+1)=m by omega]
 have hlt4:k<os.length:=by omega
 have hdr:=QX hlt4
 rw[hdr,List.foldl_cons] at hf4
 have hto:=hosm os[k] (List.getElem_mem hlt4)
 have hr20:=hr19.st hS4
 have hcle4:=hc4.le
 have hz19:=hs19'.size
 have hzS4:=hS4.size
 have hz18:=hI2.st.size
 have hI4z:=hI4.st.size
 have hoA4:=Qu.ints (L:=[]) hI4.o (by omega) (by simp)
 obtain ⟨q,hq⟩:∃q:Nat,os[k].2.2=q:=⟨os[k].2.2.toNat,by omega⟩
 have hqn:os[k].2.2.toNat=q:=by omega
 have hqk:q<n:=by omega
 have hqd:q<d.num.length:=by rw[hc4.nl];omega
 have hgq:Xc d.num os[k].2.2=d.num[q]:=by rw[KY (by omega)];simp only[hqn]
 have hle4:=QR hI4.e
 have hlo4:=QR hI4.o
 refine Qi<|Qf<|Qg<|Qc<|xie hr20 rfl rfl hlt4 λa67 h67=>x (QC h67 rfl rfl)<|xl rfl<|Qt (us:=[.int .i64 0,.int .i64 0,.int .i64 0]) rfl λb11 w21 hs21 hb11 hB11=>xl rfl<|Qn (us:=Qy os[k]) hB11 rfl rfl rfl rfl ⟨rfl,rfl,rfl,trivial⟩ λw22 hs22 hB11=>xe ?_
 have hS22:Step [] w20 w22:=hs21.then1 hs22 hb11
 have hI5:=hI4.ext hS22
 have hz22:=hS22.size
 have hl11:=hB11.lt
 have hS5:=hS4.trans hS22
 refine QU (α:=Value) [(6,6),(69,85)] (λz=>[(6,z)]) (λz w'=>Jn b3 b22 r3 wS (ZP d os[k]) z vk2 ve2 w'∧Step (b3::b22::(ob vo++ob ve')) w19 w'∧(∀b∈ob z,b∈ob vo∨w19.heap.size≤b)∧Q2 w'.heap b11 144 (Qy os[k])) (by rfl) ?_ ?_
 ·refine Qc<|Qb<|x (Qa rfl)<|x (Qd hB11 rfl rfl)<|x (Zk rfl (congrArg (Value.int .i64) hq) hqk)<|x (V7 hI5.B22 rfl hqd)<|x (QB rfl rfl)<|xe ?_
  refine QG rfl (λh74=>?_) (λh74=>?_)
  ·refine Qi<|⟨vo2,⟨rfl,trivial⟩,?_,hS5,hv4,hB11⟩
   unfold ZP;rw[hgq,if_neg h74];exact hI5
  refine Qc<|Qb<|x (Qa rfl)<|x (Qd hB11 rfl rfl)<|Qb<|x (Qr hoA4 rfl)<|x (Zk rfl (congrArg (Value.int .i64) hq) hqk)<|xl rfl<|X0 hI5.B22 rfl rfl hqd λw23 hs23 hB23=>xe ?_
  have hI6:=hI5.setN hlb22 hne hs23 hB23
  have hB11':=hB11.step hs23 (by simp;omega)
  refine Qw<|Qb<|x (Qa rfl)<|x (Qd hB11' rfl rfl)<|xl rfl<|QD (us:=[[.int .i64 os[k].2.2]]) rfl rfl (by decide) (by simp) ⟨rfl,rfl,trivial⟩ λb84 w24 hs24 hb84 hB84=>?_
  have hI7:=hI6.ext hs24
  refine xl rfl<|QZ (news:=[.int .i64 os[k].2.2]) (L:=[]) hI7.o rfl rfl rfl (hB84.at (by simp)) (by simp[Value.oneCell']) (by show d.ord.length+1≤_;omega) hI7.st.size λv25 w25 ho25 hs25 hn25=>Qe ?_
  have hk25:Qu 3 wS.heap.size w25 v25 (d.ord++[os[k].2.2]):=Qu.snoc ho25
  have hz23:=hs23.size
  have hz24:=hs24.size
  refine ⟨v25,⟨rfl,trivial⟩,?_,?_,?_,(hB11'.ext hs24).step hs25 (λhb=>by have:=hlo4 _ hb;omega)⟩
  ·unfold ZP;rw[hgq,if_pos h74,hqn]
   exact hI7.setO hlb3 hlb22 hs25 hk25 hn25
  ·refine ((hS5.then hs23 (λb hb=>.inl ?_)).trans hs24).then hs25 (λb hb=>?_)
   ·simp at hb;simp[hb]
   ·rcases hv4 b hb with h1 | h1
    ·exact .inl (by simp[h1])
    ·exact .inr h1
  ·intro b hb
   rcases hn25 b hb with h1 | h1
   ·exact hv4 b h1
   ·exact .inr (by omega)
 rintro vo3 g5 w26 ⟨hI8,hS8,hv8,hB8'⟩
 have hd2:Zx i d os[k]=⟨(ZP d os[k]).ord,(ZP d os[k]).num,(ZP d os[k]).mk',(ZP d os[k]).ed++[((i:Int),os[k].2.1,Xc (ZP d os[k]).num os[k].2.2)]⟩:=Ui (by omega)
 have hnl:q<(ZP d os[k]).num.length:=by rw[Qbq];exact hqd
 have hg2:Xc (ZP d os[k]).num os[k].2.2=(ZP d os[k]).num[q]:=by rw[KY (by omega)];simp only[hqn]
 have hne3:=QM hI8.e hlb3
 have hne22:=QM hI8.e hlb22
 have hne11:b11∉ob ve2:=λhb=>by have:=hle4 _ hb;omega
 have hedn:(ZP d os[k]).ed=d.ed:=by unfold ZP;split <;> rfl
 have hc5:Kw a.st (Zx i d os[k]):=yx hc4 hto.1 hto.2 (by rw[he4];omega)
 refine QS (Step (ob ve2) w26) [(0,true),(1,true),(2,true),(3,true),(4,true),(5,true),(6,true),(7,true),(8,true),(9,true),(10,true),(11,false),(12,false),(13,true),(14,false)] mixed (by rfl) (by kernel_rfl) (Step.drew _ _) ?_
 refine p (λ_=>Qa rfl)<|pq (λ_ hc=>Qd (hI8.B3.step hc hne3) rfl rfl)<|p (λ_=>Qo)<|p (λ_=>Qa rfl)<|pq (λ_ hc=>Qd (hB8'.step hc hne11) rfl rfl) <|
  p (λ_=>Qo)<|p (λ_=>Qa rfl)<|pq (λ_ hc=>Qd (hB8'.step hc hne11) rfl rfl)<|p (λ_=>Zk rfl (congrArg (Value.int .i64) hq) hqk) <|
  pq (λ_ hc=>V7 (hI8.B22.step hc hne22) rfl hnl)<|p (λ_=>QE ⟨rfl,rfl,rfl,trivial⟩)<|pk<|QD (us:=[Qy ((i:Int),os[k].2.1,(ZP d os[k]).num[q])]) rfl rfl (by decide) (by exact (by decide:1*3≤1000000)) ⟨rfl,rfl,trivial⟩ λb97 w27 hs27 hb97 hB97=>?_
 have hs27':Step [] w26 w27:=(Step.drew [] w26).trans hs27
 refine ⟨hs27'.any,?_⟩
 have hI9:=hI8.ext hs27'
 refine pk<|QZ (news:=Qy ((i:Int),os[k].2.1,(ZP d os[k]).num[q])) (L:=[]) hI9.e rfl rfl rfl (hB97.at (by simp)) (λu hu=>by simp only[Qy,List.mem_cons,List.not_mem_nil,or_false] at hu;rcases hu with rfl | rfl | rfl <;> rfl) (by rw[hedn];have:=hc4.el;omega) hI9.st.size λv28 w28 ho28 hs28 hn28=>?_
 refine ⟨hs27'.any.trans' hs28,?_⟩
 have hk28:Z4 144 wS.heap.size w28 v28 ((ZP d os[k]).ed++[((i:Int),os[k].2.1,(ZP d os[k]).num[q])]):=Z4.snoc ho28
 refine p (λ_=>Qa rfl)<|pkl (hl:=by kernel_rfl)<|QF (hI9.B3.step hs28 hne3) rfl rfl (by simp) (Z4.eds (L:=[]) hk28 (by simp[hedn];have:=hc4.el;omega) (by simp)).one λw29 hs29 hB29=>pe ?_
 have hIA:=hI9.setE hlb3 hlb22 hne hs28 hk28 hn28 hs29 hB29
 rw[←hg2] at hIA
 rw[←hd2] at hIA
 refine Qw<|QO rfl rfl<|Qb<|xe ?_
 have hz26:=hS8.size
 have hz27:=hs27'.size
 refine ⟨(k+1,Zx i d os[k],vo3,v28),by simp only[];omega,⟨rfl,rfl,trivial⟩,hIA,?_,hv8,?_,by simp only[];omega,hc5,?_,?_,?_,hf4⟩
 ·refine (((hS8.trans hs27')).then hs28 (λb hb=>?_)).then hs29 (λb hb=>.inl (by simp at hb;simp[hb]))
  rcases hw4 b hb with h1 | h1
  ·exact .inl (by simp[h1])
  ·exact .inr h1
 ·intro b hb
  rcases hn28 b hb with h1 | h1
  ·exact hw4 b h1
  ·exact .inr (by omega)
 ·simp only[];rw[←hm4,hd2];simp only[];unfold ZP;split <;> rfl
 ·simp only[];rw[yz,he4];omega
 ·simp only[];rw[hd2];simp only[];unfold ZP;split
  ·simp only[List.length_append];omega
  ·omega
end Go.Proofs.YtdffckgdcegpaaaGreatDoor
namespace Go.Proofs
open Go.Proofs.Tryz
open Go.Shelf
def Tryz.lays169_ren:Go.Shelf.Ren:=⟨λ| 169=>147 | n=>n,λ| 70=>249 | 9=>9 | 0=>0 | 72=>251 | 37=>73 | 127=>311 | 3=>3 | 5=>5 | n=>n,λ| n=>n⟩
theorem Tryz.lays169:Go.Proofs.Lays.n169 prog Tryz.lays169_ren:={
 mixed:=by kernel_rfl
 f169:=func147.trans (congrArg some (by kernel_rfl))
 t0:=underlying0
 a0:=Tryz.isAgg0
 z0:=Tryz.sizeOf0
 v0:=Tryz.zeroValue0
 t3:=underlying3
 a3:=Tryz.isAgg3
 z3:=Tryz.sizeOf3
 v3:=Tryz.zeroValue3
 t9:=underlying9
 a9:=Tryz.isAgg9
 z9:=Tryz.sizeOf9
 v9:=Tryz.zeroValue9
 t37:=underlying73
 a37:=Tryz.isAgg73
 z37:=Tryz.sizeOf73
 v37:=Tryz.zeroValue73
 t70:=underlying249
 a70:=Tryz.isAgg249
 z70:=Tryz.sizeOf249
 v70:=Tryz.zeroValue249
 t72:=underlying251
 a72:=Tryz.isAgg251
 z72:=Tryz.sizeOf251
 v72:=Tryz.zeroValue251
 t127:=underlying311
 a127:=Tryz.isAgg311
 z127:=Tryz.sizeOf311
 v127:=Tryz.zeroValue311 }
theorem Tryz.Builder_Extra_169:Builder.Extra prog Tryz.lays169_ren:={
 sizeBuilder:=by kernel_rfl
 liesBuilder:=by kernel_rfl
 t5:=underlying5
 a5:=Tryz.isAgg5
 z5:=Tryz.sizeOf5
 v5:=Tryz.zeroValue5
 infoByte:=by kernel_rfl
 cellsByte:=by kernel_rfl
 sizeByte:=by kernel_rfl
 neB5:=by decide }
open Go.RowKit in
open Go.RowKit in
open Go.RowKit in
theorem Tryz.Builder_String_any (B b:Nat) (l:List UInt8) (w:World) (h:Lib.IsBuilder 251 5 B b (Lib.byteCells l) w) (hBw:B≤w.heap.size) :
  Calls prog 147 #[.pointer (some ⟨b,0,none⟩)] w λe w'=>e=.returned (.string ⟨l.toArray⟩)∧Below B w w':=Any.Builder_String_any Tryz.lays169 Tryz.Builder_Extra_169 B b l w h hBw
def Tryz.laysM171_ren:Go.Shelf.Ren:=⟨λ| 171=>146 | 243=>205 | 246=>258 | 283=>283 | 284=>284 | 285=>285 | 286=>286 | 129=>230 | 317=>309 | 318=>310 | 319=>311 | 320=>312 | 337=>320 | 338=>321 | n=>n,λ| 3=>3 | 9=>9 | 2=>2 | 4=>4 | 171=>391 | 0=>0 | 53=>340 | 37=>73 | 5=>5 | 173=>393 | 212=>410 | 51=>338 | 20=>20 | 213=>411 | 46=>269 | 232=>419 | 233=>420 | n=>n,λ| 17=>0 | 18=>1 | 19=>2 | n=>n⟩
theorem Tryz.laysM171:Go.Proofs.LaysM.n171 prog Tryz.laysM171_ren:={
 mixed:=by kernel_rfl
 f129:=func230.trans (congrArg some (by kernel_rfl))
 f171:=func146.trans (congrArg some (by kernel_rfl))
 f243:=func205.trans (congrArg some (by kernel_rfl))
 f246:=func258.trans (congrArg some (by kernel_rfl))
 f283:=func283.trans (congrArg some (by kernel_rfl))
 f284:=func284.trans (congrArg some (by kernel_rfl))
 f285:=func285.trans (congrArg some (by kernel_rfl))
 f286:=func286.trans (congrArg some (by kernel_rfl))
 f317:=func309.trans (congrArg some (by kernel_rfl))
 f318:=func310.trans (congrArg some (by kernel_rfl))
 f319:=func311.trans (congrArg some (by kernel_rfl))
 f320:=func312.trans (congrArg some (by kernel_rfl))
 f337:=func320.trans (congrArg some (by kernel_rfl))
 f338:=func321.trans (congrArg some (by kernel_rfl))
 t0:=underlying0
 a0:=Tryz.isAgg0
 z0:=Tryz.sizeOf0
 v0:=Tryz.zeroValue0
 t2:=underlying2
 a2:=Tryz.isAgg2
 z2:=Tryz.sizeOf2
 v2:=Tryz.zeroValue2
 t3:=underlying3
 a3:=Tryz.isAgg3
 z3:=Tryz.sizeOf3
 v3:=Tryz.zeroValue3
 t4:=underlying4
 a4:=Tryz.isAgg4
 z4:=Tryz.sizeOf4
 v4:=Tryz.zeroValue4
 t5:=underlying5
 a5:=Tryz.isAgg5
 z5:=Tryz.sizeOf5
 v5:=Tryz.zeroValue5
 t9:=underlying9
 a9:=Tryz.isAgg9
 z9:=Tryz.sizeOf9
 v9:=Tryz.zeroValue9
 t20:=underlying20
 a20:=Tryz.isAgg20
 z20:=Tryz.sizeOf20
 v20:=Tryz.zeroValue20
 t37:=underlying73
 a37:=Tryz.isAgg73
 z37:=Tryz.sizeOf73
 v37:=Tryz.zeroValue73
 t46:=underlying269
 a46:=Tryz.isAgg269
 z46:=Tryz.sizeOf269
 v46:=Tryz.zeroValue269
 t51:=underlying338
 a51:=Tryz.isAgg338
 z51:=Tryz.sizeOf338
 v51:=Tryz.zeroValue338
 t53:=underlying340
 a53:=Tryz.isAgg340
 z53:=Tryz.sizeOf340
 v53:=Tryz.zeroValue340
 t171:=underlying391
 a171:=Tryz.isAgg391
 z171:=Tryz.sizeOf391
 v171:=Tryz.zeroValue391
 t173:=underlying393
 a173:=Tryz.isAgg393
 z173:=Tryz.sizeOf393
 v173:=Tryz.zeroValue393
 t212:=underlying410
 a212:=Tryz.isAgg410
 z212:=Tryz.sizeOf410
 v212:=Tryz.zeroValue410
 t213:=underlying411
 a213:=Tryz.isAgg411
 z213:=Tryz.sizeOf411
 t232:=underlying419
 a232:=Tryz.isAgg419
 z232:=Tryz.sizeOf419
 v232:=Tryz.zeroValue419
 t233:=underlying420
 a233:=Tryz.isAgg420
 z233:=Tryz.sizeOf420
 v233:=Tryz.zeroValue420
 g17:=by kernel_rfl
 g18:=by kernel_rfl
 g19:=by kernel_rfl
 i0:=by kernel_rfl
 i2:=by kernel_rfl
 i3:=by kernel_rfl
 i4:=by kernel_rfl
 i5:=by kernel_rfl
 i9:=by kernel_rfl
 i20:=by kernel_rfl
 i37:=by kernel_rfl
 i46:=by kernel_rfl
 i51:=by kernel_rfl
 i53:=by kernel_rfl
 i171:=by kernel_rfl
 i173:=by kernel_rfl
 i212:=by kernel_rfl
 i232:=by kernel_rfl
 i233:=by kernel_rfl
 m17:=by kernel_rfl
 m18:=by kernel_rfl
 m19:=by kernel_rfl }
open Go.RowKit Go.Sort Go.Lib in
theorem Tryz.strconv_Itoa (n:Int) (h0:-9223372036854775808≤n) (h1:n≤9223372036854775807) (w:World) (htab:Lib.TabIs prog w "internal/strconv.uint64pow10" .u64 Lib.pow10Tab) :
  Calls prog 146 #[.int .i64 n] w λe w'=>e=.returned (.string ⟨(Lib.itoa n).toArray⟩)∧∃k os,w'=grow (w.drewN k) os:=Any.strconv_Itoa Tryz.laysM171 n h0 h1 w htab
def Tryz.lays171_ren:Go.Shelf.Ren:=⟨λ| 171=>146 | 243=>205 | 246=>258 | 283=>283 | 284=>284 | 285=>285 | 286=>286 | 129=>230 | 317=>309 | 318=>310 | 319=>311 | 320=>312 | 337=>320 | 338=>321 | n=>n,λ| 3=>3 | 9=>9 | 2=>2 | 4=>4 | 171=>391 | 0=>0 | 53=>340 | 37=>73 | 5=>5 | 173=>393 | 212=>410 | 51=>338 | 20=>20 | 213=>411 | 46=>269 | 232=>419 | 233=>420 | n=>n,λ| 17=>0 | 18=>1 | 19=>2 | n=>n⟩
theorem Tryz.lays171:Go.Proofs.Lays.n171 prog Tryz.lays171_ren:={
 mixed:=by kernel_rfl
 f129:=func230.trans (congrArg some (by kernel_rfl))
 f171:=func146.trans (congrArg some (by kernel_rfl))
 f243:=func205.trans (congrArg some (by kernel_rfl))
 f246:=func258.trans (congrArg some (by kernel_rfl))
 f283:=func283.trans (congrArg some (by kernel_rfl))
 f284:=func284.trans (congrArg some (by kernel_rfl))
 f285:=func285.trans (congrArg some (by kernel_rfl))
 f286:=func286.trans (congrArg some (by kernel_rfl))
 f317:=func309.trans (congrArg some (by kernel_rfl))
 f318:=func310.trans (congrArg some (by kernel_rfl))
 f319:=func311.trans (congrArg some (by kernel_rfl))
 f320:=func312.trans (congrArg some (by kernel_rfl))
 f337:=func320.trans (congrArg some (by kernel_rfl))
 f338:=func321.trans (congrArg some (by kernel_rfl))
 t0:=underlying0
 a0:=Tryz.isAgg0
 z0:=Tryz.sizeOf0
 v0:=Tryz.zeroValue0
 t2:=underlying2
 a2:=Tryz.isAgg2
 z2:=Tryz.sizeOf2
 v2:=Tryz.zeroValue2
 t3:=underlying3
 a3:=Tryz.isAgg3
 z3:=Tryz.sizeOf3
 v3:=Tryz.zeroValue3
 t4:=underlying4
 a4:=Tryz.isAgg4
 z4:=Tryz.sizeOf4
 v4:=Tryz.zeroValue4
 t5:=underlying5
 a5:=Tryz.isAgg5
 z5:=Tryz.sizeOf5
 v5:=Tryz.zeroValue5
 t9:=underlying9
 a9:=Tryz.isAgg9
 z9:=Tryz.sizeOf9
 v9:=Tryz.zeroValue9
 t20:=underlying20
 a20:=Tryz.isAgg20
 z20:=Tryz.sizeOf20
 v20:=Tryz.zeroValue20
 t37:=underlying73
 a37:=Tryz.isAgg73
 z37:=Tryz.sizeOf73
 v37:=Tryz.zeroValue73
 t46:=underlying269
 a46:=Tryz.isAgg269
 z46:=Tryz.sizeOf269
 v46:=Tryz.zeroValue269
 t51:=underlying338
 a51:=Tryz.isAgg338
 z51:=Tryz.sizeOf338
 v51:=Tryz.zeroValue338
 t53:=underlying340
 a53:=Tryz.isAgg340
 z53:=Tryz.sizeOf340
 v53:=Tryz.zeroValue340
 t171:=underlying391
 a171:=Tryz.isAgg391
 z171:=Tryz.sizeOf391
 v171:=Tryz.zeroValue391
 t173:=underlying393
 a173:=Tryz.isAgg393
 z173:=Tryz.sizeOf393
 v173:=Tryz.zeroValue393
 t212:=underlying410
 a212:=Tryz.isAgg410
 z212:=Tryz.sizeOf410
 v212:=Tryz.zeroValue410
 t213:=underlying411
 a213:=Tryz.isAgg411
 z213:=Tryz.sizeOf411
 t232:=underlying419
 a232:=Tryz.isAgg419
 z232:=Tryz.sizeOf419
 v232:=Tryz.zeroValue419
 t233:=underlying420
 a233:=Tryz.isAgg420
 z233:=Tryz.sizeOf420
 v233:=Tryz.zeroValue420
 g17:=by kernel_rfl
 g18:=by kernel_rfl
 g19:=by kernel_rfl }
open Go.RowKit Go.Sort Go.Lib in
theorem Tryz.strconv_Itoa_small (i:Nat) (hi:i<100) (w:World) :
  Calls prog 146 #[.int .i64 i] w λe w'=>e=.returned (.string ⟨(Lib.decDigits i).toArray⟩)∧w'=w:=Any.strconv_Itoa_small Tryz.lays171 i hi w
end Go.Proofs
namespace Go.Lg
open Go.RowKit
section
variable {P:Program} {K:Fr→World→Prop} {f:Fr} {w:World} {d:Option Nat} {ty:Nat} {ps:String} {af:Array Edge} {gd:Option (Nat×Bool)}
theorem Qbf {t te t':Nat}(hp:P.underlying t=some (.pointer te)) {x y:Operand}{a:Option Addr}(hx:ev f x=.pointer a) (hy:ev f y=.pointer none) :
  (execOp (ev f) ⟨d,.binOp .eql t x y t',ty,ps,af,gd⟩).run P w=.ok (.value (.bool a.isNone)) w:=by
 have hg:(eqGuard .eql t x y (.pointer a) (.pointer none)).run P w=.ok () w:=by simp[eqGuard]
 have key:∀m,(Op.equalIn (m+1) t (.pointer a) (.pointer none)).run P w=.ok a.isNone w:=by
  intro m
  unfold Op.equalIn
  cases a <;> simp[run_underlying hp]
 have he:(Op.equal t (.pointer a) (.pointer none)).run P w=.ok a.isNone w:=key 9999
 simp only[execOp,hx,hy,Sem.run_bind,hg,Result.andThen_ok,binOp,he,Sem.run_pure]
theorem Qct {t te t':Nat}{j:TypeInfo}(hp:P.underlying t=some (.pointer te)) (hj:P.info? te=some j) {x y:Operand}{a:Addr}(hx:ev f x=.pointer (some a)) (hy:ev f y=.pointer (some a)) :
  (execOp (ev f) ⟨d,.binOp .neq t x y t',ty,ps,af,gd⟩).run P w=.ok (.value (.bool false)) w:=by
 have hg:(eqGuard .neq t x y (.pointer (some a)) (.pointer (some a))).run P w=.ok () w:=by simp[eqGuard]
 simp only[execOp,hx,hy,Sem.run_bind,hg,Result.andThen_ok,Lib.run_neq_ptr_same w a hp hj,Sem.run_pure]
theorem V8 {t t':Nat}{x:Operand}{v v':Value}(hx:ev f x=v) (h:(convert t t' v).run P w=.ok v' w) :
  (execOp (ev f) ⟨d,.convert t t' x,ty,ps,af,gd⟩).run P w=.ok (.value v') w:=by
 simp[execOp,hx,h]
theorem Qea {g:Nat}{fn:Func}{e:Array Value→Sem Value}{x:Operand}{v:Value}{ts:Array Nat}(hf:P.funcs[g]?=some fn) (hname:(fn.name == "runtime.NumGoroutine")=false)
  (hb:fn.body.isNone=true) (hn:Extern.findNext fn=none) (he:Extern.find fn=some e) (h:(e #[ev f x]).run P w=.ok v w) :
  (execOp (ev f) ⟨d,.call ⟨.value (.func g),#[x],ts⟩,ty,ps,af,gd⟩).run P w=.ok (.value v) w:=by
 have hc:=run_callFunc_extern hf hname hb hn he #[ev f x] w
 rw[h] at hc
 have h0:ev f (.func g)=.func (.func g) #[] #[]:=rfl
 simp[execOp,resolve,h0,Deferred.ofValue,invoke,hc,Result.andThen]
theorem QiQ {t e u:Nat}[h:Sl P t e 1 1 (.int .u8 0)] (hu:P.underlying u=some .string) {s y:Operand}{base:Nat}{v:Value}{n:Nat}{cs:LV}(hown:w.ownsRow base e 1 v n cs) (hs:ev f s=v)
  {b:ByteArray} (hy:ev f y=.string b) (hb:n+b.size≤1099511627776) (hbase:base≤w.heap.size)
  (hK:∀v' w',w'.ownsRow base e 1 v' (n+b.size) (cs++Lib.strCells b)→Step (ob v) w w'→K (QY f d v') w') :
  XO P ⟨d,.call ⟨.builtin .append,#[s,y],#[t,u]⟩,ty,ps,af,gd⟩ f w K:=by
 obtain ⟨i,hi,hz,hsz,hbys⟩:=Sl.info h
 obtain ⟨v',w',hr,h2,h3,_⟩:=Lib.run_append_own_string (P:=P) w base t u ty e i h.u hu hi hz hsz hbys v n cs hown b (by simp only[maxLen];omega) (by omega) hbase
 have hr':(execOp (ev f) ⟨d,.call ⟨.builtin .append,#[s,y],#[t,u]⟩,ty,ps,af,gd⟩).run P w=.ok (.value v') w':=by
  simp[execOp,resolve,invoke,builtin,hs,hy,hr]
 exact xv hr' (hK v' w' h2 (by rw[zG];exact Step.of_grown h3))
theorem Qd8 {x:Operand}{u:Nat}(hu:P.underlying u=some .string) {b:ByteArray}(hx:ev f x=.string b) :
  (execOp (ev f) ⟨d,.call ⟨.builtin .len,#[x],#[u]⟩,ty,ps,af,gd⟩).run P w=.ok (.value (.int .i64 b.size)) w:=by
 simp[execOp,resolve,invoke,builtin,Builtin.len_,hx,run_underlying hu,goInt]
end
end Go.Lg
namespace Go.Proofs.YtdffckgdcegpaaaGreatDoor
open Go.Proofs.Tryz
open Go.Lg
def Bl (p:Value) (b:Nat) (bs:List UInt8) (w:World):Prop:=∃v,Q2 w.heap b 251 [p,v]∧w.ownsRow (b+1) 5 1 v bs.length (Lib.byteCells bs)
def me (b:Nat):Value:=.pointer (some ⟨b,0,none⟩)
theorem Qhn {P:Program}{t n:Nat}(h:(P.info? t).map (·.size)=some n):∃j,P.info? t=some j∧j.size=n:=by
 simpa using h
theorem zb {w:World}{b T:Nat}{cs:LV}(h:Q2 w.heap b T cs):w.shape? b=some (T,cs.length):=by
 unfold Q2 at h;simp[World.shape?,h]
theorem K8 {w0 w:World}{b:Nat}{bs:List UInt8}{p:Value}(h0:Step [] w0 w) (hb:w0.heap.size≤b) (hp:p=.pointer none∨p=me b) (h:Bl p b bs w) :
  QJ prog 204 [me b] w λr w'=>r=.tuple #[]∧Step [] w0 w'∧Bl (me b) b bs w':=by
 obtain ⟨v,hB,ho⟩:=h
 obtain ⟨j,hj,hjs⟩:=Qhn (P:=prog) (t:=251) (n:=2) (by kernel_rfl)
 refine QJ.of_W func204 rfl ntmps204 results204 (by simp) ?_
 refine Qc ?_
 rcases hp with rfl | rfl
 ·refine Qb<|x (QI rfl)<|x (Qa rfl)<|x (Qd hB rfl rfl)<|x (Qbf underlying249 rfl rfl)<|xe ?_
  refine U1 rfl ?_
  refine Qw<|Qb<|Qb<|x (V8 (v':=me b) rfl (Lib.run_to_unsafe w ⟨b,0,none⟩ underlying249 underlying363 hj (by rw[hjs];decide) (zb hB) (by simp))) <|
   x (Qea (v:=me b) func257 (by kernel_rfl) (by kernel_rfl) (by kernel_rfl) (e:=Extern.AbiNoEscape.same) (by kernel_rfl) rfl) <|
   x (V8 (v':=me b) rfl (Lib.run_from_unsafe w ⟨b,0,none⟩ underlying363 underlying249 hj (zb hB) (by kernel_rfl)))<|x (QI rfl) <|
   x (Qa rfl)<|xl rfl<|QF hB rfl rfl (by simp) rfl λw2 hs2 hB2=>xe ?_
  exact ⟨[],trivial,rfl,h0.then1 hs2 hb,v,hB2,Qj ho hs2 (λc hc=>by have:=(Qk ho c hc).1;simp;omega)⟩
 ·refine Qb<|x (QI rfl)<|x (Qa rfl)<|x (Qd hB rfl rfl)<|x (Qbf underlying249 rfl rfl)<|xe ?_
  refine Zy rfl ?_
  refine Qc<|Qb<|x (QI rfl)<|x (Qa rfl)<|x (Qd hB rfl rfl)<|Qb<|x (Qct underlying249 hj rfl rfl)<|xe ?_
  refine Zy rfl ?_
  refine Qi ?_
  exact ⟨[],trivial,rfl,h0,v,hB,ho⟩
theorem zj {w0 w:World}{b:Nat}{bs:List UInt8}{p:Value}(h0:Step [] w0 w) (hb:w0.heap.size≤b) (hp:p=.pointer none∨p=me b) (h:Bl p b bs w) (c:UInt8) (hl:bs.length+1≤1000000000) :
  QJ prog 203 [me b,.int .u8 c.toNat] w λ_ w'=>Step [] w0 w'∧Bl (me b) b (bs++[c]) w':=by
 refine QJ.of_W func203 rfl ntmps203 results203 (by simp) ?_
 refine Qc<|Qe<|Qc<|Qb<|xl rfl<|xf<|(K8 h0 hb hp h).mono ?_
 rintro r1 w1 ⟨rfl,hs1,v,hB,ho⟩
 refine xe ?_
 have hlt:=hB.lt
 refine Qc<|Qb<|Qb<|x (QI rfl)<|x (Qa rfl)<|x (Qd hB rfl rfl)<|Qb<|xl rfl<|QD (us:=[[.int .u8 c.toNat]]) rfl rfl (by decide) (by simp) ⟨rfl,rfl,trivial⟩ λb13 w2 hs2 hb13 hB13=>?_
 have hz2:=hs2.size
 have ho2:=Qs ho hs2
 refine xl rfl<|QZ (news:=[.int .u8 c.toNat]) (L:=[]) ho2 rfl rfl rfl (hB13.at (by simp)) (by simp[Value.oneCell']) (by omega) (by omega) λv3 w3 ho3 hs3 hn3=>?_
 have hB3:=(hB.ext hs2).step hs3 (λhc=>by have:=(Qk ho b hc).1;omega)
 have ho3':w3.ownsRow (b+1) 5 1 v3 (bs++[c]).length (Lib.byteCells (bs++[c])):=by simpa[Lib.byteCells] using ho3
 refine x (QI rfl)<|x (Qa rfl)<|xl rfl<|QF hB3 rfl rfl (by simp) (QT (L:=[]) ho3' (by simp;omega) (by simp)).one λw4 hs4 hB4=>xe ?_
 refine Qc<|Qe<|Ql ⟨[.nilIface],⟨rfl,trivial⟩,(((hs1.trans hs2).then hs3 (λc hc=>.inr ?_)).then1 hs4 hb),v3,hB4,Qj ho3' hs4 (λc hc=>by have:=(Qk ho3' c hc).1;simp;omega)⟩
 have:=(Qk ho c hc).1;omega
theorem Jz {w0 w:World}{b:Nat}{bs:List UInt8}{p:Value}(h0:Step [] w0 w) (hb:w0.heap.size≤b) (hp:p=.pointer none∨p=me b) (h:Bl p b bs w) (s:ByteArray) (hl:bs.length+s.size≤1000000000) :
  QJ prog 145 [me b,.string s] w λ_ w'=>Step [] w0 w'∧Bl (me b) b (bs++s.data.toList) w':=by
 refine QJ.of_W func145 rfl ntmps145 results145 (by simp) ?_
 refine Qc<|x Qh<|Qe<|Qc<|Qb<|xl rfl<|xf<|(K8 h0 hb hp h).mono ?_
 rintro r1 w1 ⟨rfl,hs1,v,hB,ho⟩
 refine xe ?_
 have hlt:=hB.lt
 refine Qc<|Qb<|Qb<|x (QI rfl)<|x (Qa rfl)<|x (Qd hB rfl rfl)<|Qb<|xl rfl<|QiQ underlying9 ho rfl rfl (by omega) (by omega) λv3 w3 ho3 hs3=>?_
 have hB3:=hB.step hs3 (λhc=>by have:=(Qk ho b hc).1;omega)
 have hsz:s.size=s.data.toList.length:=rfl
 have ho3':w3.ownsRow (b+1) 5 1 v3 (bs++s.data.toList).length (Lib.byteCells (bs++s.data.toList)):=by
  rw[List.length_append,←hsz,show Lib.byteCells (bs++s.data.toList)=Lib.byteCells bs++Lib.strCells s by simp[Lib.byteCells,Lib.strCells_eq]];exact ho3
 refine x (QI rfl)<|x (Qa rfl)<|xl rfl<|QF hB3 rfl rfl (by simp) (QT (L:=[]) ho3' (by rw[List.length_append,←hsz];omega) (by simp)).one λw4 hs4 hB4=>xe ?_
 refine Qc<|Qb<|x (Qd8 underlying9 rfl)<|x Qh<|Qe<|Ql ⟨[.int .i64 s.size,.nilIface],⟨rfl,rfl,trivial⟩,((hs1.then hs3 (λc hc=>.inr ?_)).then1 hs4 hb),v3,hB4,Qj ho3' hs4 (λc hc=>by have:=(Qk ho3' c hc).1;simp;omega)⟩
 have:=(Qk ho c hc).1;omega
theorem qC {w0 w:World}{b:Nat}{bs:List UInt8}{p:Value}(h0:Step [] w0 w) (hb:w0.heap.size≤b) (hp:p=.pointer none∨p=me b) (h:Bl p b bs w) :
  QJ prog 147 [me b] w λr w'=>r=.string ⟨bs.toArray⟩∧Step [] w0 w':=by
 obtain ⟨v,hB,ho⟩:=h
 have hlt:=hB.lt
 have hat:Lib.BuilderAt 251 5 b b p (Lib.byteCells bs) w:=⟨Nat.le_refl _,v,hB,by rw[Lib.byteCells_length];exact Zo ho (by omega),λe=>by
  have:b∈ob v:=by rw[zG,e];simp
  have:=(Qk ho b this).1;omega⟩
 unfold QJ
 refine Calls.mono (Tryz.Builder_String_any b b bs w (by rcases hp with rfl | rfl;exact .inl hat;exact .inr hat) (by omega)) ?_
 rintro e w' ⟨rfl,hw⟩
 exact ⟨rfl,⟨hw.os.trans h0.os,hw.tape.trans h0.tape,hw.output.trans h0.output,Nat.le_trans h0.size hw.size,λk hk hL=>(hw.block k (by omega)).trans (h0.block k hk hL)⟩⟩
def Tb (w:World):Prop:=Lib.TabIs prog w "internal/strconv.uint64pow10" .u64 Lib.pow10Tab
theorem Qdq {P:Program}{w w':World}{name:String}{v:Array Value}(h:w.var? P name=some v) (hs:Step [] w w'):w'.var? P name=some v:=by
 unfold World.var? at *
 rw[Option.bind_eq_some_iff] at *
 obtain ⟨g,h1,h2⟩:=h
 refine ⟨g,h1,?_⟩
 cases ho:w.heap[g]? with
 | none=>rw[ho] at h2;cases h2
 | some o =>
  have hlt:g<w.heap.size:=(Array.getElem?_eq_some_iff.1 ho).1
  rw[hs.block g hlt (by simp)]
  exact h2
theorem Tb.ext {w w':World}(h:Tb w) (hs:Step [] w w'):Tb w':=Qdq h hs
def Kb (w:World) (m:Int):Prop:=m≤100∨(m≤1000000∧Tb w)
theorem Kb.ext {w w':World}{m:Int}(h:Kb w m) (hs:Step [] w w'):Kb w' m:=h.imp id λh=>⟨h.1,h.2.ext hs⟩
theorem Kb.le {w:World} {m:Int} (h:Kb w m):m≤1000000:=by rcases h with h | h <;> omega
theorem j1 {w:World}{k:Nat}{os:Array Obj}:Step [] w (Sort.grow (w.drewN k) os):=by
 refine ⟨rfl,rfl,rfl,?_,λi hi _=>?_⟩
 ·show w.heap.size≤(w.heap++os).size
  simp
 ·show (w.heap++os)[i]?=w.heap[i]?
  rw[Array.getElem?_append_left hi]
theorem QbD {m:Int}(i:Nat) (hi:(i:Int)<m) (w:World) (hk:Kb w m):QJ prog 146 [.int .i64 i] w λr w'=>r=.string ⟨(Lib.decDigits i).toArray⟩∧Step [] w w':=by
 unfold QJ
 rcases hk with hk | hk
 ·refine Calls.mono (Tryz.strconv_Itoa_small i (by omega) w) ?_
  rintro e w' ⟨rfl,rfl⟩
  exact ⟨rfl,Step.refl _ _⟩
 ·refine Calls.mono (Tryz.strconv_Itoa i (by omega) (by omega) w hk.2) ?_
  rintro e w' ⟨rfl,k,os,rfl⟩
  refine ⟨?_,j1⟩
  unfold Lib.itoa
  rw[if_neg (by omega),Int.toNat_natCast]
def Xs (l:LI):List UInt8:=l.flatMap λn=>Lib.decDigits n.toNat++[32]
theorem VC:∀(k u:Nat),u<10 ^ k→(Lib.decDigits u).length≤max 1 k
 | 0,u,h=>by
  unfold Lib.decDigits
  rw[dif_pos (by simp at h;omega)];simp
 | k+1,u,h=>by
  unfold Lib.decDigits
  split
  ·simp
  ·rename_i hu
   have ih:=VC k (u / 10) (by rw[Nat.pow_succ] at h;omega)
   rw[List.length_append]
   simp only[List.length_singleton]
   have h1:k≠0:=λe=>by subst e;simp at h;omega
   omega
theorem Bl.ext {w w':World}{p:Value}{b:Nat}{bs:List UInt8}(h:Bl p b bs w) (hs:Step [] w w'):Bl p b bs w':=by
 obtain ⟨v,h1,h2⟩:=h
 exact ⟨v,h1.ext hs,Qs h2 hs⟩
theorem zU {L:LN}{w:World}{v:Value}{l:LI}{m:Int}(h:QL L w.heap v l) (hkb:Kb w m) (hb:∀n∈l,0≤n∧n<m) (hl:l.length≤1000000) :
  QJ prog 142 [v] w λr w'=>r=.string ⟨(Xs l).toArray⟩∧Step [] w w':=by
 refine QJ.of_W func142 rfl ntmps142 results142 (by simp) ?_
 refine Qc<|Qe<|Qc<|xl rfl<|Qt (us:=[.pointer none,nS]) rfl λb3 w1 hs1 hb3 hB3=>xe ?_
 refine Qf<|Qc<|Qb<|x (Qr h rfl)<|Qb<|xe ?_
 refine Qg<|QA (α:=Nat×Value) [(5,5),(8,16)] (λz=>[(8,.int .i64 z.1)]) (λz w'=>z.1≤l.length∧Step [] w w'∧(z.2=.pointer none∨z.2=me b3)∧Bl z.2 b3 (Xs (l.take z.1)) w'∧(Xs (l.take z.1)).length≤8*z.1) (λz=>l.length - z.1) (by rfl) (0,.pointer none) ⟨rfl,trivial⟩
  ⟨Nat.zero_le _,hs1,.inl rfl,⟨_,hB3,QP _ _ _ _⟩,Nat.le_refl _⟩ ?_
 rintro ⟨k,p⟩ g w2 ⟨hk,hs2,hp,hBl,hlen⟩
 simp only[] at hk hp hBl hlen
 refine Qc<|x (QB rfl rfl)<|xe ?_
 refine Qf<|QG rfl (λh9=>?_) (λh9=>?_)
 ·refine Qx ?_
  refine Qc ?_
  rw[List.take_of_length_le (by omega)] at hBl
  refine xl rfl<|xf<|(qC hs2 hb3 hp hBl).mono ?_
  rintro r3 w3 ⟨rfl,hs3⟩
  refine Qe ?_
  exact Ql ⟨[.string ⟨(Xs l).toArray⟩],⟨rfl,trivial⟩,rfl,hs3⟩
 have hlt:k<l.length:=by omega
 have hbd:=hb l[k] (List.getElem_mem hlt)
 obtain ⟨q,hq⟩:∃q:Nat,l[k]=q:=⟨l[k].toNat,by omega⟩
 have hqn:l[k].toNat=q:=by omega
 have hds:=VC 7 q (by have:=hkb.le;omega)
 have htk:Xs (l.take (k+1))=Xs (l.take k)++Lib.decDigits q++[32]:=by
  rw[List.take_succ_eq_append_getElem hlt]
  unfold Xs
  rw[List.flatMap_append,List.flatMap_singleton,hqn,List.append_assoc]
 refine Qi<|Qf<|Qg<|Qc<|xii (h.ext hs2) rfl rfl hlt λa10 h10=>x (Qv h10 rfl)<|Qe<|Qc<|Qb<|xl rfl<|xf ?_
 refine (show QJ _ _ [.int .i64 l[k]] _ _ by rw[hq];exact (QbD q (by omega) w2 (hkb.ext hs2))).mono ?_
 rintro r4 w4 ⟨rfl,hs4⟩
 refine xl rfl<|xf<|(Jz (hs2.trans hs4) hb3 hp (hBl.ext hs4) ⟨(Lib.decDigits q).toArray⟩ (by show _+(Lib.decDigits q).toArray.size≤_;simp;omega)).mono ?_
 rintro r5 w5 ⟨hs5,hBl5⟩
 refine xe ?_
 refine Qw<|xl rfl<|xf<|(zj hs5 hb3 (.inr rfl) hBl5 32 (by simp;omega)).mono ?_
 rintro r6 w6 ⟨hs6,hBl6⟩
 refine xe ?_
 refine Qw<|QO rfl rfl<|Qb<|xe ?_
 refine ⟨(k+1,me b3),by simp only[];omega,⟨rfl,trivial⟩,by simp only[];omega,hs6,.inr rfl,?_,?_⟩
 ·simp only[];rw[htk];simpa using hBl6
 ·simp only[];rw[htk];simp;omega
end Go.Proofs.YtdffckgdcegpaaaGreatDoor
namespace Go.Lg
section
variable {P:Program} {ops:List Oper} {K:Fr→World→Prop} {f:Fr} {w:World} {d:Option Nat} {ty:Nat} {ps:String} {af:Array Edge} {gd:Option (Nat×Bool)} {l:List Oper} {C:World→Prop} {pl:List (Nat×Bool)} {i0:Nat}
theorem xig {α:Type}{g:α→LV}{x y:Operand}{t e sz bys:Nat}{z:Value}[Sl P t e sz bys z] (hg':∀x,(g x).length=sz) {L:LN}{es:List α}{v:Value}{k:IntKind}{i:Nat}
  (h:Zj L w.heap v es.length sz (es.flatMap g)) (hv:ev f x=v) (hy:ev f y=.int k i) (hi:i<es.length)
  (hK:∀a,At L w.heap a (g es[i])→XL P ops K l (QY f d (.pointer (some a))) w) (hg:Yd ops f ⟨d,.indexAddr t x y,ty,ps,af,gd⟩=true:=by rfl) :
  XL P ops K (⟨d,.indexAddr t x y,ty,ps,af,gd⟩::l) f w:=by
 obtain ⟨a,cap,h1,h2⟩:=Zj.at h hi
 rw[XH g sz hg' es i hi] at h2
 refine xl hg (xv (Y8 (hv.trans h1) hy (by omega) (by omega)) (hK _ ?_))
 simpa using h2
theorem pig {α:Type}{g:α→LV}{x y:Operand}{t e sz bys:Nat}{z:Value}[Sl P t e sz bys z] (ho:Q6 ops i0=⟨d,.indexAddr t x y,ty,ps,af,gd⟩) (hg':∀x,(g x).length=sz) {L:LN}{es:List α}{v:Value}{H:Array Obj}{k:IntKind}{i:Nat}
  (h:Zj L H v es.length sz (es.flatMap g)) (hv:ev f x=v) (hy:ev f y=.int k i) (hi:i<es.length)
  (hK:∀a,At L H a (g es[i])→XP P ops C K pl (QY f d (.pointer (some a))) w) (hg:Yd ops f (Q6 ops i0)=true:=by rfl) :
  XP P ops C K ((i0,true)::pl) f w:=by
 obtain ⟨a,cap,h1,h2⟩:=Zj.at h hi
 rw[XH g sz hg' es i hi] at h2
 refine Lg.p (λw'=>by rw[ho];exact Y8 (hv.trans h1) hy (by omega) (by omega)) ?_ hg
 rw[ho]
 refine hK _ ?_
 simpa using h2
end
theorem Zj.grow {X X' Y:LN}{w w':World}{v:Value}{n sz:Nat}{cs:LV}(h:Zj X w.heap v n sz cs) (hs:Step Y w w') (hY:∀b∈Y,b∈X) (hX:∀b∈X',b∈X∨w.heap.size≤b):Zj X' w'.heap v n sz cs:=by
 have h1:Zj (X++X') w.heap v n sz cs:=h.up (λb hb=>by
  rcases List.mem_append.1 hb with h1 | h1
  ·exact .inl h1
  ·exact hX b h1)
 have h2:=h1.step hs (λb hb=>List.mem_append.2 (.inl (hY b hb)))
 exact h2.up (λb hb=>.inl (List.mem_append.2 (.inr hb)))
structure AV where
 va:Value
 vm:Value
 ve:Value
 a:QV
abbrev Zm (p:AV):LV:=[p.va,.int .i64 p.a.st,p.vm,p.ve]
structure Xx (L:LN) (H:Array Obj) (v:Value) (ps:List AV):Prop where
 arr:Zj L H v ps.length 4 (ps.flatMap Zm)
 each:∀p∈ps,Zt L H p.va p.vm p.ve p.a
theorem Xx.ext {L:LN}{w w':World}{v:Value}{ps:List AV}(h:Xx L w.heap v ps) (hs:Step [] w w'):Xx L w'.heap v ps:=⟨h.arr.ext hs,λp hp=>(h.each p hp).ext hs⟩
theorem Xx.st {L:LN}{w w':World}{v:Value}{ps:List AV}(h:Xx L w.heap v ps) (hs:Step L w w'):Xx L w'.heap v ps:=⟨h.arr.st hs,λp hp=>(h.each p hp).st hs⟩
theorem Xx.up {L L':LN}{H:Array Obj}{v:Value}{ps:List AV}(h:Xx L H v ps) (hL:∀b∈L',b∈L∨H.size≤b):Xx L' H v ps:=⟨h.arr.up hL,λp hp=>(h.each p hp).up hL⟩
abbrev TV:=Value×LI
abbrev Z7 (p:TV):LV:=[p.1]
structure Xv (L:LN) (H:Array Obj) (v:Value) (ps:List TV):Prop where
 arr:Zj L H v ps.length 1 (ps.flatMap Z7)
 each:∀p∈ps,QL L H p.1 p.2
theorem Xv.ext {L:LN}{w w':World}{v:Value}{ps:List TV}(h:Xv L w.heap v ps) (hs:Step [] w w'):Xv L w'.heap v ps:=⟨h.arr.ext hs,λp hp=>(h.each p hp).ext hs⟩
theorem Xv.st {L:LN}{w w':World}{v:Value}{ps:List TV}(h:Xv L w.heap v ps) (hs:Step L w w'):Xv L w'.heap v ps:=⟨h.arr.st hs,λp hp=>(h.each p hp).st hs⟩
theorem Xv.up {L L':LN}{H:Array Obj}{v:Value}{ps:List TV}(h:Xv L H v ps) (hL:∀b∈L',b∈L∨H.size≤b):Xv L' H v ps:=⟨h.arr.up hL,λp hp=>(h.each p hp).up hL⟩
def QaS (N:Nat) (H:Array Obj) (v:Value) (l:List (LI)):Prop:=∃ps:List TV,ps.map (·.2)=l∧∀L:LN,(∀b∈L,b<N)→Xv L H v ps
theorem QaS.mono {N M:Nat}{H:Array Obj}{v:Value}{l:List (LI)}(h:QaS N H v l) (hM:M≤N):QaS M H v l:=let ⟨ps,h1,h2⟩:=h;⟨ps,h1,λL hL=>h2 L (λb hb=>Nat.lt_of_lt_of_le (hL b hb) hM)⟩
abbrev qq (e base:Nat) (w:World) (v:Value) (ps:List TV):Prop:=w.ownsRow base e 1 v ps.length (ps.flatMap Z7)
theorem qq.snoc {e base:Nat}{w:World}{v:Value}{ps:List TV}{p:TV}(h:w.ownsRow base e 1 v (ps.length+1) (ps.flatMap Z7++[p.1])):qq e base w v (ps++[p]):=by
 unfold qq
 rw[List.length_append,List.flatMap_append];simpa using h
theorem Qcx {w:World}{base e sz n:Nat}{v:Value}{cs:LV}(h:w.ownsRow base e sz v n cs) (hn:0<n):∃g cap,v=.slice (some ⟨g,0,none⟩) n cap:=by
 rcases h.2 with ⟨_,h0⟩ | ⟨g,cap,cur,h1,_⟩
 ·omega
 ·exact ⟨g,cap,h1⟩
section
variable {P:Program} {ops:List Oper} {K:Fr→World→Prop} {f:Fr} {w:World} {d:Option Nat} {ty:Nat} {ps:String} {af:Array Edge} {gd:Option (Nat×Bool)} {l:List Oper}
theorem Qej {t:Nat}[h1:XM P t] {x y:Operand}{base e n g cap i:Nat}{cs:LV}{u:Value}(h:w.ownsRow base e 1 (.slice (some ⟨g,0,none⟩) n cap) n cs) (hx:ev f x=.pointer (some ⟨g,0+i*1,none⟩)) (hy:ev f y=u) (hi:i<n) (hu:u.oneCell'=true)
  (hK:∀w',Step [g] w w'→w'.ownsRow base e 1 (.slice (some ⟨g,0,none⟩) n cap) n (cs.set i u)→K (QY f d undef) w'):XO P ⟨d,.store t x y,ty,ps,af,gd⟩ f w K:=by
 obtain ⟨hl,h⟩:=h
 rcases h with ⟨h0,_⟩ | ⟨g',cap',cur,e1,hb,hg,hnc,hm,hsz,htk⟩
 ·cases h0
 cases e1
 have hB:Q2 w.heap g e cur.toList:=by unfold Q2;simpa using hg
 refine QF (j:=i) hB (by rw[hx];simp) hy (by simp[hsz];omega) hu λw' hs hB'=>hK w' hs ⟨by simpa using hl,.inr ⟨g,cap,(cur.toList.set i u).toArray,rfl,hb,hB',hnc,hm,by simpa using hsz,?_⟩⟩
 rw[←htk]
 simp[List.take_set]
end
section
variable {P:Program} {f:Fr} {w:World} {d:Option Nat} {ty:Nat} {ps:String} {af:Array Edge} {gd:Option (Nat×Bool)} {κ:Type} [DecidableEq κ]
theorem qL {t kt et:Nat}{z:Value}[hm:Mp P t kt et z] {enc:κ→Value}[hk:Key P kt enc] {x y:Operand}{b:Nat}{m:List (κ×Value)}{k:κ}{u:Value}(h:Z2 enc w.heap b m) (hx:ev f x=.map (some b)) (hy:ev f y=enc k) (hg:mget m k=some u) :
  (execOp (ev f) ⟨d,.lookup t x y true,ty,ps,af,gd⟩).run P w=.ok (.value (.tuple #[u,.bool true])) w:=by
 have:=KK (P:=P) (t:=t) (d:=d) (ty:=ty) (ps:=ps) (af:=af) (gd:=gd) h hx hy
 rw[hg] at this;exact this
theorem Qcu {t kt et:Nat}{z:Value}[hm:Mp P t kt et z] {enc:κ→Value}[hk:Key P kt enc] {x y:Operand}{b:Nat}{m:List (κ×Value)}{k:κ}(h:Z2 enc w.heap b m) (hx:ev f x=.map (some b)) (hy:ev f y=enc k) (hg:mget m k=none) :
  (execOp (ev f) ⟨d,.lookup t x y true,ty,ps,af,gd⟩).run P w=.ok (.value (.tuple #[z,.bool false])) w:=by
 have:=KK (P:=P) (t:=t) (d:=d) (ty:=ty) (ps:=ps) (af:=af) (gd:=gd) h hx hy
 rw[hg] at this;exact this
end
end Go.Lg
namespace Go.Proofs.YtdffckgdcegpaaaGreatDoor
open Go.Lg
def ckL:List QV→Int
 | []=>0
 | a::l=>if Jh a≠0 then Jh a else ckL l
def Vf (l:List QV):Int:=if 12<l.length then 3 else ckL l
theorem jx:∀(l:List QV),ckL l=0↔∀a∈l,Zs a
 | []=>by simp[ckL]
 | a::l=>by
  rw[ckL]
  by_cases h:Jh a=0
  ·rw[if_neg (by simpa using h),jx l]
   simp[(ZE a).1 h]
  ·rw[if_pos h]
   simp only[List.forall_mem_cons]
   exact ⟨λe=>absurd e h,λe=>absurd ((ZE a).2 e.1) h⟩
def evs (l:List QV):LI:=l.foldl (λacc a=>mrg (· || ·) acc a.al) []
def VM (m:List ((Int×Int)×Value)) (es:List Ed):List ((Int×Int)×Value):=es.foldl (λm e=>mput m (e.1,e.2.1) (.int .i64 e.2.2)) m
def eget:List Ed→Int→Int→Option Int
 | [],_,_=>none
 | e::l,s,v=>if e.1=s∧e.2.1=v then some e.2.2 else eget l s v
theorem qX {l:List Ed}{s v:Int}(h:∀e∈l,¬(e.1=s∧e.2.1=v)):eget l s v=none:=by
 induction l with
 | nil=>rfl
 | cons e l ih =>
  rw[eget,if_neg (h e List.mem_cons_self)]
  exact ih λe he=>h e (List.mem_cons_of_mem _ he)
theorem qY:∀(es:List Ed) (m:List ((Int×Int)×Value)) (s v:Int),(es.Pairwise λx y=>x.1<y.1∨(x.1=y.1∧x.2.1<y.2.1)) →
  mget (VM m es) (s,v)=match eget es s v with | some t=>some (.int .i64 t) | none=>mget m (s,v)
 | [],m,s,v,_=>rfl
 | e::es,m,s,v,h=>by
  simp only[List.pairwise_cons] at h
  have ih:=qY es (mput m (e.1,e.2.1) (.int .i64 e.2.2)) s v h.2
  unfold VM at *
  rw[List.foldl_cons,ih,eget]
  by_cases hk:e.1=s∧e.2.1=v
  ·rw[if_pos hk,qX (λx hx hx2=>by have:=h.1 x hx;omega)]
   simp only[X3]
   rw[if_pos (by rw[hk.1,hk.2])]
  ·rw[if_neg hk]
   cases eget es s v with
   | some t=>rfl
   | none =>
    simp only[X3]
    rw[if_neg (λhe=>hk (by simpa using he))]
def Yg (ev:Int):List QV→LI→Option (LI)
 | a::bs,t::ts=>if ev∉a.al then (Yg ev bs ts).map (t::·) else match eget a.ed t ev with | none=>none | some u=>(Yg ev bs ts).map (u::·)
 | _,_=>some []
def Xk:List QV→LI→Bool
 | a::bs,t::ts=>decide (t∈a.mr) && Xk bs ts
 | _,_=>true
structure Sy where
 tup:List (LI)
 mk':LI
 ed:List Ed
def syE (aa:List QV) (i:Nat) (t:LI) (s:Sy) (v:Int):Option Sy :=
 match Yg v aa t with
 | none=>some s
 | some u=>if u∈s.tup then some ⟨s.tup,s.mk',s.ed++[((i:Int),v,(s.tup.idxOf u:Int))]⟩
  else if s.tup.length=4096 then none else some ⟨s.tup++[u],s.mk',s.ed++[((i:Int),v,(s.tup.length:Int))]⟩
def Uh (aa:List QV) (i:Nat) (t:LI):LI→Sy→Option Sy
 | [],s=>some s
 | v::vs,s=>(syE aa i t s v).bind (Uh aa i t vs)
def ZG (aa:List QV) (i:Nat) (t:LI) (s:Sy):Sy:=if Xk aa t=true then ⟨s.tup,s.mk'++[(i:Int)],s.ed⟩ else s
def qy (s:Sy) (i:Nat):LI:=s.tup.getD i []
def syL (aa:List QV):Nat→Nat→Sy→Option Sy
 | 0,_,s=>some s
 | f+1,i,s=>if i<s.tup.length then (Uh aa i (qy s i) (evs aa) (ZG aa i (qy s i) s)).bind (syL aa f (i+1)) else some s
def qB (aa:List QV):Sy:=⟨[List.replicate aa.length 0],[],[]⟩
def sync (aa:List QV):Option (QV×List (LI)) :=
 if ∃a∈aa,a.st=0 then some (⟨evs aa,0,[],[]⟩,[]) else (syL aa 4096 0 (qB aa)).map λs=>(⟨evs aa,s.tup.length,s.mk',s.ed⟩,s.tup)
theorem Qdz {aa:List QV}{f i:Nat}{s:Sy}(h:¬i<s.tup.length):syL aa f i s=some s:=by
 cases f with
 | zero=>rfl
 | succ f=>rw[syL,if_neg h]
def Vt (aa:List QV) (t:LI):Prop:=t.length=aa.length∧∀i (h:i<t.length) (h':i<aa.length),0≤t[i]∧t[i]<aa[i].st
theorem Vt.cons {a:QV}{aa:List QV}{u:Int}{t:LI}(h0:0≤u) (h1:u<a.st) (h:Vt aa t):Vt (a::aa) (u::t):=by
 refine ⟨by simp[h.1],λi h2 h3=>?_⟩
 cases i with
 | zero=>exact ⟨h0,h1⟩
 | succ i=>exact h.2 i (by simpa using h2) (by simpa using h3)
theorem jo {l:List Ed}{s v u:Int}(h:eget l s v=some u):(s,v,u)∈l:=by
 induction l with
 | nil=>cases h
 | cons e l ih =>
  rw[eget] at h
  split at h
  ·rename_i he
   obtain ⟨e1,e2⟩:=he
   cases h
   obtain ⟨a,b,c⟩:=e
   simp only[] at e1 e2
   subst e1 e2
   exact List.mem_cons_self
  ·exact List.mem_cons_of_mem _ (ih h)
theorem Xz {v:Int}:∀{aa:List QV}{t u:LI},(∀a∈aa,Zs a)→Vt aa t→Yg v aa t=some u→Vt aa u
 | [],t,u,_,h,hs=>by
  cases t with
  | nil=>simp[Yg] at hs;subst hs;exact h
  | cons x t=>have:=h.1;simp at this
 | a::aa,[],u,_,h,hs=>by have:=h.1;simp at this
 | a::aa,x::t,u,ho,h,hs=>by
  have hx:=h.2 0 (by simp) (by simp)
  have ht:Vt aa t:=⟨by have:=h.1;simpa using this,λi h2 h3=>h.2 (i+1) (by simpa using h2) (by simpa using h3)⟩
  have ho':∀a∈aa,Zs a:=λa ha=>ho a (List.mem_cons_of_mem _ ha)
  rw[Yg] at hs
  split at hs
  ·obtain ⟨u',h1,rfl⟩:=Option.map_eq_some_iff.1 hs
   exact Vt.cons hx.1 hx.2 (Xz ho' ht h1)
  ·split at hs
   ·cases hs
   ·rename_i q hq
    obtain ⟨u',h1,rfl⟩:=Option.map_eq_some_iff.1 hs
    have:=(ho a List.mem_cons_self).ed _ (jo hq)
    exact Vt.cons this.2.2.2.1 this.2.2.2.2 (Xz ho' ht h1)
structure VG (aa:List QV) (s:Sy):Prop where
 v:∀t∈s.tup,Vt aa t
 le:s.tup.length≤4096
theorem qz {aa:List QV}{i:Nat}{t:LI}{s:Sy}(h:VG aa s):VG aa (ZG aa i t s):=by
 unfold ZG;split
 ·exact ⟨h.v,h.le⟩
 ·exact h
theorem QdC {aa:List QV}{i:Nat}{t:LI}{s s':Sy}{v:Int}(ho:∀a∈aa,Zs a) (h:VG aa s) (ht:Vt aa t) (hs:syE aa i t s v=some s'):VG aa s':=by
 unfold syE at hs
 split at hs
 ·cases hs;exact h
 ·rename_i u hu
  have hv:=Xz ho ht hu
  split at hs
  ·cases hs;exact ⟨h.v,h.le⟩
  ·split at hs
   ·cases hs
   ·cases hs
    have:=h.le
    refine ⟨λt ht=>?_,by simp;omega⟩
    simp only[List.mem_append,List.mem_singleton] at ht
    rcases ht with ht | rfl
    ·exact h.v t ht
    ·exact hv
open Go.Proofs.Tryz
theorem Kq (p:AV):(Zm p).length=4:=rfl
theorem Kd (p:TV):(Z7 p).length=1:=rfl
theorem Xx.le {L:LN}{H:Array Obj}{v:Value}{ps:List AV}(h:Xx L H v ps):ps.length≤1099511627776:=h.arr.le
theorem QfF {l:List QV}{k:Nat}(h:k<l.length):ckL (l.drop k)=if Jh l[k]≠0 then Jh l[k] else ckL (l.drop (k+1)):=by
 rw[List.drop_eq_getElem_cons h,ckL]
theorem Qcw {L:LN}{w:World}{v:Value}{ps:List AV}(h:Xx L w.heap v ps) :
  QJ prog 139 [v] w λr w'=>r=.int .i64 (Vf (ps.map (·.a)))∧Step [] w w':=by
 have hle:=Xx.le h
 refine QJ.of_W func139 rfl ntmps139 results139 (by simp) ?_
 refine Qc<|Qe<|Qf<|Qc<|Qb<|x (Qr h.arr rfl)<|x (ZO rfl rfl)<|xe ?_
 refine Q4 rfl (λh8=>?_) (λh8=>?_)
 ·refine Qc<|Qe<|Ql ⟨[.int .i64 3],⟨rfl,trivial⟩,?_,Step.refl _ _⟩
  unfold Vf;rw[if_pos (by simp;omega)];rfl
 refine Qi ?_
 have hP:Vf (ps.map (·.a))=ckL (ps.map (·.a)):=by unfold Vf;rw[if_neg (by simp;omega)]
 rw[hP]
 refine Qf<|Qc<|Qb<|x (Qr h.arr rfl)<|Qb<|xe ?_
 refine Qg<|QA (α:=Nat) [(2,2),(4,5),(11,20)] (λz=>[(11,.int .i64 z)]) (λz w'=>z≤ps.length∧Step [] w w'∧ckL (ps.map (·.a))=ckL ((ps.map (·.a)).drop z)) (λz=>ps.length - z) (by rfl) 0 ⟨rfl,trivial⟩
  ⟨Nat.zero_le _,Step.refl _ _,rfl⟩ ?_
 rintro k g w1 ⟨hk,hs1,hck⟩
 refine Qc<|x (QB rfl rfl)<|xe ?_
 refine Qf<|QG rfl (λh12=>?_) (λh12=>?_)
 ·refine Qx ?_
  refine Qc<|Qe<|Ql ⟨[.int .i64 0],⟨rfl,trivial⟩,?_,hs1⟩
  rw[hck,List.drop_of_length_le (by simp;omega)];rfl
 have hlt:k<ps.length:=by omega
 have hlt':k<(ps.map (·.a)).length:=by simpa using hlt
 rw[QfF hlt',List.getElem_map] at hck
 refine Qi<|Qf<|Qg<|Qc<|xig Kq (h.ext hs1).arr rfl rfl hlt λa13 h13=>x (QC h13 rfl rfl)<|xl rfl<|Qt (us:=[nS,.int .i64 0,nS,nS]) rfl λb4 w2 hs2 hb4 hB4=>?_
 have hA:=h.each ps[k] (List.getElem_mem hlt)
 refine xl rfl<|Qn (us:=Zm ps[k]) hB4 rfl rfl rfl rfl ⟨hA.al.one,rfl,hA.mr.one,hA.ed.one,trivial⟩ λw3 hs3 hB4=>xe ?_
 have hs13:Step [] w1 w3:=hs2.then1 hs3 hb4
 refine Qc<|x (Qq hB4 rfl rfl)<|xl rfl<|xf<|(Xo ((hA.ext hs1).ext hs13)).mono ?_
 rintro r4 w4 ⟨rfl,hs4⟩
 refine Qe ?_
 have hst:=(hs1.trans hs13).trans hs4
 refine Qc<|Qb<|x (Q8 rfl rfl)<|xe ?_
 refine Q4 rfl (λh18=>?_) (λh18=>?_)
 ·refine Qc<|Qb<|Qe<|Ql ⟨[.int .i64 (Jh ps[k].a)],⟨rfl,trivial⟩,?_,hst⟩
  rw[hck,if_pos h18];rfl
 refine Qi<|Qw<|QO rfl rfl<|Qb<|xe ?_
 refine ⟨k+1,by omega,⟨rfl,trivial⟩,hlt,hst,?_⟩
 rw[hck,if_neg h18]
theorem Qfr {l:List QV}{k:Nat}(h:k<l.length):evs (l.take (k+1))=mrg (· || ·) (evs (l.take k)) l[k].al:=by
 unfold evs
 rw[List.take_succ_eq_append_getElem h,List.foldl_append];rfl
theorem yb (l:List QV) (h:∀a∈l,a.al.length≤32):(evs l).length≤32*l.length:=by
 have key:∀(l:List QV) (acc:LI),(∀a∈l,a.al.length≤32)→(l.foldl (λacc a=>mrg (· || ·) acc a.al) acc).length≤acc.length+32*l.length:=by
  intro l
  induction l with
  | nil=>intro acc _;simp
  | cons a l ih =>
   intro acc h
   have h1:=ih (mrg (· || ·) acc a.al) (λa ha=>h a (List.mem_cons_of_mem _ ha))
   have h2:=zL (· || ·) acc a.al
   have h3:=h a List.mem_cons_self
   simp only[List.foldl_cons,List.length_cons]
   omega
 have:=key l [] h
 unfold evs;simpa using this
theorem QcS {L:LN}{w:World}{v:Value}{ps:List AV}(h:Xx L w.heap v ps) (hn:ps.length≤12) (hal:∀p∈ps,p.a.al.length≤32) :
  QJ prog 202 [v] w λr w'=>Step [] w w'∧Qu 3 w.heap.size w' r (evs (ps.map (·.a))):=by
 refine QJ.of_W func202 rfl ntmps202 results202 (by simp) ?_
 refine Qc<|Qe<|Qc<|Qe<|Qf<|Qc<|Qb<|x (Qr h.arr rfl)<|Qb<|xe ?_
 refine Qg<|QA (α:=Nat×Value) [(3,3),(5,5),(8,16)] (λz=>[(3,z.2),(8,.int .i64 z.1)]) (λz w'=>z.1≤ps.length∧Step [] w w'∧Qu 3 w.heap.size w' z.2 (evs ((ps.map (·.a)).take z.1))) (λz=>ps.length - z.1) (by rfl) (0,nS) ⟨rfl,rfl,trivial⟩
  ⟨Nat.zero_le _,Step.refl _ _,QP _ _ _ _⟩ ?_
 rintro ⟨k,vo⟩ g w1 ⟨hk,hs1,ho⟩
 simp only[] at hk ho
 have hel:=yb ((ps.map (·.a)).take k) (λa ha=>by obtain ⟨p,hp,rfl⟩:=List.mem_map.1 (List.mem_of_mem_take ha);exact hal p hp)
 have htl:((ps.map (·.a)).take k).length≤12:=by simp;omega
 refine Qc<|x (QB rfl rfl)<|xe ?_
 refine Qf<|QG rfl (λh9=>?_) (λh9=>?_)
 ·refine Qx ?_
  refine Qc<|Qb<|Qe<|Ql ⟨[vo],⟨rfl,trivial⟩,hs1,?_⟩
  rw[List.take_of_length_le (by simp;omega)] at ho
  exact ho
 have hlt:k<ps.length:=by omega
 refine Qi<|Qf<|Qg<|Qc<|xig Kq (h.ext hs1).arr rfl rfl hlt λa10 h10=>x (QC h10 rfl rfl)<|xl rfl<|Qt (us:=[nS,.int .i64 0,nS,nS]) rfl λb5 w2 hs2 hb5 hB5=>?_
 have hA:=h.each ps[k] (List.getElem_mem hlt)
 have hal':=hal ps[k] (List.getElem_mem hlt)
 refine xl rfl<|Qn (us:=Zm ps[k]) hB5 rfl rfl rfl rfl ⟨hA.al.one,rfl,hA.mr.one,hA.ed.one,trivial⟩ λw3 hs3 hB5=>xe ?_
 have hs13:Step [] w1 w3:=hs2.then1 hs3 hb5
 have hst:=hs1.trans hs13
 refine Qw<|Qb<|x (Qa rfl)<|x (Qd hB5 rfl rfl)<|xl rfl<|xf<|(jO (Qu.ints (L:=[]) (Qs ho hs13) (by omega) (by simp)) (hA.al.ext hst) (by omega)).mono ?_
 rintro r4 w4 ⟨hs4,ho4⟩
 refine Qe<|Qw<|QO rfl rfl<|Qb<|xe ?_
 refine ⟨(k+1,r4),by simp only[];omega,⟨rfl,rfl,trivial⟩,hlt,hst.trans hs4,?_⟩
 simp only[]
 rw[Qfr (by simpa using hlt),List.getElem_map]
 exact Zo ho4 hst.size
abbrev Qbw (b:Nat):LV:=[.map (some b)]
structure JQ (L:LN) (H:Array Obj) (vl ve vs:Value) (ps:List AV) (ms:LN):Prop where
 al:Xx L H vl ps
 ev:QL L H ve (evs (ps.map (·.a)))
 ml:ms.length=ps.length
 sl:Zj L H vs ms.length 1 (ms.flatMap Qbw)
 mp:∀i (h:i<ms.length) (h':i<ps.length),Z2 Y4 H ms[i] (VM [] ps[i].a.ed)∧ms[i]∉L
theorem JQ.ext {L:LN}{w w':World}{vl ve vs:Value}{ps:List AV}{ms:LN}(h:JQ L w.heap vl ve vs ps ms) (hs:Step [] w w'):JQ L w'.heap vl ve vs ps ms :=
 ⟨h.al.ext hs,h.ev.ext hs,h.ml,h.sl.ext hs,λi h1 h2=>⟨(h.mp i h1 h2).1.ext hs,(h.mp i h1 h2).2⟩⟩
theorem JQ.st {L:LN}{w w':World}{vl ve vs:Value}{ps:List AV}{ms:LN}(h:JQ L w.heap vl ve vs ps ms) (hs:Step L w w'):JQ L w'.heap vl ve vs ps ms :=
 ⟨h.al.st hs,h.ev.st hs,h.ml,h.sl.st hs,λi h1 h2=>⟨(h.mp i h1 h2).1.step hs (h.mp i h1 h2).2,(h.mp i h1 h2).2⟩⟩
theorem JQ.up {L L':LN}{H:Array Obj}{vl ve vs:Value}{ps:List AV}{ms:LN}(h:JQ L H vl ve vs ps ms) (hL:∀b∈L',b∈L∨H.size≤b):JQ L' H vl ve vs ps ms :=
 ⟨h.al.up hL,h.ev.up hL,h.ml,h.sl.up hL,λi h1 h2=>⟨(h.mp i h1 h2).1,λhm=>by rcases hL _ hm with h3 | h3;exact (h.mp i h1 h2).2 h3;have:=(h.mp i h1 h2).1.lt;omega⟩⟩
theorem QaF {m:List ((Int×Int)×Value)}{es:List Ed}{k:Nat}(h:k<es.length):VM m (es.take (k+1))=mput (VM m (es.take k)) (es[k].1,es[k].2.1) (.int .i64 es[k].2.2):=by
 unfold VM
 rw[List.take_succ_eq_append_getElem h,List.foldl_append];rfl
theorem QgU {L:LN}{w:World}{vl:Value}{ps:List AV}(h:Xx L w.heap vl ps) (hn:ps.length≤12) (hal:∀p∈ps,p.a.al.length≤32) (hL:∀b∈L,b<w.heap.size) :
  QJ prog 140 [vl] w λr w'=>Step [] w w'∧∃ve vs ms,r=.agg #[vl,ve,vs]∧JQ L w'.heap vl ve vs ps ms∧Qu 3 w.heap.size w' ve (evs (ps.map (·.a))):=by
 refine QJ.of_W func140 rfl ntmps140 results140 (by simp) ?_
 refine Qc<|xl rfl<|Qt (us:=[nS,nS,nS]) rfl λb2 w1 hs1 hb2 hB2=>xe ?_
 refine Qc<|Qb<|Qb<|xl rfl<|xf<|(QcS (h.ext hs1) hn hal).mono ?_
 rintro ve w2 ⟨hs2,hve⟩
 have hel:=yb (ps.map (·.a)) (λa ha=>by obtain ⟨p,hp,rfl⟩:=List.mem_map.1 ha;exact hal p hp)
 have hevl:(evs (ps.map (·.a))).length≤1000:=by simp at hel;omega
 have hveA:=Qu.ints (L:=[]) hve (by omega) (by simp)
 refine x (QE ⟨h.arr.cells,hveA.cells,trivial⟩)<|xl rfl<|Qt (us:=[nS,nS,nS]) rfl λb3 w3 hs3 hb3 hB3 =>
  xl rfl<|Qn (us:=[vl,ve,nS]) hB3 rfl rfl rfl rfl ⟨h.arr.one,hveA.one,rfl,trivial⟩ λw4 hs4 hB3=>xe ?_
 have hz1:=hs1.size
 have hz2:=hs2.size
 have hS4:Step [] w2 w4:=hs3.then1 hs4 hb3
 have hz4:=hS4.size
 have hl2:=hB2.lt
 have hl3:=hB3.lt
 have hW4:Step [] w w4:=(hs1.trans hs2).trans hS4
 have hve4:=Qs hve hS4
 refine Qf<|Qc<|Qb<|x (Qr h.arr rfl)<|Qb<|xe ?_
 have hevlt:=QR hve
 refine Qg<|QA (α:=Nat×LN×Value) [(5,6),(8,8),(15,42)] (λz=>[(15,.int .i64 z.1)])
  (λz w'=>z.1≤ps.length∧z.2.1.length=z.1∧Step [b3] w4 w'∧Q2 w'.heap b3 243 [vl,ve,z.2.2]∧w'.ownsRow w4.heap.size 225 1 z.2.2 z.2.1.length (z.2.1.flatMap Qbw) ∧
   (∀i (h:i<z.2.1.length) (h':i<ps.length),Z2 Y4 w'.heap z.2.1[i] (VM [] ps[i].a.ed)∧w4.heap.size≤z.2.1[i]∧z.2.1[i]∉ob z.2.2)) (λz=>ps.length - z.1) (by rfl) (0,[],nS) ⟨rfl,trivial⟩
  ⟨Nat.zero_le _,rfl,Step.refl _ _,hB3,QP _ _ _ _,λi h=>by simp at h⟩ ?_
 rintro ⟨k,ms,vs⟩ g w5 ⟨hk,hml,hs5,hB5,ho5,hmp5⟩
 simp only[] at hk hml hs5 hB5 ho5 hmp5
 have hW5:Step [] w w5:=hW4.then1 hs5 (by omega)
 have hz5:=hs5.size
 have hge5:=Qk ho5
 refine Qc<|x (QB rfl rfl)<|xe ?_
 refine Qf<|QG rfl (λh16=>?_) (λh16=>?_)
 ·have hke:k=ps.length:=by omega
  subst hke
  refine Qx ?_
  refine Qc ?_
  have hvsA:=QT (L:=[]) ho5 (by omega) (by simp)
  refine x (Qq hB5 rfl rfl)<|xl rfl<|Qn (us:=[vl,ve,vs]) (((hB2.ext hs2).ext hS4).step hs5 (by simp;omega)) rfl rfl rfl rfl ⟨h.arr.one,hveA.one,hvsA.one,trivial⟩ λw6 hs6 hB6=>xe ?_
  have hW6:=hW5.then1 hs6 hb2
  have hve6:Qu 3 w1.heap.size w6 ve _:=Qj (Qj hve4 hs5 (λb hb=>by have:=hevlt b hb;simp;omega)) hs6 (λb hb=>by have:=(Qk hve b hb).1;simp;omega)
  have ho6:=Qj ho5 hs6 (λb hb=>by have:=(hge5 b hb).1;simp;omega)
  refine Ql ⟨[.agg #[vl,ve,vs]],⟨⟨_,rfl,Qz rfl (hB6.at (L:=[]) (by simp)).cells⟩,trivial⟩,hW6,ve,vs,ms,rfl,⟨h.ext hW6,Qu.ints hve6 (by omega) (λb hb=>by have:=hL b hb;omega),hml,QT ho6 (by omega) (λb hb hbL=>by have:=hL b hbL;have:=(Qk ho6 b hb).1;omega),λi h1 h2=>⟨?_,λhbL=>by have:=hL _ hbL;have:=(hmp5 i h1 h2).2.1;omega⟩⟩,Zo hve6 hz1⟩
  obtain ⟨m1,m2,_⟩:=hmp5 i h1 h2
  exact m1.step hs6 (λhb=>by
   simp only[List.mem_singleton] at hb
   have h7:=(((hB2.ext hs2).ext hS4).step hs5 (by simp;omega))
   rw[hb] at m1
   obtain ⟨es,c,m4,_⟩:=m1
   unfold Q2 at h7
   rw[h7] at m4;cases m4)
 have hlt:k<ps.length:=by omega
 have hA:=h.each ps[k] (List.getElem_mem hlt)
 refine Qi<|Qf<|Qg<|Qc<|xig Kq (h.ext hW5).arr rfl rfl hlt λa17 h17=>x (QC h17 rfl rfl)<|xl rfl<|Qt (us:=[nS,.int .i64 0,nS,nS]) rfl λb5 w7 hs7 hb5 hB5' =>
  xl rfl<|Qn (us:=Zm ps[k]) hB5' rfl rfl rfl rfl ⟨hA.al.one,rfl,hA.mr.one,hA.ed.one,trivial⟩ λw8 hs8 hBa=>xe ?_
 have hs58:Step [] w5 w8:=hs7.then1 hs8 hb5
 have hz8:=hs58.size
 have hl5:=hBa.lt
 refine Qc<|xl rfl<|Yn Y4 λbm w9 hs9 hbm hm9=>Qe ?_
 have hz9:=hs9.size
 have hlm:=hm9.lt
 have hs59:=hs58.trans hs9
 have hW9:=hW5.trans hs59
 refine Qf<|Qc<|x (Qa rfl)<|x (Qd (hBa.ext hs9) rfl rfl)<|x (Qr hA.ed rfl)<|Qb<|xe ?_
 have hed9:=(hA.ed.up (L':=[bm]) (λb hb=>.inr (by simp at hb;have:=hW5.size;omega))).ext hW9
 have hedl:=hA.ed.le
 refine Qg<|QA (α:=Nat) [(8,8),(23,35)] (λz=>[(23,.int .i64 z)]) (λz w'=>z≤ps[k].a.ed.length∧Step [bm] w9 w'∧Z2 Y4 w'.heap bm (VM [] (ps[k].a.ed.take z))) (λz=>ps[k].a.ed.length - z) (by rfl) 0 ⟨rfl,trivial⟩
  ⟨Nat.zero_le _,Step.refl _ _,hm9⟩ ?_
 rintro j g2 w10 ⟨hj,hs10,hm10⟩
 have hz10:=hs10.size
 refine Qc<|x (QB rfl rfl)<|xe ?_
 refine Qf<|QG rfl (λh24=>?_) (λh24=>?_)
 ·refine Qx ?_
  rw[List.take_of_length_le (by omega)] at hm10
  have hs510:Step [] w5 w10:=hs59.then1 hs10 (by omega)
  have hB10:Q2 w10.heap b3 243 [vl,ve,vs]:=hB5.ext hs510
  refine Qw<|x (Qa rfl)<|x (Qd hB10 rfl rfl)<|Qb<|xl rfl<|QD (us:=[[.map (some bm)]]) rfl rfl (by decide) (by simp) ⟨rfl,rfl,trivial⟩ λb39 w11 hs11 hb39 hB39=>?_
  have hs511:=hs510.trans hs11
  have ho11:=Qs ho5 hs511
  have hz11:=hs511.size
  refine xl rfl<|QZ (news:=[.map (some bm)]) (L:=[]) ho11 rfl rfl rfl (hB39.at (by simp)) (by simp[Value.oneCell']) (by omega) (by omega) λv12 w12 ho12 hs12 hn12=>?_
  have ho12':w12.ownsRow w4.heap.size 225 1 v12 (ms++[bm]).length ((ms++[bm]).flatMap Qbw):=by
   rw[List.length_append,List.flatMap_append];simpa using ho12
  have hB12:=(hB10.ext hs11).step hs12 (QM ho5 (by omega))
  refine x (Qa rfl)<|xl rfl<|QF hB12 rfl rfl (by simp) (QT (L:=[]) ho12' (by simp;omega) (by simp)).one λw13 hs13 hB13=>xe ?_
  refine Qw<|QO rfl rfl<|Qb<|xe ?_
  have hnew:∀b∈ob v12,w4.heap.size≤b:=λb hb=>(Qk ho12' b hb).1
  have hz10':w10.heap.size≤w11.heap.size:=hs11.size
  refine ⟨(k+1,ms++[bm],v12),by simp only[];omega,⟨rfl,trivial⟩,hlt,by simp[hml],?_,hB13,Qj ho12' hs13 (λb hb=>by have:=hnew b hb;simp;omega),?_⟩
  ·exact ((hs5.trans hs511).then hs12 (λb hb=>.inr (hge5 b hb).1)).trans' hs13
  ·intro i h1 h2
   simp only[List.length_append,List.length_singleton] at h1
   have keep:∀(c:Nat) (m:List ((Int×Int)×Value)),Z2 Y4 w10.heap c m→c≠b3→c∉ob vs→Z2 Y4 w13.heap c m:=λc m hm hc3 hcv =>
    ((hm.ext hs11).step hs12 hcv).step hs13 (by simpa using hc3)
   by_cases hi:i<ms.length
   ·obtain ⟨m1,m2,m3⟩:=hmp5 i hi h2
    simp only[List.getElem_append_left hi]
    refine ⟨keep _ _ (m1.ext hs510) (by omega) m3,m2,λhb=>?_⟩
    have hlt5:=m1.lt
    rcases hn12 _ hb with h5 | h5
    ·exact m3 h5
    ·omega
   ·have hi':i=ms.length:=by omega
    subst hi'
    simp only[List.getElem_append_right (Nat.le_refl _),Nat.sub_self,List.getElem_singleton]
    have hq:ms.length=k:=hml
    have e2:ps[ms.length]=ps[k]:=by simp only[hq]
    rw[e2]
    refine ⟨keep _ _ hm10 (by omega) (λhb=>by have:=(hge5 _ hb).2;omega),by omega,λhb=>?_⟩
    rcases hn12 _ hb with h5 | h5
    ·have:=(hge5 _ h5).2;omega
    ·omega
 have hlt2:j<ps[k].a.ed.length:=by omega
 refine Qi<|Qf<|Qg<|Qc<|xie (hed9.st hs10) rfl rfl hlt2 λa25 h25=>x (QC h25 rfl rfl)<|xl rfl<|Qt (us:=[.int .i64 0,.int .i64 0,.int .i64 0]) rfl λb8 w14 hs14 hb8 hB8=>xl rfl<|Qn (us:=Qy ps[k].a.ed[j]) hB8 rfl rfl rfl rfl ⟨rfl,rfl,rfl,trivial⟩ λw15 hs15 hB8=>xe ?_
 have hs1015:Step [] w10 w15:=hs14.then1 hs15 hb8
 refine Qw<|Qb<|x (Qa rfl)<|x (Qd hB8 rfl rfl)<|x (Qa rfl)<|x (Qd hB8 rfl rfl)<|x (QE ⟨rfl,rfl,trivial⟩)<|x (Qa rfl) <|
  x (Qd hB8 rfl rfl)<|xl rfl<|Xi (k:=(ps[k].a.ed[j].1,ps[k].a.ed[j].2.1)) (hm10.ext hs1015) rfl rfl λw16 hs16 hm16=>xe ?_
 refine Qw<|QO rfl rfl<|Qb<|xe ?_
 refine ⟨j+1,by omega,⟨rfl,trivial⟩,hlt2,(hs10.trans hs1015).trans' hs16,?_⟩
 rw[QaF hlt2]
 exact hm16
end Go.Proofs.YtdffckgdcegpaaaGreatDoor
