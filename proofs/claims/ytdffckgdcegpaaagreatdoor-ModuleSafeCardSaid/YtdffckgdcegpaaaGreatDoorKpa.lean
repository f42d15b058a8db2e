/- Merged out of 23 texts. -/
import Derived.Orders
import Derived.Below
import Derived.WalkKit
import Derived.Laws.AppendOwn
import Derived.Laws.Rows
import Derived.Laws.Tables
import Derived.Great.BuildSlice
import Derived.Deep.OwnRows
import Derived.MapKept
import Derived.Test.YtdffckgdcegpaaaGreatDoorProg
import Derived.Shelf.Strings.Builder1
import Derived.Shelf.Small.Bits
import Derived.Shelf.Strings.BuilderF
import Derived.Shelf.Strings.BuilderK
import Derived.Shelf.Strconv.Itoa0
import Derived.Shelf.Strconv.Itoa1
import Derived.Shelf.LaysM
import Derived.Shelf.Strconv.Itoa2
import Derived.Shelf.Strconv.Itoa3
import Derived.Shelf.Strings.BuilderCap
import Derived.Ground.SlsfProg
import Derived.Shelf.SlSortCmp.Insertion
import Derived.Shelf.SlSortCmp.SiftDown1
import Derived.Shelf.SlSortCmp.HeapSort1
import Derived.Shelf.SlSortCmp.Insertion1
import Derived.Shelf.SlSortCmp.Median1
import Derived.Shelf.SlSortCmp.Pivot1
import Derived.Shelf.SlSortCmp.ReverseRange1
import Derived.Shelf.SlSortCmp.PartitionEqual1
import Derived.Lib.Builder
import Derived.Laws.Externs
namespace Go
abbrev nS:Value:=.slice none 0 0
abbrev LI:=List Int
abbrev LN:=List Nat
abbrev LV:=List Value
theorem O.{u}{α:Sort u}{a:α}:a=a:=rfl
theorem U:True:=trivial
theorem Z.{u}{α:Sort u}{a:α}:a=a∧True:=⟨rfl,trivial⟩
abbrev La:=@List.mem_singleton
abbrev Lb:=@List.mem_cons
abbrev Lc:=@List.getElem_mem
abbrev Le:=@List.length_map
abbrev Lh:=@List.length_append
abbrev Li:=@List.take_succ_eq_append_getElem
abbrev Lj:=@List.mem_append
abbrev Lk:=@List.mem_cons_of_mem
abbrev Ll:=@Nat.zero_le
abbrev Lm:=@List.mem_cons_self
abbrev Ln:=@List.eq_nil_of_length_eq_zero
abbrev Lo:=@List.take_of_length_le
abbrev Lp:=@List.mem_map
abbrev Lq:=@List.not_mem_nil
abbrev Lr:=@List.drop_of_length_le
abbrev Ls:=@Decidable.not_not
abbrev Lt:=@Nat.le_refl
abbrev Lu:=@List.map_append
abbrev Lv:=@Bool.and_eq_true
abbrev Lx:=@List.length_take
abbrev Ly:=@List.flatMap_append
abbrev Lz:=@List.mem_append_left
abbrev LA:=@List.length_singleton
abbrev LB:=@List.getElem?_eq_getElem
abbrev LC:=@List.append_assoc
abbrev LD:=@List.getElem_of_mem
abbrev LE:=@Array.getElem?_eq_some_iff
abbrev LF:=@List.flatMap_cons
abbrev LG:=@Nat.zero_add
abbrev LH:=@List.append_nil
abbrev LJ:=@List.length_cons
abbrev LK:=@List.mem_map_of_mem
abbrev LL:=@List.getElem_map
abbrev LM:=@List.foldl_cons
abbrev LO:=@List.map_cons
abbrev LP:=@List.drop_eq_getElem_cons
abbrev LQ:=@List.getD_eq_getElem?_getD
abbrev LR:=@List.mem_filter
abbrev LS:=@Nat.le_trans
abbrev LT:=@List.mem_of_mem_take
abbrev LU:=@List.mem_append_right
abbrev LW:=@List.getElem?_take
abbrev LX:=@List.size_toArray
abbrev LY:=@Int.toNat_natCast
abbrev LZ:=@List.idxOf_lt_length_of_mem
abbrev L0:=@List.pairwise_cons
abbrev L2:=@Nat.lt_of_lt_of_le
abbrev L3:=@List.getElem?_append_left
abbrev L4:=@List.getElem?_eq_some_iff
abbrev L5:=@List.ext_getElem
abbrev L6:=@List.getElem?_toArray
abbrev L7:=@List.filter_append
abbrev L8:=@List.mem_range'_1
abbrev L9:=@Option.map_eq_some_iff
abbrev Ma:=@List.length_filter_le
abbrev Mb:=@List.nil_append
abbrev Mc:=@List.getElem_append_left
abbrev Md:=@List.all_cons
abbrev Me:=@Option.isSome_iff_exists
abbrev Mf:=@List.mem_of_getElem?
abbrev Mg:=@List.range'_1_concat
abbrev Mh:=@List.filter_cons
abbrev Mi:=@List.idxOf_append
abbrev Mj:=@List.map_map
abbrev Mk:=@List.all_eq_true
abbrev Ml:=@Option.bind_eq_some_iff
abbrev Mm:=@List.cons_append
abbrev Mn:=@List.filterMap_cons
abbrev Mo:=@List.pairwise_append
abbrev Mq:=@List.length_drop
abbrev Mr:=@List.any_eq_true
abbrev Ms:=@List.pairwise_map
abbrev Mt:=@List.getElem?_append_right
abbrev Mu:=@List.pairwise_iff_getElem
abbrev Mv:=@List.mem_flatMap
abbrev Mw:=@Nat.mod_eq_of_lt
abbrev Mx:=@List.foldl_append
abbrev My:=@List.mem_filterMap
abbrev Mz:=@Array.getElem?_append
abbrev MA:=@List.take_succ_cons
abbrev MB:=@List.filter_sublist
abbrev MC:=@Array.size_modify
abbrev MD:=@List.nodup_append
abbrev ME:=@Nat.mul_le_mul_right
abbrev MF:=@Bool.or_eq_false_iff
abbrev MG:=@Array.getElem?_eq_getElem
abbrev MH:=@List.nodup_nil
abbrev MI:=@Nat.add_mul
abbrev MJ:=@Array.getElem?_toList
abbrev MK:=@List.take_append_drop
abbrev ML:=@Nat.add_sub_cancel_left
abbrev MM:=@List.getElem?_drop
abbrev MN:=@List.mem_of_mem_drop
abbrev MO:=@List.map_singleton
abbrev MP:=@Nat.min_eq_left
abbrev MQ:=@List.getElem_append_right
abbrev MR:=@List.getElem?_map
abbrev MS:=@Array.getElem?_modify
abbrev MT:=@List.getElem?_eq_none
abbrev MU:=@List.mem_range
abbrev MW:=@List.headD_cons
abbrev MX:=@List.pairwise_singleton
abbrev MY:=@List.forall_mem_cons
abbrev MZ:=@List.tail_cons
abbrev M0:=@List.take_length
abbrev M1:=@List.getElem_range
abbrev M2:=@Nat.add_comm
abbrev M4:=@List.getElem?_set_ne
abbrev M5:=@Int.le_refl
abbrev M6:=@List.getElem_take
abbrev M7:=@List.any_eq_false
abbrev M8:=@List.pairwise_lt_range'
abbrev M9:=@List.filter_nil
abbrev Na:=@List.map_congr_left
abbrev Nb:=@Nat.add_zero
abbrev Nc:=@List.filter_eq_nil_iff
abbrev Nd:=@List.range'_succ
abbrev Nf:=@List.singleton_append
abbrev Ng:=@List.mem_or_eq_of_mem_set
abbrev Nh:=@Nat.not_lt_zero
abbrev Ni:=@Array.size_append
abbrev Nj:=@List.ext_getElem?
abbrev Nk:=@List.eq_of_mem_replicate
abbrev Nl:=@List.mergeSort_perm
abbrev Nm:=@List.filter_eq_self
abbrev Nn:=@List.take_zero
abbrev Np:=@List.getElem_set
abbrev Nq:=@List.flatMap_nil
abbrev Nr:=@List.zipIdx_cons
abbrev Ns:=@List.foldl_nil
abbrev Nt:=@Nat.one_mul
abbrev Nu:=@List.map_nil
abbrev Nv:=@List.length_set
abbrev Nw:=@List.any_cons
end Go
namespace Go.Lg
open Go.RowKit
abbrev Fr:=Nat→Value
def upd (f:Fr) (d:Nat) (v:Value):Fr:=λt=>bif Nat.beq t d then v else f t
def ev (f:Fr):Operand→Value
 | .tmp t=>f t
 | .const v=>v
 | .global g=>.pointer (some ⟨g,0,none⟩)
 | .func g=>.func (.func g) #[] #[]
def QV (f:Fr):Option Nat→Value→Fr
 | some d,v=>upd f d v
 | none,_=>f
structure jK (n:Nat) (a:Act) (f:Fr):Prop where
 size:a.tmps.size=n
 defers:a.defers=[]
 get:∀t,a.tmps.getD t undef=f t
theorem YL (f:Fr) (d:Nat) (v:Value):upd f d v d=v:=by simp[upd]
theorem Jc (f:Fr) {d t:Nat}(v:Value) (h:t≠d):upd f d v t=f t:=by
 have:Nat.beq t d=false:=by
  cases e:Nat.beq t d with
  | false=>rfl
  | true=>exact absurd (Nat.eq_of_beq_eq_true e) h
 simp[upd,this]
theorem jK.eval {n:Nat}{a:Act}{f:Fr}(h:jK n a f):a.eval=ev f:=by
 funext x;cases x with
 | tmp t=>exact h.get t
 | _=>rfl
theorem jK.put {n:Nat}{a:Act}{f:Fr}(h:jK n a f) {dst:Option Nat}(hd:∀d,dst=some d→d<n) (v:Value):jK n (a.put dst v) (QV f dst v):=by
 cases dst with
 | none=>exact h
 | some d =>
  have E:d<a.tmps.size:=by rw[h.size];exact hd d O
  refine ⟨by simp[Act.put,h.size],h.defers,λt=>?_⟩;by_cases e:t=d
  ·subst e;rw[QV,YL];simp[Act.put,E]
  rw[QV,Jc _ _ e,←h.get t];simp[Act.put,Array.getElem?_setIfInBounds_ne (Ne.symm e)]
def ZK (l:List Oper) (t:Nat):Bool:=l.any λo=>match o.dst with | some d=>Nat.beq d t | none=>false
def wrs:Code→Nat→Bool
 | .region _ ops _,t=>ZK ops.toList t
 | .seq a b,t=>wrs a t || wrs b t
 | .cond _ a b,t=>wrs a t || wrs b t
 | .block _ a,t=>wrs a t
 | .loop a,t=>wrs a t
 | .skip,_ | .exit _,_ | .label _,_ | .goto _,_ | .ret,_=>false
 | _,_=>true
def XC (D:List (Nat×Nat)) (t:Nat):Bool:=match D with
 | []=>false
 | (lo,hi)::D=>bif (Nat.ble lo t && Nat.ble t hi) then true else XC D t
def inD (D:List (Nat×Nat)) (d:Option Nat):Bool:=match d with | none=>true | some d=>XC D d
def Qcu (D:List (Nat×Nat)) (l:List Oper):Bool:=l.all λo=>inD D o.dst
def wr (D:List (Nat×Nat)):Code→Bool
 | .region _ ops _=>Qcu D ops.toList
 | .seq a b=>wr D a && wr D b
 | .cond _ a b=>wr D a && wr D b
 | .block _ a=>wr D a
 | .loop a=>wr D a
 | .skip | .exit _ | .label _ | .goto _ | .ret=>true
 | _=>false
theorem zF {D:List (Nat×Nat)}{l:List Oper}(h:Qcu D l=true) {t:Nat}(ht:XC D t=false):ZK l t=false:=by
 unfold Qcu at h;unfold ZK;rw[M7];intro o E;have h1:=Mk.1 h o E;cases hd:o.dst with
 | none=>simp
 | some d =>
  rw[hd] at h1;simp only[inD] at h1;intro e;have:=Nat.eq_of_beq_eq_true e;subst this;rw[h1] at ht;cases ht
theorem J0 {D:List (Nat×Nat)}{t:Nat}(ht:XC D t=false):∀c:Code,wr D c=true→wrs c t=false
 | .region _ ops _,h=>zF h ht
 | .seq a b,h=>by simp only[wr,Bool.and_eq_true] at h;simp[wrs,J0 ht a h.1,J0 ht b h.2]
 | .cond _ a b,h=>by simp only[wr,Bool.and_eq_true] at h;simp[wrs,J0 ht a h.1,J0 ht b h.2]
 | .block _ a,h=>J0 ht a (by simpa[wr] using h)
 | .loop a,h=>J0 ht a (by simpa[wr] using h)
 | .skip,_=>rfl
 | .exit _,_=>rfl
 | .label _,_=>rfl
 | .goto _,_=>rfl
 | .ret,_=>rfl
 | .rangeFunc ..,h=>by simp[wr] at h
 | .scope _,h=>by simp[wr] at h
 | .refuse _,h=>by simp[wr] at h
def mix (D:List (Nat×Nat)) (f g:Fr):Fr:=λt=>bif XC D t then g t else f t
theorem J8 {D:List (Nat×Nat)}{f g:Fr}(h:∀t,XC D t=false→g t=f t):mix D f g=g:=by
 funext t;unfold mix;cases e:XC D t with
 | false=>exact (h t e).symm
 | true=>rfl
def yy (S:List (Nat×Value)) (f:Fr):Fr:=match S with
 | []=>f
 | (t,v)::S=>upd (yy S f) t v
def XK (f:Fr):List (Nat×Value)→Prop
 | []=>True
 | (t,v)::S=>f t=v∧XK f S
theorem Y1 {f:Fr}:∀{S:List (Nat×Value)},XK f S→yy S f=f
 | [],_=>rfl
 | (t,v)::S,h=>by
  funext s;simp only[yy,Y1 h.2];by_cases e:s=t
  ·subst e;rw[YL];exact h.1.symm
  exact Jc _ _ e
def W (P:Program) (n:Nat) (c:Code) (Q:Exit→Fr→World→Prop) (f:Fr) (w:World):Prop :=
 ∀a,jK n a f→c.wp P (λe E w'=>∃f',jK n E f'∧(∀t,wrs c t=false→f' t=f t)∧Q e f' w') a w
def thn (K:Fr→World→Prop) (Q:Exit→Fr→World→Prop):Exit→Fr→World→Prop
 | .normal,f,w=>K f w
 | e,f,w=>Q e f w
def blk (id:Nat) (Q:Exit→Fr→World→Prop):Exit→Fr→World→Prop
 | .exit i,f,w=>bif Nat.beq i id then Q .normal f w else Q (.exit i) f w
 | e,f,w=>Q e f w
section
variable {P:Program} {n:Nat} {Q:Exit→Fr→World→Prop} {f:Fr} {w:World}
theorem W.mono {c:Code}{Q':Exit→Fr→World→Prop}(h:W P n c Q f w) (hq:∀e f w,Q e f w→Q' e f w):W P n c Q' f w :=
 λa ha=>wp_mono (h a ha) λ_ _ _ ⟨E,h1,h2,h3⟩=>⟨E,h1,h2,hq _ _ _ h3⟩
theorem W.keeps {c:Code}(h:W P n c Q f w):W P n c (λe E w'=>(∀t,wrs c t=false→E t=f t)∧Q e E w') f w :=
 λa ha=>wp_mono (h a ha) λ_ _ _ ⟨E,h1,h2,h3⟩=>⟨E,h1,h2,h2,h3⟩
theorem Qi (h:Q .normal f w):W P n .skip Q f w:=λ_ ha=>wp_skip ⟨f,ha,λ_ _=>O,h⟩
theorem Qz {i:Nat}(h:Q (.exit i) f w):W P n (.exit i) Q f w:=λ_ ha=>wp_exit ⟨f,ha,λ_ _=>O,h⟩
theorem Qn (h:Q .ret f w):W P n .ret Q f w:=λ_ ha=>wp_ret ⟨f,ha,λ_ _=>O,h⟩
theorem Qf {x y:Code}(h:W P n x (thn (λf w=>W P n y Q f w) Q) f w):W P n (.seq x y) Q f w:=by
 intro a ha;refine wp_seq (wp_mono (h a ha) ?_);rintro e G w' ⟨E,h1,h2,h3⟩;have k1:∀t,wrs (.seq x y) t=false→E t=f t:=λt ht=>h2 t (by simp only[wrs,Bool.or_eq_false_iff] at ht;exact ht.1);cases e with
 | normal =>
  refine wp_mono (h3 G h1) λ_ _ _ ⟨H,g1,I,J⟩=>⟨H,g1,λt ht=>(I t ?_).trans (k1 t ht),J⟩;simp only[wrs,Bool.or_eq_false_iff] at ht;exact ht.2
 | exit id=>exact ⟨E,h1,k1,h3⟩
 | goto l=>exact ⟨E,h1,k1,h3⟩
 | ret=>exact ⟨E,h1,k1,h3⟩
 | panic ch=>exact ⟨E,h1,k1,h3⟩
 | outgrown=>exact ⟨E,h1,k1,h3⟩
theorem QT {α:Type}{x y:Code}(D:List (Nat×Nat)) (S:α→List (Nat×Value)) (I:α→World→Prop) (hD:wr D x=true)
  (h1:W P n x (thn (λE w'=>∃z,XK E (S z)∧I z w') Q) f w)
  (h2:∀z g w',I z w'→W P n y Q (yy (S z) (mix D f g)) w'):W P n (.seq x y) Q f w:=by
 refine Qf (h1.keeps.mono ?_);rintro e E w' ⟨hk,hq⟩;cases e with
 | normal =>
  obtain ⟨z,hs,hi⟩:=hq;have h3:=h2 z E w' hi;rw[J8 (λt ht=>hk t (J0 ht x hD)),Y1 hs] at h3;exact h3
 | exit id=>exact hq
 | goto l=>exact hq
 | ret=>exact hq
 | panic ch=>exact hq
 | outgrown=>exact hq
theorem Q3 {c:Operand}{x y:Code}{t:Bool}(hc:ev f c=.bool t) (ht:t=true→W P n x Q f w) (E:t=false→W P n y Q f w) :
  W P n (.cond c x y) Q f w:=by
 intro a ha;have G:a.eval c=.bool t:=by rw[ha.eval];exact hc
 refine wp_cond_split G (λe=>wp_mono (ht e a ha) ?_) (λe=>wp_mono (E e a ha) ?_) <;>
  (rintro e I w' ⟨H,h1,h2,h3⟩
   refine ⟨H,h1,λt ht=>h2 t ?_,h3⟩;simp only[wrs,Bool.or_eq_false_iff] at ht
   first | exact ht.1 | exact ht.2)
theorem Q7 {c:Operand}{x y:Code}{p:Prop}[Decidable p] (hc:ev f c=.bool (decide p)) (ht:p→W P n x Q f w) (E:¬p→W P n y Q f w) :
  W P n (.cond c x y) Q f w :=
 Q3 hc (λe=>ht (of_decide_eq_true e)) (λe=>E (of_decide_eq_false e))
theorem QG {c:Operand}{x y:Code}{p:Prop}[Decidable p] (hc:ev f c=.bool (decide p)) (E:¬p→W P n y Q f w) (ht:p→W P n x Q f w) :
  W P n (.cond c x y) Q f w:=Q7 hc ht E
theorem zc {c:Operand}{x y:Code}(hc:ev f c=.bool true) (h:W P n x Q f w):W P n (.cond c x y) Q f w:=Q3 hc (λ_=>h) (λe=>by cases e)
theorem ZM {c:Operand}{x y:Code}(hc:ev f c=.bool false) (h:W P n y Q f w):W P n (.cond c x y) Q f w:=Q3 hc (λe=>by cases e) (λ_=>h)
theorem Qh {id:Nat}{c:Code}(h:W P n c (blk id Q) f w):W P n (.block id c) Q f w:=by
 intro a ha;refine wp_block (wp_mono (h a ha) ?_);rintro e G w' ⟨E,h1,h2,h3⟩;have k1:∀t,wrs (.block id c) t=false→E t=f t:=λt ht=>h2 t (by simpa[wrs] using ht);cases e with
 | exit i =>
  simp only[Exit.inBlock];simp only[blk] at h3;by_cases hi:i=id
  ·subst hi;simp only[Nat.beq_refl,cond_true] at h3;simp only[if_true];exact ⟨E,h1,k1,h3⟩
  have hb:Nat.beq i id=false:=by
   cases e:Nat.beq i id with
   | false=>rfl
   | true=>exact absurd (Nat.eq_of_beq_eq_true e) hi
  rw[hb] at h3;rw[if_neg hi];exact ⟨E,h1,k1,h3⟩
 | normal=>exact ⟨E,h1,k1,h3⟩
 | goto l=>exact ⟨E,h1,k1,h3⟩
 | ret=>exact ⟨E,h1,k1,h3⟩
 | panic ch=>exact ⟨E,h1,k1,h3⟩
 | outgrown=>exact ⟨E,h1,k1,h3⟩
theorem QA {α:Type}{c:Code}(D:List (Nat×Nat)) (S:α→List (Nat×Value)) (I:α→World→Prop) (m:α→Nat) (hD:wr D c=true) (z:α)
  (h0:XK f (S z)) (hI:I z w)
  (round:∀x g w',I x w'→W P n c (thn (λG Y=>∃J,m J<m x∧XK G (S J)∧I J Y) Q) (yy (S x) (mix D f g)) w'):W P n (.loop c) Q f w:=by
 intro a ha;refine wp_loop_ghost (λ(x:α) V w'=>∃G,jK n V G∧(∀t,wrs c t=false→G t=f t)∧XK G (S x)∧I x w') m z ⟨f,ha,λ_ _=>O,h0,hI⟩ ?_;rintro x V w' ⟨G,h1,h2,h3,h4⟩;have h5:=round x G w' h4;rw[J8 (λt ht=>h2 t (J0 ht c hD)),Y1 h3] at h5;refine wp_mono (h5 V h1) ?_;rintro e hb Y ⟨E,g1,g2,H⟩;have k1:∀t,wrs c t=false→E t=f t:=λt ht=>(g2 t ht).trans (h2 t ht)
 have k2:∀t,wrs (.loop c) t=false→E t=f t:=λt ht=>k1 t (by simpa[wrs] using ht);cases e with
 | normal=>obtain ⟨J,hm,hs,hi⟩:=H;exact ⟨J,hm,E,g1,k1,hs,hi⟩
 | exit id=>exact ⟨E,g1,k2,H⟩
 | goto l=>exact ⟨E,g1,k2,H⟩
 | ret=>exact ⟨E,g1,k2,H⟩
 | panic ch=>exact ⟨E,g1,k2,H⟩
 | outgrown=>exact ⟨E,g1,k2,H⟩
where
 wp_loop_ghost {α:Type} {P:Program} {c:Code} {Q:Exit→Act→World→Prop} {a:Act} {w:World} (J:α→Act→World→Prop) (m:α→Nat) (z:α) (h₀:J z a w)
   (round:∀x a w,J x a w→c.wp P (Exit.then (λa' w'=>∃x',m x'<m x∧J x' a' w') Q) a w):(Code.loop c).wp P Q a w:=by
  intro b k cs
  have key:∀i x a w,m x=i→J x a w →
    ∃e a' w',Q e a' w'∧Arrives P (lone (b.at a (.code c::.inLoop c::k)) cs w) b k cs e a' w':=by
   intro i
   induction i using Nat.strongRecOn with
   | _ i ih =>
    intro x a w hx hJ
    obtain ⟨e,a₁,w₁,hq,harr⟩:=round x a w hJ b (.inLoop c::k) cs
    cases e with
    | normal =>
     obtain ⟨x',hlt,hJ'⟩:=hq
     obtain ⟨e₂,a₂,w₂,hq₂,harr₂⟩:=ih (m x') (hx ▸ hlt) x' a₁ w₁ rfl hJ'
     exact ⟨e₂,a₂,w₂,hq₂,.of_steps (Steps.trans harr (.one step_inLoop)) harr₂⟩
    | exit id=>exact ⟨_,a₁,w₁,hq,.pass (x:=.inLoop c) rfl (λ_ _=>.inl (by simp)) harr⟩
    | goto l=>exact ⟨_,a₁,w₁,hq,.pass (x:=.inLoop c) rfl (λ_ _=>.inl (by simp)) harr⟩
    | ret=>exact ⟨_,a₁,w₁,hq,.pass (x:=.inLoop c) rfl (λ_ _=>.inl (by simp)) harr⟩
    | panic ch=>exact ⟨_,a₁,w₁,hq,.pass (x:=.inLoop c) rfl (λ_ _=>.inl (by simp)) harr⟩
    | outgrown=>exact ⟨_,a₁,w₁,hq,.pass (x:=.inLoop c) rfl (λ_ _=>.inl (by simp)) harr⟩
  obtain ⟨e,a',w',hq,harr⟩:=key _ z a w rfl h₀
  exact ⟨e,a',w',hq,.of_steps (.one step_loop) harr⟩
end
def upF (P:Program) (dst:Option Nat) (f:Fr) (K:Fr→World→Prop):Result Next→Prop
 | .ok (.value v) w'=>K (QV f dst v) w'
 | .ok .skip w'=>K (QV f dst undef) w'
 | .ok (.enter g args) w'=>Calls P g args w' λe E=>match e with | .returned v=>K (QV f dst v) E | _=>False
 | _=>False
def XO (P:Program) (o:Oper) (f:Fr) (w:World) (K:Fr→World→Prop):Prop:=upF P o.dst f K ((execOp (ev f) o).run P w)
def Yk (ops:List Oper) (f:Fr) (o:Oper):Bool:=match o.guard with
 | none=>true
 | some (j,want)=>match (ops[j]?).bind (·.dst) with
  | some d=>(match f d with | .bool b=>bif want then b else !b | _=>false)
  | none=>false
def XL (P:Program) (ops:List Oper) (K:Fr→World→Prop):List Oper→Fr→World→Prop
 | [],f,w=>K f w
 | o::l,f,w=>bif Yk ops f o then XO P o f w (XL P ops K l) else XL P ops K l (QV f o.dst undef) w
theorem VU {n:Nat}{l:List Oper}{a:Act}{f:Fr}(h:jK n a f) (H:∀o∈l,∀d,o.dst=some d→d<n) (o:Oper):Region.wanted o (yielded l.toArray a.tmps)=Yk l f o:=by
 unfold Region.wanted Yk;cases o.guard with
 | none=>rfl
 | some p =>
  obtain ⟨j,want⟩:=p;simp only[yielded,List.getElem?_toArray];cases I:(l[j]?) with
  | none=>simp
  | some o' =>
   cases hd:o'.dst with
   | none=>simp[hd]
   | some d =>
    have E:d<a.tmps.size:=by rw[h.size];exact H o' (Mf I) d hd
    have G:=h.get d;simp only[Option.bind_some,hd,Array.getElem?_eq_getElem E];simp[E] at G;rw[G];cases f d <;> simp
    cases want <;> simp
theorem QkA {P:Program}{n:Nat}{o:Oper}{a:Act}{f:Fr}{w:World}{K:Fr→World→Prop}{K':Act→World→Prop}{Q:Exit→Act→World→Prop}(h:jK n a f)
  (E:∀v w',K (QV f o.dst v) w'→K' (a.put o.dst v) w') (hx:XO P o f w K):o.wp P a w K' Q:=by
 unfold XO at hx;unfold Oper.wp;rw[h.eval];generalize (execOp (ev f) o).run P w=r at hx;cases r with
 | ok nx w' =>
  cases nx <;> simp only[upF] at hx <;> simp only[Oper.upon]
  case value v=>exact E v w' hx
  case skip=>exact E _ w' hx
  case enter g args =>
   refine Calls.mono hx λe G he=>?_;cases e with
   | returned v=>exact E v G he
   | panicked c=>exact he.elim
   | outgrown=>exact he.elim
 | halt x w'=>exact hx.elim
theorem XO.mono {P:Program}{o:Oper}{f:Fr}{w:World}{K K':Fr→World→Prop}(E:∀v w',K (QV f o.dst v) w'→K' (QV f o.dst v) w') (hx:XO P o f w K):XO P o f w K':=by
 unfold XO at *;generalize (execOp (ev f) o).run P w=r at *;cases r with
 | ok nx w' =>
  cases nx <;> simp only[upF] at hx ⊢
  case value v=>exact E v w' hx
  case skip=>exact E _ w' hx
  case enter g args =>
   refine Calls.mono hx λe G he=>?_;cases e with
   | returned v=>exact E v G he
   | panicked c=>exact he.elim
   | outgrown=>exact he.elim
 | halt x w'=>exact hx.elim
def X7 (n:Nat) (l:List Oper):Bool:=l.all λo=>match o.dst with | some d=>Nat.blt d n | none=>true
theorem YP {n:Nat}{l:List Oper}(h:X7 n l=true):∀o∈l,∀d,o.dst=some d→d<n:=by
 intro o E d hd;have:=Mk.1 h o E;simp only[hd,Nat.blt_eq] at this;exact this
theorem Xy {l:List Oper}{o:Oper}(E:o∈l) {t:Nat}(h:ZK l t=false):o.dst≠some t:=by
 intro e;have:=M7.1 h o E;simp[e] at this
theorem Y2 {f:Fr}{dst:Option Nat}{t:Nat}(h:dst≠some t) (v:Value):QV f dst v t=f t:=by
 cases dst with
 | none=>rfl
 | some d=>exact Jc _ _ (λe=>h (by rw[e]))
section
variable {P:Program} {n:Nat} {Q:Exit→Fr→World→Prop} {f:Fr} {w:World}
theorem QkB {all:List Oper}(G:∀o∈all,∀d,o.dst=some d→d<n) (f0:Fr) :
  ∀(l:List Oper) (k:Nat) (a:Act) (f:Fr) (w:World),(∀j,l[j]?=all[k+j]?)→jK n a f→(∀t,ZK all t=false→f t=f0 t) →
   XL P all (λf w=>Q .normal f w) l f w →
   wpOps P all.toArray (λe S w'=>∃f',jK n S f'∧(∀t,ZK all t=false→f' t=f0 t)∧Q e f' w') (List.range' k l.length) a w
 | [],_,a,f,w,_,E,hk,h=>⟨f,E,hk,h⟩
 | o::l,k,a,f,w,hl,E,hk,h=>by
  have I:all[k]?=some o:=by simpa using (hl 0).symm
  have H:o∈all:=Mf I;have ih:=λa f w=>QkB G f0 l (k+1) a f w (λj=>by have:=hl (j+1);simpa[Nat.add_assoc,Nat.add_comm 1 j] using this);have next:∀v,(∀t,ZK all t=false→QV f o.dst v t=f0 t):=λv t ht=>(Y2 (Xy H ht) v).trans (hk t ht);simp only[List.length_cons,List.range'_succ,wpOps,List.getElem?_toArray,I];rw[VU E G o];simp only[XL] at h;cases J:Yk all f o with
  | false =>
   rw[J] at h;exact ih _ _ _ (E.put (G o H) _) (next _) h
  | true =>
   rw[J] at h;exact .inl (QkA E (λv w' hx=>ih _ _ _ (E.put (G o H) v) (next v) hx) h)
theorem Qa2 {id:Nat}{l:List Oper}(E:X7 n l=true) (h:XL P l (λf w=>Q .normal f w) l f w):W P n (.region id l.toArray false) Q f w:=by
 intro a ha;refine wp_region ?_;have:=QkB (YP E) f l 0 a f w (by simp) ha (λ_ _=>rfl) h;simpa[List.range_eq_range',wrs] using this
end
def zl (o:Oper):Bool:=match o.op with
 | .move _ | .assign _ | .pick .. | .alloc _ | .box .. | .build .. | .buildSlice .. | .store .. | .nilCheck _ | .binOp .. | .unOp .. | .makeFunc .. | .makeMap .. | .makeSlice .. | .fieldAddr .. | .field .. | .indexAddr .. | .index .. | .extract .. | .insert .. | .mapUpdate ..=>false
 | .slice ..=>false
 | .call ⟨.builtin .append,_,_⟩=>false
 | .call ⟨.builtin .min,_,_⟩=>false
 | .call ⟨.builtin .max,_,_⟩=>false
 | .call ⟨.value _,_,_⟩=>false
 | _=>true
def Vv (all:List Oper) (j:Nat):Bool:=match all[j]? with
 | none=>false
 | some o=>(List.range all.length).all λi=>match all[i]? with
  | none=>true
  | some oi=>!zl oi || i == j || o.after.any λe=>Region.binds .any e && e.on == i
def XA (P:Program) (all:List Oper) (C:World→Prop) (K:Fr→World→Prop):Nat→Array Bool→Fr→World→Prop
 | 0,ls,f,w=>Region.ready .any all.toArray ls=[]∧K f w
 | k+1,ls,f,w=>(Region.ready .any all.toArray ls=[]→K f w) ∧
  ∀i∈Region.ready .any all.toArray ls,∀o,all[i]?=some o →
   bif Yk all f o then XO P o f w (λE w'=>(Vv all i=true∨w'=w∨C w')∧XA P all C K k (ls.setIfInBounds i true) E w') else XA P all C K k (ls.setIfInBounds i true) (QV f o.dst undef) w
section
variable {P:Program} {n:Nat} {f:Fr} {w:World} {all:List Oper} {C:World→Prop} {K:Fr→World→Prop}
theorem QdS {Q:Exit→Act→World→Prop}(G:∀o∈all,∀d,o.dst=some d→d<n) (f0:Fr)
  (H:∀a f w,jK n a f→(∀t,ZK all t=false→f t=f0 t)→K f w→Q .normal a w) :
  ∀(k:Nat) (ls:Array Bool) (a:Act) (f:Fr) (w:World),jK n a f→(∀t,ZK all t=false→f t=f0 t)→XA P all C K k ls f w→wpAny P .any all.toArray Q k ls a w
 | 0,_,a,f,w,E,hk,h=>⟨h.1,H a f w E hk h.2⟩
 | k+1,ls,a,f,w,E,hk,h=>by
  refine ⟨λV=>H a f w E hk (h.1 V),λi hi=>?_⟩;unfold wpOp;simp only[List.getElem?_toArray];cases I:all[i]? with
  | none =>
   exfalso;obtain ⟨_,o,Y,_⟩:=mem_ready.1 hi;simp[I] at Y
  | some o =>
   have J:o∈all:=Mf I;have h1:=h.2 i hi o I;have next:∀v,(∀t,ZK all t=false→QV f o.dst v t=f0 t):=λv t ht=>(Y2 (Xy J ht) v).trans (hk t ht);simp only[];rw[VU E G o];cases S:Yk all f o with
   | false =>
    rw[S] at h1;exact QdS G f0 H k _ _ _ _ (E.put (G o J) _) (next _) h1
   | true =>
    rw[S] at h1;exact .inl (QkA E (λv w' hx=>QdS G f0 H k _ _ _ _ (E.put (G o J) v) (next v) hx.2) h1)
theorem Ks (f:Fr) {x y:Option Nat}(v u:Value) (h:∀d,x=some d→y≠some d):QV (QV f x v) y u=QV (QV f y u) x v:=by
 cases x with
 | none=>rfl
 | some d =>
  cases y with
  | none=>rfl
  | some e =>
   have E:d≠e:=λhe=>h d O (he ▸ O);funext t;simp only[QV];by_cases h1:t=d
   ·subst h1;rw[Jc _ _ E,YL,YL]
   by_cases h2:t=e
   ·subst h2;rw[YL,Jc _ _ h1,YL]
   rw[Jc _ _ h2,Jc _ _ h1,Jc _ _ h1,Jc _ _ h2]
theorem QjL {f:Fr}{dst:Option Nat}{v:Value}{x:Operand}(h:∀d,dst=some d→x≠.tmp d):ev (QV f dst v) x=ev f x:=by
 cases dst with
 | none=>rfl
 | some d =>
  cases x with
  | tmp t=>exact Jc _ _ (λe=>h d O (by rw[e]))
  | _=>rfl
theorem Xf {o:Oper}(hs:∀cs b,o.op≠.select cs b) (f:Fr) (dst:Option Nat) (v:Value) (h:∀d,dst=some d→d∉o.looksAt all.toArray) :
  execOp (ev (QV f dst v)) o=execOp (ev f) o :=
 execOp_congr o hs λx hx=>QjL λd hd E=>h d hd (by
  subst E;exact Lz _ (My.2 ⟨.tmp d,by simpa using hx,rfl⟩))
theorem Jq (o:Oper) (f:Fr) (dst:Option Nat) (v:Value) (h:∀d,dst=some d→d∉o.looksAt all.toArray):Yk all (QV f dst v) o=Yk all f o:=by
 unfold Yk;cases E:o.guard with
 | none=>rfl
 | some gw =>
  obtain ⟨g,want⟩:=gw;simp only[];cases ht:(all[g]?).bind (·.dst) with
  | none=>rfl
  | some t =>
   have G:dst≠some t:=λe=>h t e (by simp[Oper.looksAt,E,ht]);simp only[];rw[Y2 G]
def QdT (P:Program) (all:List Oper) (D:World→Prop) (o:Oper) (v:Value) (f:Fr):Prop :=
 (Yk all f o=true∧∀w,D w→(execOp (ev f) o).run P w=.ok (.value v) w)∨(Yk all f o=false∧v=undef)
theorem Qjj {i j:Nat}{oi oj:Oper}(hi:all[i]?=some oi) (E:all[j]?=some oj) (G:zl oi=true) (H:j≠i) (hl:Vv all j=true) (I:∀e∈oj.after,Region.binds .any e=true→e.on≠i):False:=by
 simp only[Vv,E,List.all_eq_true,List.mem_range] at hl;have J:i<all.length:=(L4.1 hi).1;have h1:=hl i J;simp only[hi,G,Bool.not_true,Bool.false_or,Bool.or_eq_true,beq_iff_eq,Array.any_eq_true',Bool.and_eq_true] at h1;rcases h1 with h1 | ⟨e,he,hb,S⟩
 ·exact H h1.symm
 exact I e he hb S
theorem Xg {i:Nat}{oi:Oper}{v:Value}{D:World→Prop}(hi:all[i]?=some oi) (hD:∀w,(zl oi=true→C w)→D w) (Y:∀(j:Nat) (o:Oper) cs b,all[j]?=some o→o.op≠.select cs b) :
  ∀(fuel:Nat) (ls:Array Bool) (f:Fr) (w:World),(zl oi=true→C w) →
   (∀j oj,all[j]?=some oj→j≠i→ls.getD j true=false→(∀e∈oj.after,Region.binds .any e=true→e.on≠i)→oi.apart all.toArray oj=true) →
   i∈Region.ready .any all.toArray ls→QdT P all D oi v f →
   XA P all C K fuel (ls.setIfInBounds i true) (QV f oi.dst v) w→XA P all C K (fuel+1) ls f w:=by
 have ha:∀(fuel:Nat) (ls:Array Bool) (f:Fr) (w:World),(zl oi=true→C w)→QdT P all D oi v f→XA P all C K fuel (ls.setIfInBounds i true) (QV f oi.dst v) w→∀o,all[i]?=some o →
   bif Yk all f o then XO P o f w (λf' w'=>(Vv all i=true∨w'=w∨C w')∧XA P all C K fuel (ls.setIfInBounds i true) f' w') else XA P all C K fuel (ls.setIfInBounds i true) (QV f o.dst undef) w:=by
  intro fuel ls f w hC hy H o ho;rw[hi] at ho;cases ho
  rcases hy with ⟨J,hv⟩ | ⟨J,rfl⟩
  ·rw[J];simp only[cond_true,XO,hv w (hD w hC),upF];exact ⟨.inr (.inl U),H⟩
  rw[J];exact H
 intro fuel;induction fuel with
 | zero =>
  intro ls f w hC _ I hy H;refine ⟨λh=>(by rw[h] at I;cases I),λj V=>?_⟩;by_cases G:j=i
  ·subst G;exact ha _ _ _ _ hC hy H
  have:=ready_mono V G;rw[H.1] at this;cases this
 | succ fuel ih =>
  intro ls f w hC hc I hy H;refine ⟨λh=>(by rw[h] at I;cases I),λj V=>?_⟩;by_cases G:j=i
  ·subst G;exact ha _ _ _ _ hC hy H
  intro oj S;have h1:=H.2 j (ready_mono V G) oj S;obtain ⟨hf,E,hh,ht⟩:=mem_ready.1 V;have hu:E=oj:=by rw[L6,S] at hh;exact (Option.some.inj hh).symm
  subst hu;have hm:∀e∈E.after,Region.binds .any e=true→e.on≠i:=λe he hb hw=>by
   have h1:=ht e he hb;have h0:=(mem_ready.1 I).1;rw[hw] at h1;rcases Nat.lt_or_ge i ls.size with h' | h'
   ·simp[h'] at h0 h1;rw[h0] at h1;cases h1
   simp[Array.getElem?_eq_none h'] at h1
  obtain ⟨a1,a2,a3⟩:=Oper.apart_spec (hc j E S G hf hm);have hz:∀k ok,all[k]?=some ok→k≠i→(ls.setIfInBounds j true).getD k true=false →
    (∀e∈ok.after,Region.binds .any e=true→e.on≠i)→oi.apart all.toArray ok=true:=λk ok hk h2 hn h3=>by
   refine hc k ok hk h2 ?_ h3;by_cases hp:j=k
   ·subst hp;exact hf
   rw[getD_set_ne true hp] at hn;exact hn
  have keep:∀u,QdT P all D oi v (QV f E.dst u):=λu=>by
   unfold QdT at *;rw[Jq oi f E.dst u a3,Xf (all:=all) (Y i oi · · hi) f E.dst u a3];exact hy
  have dOf:∀w',(Vv all j=true∨w'=w∨C w')→(zl oi=true→C w'):=λw' hl hq=>by
   rcases hl with hl | rfl | hl
   ·exact (Qjj hi S hq G hl hm).elim
   ·exact hC hq
   exact hl
  have go:∀u w',(zl oi=true→C w')→XA P all C K fuel ((ls.setIfInBounds i true).setIfInBounds j true) (QV (QV f oi.dst v) E.dst u) w' →
    XA P all C K (fuel+1) (ls.setIfInBounds j true) (QV f E.dst u) w':=λu w' h4 hx=>by
   refine ih _ _ _ h4 hz (ready_mono I (Ne.symm G)) (keep u) ?_;rw[Array.setIfInBounds_comm _ _ G,←Ks f v u a2];exact hx
  rw[Jq E f oi.dst v a1] at h1;cases J:Yk all f E with
  | false=>rw[J] at h1;exact go _ _ hC h1
  | true =>
   rw[J] at h1;simp only[cond_true] at h1 ⊢;unfold XO at *;rw[Xf (all:=all) (Y j E · · S) f oi.dst v a1] at h1;generalize (execOp (ev f) E).run P w=r at *;cases r with
   | ok nx w' =>
    cases nx <;> simp only[upF] at h1 ⊢
    case value u=>exact ⟨h1.1,go _ _ (dOf _ h1.1) h1.2⟩
    case skip=>exact ⟨h1.1,go _ _ (dOf _ h1.1) h1.2⟩
    case enter g args =>
     refine Calls.mono h1 λe h5 he=>?_;cases e with
     | returned u=>exact ⟨he.1,go _ _ (dOf _ he.1) he.2⟩
     | panicked c=>exact he.elim
     | outgrown=>exact he.elim
   | halt x w'=>exact h1.elim
def Xk (all:Array Oper):List (Nat×Bool)→Array Bool→Bool
 | [],ls=>(Region.ready .any all ls).isEmpty
 | (i,true)::pl,ls=>(Region.ready .any all ls).contains i && Region.free .any all ls i && Xk all pl (ls.setIfInBounds i true)
 | (i,false)::pl,ls=>Region.ready .any all ls == [i] && Xk all pl (ls.setIfInBounds i true)
def yT (all:List Oper) (pl:List (Nat×Bool)):Bool:=Region.noSelect all.toArray && pl.length == all.length && Xk all.toArray pl (Array.replicate all.length false)
def Q6:List Oper→Nat→Oper
 | [],_=>default
 | o::_,0=>o
 | _::l,i+1=>Q6 l i
theorem Zp {l:List Oper}{i:Nat}{o:Oper}(h:l[i]?=some o):Q6 l i=o:=by
 induction l generalizing i with
 | nil=>simp at h
 | cons a l ih=>cases i with
  | zero=>simp at h;subst h;rfl
  | succ i=>exact ih (by simpa using h)
def XP (P:Program) (all:List Oper) (C:World→Prop) (K:Fr→World→Prop):List (Nat×Bool)→Fr→World→Prop
 | [],f,w=>K f w
 | (i,q)::pl,f,w=>bif Yk all f (Q6 all i) then
    (bif q then ∃v,(∀w',(zl (Q6 all i)=true→C w')→(execOp (ev f) (Q6 all i)).run P w'=.ok (.value v) w')∧XP P all C K pl (QV f (Q6 all i).dst v) w
     else XO P (Q6 all i) f w λE w'=>(Vv all i=true∨w'=w∨C w')∧XP P all C K pl E w')
   else XP P all C K pl (QV f (Q6 all i).dst undef) w
def Qa0 (all:List Oper) (ls:Array Bool):Prop:=∀i o,all[i]?=some o→zl o=true→ls.getD i false=true
theorem Qa0.set {ls:Array Bool}(h:Qa0 all ls) (i:Nat):Qa0 all (ls.setIfInBounds i true):=λj o E G=>getD_set_true (h j o E G)
theorem ZD (hs:Region.noSelect all.toArray=true):∀(pl:List (Nat×Bool)) (ls:Array Bool) (f:Fr) (w:World),ls.size=all.length→(C w∨Qa0 all ls)→Xk all.toArray pl ls=true→XP P all C K pl f w →
  XA P all C K pl.length ls f w
 | [],ls,f,w,_,_,hp,h=>⟨by simpa[Xk] using hp,h⟩
 | (i,true)::pl,ls,f,w,J,hC,hp,h=>by
  simp only[Xk,Bool.and_eq_true] at hp;obtain ⟨⟨H,hf⟩,S⟩:=hp;simp only[XP] at h;have I:i∈Region.ready .any all.toArray ls:=by simpa using H
  cases E:all[i]? with
  | none =>
   exfalso;obtain ⟨_,o,h2,_⟩:=mem_ready.1 I;simp[E] at h2
  | some o =>
   rw[Zp E] at h;have hn:∀(j:Nat) (o:Oper) cs b,all[j]?=some o→o.op≠.select cs b:=λj o cs b V=>Region.noSelect_spec hs j o cs b (by simpa using V);have hq:=λj oj V=>Region.free_spec (ops:=all.toArray) (md:=.any) (i:=i) (oi:=o) (listed:=ls) (by simpa using E) hf j oj (by simpa using V);have ht:=(mem_ready.1 I).1;have hu:zl o=true→C w:=λha=>hC.resolve_right (λhh=>by
    have h1:=hh i o E ha;have hm:i<ls.size:=by rw[J];exact (L4.1 E).1
    simp[hm] at ht h1;rw[ht] at h1;cases h1)
   have hw:C w∨Qa0 all (ls.setIfInBounds i true):=hC.imp id (λh=>h.set i);have Y:(ls.setIfInBounds i true).size=all.length:=by simpa using J
   cases G:Yk all f o with
   | false =>
    rw[G] at h;exact Xg (v:=undef) (D:=λw=>zl o=true→C w) E (λ_ h=>h) hn pl.length ls f w hu hq I (.inr ⟨G,O⟩) (ZD hs pl _ _ _ Y hw S h)
   | true =>
    rw[G] at h;simp only[cond_true] at h;obtain ⟨v,hv,hx⟩:=h;exact Xg (v:=v) (D:=λw=>zl o=true→C w) E (λ_ h=>h) hn pl.length ls f w hu hq I (.inl ⟨G,hv⟩) (ZD hs pl _ _ _ Y hw S hx)
 | (i,false)::pl,ls,f,w,J,hC,hp,h=>by
  simp only[Xk,Bool.and_eq_true,beq_iff_eq] at hp;obtain ⟨H,S⟩:=hp;refine ⟨λh0=>(by rw[h0] at H;cases H),?_⟩;have I:i∈Region.ready .any all.toArray ls:=by rw[H];simp
  rw[H];intro j V o E;have:j=i:=by simpa using V
  subst this;have Y:(ls.setIfInBounds j true).size=all.length:=by simpa using J
  simp only[XP,Zp E] at h;cases G:Yk all f o with
  | false=>rw[G] at h;exact ZD hs pl _ _ _ Y (hC.imp id (λh=>h.set j)) S h
  | true =>
   rw[G] at h;simp only[cond_true,cond_false] at h ⊢;refine h.mono λv w' hx=>⟨hx.1,ZD hs pl _ _ _ Y ?_ S hx.2⟩;rcases hx.1 with hl | rfl | hc
   ·right;intro k ok hk ha;by_cases hy:k=j
    ·subst hy;have hm:k<ls.size:=by rw[J];exact (L4.1 hk).1
     simp[hm]
    simp only[Vv,E,List.all_eq_true,List.mem_range] at hl;have h1:=hl k (L4.1 hk).1;simp only[hk,ha,Bool.not_true,Bool.false_or,Bool.or_eq_true,beq_iff_eq,Array.any_eq_true',Bool.and_eq_true] at h1;rcases h1 with h1 | ⟨e,he,hb,h3⟩
    ·exact absurd h1 hy
    obtain ⟨_,o',hz,hh⟩:=mem_ready.1 I;have:o'=o:=by rw[L6,E] at hz;exact (Option.some.inj hz).symm
    subst this;have:=hh e he hb;rw[h3] at this;exact getD_set_true this
   ·exact hC.imp id (λh=>h.set j)
   exact .inl hc
theorem QW {Q:Exit→Fr→World→Prop}{id:Nat}(C:World→Prop) (pl:List (Nat×Bool)) (hm:P.follows .mixedOrders=true) (G:X7 n all=true) (hp:yT all pl=true)
  (hC:C { w with drawn:=w.drawn+1 }) (h:XP P all C (λf w=>Q .normal f w) pl f { w with drawn:=w.drawn+1 }):W P n (.region id all.toArray true) Q f w:=by
 intro a ha;simp only[yT,Bool.and_eq_true,beq_iff_eq] at hp;obtain ⟨⟨hs,hl⟩,hp⟩:=hp;refine wp_region_any hm ?_;have h1:=ZD hs pl _ _ _ (by simp) (.inl hC) hp h;rw[hl] at h1;have h2:=QdS (n:=n) (Q:=λe H w'=>∃E,jK n H E∧(∀t,ZK all t=false→E t=f t)∧Q e E w') (YP G) f
  (λa E w I hk hq=>⟨E,I,hk,hq⟩) _ _ a f _ ha (λ_ _=>O) h1
 simpa[wrs] using h2
theorem K6 {Q:Exit→Fr→World→Prop}{id:Nat}(C:World→Prop) (hm:P.follows .mixedOrders=true) (G:X7 n all=true)
  (h:XA P all C (λf w=>Q .normal f w) all.length (Array.replicate all.length false) f { w with drawn:=w.drawn+1 }):W P n (.region id all.toArray true) Q f w:=by
 intro a ha;refine wp_region_any hm ?_;have h2:=QdS (n:=n) (Q:=λe H w'=>∃E,jK n H E∧(∀t,ZK all t=false→E t=f t)∧Q e E w') (YP G) f
  (λa E w I hk hq=>⟨E,I,hk,hq⟩) _ _ a f _ ha (λ_ _=>O) h
 simpa[wrs] using h2
end
theorem JM {P:Program}{all:List Oper}{C:World→Prop}{K:Fr→World→Prop}{k:Nat}{ls:Array Bool}{f:Fr}{w:World}(E:Region.ready .any all.toArray ls=[]→K f w)
  (h:∀i∈Region.ready .any all.toArray ls,∀o,all[i]?=some o →
   bif Yk all f o then XO P o f w (λG w'=>(Vv all i=true∨w'=w∨C w')∧XA P all C K k (ls.setIfInBounds i true) G w') else XA P all C K k (ls.setIfInBounds i true) (QV f o.dst undef) w):XA P all C K (k+1) ls f w:=⟨E,h⟩
attribute [irreducible] W XL XP XO XA
class Sl (P:Program) (t:Nat) (e sz bys:outParam Nat) (z:outParam Value):Prop where
 u:P.underlying t=some (.slice e)
 i:(P.info? e).map (λi=>(i.zero,i.size,i.bytes))=some (some z,sz,bys)
 zs:z.cells.size=sz
 pos:0<sz
def QmZ (P:Program) (t j:Nat):Option Nat:=match P.underlying t with
 | some (.struct fs)=>match fs[j]? with
  | some fd=>match P.info? fd.type with
   | some i=>if i.size=0 then none else some fd.offset
   | none=>none
  | none=>none
 | _=>none
class Zd (P:Program) (t j:Nat) (off:outParam Nat):Prop where
 h:QmZ P t j=some off
class X9 (P:Program) (t:Nat):Prop where
 u:∃d,P.underlying t=some d∧(match d with | .struct _ | .array ..=>false | _=>true)=true
 i:(P.info? t).map (·.size)=some 1
class Ag (P:Program) (t:Nat) (sz:outParam Nat):Prop where
 u:∃d,P.underlying t=some d∧(match d with | .struct _ | .array ..=>true | _=>false)=true
 i:(P.info? t).map (·.size)=some sz
class Ze (P:Program) (t:Nat) (z:outParam Value):Prop where
 i:(P.info? t).map (·.zero)=some (some z)
class Fu (P:Program) (g:Nat) (fn:outParam Func):Prop where
 f:P.funcs[g]?=some fn
 b:fn.body.isNone=false
 nm:(fn.name == "runtime.NumGoroutine")=false
section
variable {P:Program} {ops:List Oper} {K:Fr→World→Prop} {f:Fr} {w:World}
theorem xe (h:K f w):XL P ops K [] f w:=by simp only[XL];exact h
theorem xl {o:Oper}{l:List Oper}(E:Yk ops f o=true) (h:XO P o f w (XL P ops K l)):XL P ops K (o::l) f w:=by
 simp only[XL,E,cond_true];exact h
theorem xs {o:Oper}{l:List Oper}(E:Yk ops f o=false) (h:XL P ops K l (QV f o.dst undef) w):XL P ops K (o::l) f w:=by
 simp only[XL,E,cond_false];exact h
theorem xv {o:Oper}{v:Value}{w':World}(E:(execOp (ev f) o).run P w=.ok (.value v) w') (h:K (QV f o.dst v) w'):XO P o f w K:=by
 simp only[XO,E,upF];exact h
theorem xk {o:Oper}{w':World}(E:(execOp (ev f) o).run P w=.ok .skip w') (h:K (QV f o.dst undef) w'):XO P o f w K:=by
 simp only[XO,E,upF];exact h
theorem x {o:Oper}{l:List Oper}{v:Value}(E:(execOp (ev f) o).run P w=.ok (.value v) w) (h:XL P ops K l (QV f o.dst v) w) (G:Yk ops f o=true:=by rfl):XL P ops K (o::l) f w :=
 xl G (xv E h)
theorem xb {o:Oper}{l:List Oper}{q:Prop}[Decidable q] (E:(execOp (ev f) o).run P w=.ok (.value (.bool (decide q))) w) (ht:q→XL P ops K l (QV f o.dst (.bool true)) w) (H:¬q→XL P ops K l (QV f o.dst (.bool false)) w)
  (G:Yk ops f o=true:=by rfl):XL P ops K (o::l) f w:=by
 by_cases h:q
 ·rw[decide_eq_true h] at E;exact x E (ht h) G
 rw[decide_eq_false h] at E;exact x E (H h) G
variable {C:World→Prop}
theorem pe (h:K f w):XP P ops C K [] f w:=by simp only[XP];exact h
theorem pq {i:Nat}{pl:List (Nat×Bool)}{v:Value}(E:∀w',C w'→(execOp (ev f) (Q6 ops i)).run P w'=.ok (.value v) w') (h:XP P ops C K pl (QV f (Q6 ops i).dst v) w)
  (hd:zl (Q6 ops i)=true:=by rfl) (G:Yk ops f (Q6 ops i)=true:=by rfl):XP P ops C K ((i,true)::pl) f w:=by
 simp only[XP,G,cond_true];exact ⟨v,λw' hc=>E w' (hc hd),h⟩
theorem p {i:Nat}{pl:List (Nat×Bool)}{v:Value}(E:∀w',(execOp (ev f) (Q6 ops i)).run P w'=.ok (.value v) w') (h:XP P ops C K pl (QV f (Q6 ops i).dst v) w)
  (G:Yk ops f (Q6 ops i)=true:=by rfl):XP P ops C K ((i,true)::pl) f w:=by
 simp only[XP,G,cond_true];exact ⟨v,λw' _=>E w',h⟩
theorem ps {i:Nat}{q:Bool}{pl:List (Nat×Bool)}(h:XP P ops C K pl (QV f (Q6 ops i).dst undef) w)
  (E:Yk ops f (Q6 ops i)=false:=by rfl):XP P ops C K ((i,q)::pl) f w:=by
 simp only[XP,E,cond_false];exact h
theorem pb {i:Nat}{pl:List (Nat×Bool)}{q:Prop}[Decidable q] (E:∀w',(execOp (ev f) (Q6 ops i)).run P w'=.ok (.value (.bool (decide q))) w') (ht:q→XP P ops C K pl (QV f (Q6 ops i).dst (.bool true)) w) (H:¬q→XP P ops C K pl (QV f (Q6 ops i).dst (.bool false)) w)
  (G:Yk ops f (Q6 ops i)=true:=by rfl):XP P ops C K ((i,true)::pl) f w:=by
 by_cases h:q
 ·rw[decide_eq_true h] at E;exact p E (ht h) G
 rw[decide_eq_false h] at E;exact p E (H h) G
theorem pk {i:Nat}{pl:List (Nat×Bool)}(h:XO P (Q6 ops i) f w λE w'=>C w'∧XP P ops C K pl E w')
  (G:Yk ops f (Q6 ops i)=true:=by rfl):XP P ops C K ((i,false)::pl) f w:=by
 simp only[XP,G,cond_true,cond_false];exact h.mono λ_ _ hx=>⟨.inr (.inr hx.1),hx.2⟩
theorem pkl {i:Nat}{pl:List (Nat×Bool)}(h:XO P (Q6 ops i) f w λE w'=>XP P ops C K pl E w')
  (hl:Vv ops i=true:=by rfl) (G:Yk ops f (Q6 ops i)=true:=by rfl):XP P ops C K ((i,false)::pl) f w:=by
 simp only[XP,G,cond_true,cond_false];exact h.mono λ_ _ hx=>⟨.inl hl,hx⟩
end
section
variable {P:Program} {f:Fr} {w:World} {d:Option Nat} {ty:Nat} {ps:String} {af:Array Edge} {gd:Option (Nat×Bool)}
theorem Qp {x:Operand}:(execOp (ev f) ⟨d,.move x,ty,ps,af,gd⟩).run P w=.ok (.value (ev f x)) w:=by simp[execOp]
theorem Qg {x:Operand}:(execOp (ev f) ⟨d,.assign x,ty,ps,af,gd⟩).run P w=.ok (.value (ev f x)) w:=by simp[execOp]
theorem Ql {c a b:Operand}{t:Bool}(h:ev f c=.bool t):(execOp (ev f) ⟨d,.pick c a b,ty,ps,af,gd⟩).run P w=.ok (.value (bif t then ev f a else ev f b)) w:=by
 cases t <;> simp[execOp,h,asBool]
theorem Qk {x:Operand}{j:Nat}{vs:LV}{v:Value}(h:ev f x=.tuple vs.toArray) (E:vs[j]?=some v):(execOp (ev f) ⟨d,.extract x j,ty,ps,af,gd⟩).run P w=.ok (.value v) w:=by
 simp[execOp,h,Instr.extract,E]
theorem QaC {op:BinOp}{t:TypeId}{x y:Operand}{k k':IntKind}{a b:Int}:(eqGuard op t x y (.int k a) (.int k' b)).run P w=.ok () w:=by
 simp only[eqGuard];split <;> simp
theorem Xb {op:BinOp}{t E:Nat}{x y:Operand}{k k':IntKind}{a b:Int}{v:Value}(hx:ev f x=.int k a) (hy:ev f y=.int k' b)
  (h:(binOp op t (.int k a) (.int k' b)).run P w=.ok v w):(execOp (ev f) ⟨d,.binOp op t x y E,ty,ps,af,gd⟩).run P w=.ok (.value v) w:=by
 simp[execOp,hx,hy,QaC,h]
def inK (k:IntKind) (n:Int):Prop:=match k with
 | .i64=>-9223372036854775808≤n∧n≤9223372036854775807
 | .u8=>0≤n∧n≤255
 | .u16=>0≤n∧n≤65535
 | .u32=>0≤n∧n≤4294967295
 | .u64=>0≤n∧n≤18446744073709551615
 | .i32=>-2147483648≤n∧n≤2147483647
 | _=>False
theorem Yl {k:IntKind}{n:Int}(h:inK k n):k.wrap n=n:=by
 cases k <;> simp only[inK] at h <;> simp only[IntKind.wrap,IntKind.bits,IntKind.signed] <;> first | exact h.elim | (simp;omega)
theorem Jk {t E:Nat}{x y:Operand}{k:IntKind}{a b:Int}(hx:ev f x=.int k a) (hy:ev f y=.int k b) (h:inK k (a+b)) :
  (execOp (ev f) ⟨d,.binOp .add t x y E,ty,ps,af,gd⟩).run P w=.ok (.value (.int k (a+b))) w:=Xb hx hy (by simp[binOp,Op.intArith,Yl h])
theorem JR {t E:Nat}{x y:Operand}{k:IntKind}{a b:Int}(hx:ev f x=.int k a) (hy:ev f y=.int k b) (h:inK k (a - b)) :
  (execOp (ev f) ⟨d,.binOp .sub t x y E,ty,ps,af,gd⟩).run P w=.ok (.value (.int k (a - b))) w:=Xb hx hy (by simp[binOp,Op.intArith,Yl h])
theorem QfS {t E:Nat}{x y:Operand}{k:IntKind}{a b:Int}(hx:ev f x=.int k a) (hy:ev f y=.int k b) (h:inK k (a*b)) :
  (execOp (ev f) ⟨d,.binOp .mul t x y E,ty,ps,af,gd⟩).run P w=.ok (.value (.int k (a*b))) w:=Xb hx hy (by simp[binOp,Op.intArith,Yl h])
theorem QB {t E:Nat}{x y:Operand}{k:IntKind}{a b:Int}(hx:ev f x=.int k a) (hy:ev f y=.int k b) :
  (execOp (ev f) ⟨d,.binOp .lss t x y E,ty,ps,af,gd⟩).run P w=.ok (.value (.bool (decide (a<b)))) w:=Xb hx hy (by simp[binOp,Op.intCmp])
theorem X3 {t E:Nat}{x y:Operand}{k:IntKind}{a b:Int}(hx:ev f x=.int k a) (hy:ev f y=.int k b) :
  (execOp (ev f) ⟨d,.binOp .leq t x y E,ty,ps,af,gd⟩).run P w=.ok (.value (.bool (decide (a≤b)))) w:=Xb hx hy (by simp[binOp,Op.intCmp])
theorem ZR {t E:Nat}{x y:Operand}{k:IntKind}{a b:Int}(hx:ev f x=.int k a) (hy:ev f y=.int k b) :
  (execOp (ev f) ⟨d,.binOp .gtr t x y E,ty,ps,af,gd⟩).run P w=.ok (.value (.bool (decide (b<a)))) w:=Xb hx hy (by simp[binOp,Op.intCmp])
theorem ZV {t E:Nat}{x y:Operand}{k:IntKind}{a b:Int}(hx:ev f x=.int k a) (hy:ev f y=.int k b) :
  (execOp (ev f) ⟨d,.binOp .geq t x y E,ty,ps,af,gd⟩).run P w=.ok (.value (.bool (decide (b≤a)))) w:=Xb hx hy (by simp[binOp,Op.intCmp])
theorem Q4 {t E:Nat}{x y:Operand}{k:IntKind}{a b:Int}(hx:ev f x=.int k a) (hy:ev f y=.int k b) :
  (execOp (ev f) ⟨d,.binOp .eql t x y E,ty,ps,af,gd⟩).run P w=.ok (.value (.bool (decide (a=b)))) w :=
 Xb hx hy (by simp[binOp,Op.intCmp];by_cases h:a=b <;> simp[h])
theorem Q9 {t E:Nat}{x y:Operand}{k:IntKind}{a b:Int}(hx:ev f x=.int k a) (hy:ev f y=.int k b) :
  (execOp (ev f) ⟨d,.binOp .neq t x y E,ty,ps,af,gd⟩).run P w=.ok (.value (.bool (decide (¬a=b)))) w :=
 Xb hx hy (by simp[binOp,Op.intCmp];by_cases h:a=b <;> simp[h])
theorem Zm {t:Nat}{x:Operand}{b:Bool}(hx:ev f x=.bool b):(execOp (ev f) ⟨d,.unOp .not t x,ty,ps,af,gd⟩).run P w=.ok (.value (.bool (!b))) w:=by
 simp[execOp,hx,Op.unary]
theorem Um {x:Operand}{t e sz bys:Nat}{z:Value}[h:Sl P t e sz bys z] {a:Option Addr}{n c:Nat}(hx:ev f x=.slice a n c) :
  (execOp (ev f) ⟨d,.call ⟨.builtin .len,#[x],#[t]⟩,ty,ps,af,gd⟩).run P w=.ok (.value (.int .i64 n)) w:=by
 simp[execOp,resolve,invoke,builtin,Builtin.len_,hx,run_underlying h.u,goInt]
theorem Sl.info {t e sz bys:Nat}{z:Value}(h:Sl P t e sz bys z):∃i,P.info? e=some i∧i.zero=some z∧i.size=sz∧i.bytes=bys:=by
 have:=h.i;cases hi:P.info? e with
 | none=>simp[hi] at this
 | some i=>simp[hi] at this;exact ⟨i,O,this.1,this.2.1,this.2.2⟩
theorem Xt {x y:Operand}{t e sz bys:Nat}{z:Value}[h:Sl P t e sz bys z] {a:Addr}{n c:Nat}{k:IntKind}{i:Int}(hx:ev f x=.slice (some a) n c) (hy:ev f y=.int k i) (E:0≤i) (h1:i<n) :
  (execOp (ev f) ⟨d,.indexAddr t x y,ty,ps,af,gd⟩).run P w=.ok (.value (.pointer (some (a.add (i.toNat*sz))))) w:=by
 obtain ⟨ii,hi,_,hs,_⟩:=Sl.info h;simp[execOp,hx,hy,Instr.indexAt,asIntOf,run_underlying h.u,E,h1,sizeOf,typeInfo,hi,hs]
theorem Qeq {t:Nat}[h:X9 P t]:(isAgg t).run P w=.ok false w:=by
 obtain ⟨d,hu,hd⟩:=h.u;unfold isAgg;cases d <;> simp at hd <;> simp[run_underlying hu]
theorem QgV {t sz:Nat}[h:Ag P t sz]:(isAgg t).run P w=.ok true w:=by
 obtain ⟨d,hu,hd⟩:=h.u;unfold isAgg;cases d <;> simp at hd <;> simp[run_underlying hu]
theorem YN {t:Nat}[h:X9 P t] {a:Addr}{v:Value}(hc:w.cell? a=some v):(loadVar t a).run P w=.ok v w:=by
 simp[loadVar,Qeq,hc]
theorem Qbt {t:Nat}[h:X9 P t]:(sizeOf t).run P w=.ok 1 w:=by
 have:=h.i;cases hi:P.info? t with
 | none=>simp[hi] at this
 | some i=>simp[hi] at this;simp[sizeOf,typeInfo,hi,this]
theorem VV {t sz:Nat}[h:Ag P t sz]:(sizeOf t).run P w=.ok sz w:=by
 have:=h.i;cases hi:P.info? t with
 | none=>simp[hi] at this
 | some i=>simp[hi] at this;simp[sizeOf,typeInfo,hi,this]
theorem X1 {a:Addr}:∀(vs:LV) (i:Nat) (acc:Array Value),(∀j v,vs[j]?=some v→w.cell? (a.add (i+j))=some v)→(loadCellsFrom a i vs.length acc).run P w=.ok (acc++vs.toArray) w
 | [],_,acc,_=>by simp[loadCellsFrom]
 | v::vs,i,acc,h=>by
  have E:=h 0 v O;have ih:=X1 vs (i+1) (acc.push v) (λj u hu=>by have:=h (j+1) u (by simpa using hu);simpa[Nat.add_assoc,Nat.add_comm 1 j] using this);simp only[Nat.add_zero] at E;simp[loadCellsFrom,E,ih]
theorem Qv {t sz:Nat}[h:Ag P t sz] {a:Addr}{vs:LV}(hl:vs.length=sz) (hc:∀j v,vs[j]?=some v→w.cell? (a.add j)=some v):(loadVar t a).run P w=.ok (.agg vs.toArray) w:=by
 have:=X1 (P:=P) (w:=w) (a:=a) vs 0 #[] (by simpa using hc);subst hl;simp[loadVar,QgV,VV (sz:=vs.length),loadCells,this]
theorem QfT {t:Nat}[h:X9 P t] {x:Operand}{a:Addr}{v:Value}(hx:ev f x=.pointer (some a)) (hc:w.cell? a=some v) :
  (execOp (ev f) ⟨d,.load t x,ty,ps,af,gd⟩).run P w=.ok (.value v) w:=by
 simp[execOp,hx,Instr.loadAt,Instr.sureAddr,YN hc]
theorem UO {t sz:Nat}[h:Ag P t sz] {x:Operand}{a:Addr}{vs:LV}(hx:ev f x=.pointer (some a)) (hl:vs.length=sz) (hc:∀j v,vs[j]?=some v→w.cell? (a.add j)=some v) :
  (execOp (ev f) ⟨d,.load t x,ty,ps,af,gd⟩).run P w=.ok (.value (.agg vs.toArray)) w:=by
 simp[execOp,hx,Instr.loadAt,Instr.sureAddr,Qv hl hc]
theorem Zo {t j off:Nat}[h:Zd P t j off] {x:Operand}{a:Addr}(hx:ev f x=.pointer (some a)) :
  (execOp (ev f) ⟨d,.fieldAddr t x j,ty,ps,af,gd⟩).run P w=.ok (.value (.pointer (some (a.add off)))) w:=by
 have E:=h.h;unfold QmZ at E;cases hu:P.underlying t with
 | none=>simp[hu] at E
 | some dd =>
  cases dd <;> simp[hu] at E
  rename_i fs;cases G:fs[j]? with
  | none=>simp[G] at E
  | some fd =>
   cases hi:P.info? fd.type with
   | none=>simp[G,hi] at E
   | some i =>
    simp[G,hi] at E;simp[execOp,hx,Instr.fieldAt,run_underlying hu,G,Instr.sureAddr,fieldPlace,sizeOf,typeInfo,hi,E]
theorem QE {x:Operand}{a:Addr}(hx:ev f x=.pointer (some a)):(execOp (ev f) ⟨d,.nilCheck x,ty,ps,af,gd⟩).run P w=.ok (.value (.pointer (some a))) w:=by
 simp[execOp,hx]
theorem Zq {fn:Fn}{l l':List Operand}:(execOp (ev f) ⟨d,.makeFunc fn l.toArray l'.toArray,ty,ps,af,gd⟩).run P w=.ok (.value (.func fn (l.map (ev f)).toArray (l'.map (ev f)).toArray)) w:=by
 simp[execOp,Instr.makeFunc]
end
def QK (P:Program) (g:Nat) (args:LV) (w:World) (R:Value→World→Prop):Prop :=
 Calls P g args.toArray w λe w'=>match e with | .returned v=>R v w' | _=>False
theorem QK.mono {P:Program}{g:Nat}{args:LV}{w:World}{R R':Value→World→Prop}(h:QK P g args w R) (E:∀v w',R v w'→R' v w'):QK P g args w R' :=
 Calls.mono h λe w' he=>by cases e <;> first | exact E _ _ he | exact he
theorem xc {P:Program}{f:Fr}{w:World}{K:Fr→World→Prop}{d:Option Nat}{ty:Nat}{ps:String}{af:Array Edge}{gd:Option (Nat×Bool)}{x:Operand}{l:List Operand}{at_:Array Nat}
  {g:Nat} {fn:Func} {first capt:LV} [hF:Fu P g fn] (hx:ev f x=.func (.func g) first.toArray capt.toArray) (h:QK P g (first++l.map (ev f)++capt) w λv w'=>K (QV f d v) w') :
  XO P ⟨d,.call ⟨.value x,l.toArray,at_⟩,ty,ps,af,gd⟩ f w K:=by
 have E:(execOp (ev f) ⟨d,.call ⟨.value x,l.toArray,at_⟩,ty,ps,af,gd⟩).run P w=.ok (.enter g (first++l.map (ev f)++capt).toArray) w:=by
  have h1:¬fn.name = "runtime.NumGoroutine" := by simpa using hF.nm
  have h2:¬fn.body=none:=by have:=hF.b;intro e;rw[e] at this;cases this
  simp[execOp,resolve,hx,Deferred.ofValue,invoke,callFunc,hF.f,h1,h2]
 simp only[XO,E,upF];exact h
theorem xf {P:Program}{f:Fr}{w:World}{K:Fr→World→Prop}{d:Option Nat}{ty:Nat}{ps:String}{af:Array Edge}{gd:Option (Nat×Bool)}{l:List Operand}{at_:Array Nat}
  {g:Nat} {fn:Func} [hF:Fu P g fn] (h:QK P g (l.map (ev f)) w λv w'=>K (QV f d v) w') :
  XO P ⟨d,.call ⟨.value (.func g),l.toArray,at_⟩,ty,ps,af,gd⟩ f w K :=
 xc (first:=[]) (capt:=[]) (g:=g) (fn:=fn) O (by simpa using h)
def ent:LV→Fr
 | [],_=>undef
 | v::_,0=>v
 | _::l,t+1=>ent l t
def VR (P:Program) (f:Fr) (w:World):List ResultVar→LV→Prop
 | [],[]=>True
 | .tmp t::rs,v::vs=>f t=v∧VR P f w rs vs
 | .cell a t::rs,v::vs=>(∃ad,f a=.pointer (some ad)∧(loadVar t ad).run P w=.ok v w)∧VR P f w rs vs
 | _,_=>False
def tup:LV→Value
 | [v]=>v
 | vs=>.tuple vs.toArray
def rq (P:Program) (rs:List ResultVar) (R:Value→World→Prop):Exit→Fr→World→Prop
 | .ret,f,w=>∃vs,VR P f w rs vs∧R (tup vs) w
 | .normal,f,w=>∃vs,VR P f w rs vs∧R (tup vs) w
 | _,_,_=>False
theorem X0 {P:Program}{n:Nat}{a:Act}{f:Fr}{w:World}(G:jK n a f) (g:ResultVar→Sem Value) (g1:∀t,g (.tmp t)=pure (a.tmps.getD t undef))
  (H:∀ad t,g (.cell ad t)=(do loadVar t (←asAddr (a.tmps.getD ad undef)))):∀(rs:List ResultVar) (vs:LV),VR P f w rs vs→(rs.mapM g).run P w=.ok vs w
 | [],[],_=>by simp
 | [],_::_,h=>h.elim
 | .tmp t::rs,[],h=>h.elim
 | .cell _ _::rs,[],h=>h.elim
 | .tmp t::rs,v::vs,h=>by
  have ih:=X0 G g g1 H rs vs h.2;have E:=G.get t;rw[h.1] at E;simp only[List.mapM_cons,Sem.run_bind,Sem.run_pure,Result.andThen_ok,ih,E,g1]
 | .cell ad t::rs,v::vs,h=>by
  have ih:=X0 G g g1 H rs vs h.2;obtain ⟨⟨I,h1,h2⟩,_⟩:=h;have E:=G.get ad;rw[h1] at E;have h5:(asAddr (.pointer (some I))).run P w=.ok I w:=rfl;simp only[List.mapM_cons,Sem.run_bind,H,E,h5,Sem.run_pure,Result.andThen_ok,h2,ih]
theorem QK.of_W {P:Program}{g:Nat}{fn:Func}{c:Code}{args:LV}{w:World}{R:Value→World→Prop}{n:Nat}{rs:List ResultVar}
  (G:P.funcs[g]?=some fn) (hb:fn.body=some c) (H:fn.ntmps=n) (I:fn.results=rs.toArray) (hl:args.length≤n)
  (h:W P n c (rq P rs R) (ent args) w):QK P g args w R:=by
 unfold W at h;refine calls_of_wp G hb (wp_mono (h _ ?_) ?_)
 ·refine ⟨by simp[H];omega,O,λt=>?_⟩;have key:∀(l:LV) (t:Nat),l[t]?.getD undef=ent l t:=by
   intro l;induction l with
   | nil=>intro t;rfl
   | cons v l ih=>intro t;cases t with | zero=>rfl | succ t=>simpa[ent] using ih t
  rw[←key];simp only[Array.getD_eq_getD_getElem?,Array.getElem?_append,List.size_toArray,List.getElem?_toArray];by_cases ht:t<args.length
  ·simp[ht]
  simp[ht,Array.getElem?_replicate];split <;> rfl
 rintro e E w' ⟨J,h1,_,h3⟩;have fin:(∃vs,VR P J w' rs vs∧R (tup vs) w')→E.defers=[]∧∃v,(results fn E.tmps).run P w'=.ok v w'∧R v w':=by
  rintro ⟨vs,S,V⟩;refine ⟨h1.defers,tup vs,?_,V⟩;simp only[results,I,List.mapM_toArray,Sem.run_bind,Sem.run_map];rw[X0 h1 _ (λ_=>rfl) (λ_ _=>rfl) rs vs S];cases vs with
  | nil=>rfl
  | cons v vs=>cases vs with | nil=>rfl | cons u us=>rfl
 cases e with
 | normal=>exact fin h3
 | ret=>exact fin h3
 | exit id=>exact h3.elim
 | goto l=>exact h3.elim
 | panic c=>exact h3.elim
 | outgrown=>exact h3.elim
attribute [irreducible] QK
theorem Zi {P:Program}{g:Nat}{fn:Func}(f:P.funcs[g]?=some fn) (b:fn.body.isNone=false:=by kernel_rfl) (nm:(fn.name == "runtime.NumGoroutine")=false:=by kernel_rfl):Fu P g fn:=⟨f,b,nm⟩
theorem Qc {P:Program}{n:Nat}{f:Fr}{w:World}{Q:Exit→Fr→World→Prop}{id:Nat}{l:List Oper}{y:Code}(h:XL P l (λf w=>thn (λf w=>W P n y Q f w) Q .normal f w) l f w) (E:X7 n l=true:=by rfl):W P n (.seq (.region id l.toArray false) y) Q f w:=Qf (Qa2 E h)
theorem Qy {P:Program}{n:Nat}{f:Fr}{w:World}{Q:Exit→Fr→World→Prop}{id:Nat}{l:List Oper}(h:XL P l (λf w=>Q .normal f w) l f w) (E:X7 n l=true:=by rfl):W P n (.region id l.toArray false) Q f w:=Qa2 E h
section
variable {P:Program} {ops:List Oper} {K:Fr→World→Prop} {f:Fr} {w:World} {d:Option Nat} {ty:Nat} {ps:String} {af:Array Edge} {gd:Option (Nat×Bool)} {l:List Oper} {y:Operand}
theorem Qb (h:XL P ops K l (QV f d (ev f y)) w) (E:Yk ops f ⟨d,.move y,ty,ps,af,gd⟩=true:=by rfl):XL P ops K (⟨d,.move y,ty,ps,af,gd⟩::l) f w:=x Qp h E
theorem QO {t H:Nat}{E G:Operand}{k:IntKind}{a b:Int}(hx:ev f E=.int k a) (hy:ev f G=.int k b) (h:XL P ops K l (QV f d (.int k (a+b))) w) (hk:inK k (a+b):=by exact ⟨by omega,by omega⟩)
  (I:Yk ops f ⟨d,.binOp .add t E G H,ty,ps,af,gd⟩=true:=by rfl):XL P ops K (⟨d,.binOp .add t E G H,ty,ps,af,gd⟩::l) f w:=x (Jk hx hy hk) h I
theorem Qe (h:K (QV f d (ev f y)) w) (E:Yk ops f ⟨d,.assign y,ty,ps,af,gd⟩=true:=by rfl):XL P ops K [⟨d,.assign y,ty,ps,af,gd⟩] f w:=x Qg (xe h) E
end
structure Step (L:LN) (w w':World):Prop where
 os:w'.os=w.os
 tape:w'.tape=w.tape
 output:w'.output=w.output
 size:w.heap.size≤w'.heap.size
 block:∀k,k<w.heap.size→k∉L→w'.heap[k]?=w.heap[k]?
theorem Step.refl (L:LN) (w:World):Step L w w:=⟨O,O,O,Lt _,λ_ _ _=>O⟩
theorem Step.drew (L:LN) (w:World):Step L w { w with drawn:=w.drawn+1 }:=⟨O,O,O,Lt _,λ_ _ _=>O⟩
theorem Step.mono {L L':LN}{w w':World}(h:Step L w w') (E:∀b∈L,b∈L'):Step L' w w' :=
 ⟨h.os,h.tape,h.output,h.size,λk hk G=>h.block k hk (λhm=>G (E k hm))⟩
theorem Step.any {L:LN}{w w':World}(h:Step [] w w'):Step L w w':=h.mono (λ_ hb=>by cases hb)
theorem Step.then {L L':LN}{E w w':World}(h:Step L E w) (k:Step L' w w') (H:∀b∈L',b∈L∨E.heap.size≤b):Step L E w' :=
 ⟨k.os.trans h.os,k.tape.trans h.tape,k.output.trans h.output,LS h.size k.size,λi hi G =>
  (k.block i (L2 hi h.size) (λhm=>by rcases H i hm with h1 | h1;exact G h1;omega)).trans (h.block i hi G)⟩
theorem Step.trans {L:LN}{E w w':World}(h:Step L E w) (k:Step [] w w'):Step L E w':=h.then k (λ_ hb=>by cases hb)
theorem Step.trans' {L:LN}{E w w':World}(h:Step L E w) (k:Step L w w'):Step L E w':=h.then k (λ_ hb=>.inl hb)
theorem Step.below {w w':World}(h:Step [] w w'):Below w.heap.size w w':=⟨h.os,h.tape,h.output,h.size,λk hk=>h.block k hk (by simp)⟩
theorem Step.of_below {w w':World}(h:Below w.heap.size w w'):Step [] w w':=⟨h.os,h.tape,h.output,h.size,λk hk _=>h.block k hk⟩
theorem Step.of_grown {w w':World}{row:Option Nat}(h:w.grownBy w' row):Step row.toList w w' :=
 ⟨h.os,h.tape,h.output,h.size,λk hk E=>h.block k hk (λe=>E (by simp[←e]))⟩
theorem jC (w:World) (o:Obj) (k:Nat) (h:k<w.heap.size):(w.alloc o).heap[k]?=w.heap[k]?:=by
 show (w.heap.push o)[k]?=_;rw[Array.getElem?_push,if_neg (by omega)]
theorem Kk (w:World) (o:Obj):(w.alloc o).heap[w.heap.size]?=some o:=by
 show (w.heap.push o)[w.heap.size]?=_;simp
theorem U2 (w:World) (o:Obj):(w.alloc o).heap.size=w.heap.size+1:=by show (w.heap.push o).size=_;simp
theorem Step.alloc (w:World) (o:Obj):Step [] w (w.alloc o):=⟨O,O,O,by rw[U2];omega,λk hk _=>jC w o k hk⟩
theorem Step.setRow (w:World) (g:Nat) (cs:Array Value):Step [g] w (w.setRow g cs) :=
 ⟨O,O,O,by simp[World.setRow],λk _ E=>setRow_other w g k cs (λe=>E (by simp[e]))⟩
def cel (H:Array Obj) (a:Addr):Option Value:=match H[a.block]? with
 | some (.cells c _ _)=>if a.spot.isSome then none else c[a.off]?
 | _=>none
theorem Xx (w:World) (a:Addr):w.cell? a=cel w.heap a:=rfl
structure At (L:LN) (H:Array Obj) (a:Addr) (us:LV):Prop where
 out:∀u∈us,a.block∉L
 lt:∀u∈us,a.block<H.size
 cell:∀j u,us[j]?=some u→cel H (a.add j)=some u
theorem Z6 (a:Addr) (j:Nat):(a.add j).block=a.block:=by unfold Addr.add;split <;> rfl
theorem QhJ {L:LN}{w w':World}(h:Step L w w') {a:Addr}(E:a.block∉L) (hl:a.block<w.heap.size):cel w'.heap a=cel w.heap a:=by
 unfold cel;rw[h.block _ hl E]
theorem At.step {L X:LN}{w w':World}{a:Addr}{us:LV}(h:At L w.heap a us) (hs:Step X w w') (E:∀b∈X,b∈L):At L w'.heap a us :=
 ⟨h.out,λu hu=>L2 (h.lt u hu) hs.size,λj u hu=>by
  have hm:=Mf hu;rw[QhJ (L:=X) hs (by rw[Z6];exact λhx=>h.out u hm (E _ hx)) (by rw[Z6];exact h.lt u hm)];exact h.cell j u hu⟩
theorem At.ext {L:LN}{w w':World}{a:Addr}{us:LV}(h:At L w.heap a us) (hs:Step [] w w'):At L w'.heap a us:=h.step hs (λ_ hb=>by cases hb)
theorem At.st {L:LN}{w w':World}{a:Addr}{us:LV}(h:At L w.heap a us) (hs:Step L w w'):At L w'.heap a us:=h.step hs (λ_ hb=>hb)
theorem At.one {L:LN}{w:World}{a:Addr}{u:Value}(h:At L w.heap a [u]):w.cell? a=some u:=by
 have:=h.cell 0 u O;simp only[Addr.add,if_true] at this;exact this
theorem At.cells {L:LN}{w:World}{a:Addr}{us:LV}(h:At L w.heap a us):∀j v,us[j]?=some v→w.cell? (a.add j)=some v:=h.cell
theorem Addr.add_add (a:Addr) (i j:Nat):(a.add i).add j=a.add (i+j):=by
 unfold Addr.add;by_cases hi:i=0
 ·subst hi;simp
 by_cases E:j=0
 ·subst E;simp
 simp[hi,E,Nat.add_assoc]
theorem At.fld {L:LN}{H:Array Obj}{a:Addr}{us:LV}(h:At L H a us) (j:Nat) (u:Value) (hu:us[j]?=some u):At L H (a.add j) [u] :=
 ⟨λ_ _=>by rw[Z6];exact h.out u (Mf hu),λ_ _=>by rw[Z6];exact h.lt u (Mf hu),λi v E=>by
  cases i with
  | zero=>simp at E;subst E;rw[Addr.add_add,Nb];exact h.cell j u hu
  | succ i=>simp at E⟩
theorem At.up {L L':LN}{H:Array Obj}{a:Addr}{us:LV}(h:At L H a us) (E:∀b∈L',b∈L∨H.size≤b):At L' H a us :=
 ⟨λu hu hm=>by rcases E _ hm with h1 | h1;exact h.out u hu h1;have:=h.lt u hu;omega,h.lt,h.cell⟩
def Zs (L:LN) (H:Array Obj) (v:Value) (n sz:Nat) (cs:LV):Prop :=
 cs.length=n*sz∧n≤1099511627776∧((v=nS∧n=0)∨∃a cap,v=.slice (some a) n cap∧n≤cap∧At L H a cs)
theorem Zs.step {L X:LN}{w w':World}{v:Value}{n sz:Nat}{cs:LV}(h:Zs L w.heap v n sz cs) (hs:Step X w w') (E:∀b∈X,b∈L):Zs L w'.heap v n sz cs :=
 ⟨h.1,h.2.1,h.2.2.imp id λ⟨a,cap,h1,h2,h3⟩=>⟨a,cap,h1,h2,h3.step hs E⟩⟩
theorem Zs.ext {L:LN}{w w':World}{v:Value}{n sz:Nat}{cs:LV}(h:Zs L w.heap v n sz cs) (hs:Step [] w w'):Zs L w'.heap v n sz cs:=h.step hs (λ_ hb=>by cases hb)
theorem Zs.st {L:LN}{w w':World}{v:Value}{n sz:Nat}{cs:LV}(h:Zs L w.heap v n sz cs) (hs:Step L w w'):Zs L w'.heap v n sz cs:=h.step hs (λ_ hb=>hb)
theorem Zs.up {L L':LN}{H:Array Obj}{v:Value}{n sz:Nat}{cs:LV}(h:Zs L H v n sz cs) (E:∀b∈L',b∈L∨H.size≤b):Zs L' H v n sz cs :=
 ⟨h.1,h.2.1,h.2.2.imp id λ⟨a,cap,h1,h2,h3⟩=>⟨a,cap,h1,h2,h3.up E⟩⟩
theorem Zs.nil (L:LN) (H:Array Obj) (sz:Nat):Zs L H (nS) 0 sz []:=⟨by simp,by omega,.inl ⟨rfl,rfl⟩⟩
theorem Zs.shape {L:LN}{H:Array Obj}{v:Value}{n sz:Nat}{cs:LV}(h:Zs L H v n sz cs):∃a cap,v=.slice a n cap:=by
 rcases h.2.2 with ⟨h1,h2⟩ | ⟨a,cap,h1,_⟩
 ·exact ⟨none,0,by rw[h1,h2]⟩
 exact ⟨some a,cap,h1⟩
theorem Zs.one {L:LN}{H:Array Obj}{v:Value}{n sz:Nat}{cs:LV}(h:Zs L H v n sz cs):v.oneCell'=true:=by obtain ⟨a,cap,rfl⟩:=h.shape;rfl
theorem Zs.cells {L:LN}{H:Array Obj}{v:Value}{n sz:Nat}{cs:LV}(h:Zs L H v n sz cs):v.cells=[v].toArray:=by obtain ⟨a,cap,rfl⟩:=h.shape;rfl
theorem Zs.le {L:LN}{H:Array Obj}{v:Value}{n sz:Nat}{cs:LV}(h:Zs L H v n sz cs):n≤1099511627776:=h.2.1
theorem Zs.at {L:LN}{H:Array Obj}{v:Value}{n sz:Nat}{cs:LV}(h:Zs L H v n sz cs) {i:Nat}(hi:i<n) :
  ∃a cap,v=.slice (some a) n cap∧At L H (a.add (i*sz)) ((cs.drop (i*sz)).take sz):=by
 rcases h.2.2 with ⟨_,h2⟩ | ⟨a,cap,h1,_,h3⟩
 ·omega
 refine ⟨a,cap,h1,λu hu=>by rw[Z6];exact h3.out u (MN (LT hu)),λu hu=>by rw[Z6];exact h3.lt u (MN (LT hu)),λj u hu=>?_⟩;rw[Addr.add_add];refine h3.cell _ u ?_;rw[LW] at hu;split at hu
 ·simpa using hu
 cases hu
abbrev QL (L:LN) (H:Array Obj) (v:Value) (l:LI):Prop:=Zs L H v l.length 1 (l.map (.int .i64))
theorem QL.at {L:LN}{H:Array Obj}{v:Value}{l:LI}(h:QL L H v l) {i:Nat}(hi:i<l.length) :
  ∃a cap,v=.slice (some a) l.length cap∧At L H (a.add (i*1)) [.int .i64 l[i]]:=by
 obtain ⟨a,cap,h1,h2⟩:=Zs.at h hi;refine ⟨a,cap,h1,?_⟩;have:((l.map (Value.int .i64)).drop (i*1)).take 1=[.int .i64 l[i]]:=by
  rw[Nat.mul_one,LP (by simpa using hi)];simp
 rw[this] at h2;exact h2
def QZ (H:Array Obj) (b T:Nat) (cs:LV):Prop:=H[b]?=some (.cells cs.toArray T (0,0))
theorem QZ.lt {H:Array Obj}{b T:Nat}{cs:LV}(h:QZ H b T cs):b<H.size:=(LE.1 h).1
theorem QZ.step {X:LN}{w w':World}{b T:Nat}{cs:LV}(h:QZ w.heap b T cs) (hs:Step X w w') (hb:b∉X):QZ w'.heap b T cs:=by
 unfold QZ;rw[hs.block b h.lt hb];exact h
theorem QZ.ext {w w':World}{b T:Nat}{cs:LV}(h:QZ w.heap b T cs) (hs:Step [] w w'):QZ w'.heap b T cs:=h.step hs (by simp)
theorem QZ.cell {H:Array Obj}{b T:Nat}{cs:LV}(h:QZ H b T cs) (j:Nat):cel H ⟨b,j,none⟩=cs[j]?:=by
 unfold QZ at h;simp[cel,h]
theorem Qde (b j:Nat):(⟨b,0,none⟩:Addr).add j=⟨b,j,none⟩:=by unfold Addr.add;split <;> simp_all
theorem Ka (b i j:Nat):(⟨b,i,none⟩:Addr).add j=⟨b,i+j,none⟩:=by unfold Addr.add;split <;> simp_all
theorem QZ.at {L:LN}{H:Array Obj}{b T:Nat}{cs:LV}(h:QZ H b T cs) (hb:b∉L):At L H ⟨b,0,none⟩ cs :=
 ⟨λ_ _=>hb,λ_ _=>h.lt,λj u hu=>by rw[Qde,h.cell];exact hu⟩
theorem QZ.arr {L:LN}{H:Array Obj}{b T:Nat}{cs:LV}(h:QZ H b T cs) (hb:b∉L) {n cap sz:Nat}(hl:cs.length=n*sz) (E:n≤1099511627776) (hc:n≤cap) :
  Zs L H (.slice (some ⟨b,0,none⟩) n cap) n sz cs:=⟨hl,E,.inr ⟨_,_,O,hc,h.at hb⟩⟩
def ob:Value→LN
 | .slice (some a) _ _=>[a.block]
 | _=>[]
theorem yX (v:Value):ob v=v.ownBlock.toList:=by
 cases v <;> try rfl
 rename_i a _ _;cases a <;> rfl
theorem Qj {X:LN}{w w':World}{base e sz n:Nat}{v:Value}{cs:LV}(h:w.ownsRow base e sz v n cs) (hs:Step X w w') (E:∀b∈ob v,b∉X):w'.ownsRow base e sz v n cs:=by
 refine ⟨h.1,h.2.imp id λ⟨g,cap,cur,h1,h2,h3,G⟩=>⟨g,cap,cur,h1,h2,?_,G⟩⟩;rw[hs.block g (LE.1 h3).1 (E g (by rw[h1];simp[ob]))];exact h3
theorem Qq {w w':World}{base e sz n:Nat}{v:Value}{cs:LV}(h:w.ownsRow base e sz v n cs) (hs:Step [] w w'):w'.ownsRow base e sz v n cs:=Qj h hs (λ_ _=>by simp)
theorem Qm {w:World}{base e sz n:Nat}{v:Value}{cs:LV}(h:w.ownsRow base e sz v n cs):∀b∈ob v,base≤b∧b<w.heap.size:=by
 intro b hb;rcases h.2 with ⟨h1,_⟩ | ⟨g,cap,cur,h1,h2,h3,_⟩
 ·subst h1;simp[ob] at hb
 subst h1;simp[ob] at hb;subst hb;exact ⟨h2,(LE.1 h3).1⟩
theorem Zr {w:World}{base base' e sz n:Nat}{v:Value}{cs:LV}(h:w.ownsRow base e sz v n cs) (hb:base'≤base):w.ownsRow base' e sz v n cs :=
 ⟨h.1,h.2.imp id λ⟨g,cap,cur,h1,h2,h3⟩=>⟨g,cap,cur,h1,LS hb h2,h3⟩⟩
theorem QU {L:LN}{w:World}{base e sz n:Nat}{v:Value}{cs:LV}(h:w.ownsRow base e sz v n cs) (E:n≤1099511627776) (G:∀b∈ob v,b∉L):Zs L w.heap v n sz cs:=by
 refine ⟨h.1,E,?_⟩;rcases h.2 with h1 | ⟨g,cap,cur,h1,h2,h3,H,h5,J,I⟩
 ·exact .inl h1
 refine .inr ⟨_,_,h1,H,λ_ _=>G g (by rw[h1];simp[ob]),λ_ _=>(LE.1 h3).1,λj u hu=>?_⟩;rw[Qde];unfold cel;simp only[h3];rw[←I,LW] at hu;split at hu
 ·simpa using hu
 cases hu
theorem QP (w:World) (base e sz:Nat):w.ownsRow base e sz (nS) 0 []:=World.ownsRow_nil w base e sz
theorem QZ.own {w:World}{b T sz n:Nat}{cs:LV}(h:QZ w.heap b T cs) (hl:cs.length=n*sz) (E:n≤1099511627776) {base:Nat}(hb:base≤b):w.ownsRow base T sz (.slice (some ⟨b,0,none⟩) n n) n cs :=
 ⟨hl,.inr ⟨b,n,cs.toArray,O,hb,h,Lt _,by simp only[maxLen];omega,by simp[hl],by simp[←hl]⟩⟩
section
variable {P:Program} {ops:List Oper} {K:Fr→World→Prop} {f:Fr} {w:World} {d:Option Nat} {ty:Nat} {ps:String} {af:Array Edge} {gd:Option (Nat×Bool)} {l:List Oper}
theorem Qs {x:Operand}{t e sz' bys:Nat}{z:Value}[Sl P t e sz' bys z] {L:LN}{n sz:Nat}{cs:LV}{v:Value}{H:Array Obj}(h:Zs L H v n sz cs) (E:ev f x=v) :
  (execOp (ev f) ⟨d,.call ⟨.builtin .len,#[x],#[t]⟩,ty,ps,af,gd⟩).run P w=.ok (.value (.int .i64 n)) w:=by
 obtain ⟨a,cap,h1⟩:=h.shape;exact Um (E.trans h1)
theorem xii {x y:Operand}{t e bys:Nat}{z:Value}[Sl P t e 1 bys z] {L:LN}{li:LI}{v:Value}{k:IntKind}{i:Nat}
  (h:QL L w.heap v li) (E:ev f x=v) (hy:ev f y=.int k i) (hi:i<li.length)
  (G:∀a,At L w.heap a [.int .i64 li[i]]→XL P ops K l (QV f d (.pointer (some a))) w) (H:Yk ops f ⟨d,.indexAddr t x y,ty,ps,af,gd⟩=true:=by rfl) :
  XL P ops K (⟨d,.indexAddr t x y,ty,ps,af,gd⟩::l) f w:=by
 obtain ⟨a,cap,h1,h2⟩:=QL.at h hi;refine xl H (xv (Xt (E.trans h1) hy (by omega) (by omega)) (G _ ?_));simpa using h2
theorem Qw {t:Nat}[X9 P t] {x:Operand}{a:Addr}{L:LN}{u:Value}(h:At L w.heap a [u]) (hx:ev f x=.pointer (some a)) :
  (execOp (ev f) ⟨d,.load t x,ty,ps,af,gd⟩).run P w=.ok (.value u) w:=QfT hx h.one
theorem QI {t sz:Nat}[Ag P t sz] {x:Operand}{a:Addr}{L:LN}{us:LV}(h:At L w.heap a us) (hx:ev f x=.pointer (some a)) (hl:us.length=sz) :
  (execOp (ev f) ⟨d,.load t x,ty,ps,af,gd⟩).run P w=.ok (.value (.agg us.toArray)) w:=UO hx hl h.cells
theorem Qd {t:Nat}[X9 P t] {x:Operand}{b T j:Nat}{cs:LV}{u:Value}(h:QZ w.heap b T cs) (hx:ev f x=.pointer (some ⟨b,j,none⟩)) (E:cs[j]?=some u) :
  (execOp (ev f) ⟨d,.load t x,ty,ps,af,gd⟩).run P w=.ok (.value u) w:=QfT hx (by rw[Xx,h.cell];exact E)
theorem Qr {t sz:Nat}[Ag P t sz] {x:Operand}{b T:Nat}{cs:LV}(h:QZ w.heap b T cs) (hx:ev f x=.pointer (some ⟨b,0,none⟩)) (hl:cs.length=sz) :
  (execOp (ev f) ⟨d,.load t x,ty,ps,af,gd⟩).run P w=.ok (.value (.agg cs.toArray)) w:=UO hx hl (h.at (L:=[]) (by simp)).cells
theorem Qa {t j off:Nat}[Zd P t j off] {x:Operand}{b o:Nat}(hx:ev f x=.pointer (some ⟨b,o,none⟩)) :
  (execOp (ev f) ⟨d,.fieldAddr t x j,ty,ps,af,gd⟩).run P w=.ok (.value (.pointer (some ⟨b,o+off,none⟩))) w:=by
 rw[←Ka];exact Zo hx
end
section
variable {P:Program} {K:Fr→World→Prop} {f:Fr} {w:World} {d:Option Nat} {ty:Nat} {ps:String} {af:Array Edge} {gd:Option (Nat×Bool)}
theorem QS {t:Nat}{x:Operand}{us:LV}(hx:(ev f x).cells=us.toArray)
  (E:∀b w',Step [] w w'→w.heap.size≤b→QZ w'.heap b t us→K (QV f d (.pointer (some ⟨b,0,none⟩))) w'):XO P ⟨d,.box t x,ty,ps,af,gd⟩ f w K:=by
 have G:(execOp (ev f) ⟨d,.box t x,ty,ps,af,gd⟩).run P w=.ok (.value (.pointer (some ⟨w.heap.size,0,none⟩))) (w.alloc (.cells us.toArray t)):=by
  simp[execOp,Instr.box,newVar,newRow,hx]
 exact xv G (E _ _ (Step.alloc w _) (Lt _) (Kk w _))
theorem Qt {t:Nat}{z:Value}[h:Ze P t z] {us:LV}(E:z.cells=us.toArray)
  (G:∀b w',Step [] w w'→w.heap.size≤b→QZ w'.heap b t us→K (QV f d (.pointer (some ⟨b,0,none⟩))) w'):XO P ⟨d,.alloc t,ty,ps,af,gd⟩ f w K:=by
 have H:(execOp (ev f) ⟨d,.alloc t,ty,ps,af,gd⟩).run P w=.ok (.value (.pointer (some ⟨w.heap.size,0,none⟩))) (w.alloc (.cells us.toArray t)):=by
  have hi:=h.i;cases hq:P.info? t with
  | none=>simp[hq] at hi
  | some i =>
   simp[hq] at hi;simp[execOp,Instr.alloc,newVar,newRow,zeroValue,typeInfo,hq,hi,E]
 exact xv H (G _ _ (Step.alloc w _) (Lt _) (Kk w _))
def jG (sz:Nat):LV→List (LV)→Prop
 | [],[]=>True
 | v::vs,u::us=>v.cells=u.toArray∧u.length=sz∧jG sz vs us
 | _,_=>False
theorem qQ {sz:Nat}:∀(vs:LV) (us:List (LV)) (E:Nat) (pre rest:LV),jG sz vs us→pre.length=E*sz→rest.length=vs.length*sz →
  Instr.fill (λi=>some (i*sz,sz)) (pre++rest).toArray ((vs.zipIdx E).map λx=>(x.2,x.1))=some (pre++us.flatten).toArray
 | [],[],E,pre,rest,_,_,G=>by
  have:rest=[]:=Ln (by simpa using G);subst this;simp[Instr.fill]
 | [],_::_,_,_,_,h,_,_=>h.elim
 | _::_,[],_,_,_,h,_,_=>h.elim
 | v::vs,u::us,E,pre,rest,h,hp,G=>by
  obtain ⟨h1,h2,h3⟩:=h;have S:sz≤rest.length:=by rw[G];simp[Nat.add_mul]
  have ih:=qQ vs us (E+1) (pre++u) (rest.drop sz) h3 (by simp[hp,h2,Nat.add_mul]) (by simp only[List.length_drop,G,List.length_cons,Nat.add_mul,Nat.one_mul];omega);simp only[List.zipIdx_cons,List.map_cons];unfold Instr.fill;have H:v.cells.size=sz:=by rw[h1];simp[h2]
  simp only[H];rw[if_neg (by simp;omega)];have key:v.cells.zipIdx.foldl (λcs (x:Value×Nat)=>cs.setIfInBounds (E*sz+x.2) x.1) (pre++rest).toArray=(pre++u++rest.drop sz).toArray:=by
   rw[←Array.foldl_toList,Array.toList_zipIdx,h1];obtain ⟨g1,I⟩:=Great.foldl_set (E*sz) u 0 (pre++rest).toArray;apply Array.ext';apply Nj;intro k;have J:=I k;simp only[Array.getElem?_toList];rw[J];simp only[Nat.add_zero,List.size_toArray,List.length_append,List.getElem?_toArray];split
   ·rename_i hc;rw[LC,Mt (by omega),L3 (by omega),←hp]
   rename_i hc;by_cases hk:k<pre.length
   ·rw[LC,L3 hk,L3 hk]
   rw[LC,Mt (by omega),Mt (by omega)];by_cases V:k<pre.length+sz
   ·exfalso;apply hc;omega
   rw[Mt (by omega),MM];congr 1;omega
  have Y:=ih;rw[LC pre u] at key;rw[show (v.cells.zipIdx.foldl (λcs (x:Value×Nat)=>cs.setIfInBounds (E*sz+x.2) x.1) (pre++rest).toArray)=(pre++u++rest.drop sz).toArray by rw[key,LC]];rw[ih];simp
theorem zE (f:Fr):∀(ps:List (Nat×Operand)) (i:Nat),ps.map (·.1)=List.range' i ps.length→(ps.map λx=>(x.1,ev f x.2))=((ps.map λx=>ev f x.2).zipIdx i).map λx=>(x.2,x.1)
 | [],_,_=>rfl
 | p::ps,i,h=>by
  simp only[List.map_cons,List.length_cons,List.range'_succ,List.cons.injEq] at h;simp only[List.map_cons,List.zipIdx_cons];rw[zE f ps (i+1) h.2,h.1]
theorem QC {t e sz bys:Nat}{z:Value}[h:Sl P t e sz bys z] {n:Nat}{parts:List (Nat×Operand)}{us:List (LV)}(hp:parts.map (·.1)=List.range' 0 n) (G:parts.length=n) (H:0<n) (hs:n*sz≤1000000)
  (hc:jG sz (parts.map λx=>ev f x.2) us)
  (I:∀b w',Step [] w w'→w.heap.size≤b→QZ w'.heap b e us.flatten→K (QV f d (.slice (some ⟨b,0,none⟩) n n)) w'):XO P ⟨d,.buildSlice t n parts.toArray,ty,ps,af,gd⟩ f w K:=by
 obtain ⟨ie,J,S,E,_⟩:=Sl.info h;subst G;have V:=h.pos;have hm:0<parts.length*sz:=Nat.mul_pos H V;have Y:Instr.fill (λi=>some (i*ie.size,ie.size)) ((Array.range (parts.length*ie.size)).map (z.cells[· % z.cells.size]!)) (parts.toArray.map λ(i,x)=>(i,ev f x)).toList=some us.flatten.toArray:=by
  rw[E];have:=qQ (parts.map λx=>ev f x.2) us 0 [] ((Array.range (parts.length*sz)).map (z.cells[· % z.cells.size]!)).toList hc (by simp) (by simp);simp only[List.nil_append,Array.toArray_toList] at this;rw[←this,←zE f parts 0 hp];simp
 have hr:(execOp (ev f) ⟨d,.buildSlice t parts.length parts.toArray,ty,ps,af,gd⟩).run P w=.ok (.value (.slice (some ⟨w.heap.size,0,none⟩) parts.length parts.length)) (w.alloc (.cells us.flatten.toArray e)):=by
  have:=run_buildSlice (P:=P) w t e parts.length (parts.toArray.map λ(i,x)=>(i,ev f x)) us.flatten.toArray ie z h.u J S (by rw[E];omega) (by rw[E];omega) Y;simp only[execOp,Sem.run_bind,this,Result.andThen_ok,Sem.run_pure]
 exact xv hr (I _ _ (Step.alloc w _) (Lt _) (Kk w _))
theorem zp {base t ty e:Nat}{sz bys:Nat}{z:Value}[h:Sl P t e sz bys z] {v:Value}{n:Nat}{cs:LV}(G:w.ownsRow base e sz v n cs)
  {a:Addr} {m c:Nat} {news:LV} (hl:news.length=m*sz) (V:∀j u,news[j]?=some u→w.cell? (a.add j)=some u) (h1:∀u∈news,u.oneCell'=true)
  (hb:n+m≤1099511627776) (ht:bys≤128) (he:base≤w.heap.size) :
  ∃v' w',(Builtin.append_ #[t,t] ty #[v,.slice (some a) m c]).run P w=.ok v' w'∧w'.ownsRow base e sz v' (n+m) (cs++news)∧Step (ob v) w w'∧(∀b∈ob v',b∈ob v∨w.heap.size≤b):=by
 obtain ⟨i,hi,hz,J,ha⟩:=Sl.info h;have hc:(n+m)*bys≤140737488355328:=LS (Nat.mul_le_mul hb ht) (by omega);have hf:n+m≤maxLen:=by simp only[maxLen];omega
 by_cases hg:∃g cap cur,v=.slice (some ⟨g,0,none⟩) n cap∧w.heap[g]?=some (.cells cur e (0,0))∧n+m≤cap
 ·obtain ⟨v',w',H,ho,hu,_⟩:=run_append_own (P:=P) w base t ty e i z sz bys h.u hi hz J ha h.zs h.pos v n cs G a m c news hl V h1 hf hc he;refine ⟨v',w',H,ho,by rw[yX];exact Step.of_grown hu,?_⟩;obtain ⟨g,cap,cur,rfl,hh,S⟩:=hg;rcases G.2 with ⟨h2,_⟩ | ⟨g2,cap2,hj,h2,h3,h4,h5,h6,h7,h8⟩
  ·cases h2
  cases h2
  have hv:n*i.size+news.length≤hj.size:=by rw[hl,h7,J,←MI];exact ME _ S
  have hw:=run_append_room (P:=P) w t ty e i h.u hi g n cap hj h4 a m c news (by rw[J];exact hl) V h1 S hv;rw[hw] at H;cases H
  intro b E;exact .inl E
 have new:∀(old:Nat),old<n+m→∀I,I=(Obj.cells (cs.toArray++news.toArray++Builtin.zeroCells z.cells (grownCap w (n+m) old e - (n+m))) e) →
   (w.drew.alloc I).ownsRow base e sz (.slice (some ⟨w.heap.size,0,none⟩) (n+m) (grownCap w (n+m) old e)) (n+m) (cs++news):=by
  intro old ho I hy;subst hy;have hge:=grownCap_ge w (n+m) old e;have hp:grownCap w (n+m) old e≤maxLen:=grownCap_le_maxLen w (n+m) old e hf;have hq:(cs++news).length=(n+m)*sz:=by rw[Lh,G.1,hl,MI]
  refine ⟨hq,.inr ⟨w.heap.size,_,_,O,he,Kk w.drew _,hge,hp,?_,?_⟩⟩
  ·simp only[Array.size_append,List.size_toArray,size_zeroCells,h.zs,G.1,hl,←Nat.add_mul];congr 1;omega
  simp only[Array.toList_append,List.append_assoc];rw[←LC,←hq];exact List.take_left
 have stp:∀I,Step (ob v) w (w.drew.alloc I):=λI=>⟨O,O,O,by rw[U2];exact Nat.le_succ _,λk hk _=>jC w.drew I k hk⟩;have fin:∀(b:Nat),b∈ob (.slice (some ⟨w.heap.size,0,none⟩) (n+m) 0)→b∈ob v∨w.heap.size≤b:=λb E=>by simp[ob] at E;omega
 rcases G.2 with ⟨rfl,rfl⟩ | ⟨g,cap,cur,rfl,hB,hh,hC,hp,hD,hE⟩
 ·have hx:cs=[]:=Ln (by simpa using G.1);subst hx;by_cases hm:m=0
  ·subst hm;have Y:news=[]:=Ln (by simpa using hl);subst Y;refine ⟨nS,w,?_,QP _ _ _ _,Step.refl _ _,λb E=>by simp[ob] at E⟩;simp[Builtin.append_,run_underlying h.u,sizeOf,typeInfo,hi,Builtin.lenOf,Builtin.firstCells,loadCells,loadCellsFrom]
  have H:=run_append_nil (P:=P) w t ty e i z h.u hi hz a m c news (by rw[J];exact hl) V (by omega) (by omega) (by rw[ha];have h0:=hc;simp only[Nat.zero_add] at h0;omega);have Y:=new 0 (by omega) _ O;simp only[Nat.zero_add,List.nil_append,Array.empty_append] at Y ⊢;exact ⟨_,_,H,Y,stp _,λb E=>fin b E⟩
 have S:cap<n+m:=by
  rcases Nat.lt_or_ge cap (n+m) with h9 | hge
  ·exact h9
  exact absurd ⟨g,cap,cur,O,hh,hge⟩ hg
 have hA:∀j u,cs[j]?=some u→w.cell? ((⟨g,0,none⟩:Addr).add j)=some u:=G.cells (g:=g) O;have H:=run_append_grow (P:=P) w t ty e i z h.u hi hz ⟨g,0,none⟩ n cap cs (by rw[J];exact G.1) hA a m c news (by rw[J];exact hl) V S (by omega) (growslice_fits S (by rw[ha];exact hc));exact ⟨_,_,H,new cap S _ O,stp _,λb E=>fin b E⟩
theorem Q5 {t e sz bys:Nat}{z:Value}[h:Sl P t e sz bys z] {s y:Operand}{base:Nat}{v:Value}{n:Nat}{cs:LV}(E:w.ownsRow base e sz v n cs) (hs:ev f s=v)
  {a:Addr} {m c:Nat} {news:LV} (hy:ev f y=.slice (some a) m c) (hl:news.length=m*sz) {L:LN} (G:At L w.heap a news) (h1:∀u∈news,u.oneCell'=true)
  (hb:n+m≤1099511627776) (H:base≤w.heap.size)
  (I:∀v' w',w'.ownsRow base e sz v' (n+m) (cs++news)→Step (ob v) w w'→(∀b∈ob v',b∈ob v∨w.heap.size≤b)→K (QV f d v') w') (J:bys≤128:=by decide) :
  XO P ⟨d,.call ⟨.builtin .append,#[s,y],#[t,t]⟩,ty,ps,af,gd⟩ f w K:=by
 obtain ⟨v',w',S,h2,h3,V⟩:=zp (P:=P) (t:=t) (ty:=ty) E hl G.cells h1 hb J H (c:=c);have Y:(execOp (ev f) ⟨d,.call ⟨.builtin .append,#[s,y],#[t,t]⟩,ty,ps,af,gd⟩).run P w=.ok (.value v') w':=by
  simp[execOp,resolve,invoke,builtin,hs,hy,S]
 exact xv Y (I v' w' h2 h3 V)
end
def Qmb (P:Program) (t:Nat):Option (LV×LN):=match P.info? t,P.underlying t with
 | some it,some (.struct fs)=>match it.zero,fs.toList.mapM (λf=>(P.info? f.type).bind λi=>if i.size=1 then some f.offset else none) with
  | some (.agg zs),some offs=>some (zs.toList,offs)
  | _,_=>none
 | some it,some (.array n e)=>match it.zero,P.info? e with
  | some (.agg zs),some ie=>if ie.size=1 then some (zs.toList,List.range n) else none
  | _,_=>none
 | _,_=>none
class Bs (P:Program) (t:Nat) (zs:outParam (LV)) (offs:outParam (LN)):Prop where
 h:Qmb P t=some (zs,offs)
 b:offs.all (·<zs.length)=true
def bld (offs:LN) (zs:LV):List (Nat×Value)→LV
 | []=>zs
 | (j,v)::ps=>bld offs (zs.set (offs.getD j 0) v) ps
def Qkc:LV→Prop
 | []=>True
 | v::vs=>v.cells=[v].toArray∧Qkc vs
theorem qP {place:Nat→Option (Nat×Nat)}{offs:LN}(hp:∀j,j<offs.length→place j=some (offs.getD j 0,1)):∀(ps:List (Nat×Value)) (zs:LV),Qkc (ps.map (·.2))→ps.all (λp=>p.1<offs.length)=true →
  (∀o∈offs,o<zs.length)→Instr.fill place zs.toArray ps=some (bld offs zs ps).toArray
 | [],zs,_,_,_=>rfl
 | (j,v)::ps,zs,h1,h2,h3=>by
  simp only[List.all_cons,Bool.and_eq_true,decide_eq_true_eq] at h2;have E:=hp j h2.1;have H:offs.getD j 0<zs.length:=h3 _ (by simp[List.getD,List.getElem?_eq_getElem h2.1]);unfold Instr.fill;simp only[E];have hc:v.cells=#[v]:=h1.1;simp only[hc]
  rw[if_neg (by rw[show (#[v]:Array Value).size=1 from rfl,LX];simp only[ne_eq,not_true,decide_false,Bool.false_or,decide_eq_true_eq];omega)];have:(#[v]:Array Value).zipIdx.foldl (λcs (x:Value×Nat)=>cs.setIfInBounds (offs.getD j 0+x.2) x.1) zs.toArray=(zs.set (offs.getD j 0) v).toArray:=by
   simp[Array.zipIdx]
  rw[this];exact qP hp ps _ h1.2 h2.2 (λo G=>by rw[Nv];exact h3 o G)
theorem Qci {P:Program}{t:Nat}{zs:LV}{offs:LN}(h:Qmb P t=some (zs,offs)) (hb:offs.all (·<zs.length)=true) (ps:List (Nat×Value)) (h1:Qkc (ps.map (·.2))) (h2:ps.all (λp=>p.1<offs.length)=true) :
  P.built t ps=some (bld offs zs ps).toArray:=by
 have h3:∀o∈offs,o<zs.length:=λo J=>by simpa using Mk.1 hb o J
 unfold Qmb at h;unfold Program.built;cases hi:P.info? t with
 | none=>simp[hi] at h
 | some it =>
  cases hu:P.underlying t with
  | none=>simp[hi,hu] at h
  | some dd =>
   simp only[hi,hu] at h;cases dd <;> simp only[] at h <;> try (cases h)
   case struct fs =>
    cases E:it.zero with
    | none=>simp[E] at h
    | some z =>
     cases z <;> simp only[E] at h <;> try (cases h)
     rename_i za;cases hm:fs.toList.mapM (λf=>(P.info? f.type).bind λi=>if i.size=1 then some f.offset else none) with
     | none=>simp[hm] at h
     | some offs' =>
      simp only[hm,Option.some.injEq,Prod.mk.injEq] at h;obtain ⟨rfl,rfl⟩:=h;have key:∀(l:List Field) (offs:LN),l.mapM (λf=>(P.info? f.type).bind λi=>if i.size=1 then some f.offset else none)=some offs →
        l.mapM (λf=>(P.info? f.type).map λi=>(f.offset,i.size))=some (offs.map λo=>(o,1)):=by
       intro l;induction l with
       | nil=>intro offs h;simp at h;subst h;rfl
       | cons f l ih =>
        intro offs h;simp only[List.mapM_cons] at h ⊢;cases H:P.info? f.type with
        | none=>simp[H] at h
        | some i =>
         by_cases hs:i.size=1
         ·simp only[H,Option.bind_some,hs,if_true,Option.bind_eq_bind] at h;cases hl:l.mapM (λf=>(P.info? f.type).bind λi=>if i.size=1 then some f.offset else none) with
          | none=>simp[hl] at h
          | some os =>
           simp[hl] at h;subst h;simp[ih os hl,hs]
         simp[H,hs] at h
      have S:=key _ _ hm;simp only[E,S,Value.cells];rw[←qP (place:=λj=>((offs'.map λo=>(o,1)).toArray)[j]?) (λj G=>by simp[List.getElem?_eq_getElem G,List.getD]) ps za.toList h1 h2 h3]
   case array n e =>
    cases E:it.zero with
    | none=>simp[E] at h
    | some z =>
     cases z <;> simp only[E] at h <;> try (cases h)
     rename_i za;cases I:P.info? e with
     | none=>simp[I] at h
     | some ie =>
      simp only[I] at h;split at h
      ·rename_i hs;simp only[Option.some.injEq,Prod.mk.injEq] at h;obtain ⟨rfl,rfl⟩:=h;simp only[E,I,Value.cells];rw[←qP (place:=λi=>some (i*ie.size,ie.size)) (λj G=>by simp at G;simp[hs,List.getD,G]) ps za.toList h1 h2 h3]
      cases h
theorem QD {P:Program}{f:Fr}{w:World}{d:Option Nat}{ty:Nat}{ps:String}{af:Array Edge}{gd:Option (Nat×Bool)}{t:Nat}{zs:LV}{offs:LN}[h:Bs P t zs offs] {parts:List (Nat×Operand)}
  (h1:Qkc (parts.map λx=>ev f x.2)) (h2:parts.all (λp=>p.1<offs.length)=true:=by rfl) :
  (execOp (ev f) ⟨d,.build t parts.toArray,ty,ps,af,gd⟩).run P w=.ok (.value (.agg (bld offs zs (parts.map λx=>(x.1,ev f x.2))).toArray)) w:=by
 have hb:=Qci h.h h.b (parts.map λx=>(x.1,ev f x.2)) (by rw[Mj];exact h1) (by rw[List.all_map];exact h2);have E:=run_build (P:=P) w t (parts.toArray.map λ(i,x)=>(i,ev f x)) _ (by simpa using hb);simp only[execOp,Sem.run_bind,E,Result.andThen_ok,Sem.run_pure]
section
variable {κ:Type} [DecidableEq κ]
def mget:List (κ×Value)→κ→Option Value
 | [],_=>none
 | (k',v)::m,k=>if k'=k then some v else mget m k
def mput:List (κ×Value)→κ→Value→List (κ×Value)
 | [],k,v=>[(k,v)]
 | (k',v')::m,k,v=>if k'=k then (k',v)::m else (k',v')::mput m k v
theorem Jp (m:List (κ×Value)) (k k':κ) (v:Value):mget (mput m k v) k'=if k=k' then some v else mget m k':=by
 induction m with
 | nil=>simp[mget,mput]
 | cons p m ih =>
  obtain ⟨q,u⟩:=p;simp only[mput];by_cases h:q=k
  ·subst h;simp[mget];by_cases h2:q=k' <;> simp[h2]
  simp only[h,if_false,mget,ih];by_cases h2:q=k'
  ·subst h2;simp[Ne.symm h]
  simp[h2]
def fnd (k:κ):List κ→List MapEntry→Nat→Option (Nat×Value)
 | q::ks,e::es,i=>if k=q then some (i,e.val) else fnd k ks es (i+1)
 | _,_,_=>none
end
class Key (P:Program) (kt:Nat) {κ:Type} [DecidableEq κ] (enc:κ→Value):Prop where
 check:∀(w:World) (em:Bool) (k:κ),(Instr.checkKey em 10000 kt (enc k)).run P w=.ok () w
 find:∀(w:World) (k:κ) (ks:List κ) (es:List MapEntry),es.map (·.key)=ks.map enc→(Instr.findKey kt (enc k) es).run P w=.ok (fnd k ks es 0) w
 same:∀k,Instr.sameBits 10000 (enc k) (enc k)=true
abbrev KX (n:Int):Value:=.int .i64 n
abbrev Xn (p:Int×Int):Value:=.agg #[.int .i64 p.1,.int .i64 p.2]
abbrev XG (s:ByteArray):Value:=.string s
theorem Qjl {P:Program}{kt:Nat}(hu:P.underlying kt=some (.int .i64)):Key P kt KX:=by
 refine ⟨λw em k=>?_,λw k ks E h=>?_,λk=>by simp[Instr.sameBits]⟩
 ·have G:∀n,(Instr.checkKey em (n+1) kt (KX k)).run P w=.ok () w:=λn=>by simp[Instr.checkKey,run_underlying hu]
  exact G 9999
 have key:∀(ks:LI) (E:List MapEntry) (i:Nat),E.map (·.key)=ks.map KX→Instr.findNow (.int .i64) (KX k) E i=some (fnd k ks E i):=by
  intro ks;induction ks with
  | nil=>intro E i h;simp at h;subst h;rfl
  | cons q ks ih =>
   intro E i h;cases E with
   | nil=>simp at h
   | cons e E =>
    simp only[List.map_cons,List.cons.injEq] at h;have H:=ih E (i+1) h.2;simp only[Instr.findNow,h.1,Instr.sameNow,KX,if_true,fnd];by_cases hq:k=q
    ·subst hq;simp
    have:(k == q)=false:=by simpa using hq
    simp[hq,this,H]
 simp[Instr.findKey,run_underlying hu,key ks E 0 h]
theorem Qjk {P:Program}{kt:Nat}(hu:P.underlying kt=some .string):Key P kt XG:=by
 refine ⟨λw em k=>?_,λw k ks E h=>?_,λk=>by simp[Instr.sameBits,(MapKept.bytes_beq k k).2 rfl]⟩
 ·have G:∀n,(Instr.checkKey em (n+1) kt (XG k)).run P w=.ok () w:=λn=>by simp[Instr.checkKey,run_underlying hu]
  exact G 9999
 have key:∀(ks:List ByteArray) (E:List MapEntry) (i:Nat),E.map (·.key)=ks.map XG→Instr.findNow .string (XG k) E i=some (fnd k ks E i):=by
  intro ks;induction ks with
  | nil=>intro E i h;simp at h;subst h;rfl
  | cons q ks ih =>
   intro E i h;cases E with
   | nil=>simp at h
   | cons e E =>
    simp only[List.map_cons,List.cons.injEq] at h;have H:=ih E (i+1) h.2;simp only[Instr.findNow,h.1,Instr.sameNow,XG,fnd];by_cases hq:k=q
    ·subst hq;simp[(MapKept.bytes_beq k k).2 rfl]
    have:(k == q)=false:=by
     cases hb:(k == q) with
     | false=>rfl
     | true=>exact absurd ((MapKept.bytes_beq k q).1 hb) hq
    simp[hq,this,H]
 simp[Instr.findKey,run_underlying hu,key ks E 0 h]
theorem qi {P:Program}{kt e:Nat}(hu:P.underlying kt=some (.array 2 e)) (he:P.underlying e=some (.int .i64)) (hs:(P.info? e).map (·.size)=some 1) (w:World) (p q:Int×Int) :
  (Op.equal kt (Xn p) (Xn q)).run P w=.ok (decide (p=q)) w:=by
 obtain ⟨a,b⟩:=p;obtain ⟨c,d⟩:=q;cases hi:P.info? e with
 | none=>simp[hi] at hs
 | some ie =>
  simp[hi] at hs;have G:∀w,(isAgg e).run P w=.ok false w:=λw=>by simp[isAgg,run_underlying he]
  have hp:∀(x y:Int) (w:World),(part e #[.int .i64 x,.int .i64 y] 0).run P w=.ok (.int .i64 x) w:=λx y w=>by simp[part,G]
  have H:∀(x y:Int) (w:World),(part e #[.int .i64 x,.int .i64 y] 1).run P w=.ok (.int .i64 y) w:=λx y w=>by simp[part,G]
  have E:∀(m:Nat) (x y:Int) (w:World),(Op.equalIn (m+1) e (.int .i64 x) (.int .i64 y)).run P w=.ok (x == y) w:=λm x y w=>by simp[Op.equalIn,run_underlying he]
  simp only[Op.equal,Op.maxDepth,Xn];unfold Op.equalIn;simp only[Sem.run_bind,run_underlying hu,Result.andThen_ok,sizeOf,typeInfo,run_program,hi,Sem.run_pure,hs];simp only[Std.Legacy.Range.forIn_eq_forIn_range',Std.Legacy.Range.size,Nat.sub_zero,Nat.add_sub_cancel,Nat.div_one,List.range'_succ,List.range'_zero,List.forIn_cons,List.forIn_nil,Nat.zero_mul,Nat.one_mul,Nat.zero_add];by_cases h1:a=c
  ·subst h1;by_cases h2:b=d
   ·subst h2;simp[hp,H,E]
   simp[hp,H,E,h2]
  simp[hp,E,h1]
theorem QgF {P:Program}{kt e:Nat}(hu:P.underlying kt=some (.array 2 e)) (he:P.underlying e=some (.int .i64)) (hs:(P.info? e).map (·.size)=some 1):Key P kt Xn:=by
 refine ⟨λw em k=>?_,λw k ks E h=>?_,λk=>?_⟩
 ·obtain ⟨a,b⟩:=k;cases hi:P.info? e with
  | none=>simp[hi] at hs
  | some ie =>
   simp[hi] at hs;have G:∀w,(isAgg e).run P w=.ok false w:=λw=>by simp[isAgg,run_underlying he]
   have hp:∀(x y:Int) (w:World),(part e #[.int .i64 x,.int .i64 y] 0).run P w=.ok (.int .i64 x) w:=λx y w=>by simp[part,G]
   have H:∀(x y:Int) (w:World),(part e #[.int .i64 x,.int .i64 y] 1).run P w=.ok (.int .i64 y) w:=λx y w=>by simp[part,G]
   have I:∀(m:Nat) (x:Int) (w:World),(Instr.checkKey em (m+1) e (.int .i64 x)).run P w=.ok () w:=λm x w=>by simp[Instr.checkKey,run_underlying he]
   simp only[Xn];unfold Instr.checkKey;simp only[Sem.run_bind,run_underlying hu,Result.andThen_ok,sizeOf,typeInfo];simp[Std.Legacy.Range.forIn_eq_forIn_range',Std.Legacy.Range.size,List.range'_succ,hi,hs,hp,H,I]
 ·have J:∀E i,E.map (·.key)=ks.map Xn→Instr.findNow (.array 2 e) (Xn k) E i=none∨E=[]:=by
   intro E i h;cases E with
   | nil=>exact .inr O
   | cons e E=>left;simp[Instr.findNow,Instr.sameNow]
  have ask:∀(ks:List (Int×Int)) (E:List MapEntry) (i:Nat),E.map (·.key)=ks.map Xn→(Instr.findAsking kt (Xn k) E i).run P w=.ok (fnd k ks E i) w:=by
   intro ks;induction ks with
   | nil=>intro E i h;simp at h;subst h;simp[Instr.findAsking,fnd]
   | cons q ks ih =>
    intro E i h;cases E with
    | nil=>simp at h
    | cons e E =>
     simp only[List.map_cons,List.cons.injEq] at h;have S:=ih E (i+1) h.2;simp only[Instr.findAsking,h.1,Sem.run_bind,qi hu he hs,Result.andThen_ok,fnd];by_cases hq:k=q
     ·subst hq;simp
     simp[hq,S]
  rcases J E 0 h with h1 | h1
  ·simp[Instr.findKey,run_underlying hu,h1,ask ks E 0 h]
  subst h1;have:ks=[]:=by simpa using h.symm
  subst this;simp[Instr.findKey,run_underlying hu,Instr.findNow,fnd]
 simp[Instr.sameBits]
class Mp (P:Program) (t:Nat) (kt et:outParam Nat) (z:outParam Value):Prop where
 u:P.underlying t=some (.map kt et)
 z:(P.info? et).map (·.zero)=some (some z)
def Z7 {κ:Type}(enc:κ→Value) (H:Array Obj) (b:Nat) (m:List (κ×Value)):Prop :=
 ∃es clock,H[b]?=some (.map es clock)∧es.toList.map (λe=>(e.key,e.val))=m.map (λp=>(enc p.1,p.2))
section
variable {κ:Type} {enc:κ→Value}
theorem Z7.lt {H:Array Obj}{b:Nat}{m:List (κ×Value)}(h:Z7 enc H b m):b<H.size:=by
 obtain ⟨E,c,h1,_⟩:=h;exact (LE.1 h1).1
theorem Z7.step {X:LN}{w w':World}{b:Nat}{m:List (κ×Value)}(h:Z7 enc w.heap b m) (hs:Step X w w') (hb:b∉X):Z7 enc w'.heap b m:=by
 have hl:=h.lt;obtain ⟨E,c,h1,h2⟩:=h;exact ⟨E,c,by rw[hs.block b hl hb];exact h1,h2⟩
theorem Z7.ext {w w':World}{b:Nat}{m:List (κ×Value)}(h:Z7 enc w.heap b m) (hs:Step [] w w'):Z7 enc w'.heap b m:=h.step hs (by simp)
theorem jf {m:List (κ×Value)}{E:List MapEntry}(h:E.map (λe=>(e.key,e.val))=m.map (λp=>(enc p.1,p.2))):E.map (·.key)=(m.map (·.1)).map enc:=by
 have:=congrArg (List.map Prod.fst) h;simp only[List.map_map] at this ⊢;exact this
variable [DecidableEq κ]
theorem VD {k:κ}:∀{m:List (κ×Value)}{E:List MapEntry}{i:Nat},E.map (λe=>(e.key,e.val))=m.map (λp=>(enc p.1,p.2))→mget m k=none→fnd k (m.map (·.1)) E i=none
 | [],E,i,h,_=>by simp[fnd]
 | (q,u)::m,[],i,h,_=>by simp at h
 | (q,u)::m,e::E,i,h,hm=>by
  simp only[List.map_cons,List.cons.injEq] at h;simp only[mget] at hm;by_cases hq:q=k
  ·simp[hq] at hm
  simp only[hq,if_false] at hm;simp only[List.map_cons,fnd,Ne.symm hq,if_false];exact VD h.2 hm
theorem VC {k:κ}{u:Value}:∀{m:List (κ×Value)}{E:List MapEntry}{i:Nat},E.map (λe=>(e.key,e.val))=m.map (λp=>(enc p.1,p.2))→mget m k=some u →
  ∃j,fnd k (m.map (·.1)) E i=some (i+j,u)∧j<E.length∧(∃e,E[j]?=some e∧e.key=enc k) ∧
   ∀v,(E.modify j λe=>{ e with key:=enc k,val:=v }).map (λe=>(e.key,e.val))=(mput m k v).map (λp=>(enc p.1,p.2))
 | [],E,i,_,h=>by simp[mget] at h
 | (q,x)::m,[],i,h,_=>by simp at h
 | (q,x)::m,e::E,i,h,hm=>by
  simp only[List.map_cons,List.cons.injEq,Prod.mk.injEq] at h;simp only[mget] at hm;by_cases hq:q=k
  ·subst hq;simp at hm;subst hm;refine ⟨0,by simp[fnd,h.1.2],by simp,⟨e,rfl,h.1.1⟩,λv=>?_⟩;simp[mput,h.2]
  simp only[hq,if_false] at hm;obtain ⟨j,h1,h2,⟨G,h3,H⟩,I⟩:=VC (i:=i+1) h.2 hm;refine ⟨j+1,?_,by simp;omega,⟨G,by simpa using h3,H⟩,λv=>?_⟩
  ·simp only[List.map_cons,fnd,Ne.symm hq,if_false,h1];congr 2;omega
  simp only[mput,hq,if_false,List.modify_succ_cons,List.map_cons,I v,h.1]
end
section
variable {P:Program} {K:Fr→World→Prop} {f:Fr} {w:World} {d:Option Nat} {ty:Nat} {ps:String} {af:Array Edge} {gd:Option (Nat×Bool)} {κ:Type} [DecidableEq κ]
omit [DecidableEq κ] in
theorem YB {t:Nat}(enc:κ→Value)
  (E:∀b w',Step [] w w'→w.heap.size≤b→Z7 enc w'.heap b []→K (QV f d (.map (some b))) w'):XO P ⟨d,.makeMap t none,ty,ps,af,gd⟩ f w K:=by
 have G:(execOp (ev f) ⟨d,.makeMap t none,ty,ps,af,gd⟩).run P w=.ok (.value (.map (some w.heap.size))) (w.alloc (.map #[] 0)):=by
  simp[execOp,Instr.makeMap]
 exact xv G (E _ _ (Step.alloc w _) (Lt _) ⟨#[],0,Kk w _,O⟩)
theorem Y6 {b:Nat}{E:Array MapEntry}{c:Nat}(h:w.heap[b]?=some (.map E c)):(getObj b).run P w=.ok (.map E c) w:=by
 simp[getObj,Sem.run,h]
theorem KH {b:Nat} {H E:Array MapEntry} {c G:Nat} (h:w.heap[b]?=some (.map H c)):(setObj b (.map E G)).run P w=.ok () { w with heap:=w.heap.setIfInBounds b (.map E G) }:=by
 simp[setObj,Sem.run,h]
theorem Vm {t kt et:Nat}{z:Value}[hm:Mp P t kt et z] {enc:κ→Value}[hk:Key P kt enc] {x y:Operand}{b:Nat}{m:List (κ×Value)}{k:κ}(h:Z7 enc w.heap b m) (hx:ev f x=.map (some b)) (hy:ev f y=enc k) :
  (execOp (ev f) ⟨d,.lookup t x y true,ty,ps,af,gd⟩).run P w=.ok (.value (match mget m k with | some u=>.tuple #[u,.bool true] | none=>.tuple #[z,.bool false])) w:=by
 obtain ⟨G,c,h1,h2⟩:=h;have H:=hk.find w k (m.map (·.1)) G.toList (jf h2);have I:(zeroValue et).run P w=.ok z w:=by
  have:=hm.z;cases hi:P.info? et with
  | none=>simp[hi] at this
  | some i=>simp[hi] at this;simp[zeroValue,typeInfo,hi,this]
 simp only[execOp,Sem.run_bind,Instr.lookup,run_underlying hm.u,Result.andThen_ok,hx,hy,Y6 h1,Sem.run_pure,hk.check,H];cases E:mget m k with
 | none=>rw[VD h2 E];simp[I]
 | some u =>
  obtain ⟨j,J,_⟩:=VC (i:=0) h2 E;rw[J];simp
theorem Jj {t kt et:Nat}{z:Value}[hm:Mp P t kt et z] {enc:κ→Value}[hk:Key P kt enc] {x y:Operand}{b:Nat}{m:List (κ×Value)}{k:κ}(h:Z7 enc w.heap b m) (hx:ev f x=.map (some b)) (hy:ev f y=enc k) :
  (execOp (ev f) ⟨d,.lookup t x y false,ty,ps,af,gd⟩).run P w=.ok (.value (match mget m k with | some u=>u | none=>z)) w:=by
 obtain ⟨G,c,h1,h2⟩:=h;have H:=hk.find w k (m.map (·.1)) G.toList (jf h2);have I:(zeroValue et).run P w=.ok z w:=by
  have:=hm.z;cases hi:P.info? et with
  | none=>simp[hi] at this
  | some i=>simp[hi] at this;simp[zeroValue,typeInfo,hi,this]
 simp only[execOp,Sem.run_bind,Instr.lookup,run_underlying hm.u,Result.andThen_ok,hx,hy,Y6 h1,Sem.run_pure,hk.check,H];cases E:mget m k with
 | none=>rw[VD h2 E];simp[I]
 | some u =>
  obtain ⟨j,J,_⟩:=VC (i:=0) h2 E;rw[J];simp
theorem qh {t kt et:Nat}{z:Value}[hm:Mp P t kt et z] {enc:κ→Value}[hk:Key P kt enc] {b:Nat}{m:List (κ×Value)}{k:κ}{u:Value}(h:Z7 enc w.heap b m) :
  ∃w',(Instr.mapUpdate t (.map (some b)) (enc k) u).run P w=.ok () w'∧Step [b] w w'∧Z7 enc w'.heap b (mput m k u):=by
 have hl:=h.lt;obtain ⟨E,c,h1,h2⟩:=h;have G:=hk.find w k (m.map (·.1)) E.toList (jf h2);have stp:∀I J,Step [b] w { w with heap:=w.heap.setIfInBounds b (.map I J) }:=λI J =>
  ⟨rfl,rfl,rfl,by simp,λi hi S=>by
   have:b≠i:=λe=>S (by simp[e]);simp[Array.getElem?_setIfInBounds_ne this]⟩
 cases H:mget m k with
 | none =>
  rw[VD h2 H] at G;refine ⟨_,?_,stp (E.push { key:=enc k,val:=u,born:=c }) (c+1),E.push { key:=enc k,val:=u,born:=c },c+1,?_,?_⟩
  ·simp only[Instr.mapUpdate,Sem.run_bind,run_underlying hm.u,Result.andThen_ok,Y6 h1,hk.check,G,KH h1]
  ·simp[hl]
  have V:mput m k u=m++[(k,u)]:=by
   clear h2 G;induction m with
   | nil=>rfl
   | cons p m ih =>
    obtain ⟨q,x⟩:=p;by_cases hq:q=k
    ·simp[mget,hq] at H
    simp only[mget,hq,if_false] at H;simp[mput,hq,ih H]
  simp[V,h2]
 | some u0 =>
  obtain ⟨j,Y,ho,⟨e,he,ha⟩,hb⟩:=VC (i:=0) h2 H;rw[Y] at G;simp only[Nat.zero_add] at G;have hc:∀w,(Instr.keyThatStays (enc k) (enc k)).run P w=.ok (enc k) w:=λw=>by simp[Instr.keyThatStays,hk.same]
  have hh:((E[j]?).map (·.key)).getD (enc k)=enc k:=by
   have:E[j]?=some e:=by simpa using he
   simp[this,ha]
  refine ⟨_,?_,stp (E.modify j λe=>{ e with key:=enc k,val:=u }) c,E.modify j λe=>{ e with key:=enc k,val:=u },c,?_,?_⟩
  ·simp only[Instr.mapUpdate,Sem.run_bind,run_underlying hm.u,Result.andThen_ok,Y6 h1,hk.check,G,hh,hc,KH h1]
  ·simp[hl]
  rw[Array.toList_modify];exact hb u
theorem XB {t kt et:Nat}{z:Value}[hm:Mp P t kt et z] {enc:κ→Value}[hk:Key P kt enc] {x y v:Operand}{b:Nat}{m:List (κ×Value)}{k:κ}(h:Z7 enc w.heap b m) (hx:ev f x=.map (some b)) (hy:ev f y=enc k)
  (E:∀w',Step [b] w w'→Z7 enc w'.heap b (mput m k (ev f v))→K (QV f d undef) w'):XO P ⟨d,.mapUpdate t x y v,ty,ps,af,gd⟩ f w K:=by
 obtain ⟨w',h1,h2,h3⟩:=qh (P:=P) (t:=t) (k:=k) (u:=ev f v) h;exact xk (w':=w') (by simp[execOp,hx,hy,h1]) (E w' h2 h3)
theorem Xc {t kt et:Nat}{z:Value}[hm:Mp P t kt et z] {enc:κ→Value}[hk:Key P kt enc] {x y v:Operand}{b:Nat}{m:List (κ×Value)}{k:κ}(h:Z7 enc w.heap b m) (hx:ev f x=.map (some b)) (hy:ev f y=enc k)
  (E:∀w',Step [b] w w'→Z7 enc w'.heap b (mput m k (ev f v))→K (QV f d undef) w'):XO P ⟨d,.insert t x y v,ty,ps,af,gd⟩ f w K:=by
 obtain ⟨w',h1,h2,h3⟩:=qh (P:=P) (t:=t) (k:=k) (u:=ev f v) h;exact xk (w':=w') (by simp[execOp,hx,hy,h1]) (E w' h2 h3)
end
section
variable {P:Program} {ops:List Oper} {K:Fr→World→Prop} {f:Fr} {w:World} {d:Option Nat} {ty:Nat} {ps:String} {af:Array Edge} {gd:Option (Nat×Bool)} {l:List Oper}
theorem Jy {b T:Nat}{cs E:LV}(h:QZ w.heap b T cs):QZ (w.setRow b E.toArray).heap b T E:=setRow_heap w b cs.toArray E.toArray T (0,0) h
theorem zo (cs:LV) (j:Nat) (u:Value) (h:j<cs.length):cs.take j++[u]++cs.drop (j+1)=cs.set j u:=by
 rw[List.set_eq_take_append_cons_drop,if_pos h];simp
theorem QF {t:Nat}[h1:X9 P t] {x y:Operand}{b T j:Nat}{cs:LV}{u:Value}(E:QZ w.heap b T cs) (hx:ev f x=.pointer (some ⟨b,j,none⟩)) (hy:ev f y=u) (I:j<cs.length) (hu:u.oneCell'=true)
  (J:∀w',Step [b] w w'→QZ w'.heap b T (cs.set j u)→K (QV f d undef) w'):XO P ⟨d,.store t x y,ty,ps,af,gd⟩ f w K:=by
 have hc:u.cells=#[u]:=by cases u <;> first | rfl | cases hu
 have G:=run_storeCells_at P b j T [u] 0 cs.toArray w E (by simp;omega) (by simp[hu]);simp only[Nat.add_zero,List.length_singleton,zo cs j u I] at G;refine xk (w':=w.setRow b (cs.set j u).toArray) ?_ (J _ (Step.setRow _ _ _) (Jy E));simp[execOp,hx,hy,Instr.storeAt,Instr.sureAddr,storeVar,Qbt,hc,G]
def ZQ:LV→Prop
 | []=>True
 | u::us=>u.oneCell'=true∧ZQ us
theorem ZQ.all:∀{us:LV},ZQ us→∀u∈us,u.oneCell'=true
 | [],_,u,hu=>by cases hu
 | v::us,h,u,hu=>by
  rcases Lb.1 hu with rfl | hu
  ·exact h.1
  exact ZQ.all h.2 u hu
theorem Qo {t sz:Nat}[h1:Ag P t sz] {x y:Operand}{b T:Nat}{cs us:LV}(E:QZ w.heap b T cs) (hx:ev f x=.pointer (some ⟨b,0,none⟩)) (hy:ev f y=.agg us.toArray) (hl:us.length=sz) (I:cs.length=sz) (hu:ZQ us)
  (J:∀w',Step [b] w w'→QZ w'.heap b T us→K (QV f d undef) w'):XO P ⟨d,.store t x y,ty,ps,af,gd⟩ f w K:=by
 have G:=run_storeCells_at P b 0 T us 0 cs.toArray w E (by simp;omega) hu.all;have e:(cs.take 0++us++cs.drop us.length)=us:=by rw[hl,←I];simp
 simp only[Nat.add_zero,Nat.zero_add,e] at G;refine xk (w':=w.setRow b us.toArray) ?_ (J _ (Step.setRow _ _ _) (Jy E));subst hl;simp[execOp,hx,hy,Instr.storeAt,Instr.sureAddr,storeVar,VV (sz:=us.length),Value.cells,G]
theorem Zj {x y:Operand}{t e sz bys:Nat}{z:Value}[h:Sl P t e sz bys z] {b o n c:Nat}{k:IntKind}{i:Nat}(hx:ev f x=.slice (some ⟨b,o,none⟩) n c) (hy:ev f y=.int k i) (h1:i<n) :
  (execOp (ev f) ⟨d,.indexAddr t x y,ty,ps,af,gd⟩).run P w=.ok (.value (.pointer (some ⟨b,o+i*sz,none⟩))) w:=by
 have:=Xt (P:=P) (w:=w) (d:=d) (ty:=ty) (ps:=ps) (af:=af) (gd:=gd) (t:=t) hx hy (by omega) (by omega);rw[Ka] at this;simpa using this
theorem V1 {t e sz bys:Nat}{z:Value}[h:Sl P t e sz bys z] {x y:Operand}{k k':IntKind}{n:Nat}(hx:ev f x=.int k n) (hy:ev f y=.int k' n) (J:n≤1099511627776)
  (S:∀b w',Step [] w w'→w.heap.size≤b→QZ w'.heap b e (List.replicate n z.cells.toList).flatten→K (QV f d (.slice (some ⟨b,0,none⟩) n n)) w') (V:bys≤128:=by decide) :
  XO P ⟨d,.makeSlice t x y,ty,ps,af,gd⟩ f w K:=by
 obtain ⟨i,hi,Y,ha,hc⟩:=Sl.info h;have hb:i.bytes*n≤281474976710656:=by
  rw[hc];exact LS (Nat.mul_le_mul V J) (by omega)
 have he:(i.bytes:Int)*(n:Int)≤281474976710656:=by
  have h:((i.bytes*n:Nat):Int)≤281474976710656:=by omega
  rwa [Int.natCast_mul] at h
 have G:=run_make (P:=P) w t e i z h.u hi Y k k' n n (by omega) (M5 _) he (by omega);simp only[Int.toNat_natCast] at G;have hf:madeCells z.cells (n*i.size)=(List.replicate n z.cells.toList).flatten.toArray:=by
  have hg:z.cells.size=i.size:=by rw[h.zs,ha]
  have hk:0<z.cells.size:=by rw[h.zs];exact h.pos
  apply Array.ext';apply Nj;intro j;simp only[madeCells,←hg,Array.toList_map,Array.toList_range,List.getElem?_map];have hh:∀n,(List.replicate n z.cells.toList).flatten.length=n*z.cells.size:=λn=>by simp
  have key:∀n j,j<n*z.cells.size→(List.replicate n z.cells.toList).flatten[j]?=some z.cells[j % z.cells.size]!:=by
   intro n;induction n with
   | zero=>intro j E;omega
   | succ n ih =>
    intro j E;rw[List.replicate_succ,List.flatten_cons];by_cases I:j<z.cells.size
    ·rw[L3 (by simpa using I),Mw I];simp[I]
    rw[Mt (by simp;omega)];have:=ih (j - z.cells.size) (by rw[MI] at E;omega);rw[Array.length_toList,this];rw[←Nat.mod_eq_sub_mod (by omega)]
  by_cases E:j<n*z.cells.size
  ·rw[key n j E];simp[E]
  rw[MT (by simpa using Nat.le_of_not_lt E),List.getElem?_eq_none (by rw[hh];omega)];rfl
 rw[hf] at G;refine xv (w':=w.alloc (.cells (List.replicate n z.cells.toList).flatten.toArray e)) (v:=.slice (some ⟨w.heap.size,0,none⟩) n n) ?_ (S _ _ (Step.alloc w _) (Lt _) (Kk w _));simp[execOp,hx,hy,G]
theorem Z4 {k:IntKind}{i y:Nat}{c:BoundsCode}(h:i≤y):(Instr.sliceBound (.int k i) y c).run P w=.ok i w:=by
 simp[Instr.sliceBound,asIntOf,h]
theorem Zs.cut {L:LN}{H:Array Obj}{a:Addr}{n cap sz:Nat}{cs:LV}(h:Zs L H (.slice (some a) n cap) n sz cs) {lo hi:Nat}(h1:lo≤hi) (h2:hi≤n) :
  Zs L H (.slice (if cap=lo then some a else some (a.add (lo*sz))) (hi - lo) (cap - lo)) (hi - lo) sz ((cs.drop (lo*sz)).take ((hi - lo)*sz)):=by
 obtain ⟨h3,I,h5⟩:=h;rcases h5 with ⟨E,_⟩ | ⟨a',cap',E,J,G⟩
 ·cases E
 cases E
 refine ⟨?_,by omega,.inr ?_⟩
 ·simp only[List.length_take,List.length_drop,h3,←Nat.sub_mul];rw[MP];exact ME _ (by omega)
 split
 ·rename_i hc;have:hi - lo=0:=by omega
  refine ⟨a,cap - lo,by rw[this],by omega,λu hu=>?_,λu hu=>?_,λj u hu=>?_⟩
  ·simp[this] at hu
  ·simp[this] at hu
  simp[this] at hu
 refine ⟨a.add (lo*sz),cap - lo,O,by omega,λu hu=>by rw[Z6];exact G.out u (MN (LT hu)),λu hu=>by rw[Z6];exact G.lt u (MN (LT hu)),λj u hu=>?_⟩;rw[Addr.add_add];rw[LW] at hu;split at hu
 ·exact G.cell _ u (by simpa using hu)
 cases hu
theorem QiU {t e sz bys:Nat}{z:Value}[h:Sl P t e sz bys z] {x y1 y2:Operand}{L:LN}{v:Value}{n:Nat}{cs:LV}{H:Array Obj}{k k':IntKind}{lo hi:Nat}(G:Zs L H v n sz cs) (hx:ev f x=v) (hl:ev f y1=.int k lo) (I:ev f y2=.int k' hi)
  (h1:lo≤hi) (h2:hi≤n):∃v',Zs L H v' (hi - lo) sz ((cs.drop (lo*sz)).take ((hi - lo)*sz))∧∀w,(execOp (ev f) ⟨d,.slice t x (some y1) (some y2) none,ty,ps,af,gd⟩).run P w=.ok (.value v') w:=by
 obtain ⟨i,J,_,S,_⟩:=Sl.info h;rcases G.2.2 with ⟨E,V⟩ | ⟨a,cap,E,hc,Y⟩
 ·have e1:hi=0:=by omega
  have e2:lo=0:=by omega
  subst e1 e2;refine ⟨nS,⟨by simp,by omega,.inl ⟨rfl,rfl⟩⟩,λw=>?_⟩;simp[execOp,hx,E,hl,I,Instr.sliceAt,Instr.slice,run_underlying h.u,Instr.sliceBounds,Instr.sliceBound,asIntOf,sizeOf,typeInfo,J]
 subst E;refine ⟨_,G.cut h1 h2,λw=>?_⟩;have e1:(Instr.sliceBound (.int k' hi) cap .sliceAcap).run P w=.ok hi w:=Z4 (by omega);have e2:(Instr.sliceBound (.int k lo) hi .sliceB).run P w=.ok lo w:=Z4 (by omega);simp[execOp,hx,hl,I,Instr.sliceAt,Instr.slice,run_underlying h.u,Instr.sliceBounds,e1,e2,sizeOf,typeInfo,J,S]
theorem QfN {t e sz bys:Nat}{z:Value}[h:Sl P t e sz bys z] {x y1:Operand}{L:LN}{v:Value}{n:Nat}{cs:LV}{H:Array Obj}{k:IntKind}{lo:Nat}(E:Zs L H v n sz cs) (hx:ev f x=v) (hl:ev f y1=.int k lo)
  (h1:lo≤n):∃v',Zs L H v' (n - lo) sz (cs.drop (lo*sz))∧∀w,(execOp (ev f) ⟨d,.slice t x (some y1) none none,ty,ps,af,gd⟩).run P w=.ok (.value v') w:=by
 obtain ⟨i,I,_,S,_⟩:=Sl.info h;rcases E.2.2 with ⟨G,V⟩ | ⟨a,cap,G,hc,Y⟩
 ·have e2:lo=0:=by omega
  subst e2 V;have:cs=[]:=Ln (by simpa using E.1);subst this;refine ⟨nS,⟨by simp,by omega,.inl ⟨rfl,rfl⟩⟩,λw=>?_⟩;simp[execOp,hx,G,hl,Instr.sliceAt,Instr.slice,run_underlying h.u,Instr.sliceBounds,Instr.sliceBound,asIntOf,sizeOf,typeInfo,I]
 subst G;have J:=E.cut h1 (Lt n);have e:(cs.drop (lo*sz)).take ((n - lo)*sz)=cs.drop (lo*sz):=Lo (by rw[Mq,E.1,←Nat.sub_mul];exact Lt _);rw[e] at J;refine ⟨_,J,λw=>?_⟩;have e2:(Instr.sliceBound (.int k lo) n .sliceB).run P w=.ok lo w:=Z4 h1
 simp[execOp,hx,hl,Instr.sliceAt,Instr.slice,run_underlying h.u,Instr.sliceBounds,e2,sizeOf,typeInfo,I,S]
theorem QfO {t e sz bys:Nat}{z:Value}[h:Sl P t e sz bys z] {x y2:Operand}{L:LN}{v:Value}{n:Nat}{cs:LV}{H:Array Obj}{k:IntKind}{hi:Nat}(G:Zs L H v n sz cs) (hx:ev f x=v) (I:ev f y2=.int k hi)
  (h1:hi≤n):∃v',Zs L H v' hi sz (cs.take (hi*sz))∧∀w,(execOp (ev f) ⟨d,.slice t x none (some y2) none,ty,ps,af,gd⟩).run P w=.ok (.value v') w:=by
 obtain ⟨i,J,_,V,_⟩:=Sl.info h;rcases G.2.2 with ⟨E,Y⟩ | ⟨a,cap,E,hc,ha⟩
 ·have e2:hi=0:=by omega
  subst e2;refine ⟨nS,⟨by simp,by omega,.inl ⟨rfl,rfl⟩⟩,λw=>?_⟩;simp[execOp,hx,E,I,Instr.sliceAt,Instr.slice,run_underlying h.u,Instr.sliceBounds,Instr.sliceBound,asIntOf,sizeOf,typeInfo,J]
 subst E;have S:=G.cut (Ll hi) h1;simp only[Nat.zero_mul,List.drop_zero,Nat.sub_zero] at S;refine ⟨_,S,λw=>?_⟩;have e2:(Instr.sliceBound (.int k hi) cap .sliceAcap).run P w=.ok hi w:=Z4 (by omega);simp[execOp,hx,I,Instr.sliceAt,Instr.slice,run_underlying h.u,Instr.sliceBounds,e2,sizeOf,typeInfo,J]
end
section
variable {P:Program} {ops:List Oper} {K:Fr→World→Prop} {C:World→Prop} {f:Fr} {w w0:World} {d:Option Nat} {ty:Nat} {ps:String} {af:Array Edge} {gd:Option (Nat×Bool)} {pl:List (Nat×Bool)} {i0:Nat}
theorem pi {x y:Operand}{t e sz bys:Nat}{z:Value}[Sl P t e sz bys z] {L:LN}{n:Nat}{cs:LV}{v:Value}{H:Array Obj}{k:IntKind}{i:Nat}
  (E:Q6 ops i0=⟨d,.indexAddr t x y,ty,ps,af,gd⟩) (h:Zs L H v n sz cs) (G:ev f x=v) (hy:ev f y=.int k i) (hi:i<n)
  (I:∀a,At L H a ((cs.drop (i*sz)).take sz)→XP P ops C K pl (QV f d (.pointer (some a))) w) (J:Yk ops f (Q6 ops i0)=true:=by rfl) :
  XP P ops C K ((i0,true)::pl) f w:=by
 obtain ⟨a,cap,h1,h2⟩:=h.at hi;refine Lg.p (λw'=>by rw[E];exact Xt (G.trans h1) hy (by omega) (by omega)) ?_ J;rw[E];refine I _ ?_;simpa using h2
theorem pii {x y:Operand}{t e bys:Nat}{z:Value}[Sl P t e 1 bys z] {L:LN}{li:LI}{v:Value}{H:Array Obj}{k:IntKind}{i:Nat}
  (E:Q6 ops i0=⟨d,.indexAddr t x y,ty,ps,af,gd⟩) (h:QL L H v li) (G:ev f x=v) (hy:ev f y=.int k i) (hi:i<li.length)
  (I:∀a,At L H a [.int .i64 li[i]]→XP P ops C K pl (QV f d (.pointer (some a))) w) (J:Yk ops f (Q6 ops i0)=true:=by rfl) :
  XP P ops C K ((i0,true)::pl) f w:=by
 obtain ⟨a,cap,h1,h2⟩:=QL.at h hi;refine Lg.p (λw'=>by rw[E];exact Xt (G.trans h1) hy (by omega) (by omega)) ?_ J;rw[E];refine I _ ?_;simpa using h2
end
abbrev Ed:=Int×Int×Int
def Qx (e:Ed):LV:=[.int .i64 e.1,.int .i64 e.2.1,.int .i64 e.2.2]
abbrev zj (L:LN) (H:Array Obj) (v:Value) (es:List Ed):Prop:=Zs L H v es.length 3 (es.flatMap Qx)
theorem X5 {α:Type}(g:α→LV) (sz:Nat) (E:∀x,(g x).length=sz):∀(l:List α) (i:Nat) (h:i<l.length),((l.flatMap g).drop (i*sz)).take sz=g l[i]
 | x::l,0,_=>by simp[E]
 | x::l,i+1,h=>by
  have:=X5 g sz E l i (by simpa using h);simp only[List.flatMap_cons,List.getElem_cons_succ];rw[←this,MI,Nt,M2,List.drop_append,E];simp[Nat.add_sub_cancel_left,List.drop_eq_nil_of_le,E]
theorem Kg {α:Type}(g:α→LV) (sz:Nat) (E:∀x,(g x).length=sz) (l:List α):(l.flatMap g).length=l.length*sz:=by
 induction l with
 | nil=>simp
 | cons x l ih=>simp[ih,E,Nat.add_mul,Nat.add_comm]
theorem X6 (e:Ed):(Qx e).length=3:=rfl
structure QN where
 al:LI
 st:Int
 mr:LI
 ed:List Ed
structure Zv (L:LN) (H:Array Obj) (va vm ve:Value) (a:QN):Prop where
 al:QL L H va a.al
 mr:QL L H vm a.mr
 ed:zj L H ve a.ed
def Qn2 (L:LN) (H:Array Obj) (v:Value) (a:QN):Prop:=∃va vm ve,v=.agg #[va,.int .i64 a.st,vm,ve]∧Zv L H va vm ve a
theorem Zv.ext {L:LN}{w w':World}{va vm ve:Value}{a:QN}(h:Zv L w.heap va vm ve a) (hs:Step [] w w'):Zv L w'.heap va vm ve a:=⟨h.al.ext hs,h.mr.ext hs,h.ed.ext hs⟩
theorem Zv.st {L:LN}{w w':World}{va vm ve:Value}{a:QN}(h:Zv L w.heap va vm ve a) (hs:Step L w w'):Zv L w'.heap va vm ve a:=⟨h.al.st hs,h.mr.st hs,h.ed.st hs⟩
theorem Zv.up {L L':LN}{H:Array Obj}{va vm ve:Value}{a:QN}(h:Zv L H va vm ve a) (E:∀b∈L',b∈L∨H.size≤b):Zv L' H va vm ve a:=⟨h.al.up E,h.mr.up E,h.ed.up E⟩
section
variable {P:Program} {f:Fr} {w:World} {d:Option Nat} {ty:Nat} {ps:String} {af:Array Edge} {gd:Option (Nat×Bool)}
class Ik (P:Program) (t:Nat) (k:outParam IntKind):Prop where
 u:P.underlying t=some (.int k)
theorem ZL {t E:Nat}{k k':IntKind}[h:Ik P t k] [h':Ik P E k'] {x:Operand}{n:Int}{G:IntKind}(hx:ev f x=.int G n) (I:inK k' n) :
  (execOp (ev f) ⟨d,.convert t E x,ty,ps,af,gd⟩).run P w=.ok (.value (.int k' n)) w:=by
 simp[execOp,hx,convert,run_underlying h.u,run_underlying h'.u,Conv.intToInt,Yl I]
class St (P:Program) (t:Nat):Prop where
 u:P.underlying t=some .string
end
theorem QX {α:Type}{l:List α}{k:Nat}(h:k<l.length):l.drop k=l[k]::l.drop (k+1):=LP h
theorem zj.at {L:LN}{H:Array Obj}{v:Value}{E:List Ed}(h:zj L H v E) {i:Nat}(hi:i<E.length) :
  ∃a cap,v=.slice (some a) E.length cap∧At L H (a.add (i*3)) (Qx E[i]):=by
 obtain ⟨a,cap,h1,h2⟩:=Zs.at h hi;rw[X5 Qx 3 X6 E i hi] at h2;exact ⟨a,cap,h1,h2⟩
section
variable {P:Program} {ops:List Oper} {K:Fr→World→Prop} {f:Fr} {w:World} {d:Option Nat} {ty:Nat} {ps:String} {af:Array Edge} {gd:Option (Nat×Bool)} {l:List Oper} {C:World→Prop} {pl:List (Nat×Bool)} {i0:Nat}
theorem xie {x y:Operand}{t e bys:Nat}{z:Value}[Sl P t e 3 bys z] {L:LN}{E:List Ed}{v:Value}{k:IntKind}{i:Nat}
  (h:zj L w.heap v E) (G:ev f x=v) (hy:ev f y=.int k i) (hi:i<E.length)
  (I:∀a,At L w.heap a (Qx E[i])→XL P ops K l (QV f d (.pointer (some a))) w) (J:Yk ops f ⟨d,.indexAddr t x y,ty,ps,af,gd⟩=true:=by rfl) :
  XL P ops K (⟨d,.indexAddr t x y,ty,ps,af,gd⟩::l) f w:=by
 obtain ⟨a,cap,h1,h2⟩:=zj.at h hi;refine xl J (xv (Xt (G.trans h1) hy (by omega) (by omega)) (I _ ?_));simpa using h2
theorem pie {x y:Operand}{t e bys:Nat}{z:Value}[Sl P t e 3 bys z] {L:LN}{E:List Ed}{v:Value}{H:Array Obj}{k:IntKind}{i:Nat}
  (G:Q6 ops i0=⟨d,.indexAddr t x y,ty,ps,af,gd⟩) (h:zj L H v E) (I:ev f x=v) (hy:ev f y=.int k i) (hi:i<E.length)
  (J:∀a,At L H a (Qx E[i])→XP P ops C K pl (QV f d (.pointer (some a))) w) (S:Yk ops f (Q6 ops i0)=true:=by rfl) :
  XP P ops C K ((i0,true)::pl) f w:=by
 obtain ⟨a,cap,h1,h2⟩:=zj.at h hi;refine Lg.p (λw'=>by rw[G];exact Xt (I.trans h1) hy (by omega) (by omega)) ?_ S;rw[G];refine J _ ?_;simpa using h2
end
section
variable {P:Program} {f:Fr} {w:World} {d:Option Nat} {ty:Nat} {ps:String} {af:Array Edge} {gd:Option (Nat×Bool)}
theorem zS {t E:Nat}{x y:Operand}{k k':IntKind}{a:Int}{n:Nat}(hx:ev f x=.int k a) (hy:ev f y=.int k' n) (G:n≤k.bits) :
  (execOp (ev f) ⟨d,.binOp .shr t x y E,ty,ps,af,gd⟩).run P w=.ok (.value (.int k (a / 2 ^ n))) w:=by
 refine Xb hx hy ?_;have h1:¬((n:Int)<0):=by omega
 simp only[binOp,Op.shift,h1,if_false,Int.toNat_natCast,Nat.min_eq_left G,Sem.run_pure];rw[Int.fdiv_eq_ediv_of_nonneg _ (Int.le_of_lt (Int.pow_pos (by decide)))]
class S3 (P:Program) (t:Nat):Prop where
 u:∃f0 f1 f2,P.underlying t=some (.struct #[f0,f1,f2])∧f0.name ≠ "_" ∧ f1.name ≠ "_" ∧ f2.name ≠ "_" ∧ f0.offset=0∧f1.offset=1∧f2.offset=2 ∧
  P.underlying f0.type=some (.int .i64)∧P.underlying f1.type=some (.int .i64)∧P.underlying f2.type=some (.int .i64)
 s:P.stoodInHeld t=false
 g:P.eqGuardType P.depth t=false
theorem Vi {t:Nat}[h:S3 P t] (w:World) (p q:Ed):(Op.equal t (.agg (Qx p).toArray) (.agg (Qx q).toArray)).run P w=.ok (decide (p=q)) w:=by
 obtain ⟨a,b,c⟩:=p;obtain ⟨V,b',Y⟩:=q;obtain ⟨f0,f1,f2,hu,J,n1,n2,S,o1,o2,G,I,u2⟩:=h.u;have ha:∀e w,P.underlying e=some (.int .i64)→(isAgg e).run P w=.ok false w:=λe w he=>by simp[isAgg,run_underlying he]
 have hp:∀e (x y z:Int) (w:World),P.underlying e=some (.int .i64)→(part e #[.int .i64 x,.int .i64 y,.int .i64 z] 0).run P w=.ok (.int .i64 x) w:=λe x y z w he=>by simp[part,ha e w he]
 have hb:∀e (x y z:Int) (w:World),P.underlying e=some (.int .i64)→(part e #[.int .i64 x,.int .i64 y,.int .i64 z] 1).run P w=.ok (.int .i64 y) w:=λe x y z w he=>by simp[part,ha e w he]
 have hc:∀e (x y z:Int) (w:World),P.underlying e=some (.int .i64)→(part e #[.int .i64 x,.int .i64 y,.int .i64 z] 2).run P w=.ok (.int .i64 z) w:=λe x y z w he=>by simp[part,ha e w he]
 have E:∀e (m:Nat) (x y:Int) (w:World),P.underlying e=some (.int .i64)→(Op.equalIn (m+1) e (.int .i64 x) (.int .i64 y)).run P w=.ok (x == y) w:=λe m x y w he=>by simp[Op.equalIn,run_underlying he]
 have key:∀m,(Op.equalIn (m+2) t (.agg (Qx (a,b,c)).toArray) (.agg (Qx (V,b',Y)).toArray)).run P w=.ok (decide ((a,b,c)=(V,b',Y))) w:=by
  intro m;simp only[Qx];unfold Op.equalIn;simp only[Sem.run_bind,run_underlying hu,Result.andThen_ok];by_cases e1:a=V
  ·subst e1;by_cases e2:b=b'
   ·subst e2;by_cases e3:c=Y
    ·subst e3;simp[h.s,J,n1,n2,S,o1,o2,hp _ _ _ _ _ G,hb _ _ _ _ _ I,hc _ _ _ _ _ u2,E _ _ _ _ _ G,E _ _ _ _ _ I,E _ _ _ _ _ u2]
    simp[h.s,J,n1,n2,S,o1,o2,hp _ _ _ _ _ G,hb _ _ _ _ _ I,hc _ _ _ _ _ u2,E _ _ _ _ _ G,E _ _ _ _ _ I,E _ _ _ _ _ u2,e3]
   simp[h.s,J,n1,S,o1,hp _ _ _ _ _ G,hb _ _ _ _ _ I,E _ _ _ _ _ G,E _ _ _ _ _ I,e2]
  simp[h.s,J,S,hp _ _ _ _ _ G,E _ _ _ _ _ G,e1]
 exact key 9998
theorem Vl {t E:Nat}[h:S3 P t] {x y:Operand}{p q:Ed}(hx:ev f x=.agg (Qx p).toArray) (hy:ev f y=.agg (Qx q).toArray) :
  (execOp (ev f) ⟨d,.binOp .neq t x y E,ty,ps,af,gd⟩).run P w=.ok (.value (.bool (decide (¬p=q)))) w:=by
 have G:(eqGuard .neq t x y (.agg (Qx p).toArray) (.agg (Qx q).toArray)).run P w=.ok () w:=by simp[eqGuard,h.g]
 simp only[execOp,hx,hy,Sem.run_bind,G,Result.andThen_ok,binOp,Vi,Sem.run_pure];by_cases e:p=q <;> simp[e]
end
theorem Step.then1 {L:LN}{w0 w w':World}{b:Nat}(h:Step L w0 w) (k:Step [b] w w') (hb:w0.heap.size≤b):Step L w0 w':=h.then k (λc hc=>.inr (by simp at hc;omega))
section
variable {P:Program} {K:Fr→World→Prop} {f:Fr} {w:World} {d:Option Nat} {ty:Nat} {ps:String} {af:Array Edge} {gd:Option (Nat×Bool)}
theorem Vn {t E e sz bys:Nat}{z:Value}[h:Sl P t e sz bys z] {x y:Operand}{a:Option Addr}{n c:Nat}(hx:ev f x=.slice a n c) (hy:ev f y=nS) :
  (execOp (ev f) ⟨d,.binOp .eql t x y E,ty,ps,af,gd⟩).run P w=.ok (.value (.bool a.isNone)) w:=by
 have G:(eqGuard .eql t x y (.slice a n c) (nS)).run P w=.ok () w:=by simp[eqGuard]
 have key:∀m,(Op.equalIn (m+1) t (.slice a n c) (nS)).run P w=.ok a.isNone w:=by
  intro m;unfold Op.equalIn;cases a <;> simp[run_underlying h.u]
 have he:(Op.equal t (.slice a n c) (nS)).run P w=.ok a.isNone w:=key 9999;simp only[execOp,hx,hy,Sem.run_bind,G,Result.andThen_ok,binOp,he,Sem.run_pure]
theorem KS {t e sz bys:Nat}{z:Value}[h:Sl P t e sz bys z]
  (E:∀b w',Step [] w w'→w.heap.size≤b→QZ w'.heap b e []→K (QV f d (.slice (some ⟨b,0,none⟩) 0 0)) w'):XO P ⟨d,.buildSlice t 0 #[],ty,ps,af,gd⟩ f w K:=by
 obtain ⟨ie,G,J,S,_⟩:=Sl.info h;have I:(execOp (ev f) ⟨d,.buildSlice t 0 #[],ty,ps,af,gd⟩).run P w=.ok (.value (.slice (some ⟨w.heap.size,0,none⟩) 0 0)) (w.alloc (.cells #[] e)):=by
  simp[execOp,Instr.buildSlice,run_underlying h.u,sizeOf,typeInfo,G,Instr.fill,newRow];have e0:Array.map (λ_=>(default:Value)) (Array.range 0)=#[]:=by apply Array.ext';simp
  rw[e0]
 exact xv I (E _ _ (Step.alloc w _) (Lt _) (Kk w _))
end
abbrev Qu (e base:Nat) (w:World) (v:Value) (l:LI):Prop:=w.ownsRow base e 1 v l.length (l.map (.int .i64))
theorem Qu.ints {e base:Nat}{w:World}{v:Value}{l:LI}{L:LN}(h:Qu e base w v l) (E:l.length≤1099511627776) (G:∀b∈L,b<base):QL L w.heap v l :=
 QU h E (λb hb I=>by have:=(Qm h b hb).1;have:=G b I;omega)
theorem Vo (l:LI):∀u∈l.map (Value.int .i64),u.oneCell'=true:=by
 intro u hu;obtain ⟨n,_,rfl⟩:=Lp.1 hu;rfl
section
variable {P:Program} {ops:List Oper} {K:Fr→World→Prop} {f:Fr} {w:World} {d:Option Nat} {ty:Nat} {ps:String} {af:Array Edge} {gd:Option (Nat×Bool)} {l:List Oper} {C:World→Prop} {pl:List (Nat×Bool)} {i0:Nat}
 {t e sz bys:Nat} {z:Value} {x y1 y2:Operand} {L:LN} {v:Value} {n:Nat} {cs:LV} {H:Array Obj} {k k':IntKind} {lo hi:Nat}
theorem Qlb [h:Sl P t e sz bys z] (E:Q6 ops i0=⟨d,.slice t x (some y1) none none,ty,ps,af,gd⟩) (G:Zs L H v n sz cs) (hx:ev f x=v) (hl:ev f y1=.int k lo) (h1:lo≤n) (I:∀v',Zs L H v' (n - lo) sz (cs.drop (lo*sz))→XP P ops C K pl (QV f d v') w)
  (J:Yk ops f (Q6 ops i0)=true:=by rfl):XP P ops C K ((i0,true)::pl) f w:=by
 obtain ⟨v',h2,h3⟩:=QfN (P:=P) (d:=d) (ty:=ty) (ps:=ps) (af:=af) (gd:=gd) (t:=t) G hx hl h1;exact Lg.p (λw'=>by rw[E];exact h3 w') (by rw[E];exact I v' h2) J
theorem Qnv [h:Sl P t e sz bys z] (E:Zs L H v n sz cs) (hx:ev f x=v) (hl:ev f y1=.int k lo) (G:ev f y2=.int k' hi) (h1:lo≤hi) (h2:hi≤n) (I:∀v',Zs L H v' (hi - lo) sz ((cs.drop (lo*sz)).take ((hi - lo)*sz))→XL P ops K l (QV f d v') w)
  (J:Yk ops f ⟨d,.slice t x (some y1) (some y2) none,ty,ps,af,gd⟩=true:=by rfl):XL P ops K (⟨d,.slice t x (some y1) (some y2) none,ty,ps,af,gd⟩::l) f w:=by
 obtain ⟨v',h3,S⟩:=QiU (P:=P) (d:=d) (ty:=ty) (ps:=ps) (af:=af) (gd:=gd) (t:=t) E hx hl G h1 h2;exact xl J (xv (S w) (I v' h3))
theorem QkF [h:Sl P t e sz bys z] (E:Zs L H v n sz cs) (hx:ev f x=v) (G:ev f y2=.int k hi) (h1:hi≤n) (I:∀v',Zs L H v' hi sz (cs.take (hi*sz))→XL P ops K l (QV f d v') w)
  (J:Yk ops f ⟨d,.slice t x none (some y2) none,ty,ps,af,gd⟩=true:=by rfl):XL P ops K (⟨d,.slice t x none (some y2) none,ty,ps,af,gd⟩::l) f w:=by
 obtain ⟨v',h2,h3⟩:=QfO (P:=P) (d:=d) (ty:=ty) (ps:=ps) (af:=af) (gd:=gd) (t:=t) E hx G h1;exact xl J (xv (h3 w) (I v' h2))
end
theorem QL.drop {L:LN}{H:Array Obj}{v:Value}{l:LI}{lo:Nat}(h:Zs L H v (l.length - lo) 1 ((l.map (Value.int .i64)).drop (lo*1))):QL L H v (l.drop lo):=by
 rw[Nat.mul_one,←List.map_drop] at h;have e:(l.drop lo).length=l.length - lo:=Mq;unfold QL;rw[e];exact h
theorem Qu.snoc {e base:Nat}{w:World}{v:Value}{l:LI}{n:Int}(h:w.ownsRow base e 1 v (l.length+1) (l.map (Value.int .i64)++[.int .i64 n])):Qu e base w v (l++[n]):=by
 unfold Qu;rw[Lh,Lu];exact h
def Dj (u v:Value):Prop:=∀b∈ob u,b∉ob v
theorem Dj.symm {u v:Value}(h:Dj u v):Dj v u:=λb hb hu=>h b hu hb
theorem Dj.nil (v:Value):Dj (nS) v:=λb hb=>by simp[ob] at hb
theorem Dj.nil' (v:Value):Dj v (nS):=(Dj.nil v).symm
theorem Dj.grow {u v v':Value}{N:Nat}(h:Dj u v) (E:∀b∈ob v',b∈ob v∨N≤b) (hu:∀b∈ob u,b<N):Dj u v' :=
 λb hb G=>by rcases E b G with h1 | h1;exact h b hb h1;have:=hu b hb;omega
theorem QR {w:World}{base e sz n:Nat}{v:Value}{cs:LV}(h:w.ownsRow base e sz v n cs):∀b∈ob v,b<w.heap.size:=λb hb=>(Qm h b hb).2
theorem QM {w:World}{base e sz n:Nat}{v:Value}{cs:LV}(h:w.ownsRow base e sz v n cs) {b:Nat}(hb:b<base):b∉ob v:=λhm=>by have:=(Qm h b hm).1;omega
abbrev Z8 (e base:Nat) (w:World) (v:Value) (l:List Ed):Prop:=w.ownsRow base e 3 v l.length (l.flatMap Qx)
theorem Z8.snoc {e base:Nat}{w:World}{v:Value}{l:List Ed}{n:Ed}(h:w.ownsRow base e 3 v (l.length+1) (l.flatMap Qx++Qx n)):Z8 e base w v (l++[n]):=by
 unfold Z8;rw[Lh,Ly];simpa using h
theorem Z8.eds {e base:Nat}{w:World}{v:Value}{l:List Ed}{L:LN}(h:Z8 e base w v l) (E:l.length≤1099511627776) (G:∀b∈L,b<base):zj L w.heap v l :=
 QU h E (λb hb I=>by have:=(Qm h b hb).1;have:=G b I;omega)
def Y0 (N:Nat) (H:Array Obj) (v:Value) (a:QN):Prop:=∃va vm ve,v=.agg #[va,.int .i64 a.st,vm,ve]∧∀L:LN,(∀b∈L,b<N)→Zv L H va vm ve a
theorem Y0.v {N:Nat}{H:Array Obj}{v:Value}{a:QN}(h:Y0 N H v a) {L:LN}(E:∀b∈L,b<N):Qn2 L H v a:=let ⟨va,vm,ve,h1,h2⟩:=h;⟨va,vm,ve,h1,h2 L E⟩
theorem Y0.ext {N:Nat}{w w':World}{v:Value}{a:QN}(h:Y0 N w.heap v a) (hs:Step [] w w'):Y0 N w'.heap v a:=let ⟨va,vm,ve,h1,h2⟩:=h;⟨va,vm,ve,h1,λL E=>(h2 L E).ext hs⟩
theorem Y0.mono {N M:Nat}{H:Array Obj}{v:Value}{a:QN}(h:Y0 N H v a) (E:M≤N):Y0 M H v a:=let ⟨va,vm,ve,h1,h2⟩:=h;⟨va,vm,ve,h1,λL G=>h2 L (λb hb=>L2 (G b hb) E)⟩
section
variable {P:Program} {K:Fr→World→Prop} {f:Fr} {w:World} {d:Option Nat} {ty:Nat} {ps:String} {af:Array Edge} {gd:Option (Nat×Bool)}
theorem UP {t:Nat}[X9 P t] {x:Operand}{b T i:Nat}{l:LI}(h:QZ w.heap b T (l.map (.int .i64))) (hx:ev f x=.pointer (some ⟨b,0+i*1,none⟩)) (hi:i<l.length) :
  (execOp (ev f) ⟨d,.load t x,ty,ps,af,gd⟩).run P w=.ok (.value (.int .i64 l[i])) w:=Qd h hx (by simp[hi])
theorem Jm {t:Nat}[h1:X9 P t] {x y:Operand}{b T i:Nat}{l:LI}{u:Int}(E:QZ w.heap b T (l.map (.int .i64))) (hx:ev f x=.pointer (some ⟨b,0+i*1,none⟩)) (hy:ev f y=.int .i64 u) (hi:i<l.length)
  (G:∀w',Step [b] w w'→QZ w'.heap b T ((l.set i u).map (.int .i64))→K (QV f d undef) w'):XO P ⟨d,.store t x y,ty,ps,af,gd⟩ f w K:=by
 refine QF E hx hy (by simpa using hi) rfl λw' hs I=>G w' hs ?_;rw[List.map_set];simpa using I
end
theorem j7 (n:Nat) (u:Value):(List.replicate n [u]).flatten=List.replicate n u:=by
 induction n with
 | zero=>rfl
 | succ n ih=>simp[List.replicate_succ,ih]
end Go.Lg
namespace Go.Proofs
open Go.Proofs.Tryz
open Go.Lg
instance:Sl prog 32 119 4 4 (.agg #[.int .u8 0,.int .u8 0,.int .u8 0,.int .u8 0]):=⟨underlying32,by kernel_rfl,O,by decide⟩
instance:Sl prog 37 3 1 8 (.int .i64 0):=⟨underlying37,by kernel_rfl,O,by decide⟩
instance:Sl prog 42 87 5 32 (.agg #[.string ByteArray.empty,.bool false,.bool false,.bool false,.int .i64 0]):=⟨underlying42,by kernel_rfl,O,by decide⟩
instance:Sl prog 43 66 5 96 (.agg #[.string ByteArray.empty,nS,.int .i64 0,nS,nS]):=⟨underlying43,by kernel_rfl,O,by decide⟩
instance:Sl prog 44 122 2 40 (.agg #[.string ByteArray.empty,nS]):=⟨underlying44,by kernel_rfl,O,by decide⟩
instance:Sl prog 45 127 3 48 (.agg #[.string ByteArray.empty,nS,.int .i64 0]):=⟨underlying45,by kernel_rfl,O,by decide⟩
instance:Sl prog 50 39 3 40 (.agg #[.int .i64 0,.int .i64 0,nS]):=⟨underlying50,by kernel_rfl,O,by decide⟩
instance:Sl prog 56 144 3 24 (.agg #[.int .i64 0,.int .i64 0,.int .i64 0]):=⟨underlying56,by kernel_rfl,O,by decide⟩
instance:Sl prog 67 58 4 80 (.agg #[nS,.int .i64 0,nS,nS]):=⟨underlying67,by kernel_rfl,O,by decide⟩
instance:Sl prog 73 5 1 1 (.int .u8 0):=⟨underlying73,by kernel_rfl,O,by decide⟩
instance:Sl prog 74 37 1 24 (nS):=⟨underlying74,by kernel_rfl,O,by decide⟩
instance:Sl prog 75 83 4 32 (.agg #[.int .i64 0,.int .i64 0,.int .i64 0,.int .i64 0]):=⟨underlying75,by kernel_rfl,O,by decide⟩
instance:Sl prog 120 124 2 16 (.agg #[.int .i64 0,.int .i64 0]):=⟨underlying120,by kernel_rfl,O,by decide⟩
instance:Sl prog 125 129 2 16 (.agg #[.int .i64 0,.int .i64 0]):=⟨underlying125,by kernel_rfl,O,by decide⟩
instance:Sl prog 132 137 3 24 (.agg #[.int .i64 0,.int .i64 0,.nilFunc]):=⟨underlying132,by kernel_rfl,O,by decide⟩
instance:Sl prog 166 320 4 32 (.agg #[.int .i64 0,.int .i64 0,.int .i64 0,.int .i64 0]):=⟨underlying166,by kernel_rfl,O,by decide⟩
instance:Sl prog 174 173 2 32 (.agg #[nS,.int .i64 0]):=⟨underlying174,by kernel_rfl,O,by decide⟩
instance:Sl prog 196 140 1 2 (.int .u16 0):=⟨underlying196,by kernel_rfl,O,by decide⟩
instance:Sl prog 241 225 1 8 (.map none):=⟨underlying241,by kernel_rfl,O,by decide⟩
instance:Sl prog 260 313 1 8 (.nilFunc):=⟨underlying260,by kernel_rfl,O,by decide⟩
instance:Sl prog 283 4 1 1 (.bool false):=⟨underlying283,by kernel_rfl,O,by decide⟩
instance:Sl prog 371 56 1 24 (nS):=⟨underlying371,by kernel_rfl,O,by decide⟩
instance:Sl prog 385 384 2 32 (.agg #[nS,.int .i64 0]):=⟨underlying385,by kernel_rfl,O,by decide⟩
instance:Zd prog 28 0 0:=⟨by kernel_rfl⟩
instance:Zd prog 28 1 1:=⟨by kernel_rfl⟩
instance:Zd prog 28 2 2:=⟨by kernel_rfl⟩
instance:Zd prog 36 0 0:=⟨by kernel_rfl⟩
instance:Zd prog 36 1 5:=⟨by kernel_rfl⟩
instance:Zd prog 36 2 6:=⟨by kernel_rfl⟩
instance:Zd prog 36 3 9:=⟨by kernel_rfl⟩
instance:Zd prog 36 4 90:=⟨by kernel_rfl⟩
instance:Zd prog 36 5 91:=⟨by kernel_rfl⟩
instance:Zd prog 36 6 93:=⟨by kernel_rfl⟩
instance:Zd prog 36 7 147:=⟨by kernel_rfl⟩
instance:Zd prog 36 8 148:=⟨by kernel_rfl⟩
instance:Zd prog 36 9 151:=⟨by kernel_rfl⟩
instance:Zd prog 39 0 0:=⟨by kernel_rfl⟩
instance:Zd prog 39 1 1:=⟨by kernel_rfl⟩
instance:Zd prog 39 2 2:=⟨by kernel_rfl⟩
instance:Zd prog 47 0 0:=⟨by kernel_rfl⟩
instance:Zd prog 47 1 1:=⟨by kernel_rfl⟩
instance:Zd prog 47 2 2:=⟨by kernel_rfl⟩
instance:Zd prog 47 3 3:=⟨by kernel_rfl⟩
instance:Zd prog 47 4 4:=⟨by kernel_rfl⟩
instance:Zd prog 58 0 0:=⟨by kernel_rfl⟩
instance:Zd prog 58 1 1:=⟨by kernel_rfl⟩
instance:Zd prog 58 2 2:=⟨by kernel_rfl⟩
instance:Zd prog 58 3 3:=⟨by kernel_rfl⟩
instance:Zd prog 66 0 0:=⟨by kernel_rfl⟩
instance:Zd prog 66 1 1:=⟨by kernel_rfl⟩
instance:Zd prog 77 0 0:=⟨by kernel_rfl⟩
instance:Zd prog 77 1 4:=⟨by kernel_rfl⟩
instance:Zd prog 77 2 5:=⟨by kernel_rfl⟩
instance:Zd prog 77 3 6:=⟨by kernel_rfl⟩
instance:Zd prog 77 4 7:=⟨by kernel_rfl⟩
instance:Zd prog 83 0 0:=⟨by kernel_rfl⟩
instance:Zd prog 83 1 1:=⟨by kernel_rfl⟩
instance:Zd prog 87 0 0:=⟨by kernel_rfl⟩
instance:Zd prog 87 1 1:=⟨by kernel_rfl⟩
instance:Zd prog 87 2 2:=⟨by kernel_rfl⟩
instance:Zd prog 87 3 3:=⟨by kernel_rfl⟩
instance:Zd prog 87 4 4:=⟨by kernel_rfl⟩
instance:Zd prog 95 0 0:=⟨by kernel_rfl⟩
instance:Zd prog 95 1 1:=⟨by kernel_rfl⟩
instance:Zd prog 95 2 2:=⟨by kernel_rfl⟩
instance:Zd prog 95 3 3:=⟨by kernel_rfl⟩
instance:Zd prog 122 0 0:=⟨by kernel_rfl⟩
instance:Zd prog 122 1 1:=⟨by kernel_rfl⟩
instance:Zd prog 124 0 0:=⟨by kernel_rfl⟩
instance:Zd prog 124 1 1:=⟨by kernel_rfl⟩
instance:Zd prog 127 0 0:=⟨by kernel_rfl⟩
instance:Zd prog 127 1 1:=⟨by kernel_rfl⟩
instance:Zd prog 127 2 2:=⟨by kernel_rfl⟩
instance:Zd prog 129 0 0:=⟨by kernel_rfl⟩
instance:Zd prog 129 1 1:=⟨by kernel_rfl⟩
instance:Zd prog 137 0 0:=⟨by kernel_rfl⟩
instance:Zd prog 137 1 1:=⟨by kernel_rfl⟩
instance:Zd prog 137 2 2:=⟨by kernel_rfl⟩
instance:Zd prog 144 0 0:=⟨by kernel_rfl⟩
instance:Zd prog 144 1 1:=⟨by kernel_rfl⟩
instance:Zd prog 144 2 2:=⟨by kernel_rfl⟩
instance:Zd prog 151 0 0:=⟨by kernel_rfl⟩
instance:Zd prog 151 1 1:=⟨by kernel_rfl⟩
instance:Zd prog 151 2 2:=⟨by kernel_rfl⟩
instance:Zd prog 154 0 0:=⟨by kernel_rfl⟩
instance:Zd prog 154 1 5:=⟨by kernel_rfl⟩
instance:Zd prog 154 2 9:=⟨by kernel_rfl⟩
instance:Zd prog 154 3 10:=⟨by kernel_rfl⟩
instance:Zd prog 154 4 14:=⟨by kernel_rfl⟩
instance:Zd prog 154 5 15:=⟨by kernel_rfl⟩
instance:Zd prog 154 6 18:=⟨by kernel_rfl⟩
instance:Zd prog 168 0 0:=⟨by kernel_rfl⟩
instance:Zd prog 168 1 1:=⟨by kernel_rfl⟩
instance:Zd prog 168 2 2:=⟨by kernel_rfl⟩
instance:Zd prog 170 0 0:=⟨by kernel_rfl⟩
instance:Zd prog 170 1 3:=⟨by kernel_rfl⟩
instance:Zd prog 170 2 4:=⟨by kernel_rfl⟩
instance:Zd prog 170 3 8:=⟨by kernel_rfl⟩
instance:Zd prog 173 0 0:=⟨by kernel_rfl⟩
instance:Zd prog 173 1 1:=⟨by kernel_rfl⟩
instance:Zd prog 243 0 0:=⟨by kernel_rfl⟩
instance:Zd prog 243 1 1:=⟨by kernel_rfl⟩
instance:Zd prog 243 2 2:=⟨by kernel_rfl⟩
instance:Zd prog 251 0 0:=⟨by kernel_rfl⟩
instance:Zd prog 251 1 1:=⟨by kernel_rfl⟩
instance:Zd prog 320 0 0:=⟨by kernel_rfl⟩
instance:Zd prog 324 0 0:=⟨by kernel_rfl⟩
instance:Zd prog 324 1 4:=⟨by kernel_rfl⟩
instance:Zd prog 324 2 5:=⟨by kernel_rfl⟩
instance:Zd prog 324 3 6:=⟨by kernel_rfl⟩
instance:Zd prog 384 0 0:=⟨by kernel_rfl⟩
instance:Zd prog 384 1 1:=⟨by kernel_rfl⟩
instance:X9 prog 3:=⟨⟨_,underlying3,O⟩,by kernel_rfl⟩
instance:X9 prog 4:=⟨⟨_,underlying4,O⟩,by kernel_rfl⟩
instance:X9 prog 5:=⟨⟨_,underlying5,O⟩,by kernel_rfl⟩
instance:X9 prog 9:=⟨⟨_,underlying9,O⟩,by kernel_rfl⟩
instance:X9 prog 24:=⟨⟨_,underlying24,O⟩,by kernel_rfl⟩
instance:X9 prog 32:=⟨⟨_,underlying32,O⟩,by kernel_rfl⟩
instance:X9 prog 33:=⟨⟨_,underlying33,O⟩,by kernel_rfl⟩
instance:X9 prog 37:=⟨⟨_,underlying37,O⟩,by kernel_rfl⟩
instance:X9 prog 42:=⟨⟨_,underlying42,O⟩,by kernel_rfl⟩
instance:X9 prog 43:=⟨⟨_,underlying43,O⟩,by kernel_rfl⟩
instance:X9 prog 44:=⟨⟨_,underlying44,O⟩,by kernel_rfl⟩
instance:X9 prog 45:=⟨⟨_,underlying45,O⟩,by kernel_rfl⟩
instance:X9 prog 49:=⟨⟨_,underlying49,O⟩,by kernel_rfl⟩
instance:X9 prog 56:=⟨⟨_,underlying56,O⟩,by kernel_rfl⟩
instance:X9 prog 67:=⟨⟨_,underlying67,O⟩,by kernel_rfl⟩
instance:X9 prog 73:=⟨⟨_,underlying73,O⟩,by kernel_rfl⟩
instance:X9 prog 74:=⟨⟨_,underlying74,O⟩,by kernel_rfl⟩
instance:X9 prog 75:=⟨⟨_,underlying75,O⟩,by kernel_rfl⟩
instance:X9 prog 120:=⟨⟨_,underlying120,O⟩,by kernel_rfl⟩
instance:X9 prog 125:=⟨⟨_,underlying125,O⟩,by kernel_rfl⟩
instance:X9 prog 135:=⟨⟨_,underlying135,O⟩,by kernel_rfl⟩
instance:X9 prog 140:=⟨⟨_,underlying140,O⟩,by kernel_rfl⟩
instance:X9 prog 147:=⟨⟨_,underlying147,O⟩,by kernel_rfl⟩
instance:X9 prog 152:=⟨⟨_,underlying152,O⟩,by kernel_rfl⟩
instance:X9 prog 166:=⟨⟨_,underlying166,O⟩,by kernel_rfl⟩
instance:X9 prog 225:=⟨⟨_,underlying225,O⟩,by kernel_rfl⟩
instance:X9 prog 241:=⟨⟨_,underlying241,O⟩,by kernel_rfl⟩
instance:X9 prog 249:=⟨⟨_,underlying249,O⟩,by kernel_rfl⟩
instance:X9 prog 283:=⟨⟨_,underlying283,O⟩,by kernel_rfl⟩
instance:X9 prog 313:=⟨⟨_,underlying313,O⟩,by kernel_rfl⟩
instance:X9 prog 322:=⟨⟨_,underlying322,O⟩,by kernel_rfl⟩
instance:Ag prog 23 5:=⟨⟨_,underlying23,O⟩,by kernel_rfl⟩
instance:Ag prog 28 27:=⟨⟨_,underlying28,O⟩,by kernel_rfl⟩
instance:Ag prog 36 152:=⟨⟨_,underlying36,O⟩,by kernel_rfl⟩
instance:Ag prog 39 3:=⟨⟨_,underlying39,O⟩,by kernel_rfl⟩
instance:Ag prog 47 5:=⟨⟨_,underlying47,O⟩,by kernel_rfl⟩
instance:Ag prog 58 4:=⟨⟨_,underlying58,O⟩,by kernel_rfl⟩
instance:Ag prog 66 5:=⟨⟨_,underlying66,O⟩,by kernel_rfl⟩
instance:Ag prog 77 8:=⟨⟨_,underlying77,O⟩,by kernel_rfl⟩
instance:Ag prog 83 4:=⟨⟨_,underlying83,O⟩,by kernel_rfl⟩
instance:Ag prog 87 5:=⟨⟨_,underlying87,O⟩,by kernel_rfl⟩
instance:Ag prog 95 4:=⟨⟨_,underlying95,O⟩,by kernel_rfl⟩
instance:Ag prog 119 4:=⟨⟨_,underlying119,O⟩,by kernel_rfl⟩
instance:Ag prog 122 2:=⟨⟨_,underlying122,O⟩,by kernel_rfl⟩
instance:Ag prog 124 2:=⟨⟨_,underlying124,O⟩,by kernel_rfl⟩
instance:Ag prog 127 3:=⟨⟨_,underlying127,O⟩,by kernel_rfl⟩
instance:Ag prog 129 2:=⟨⟨_,underlying129,O⟩,by kernel_rfl⟩
instance:Ag prog 137 3:=⟨⟨_,underlying137,O⟩,by kernel_rfl⟩
instance:Ag prog 144 3:=⟨⟨_,underlying144,O⟩,by kernel_rfl⟩
instance:Ag prog 151 3:=⟨⟨_,underlying151,O⟩,by kernel_rfl⟩
instance:Ag prog 170 9:=⟨⟨_,underlying170,O⟩,by kernel_rfl⟩
instance:Ag prog 173 2:=⟨⟨_,underlying173,O⟩,by kernel_rfl⟩
instance:Ag prog 243 3:=⟨⟨_,underlying243,O⟩,by kernel_rfl⟩
instance:Ag prog 320 4:=⟨⟨_,underlying320,O⟩,by kernel_rfl⟩
instance:Ag prog 384 2:=⟨⟨_,underlying384,O⟩,by kernel_rfl⟩
instance:Ze prog 3 (.int .i64 0):=⟨by kernel_rfl⟩
instance:Ze prog 4 (.bool false):=⟨by kernel_rfl⟩
instance:Ze prog 37 (nS):=⟨by kernel_rfl⟩
instance:Ze prog 39 (.agg #[.int .i64 0,.int .i64 0,nS]):=⟨by kernel_rfl⟩
instance:Ze prog 47 (.agg #[nS,nS,nS,nS,nS]):=⟨by kernel_rfl⟩
instance:Ze prog 49 (.int .i64 0):=⟨by kernel_rfl⟩
instance:Ze prog 58 (.agg #[nS,.int .i64 0,nS,nS]):=⟨by kernel_rfl⟩
instance:Ze prog 66 (.agg #[.string ByteArray.empty,nS,.int .i64 0,nS,nS]):=⟨by kernel_rfl⟩
instance:Ze prog 77 (.agg #[nS,.int .i64 0,nS,nS,nS,nS,nS,nS]):=⟨by kernel_rfl⟩
instance:Ze prog 83 (.agg #[.int .i64 0,.int .i64 0,.int .i64 0,.int .i64 0]):=⟨by kernel_rfl⟩
instance:Ze prog 87 (.agg #[.string ByteArray.empty,.bool false,.bool false,.bool false,.int .i64 0]):=⟨by kernel_rfl⟩
instance:Ze prog 95 (.agg #[nS,nS,nS,nS]):=⟨by kernel_rfl⟩
instance:Ze prog 119 (.agg #[.int .u8 0,.int .u8 0,.int .u8 0,.int .u8 0]):=⟨by kernel_rfl⟩
instance:Ze prog 122 (.agg #[.string ByteArray.empty,nS]):=⟨by kernel_rfl⟩
instance:Ze prog 124 (.agg #[.int .i64 0,.int .i64 0]):=⟨by kernel_rfl⟩
instance:Ze prog 127 (.agg #[.string ByteArray.empty,nS,.int .i64 0]):=⟨by kernel_rfl⟩
instance:Ze prog 129 (.agg #[.int .i64 0,.int .i64 0]):=⟨by kernel_rfl⟩
instance:Ze prog 137 (.agg #[.int .i64 0,.int .i64 0,.nilFunc]):=⟨by kernel_rfl⟩
instance:Ze prog 144 (.agg #[.int .i64 0,.int .i64 0,.int .i64 0]):=⟨by kernel_rfl⟩
instance:Ze prog 151 (.agg #[nS,nS,nS]):=⟨by kernel_rfl⟩
instance:Ze prog 170 (.agg #[nS,nS,nS,.int .i64 0,nS,.int .i64 0,nS,nS,nS]):=⟨by kernel_rfl⟩
instance:Ze prog 173 (.agg #[nS,.int .i64 0]):=⟨by kernel_rfl⟩
instance:Ze prog 243 (.agg #[nS,nS,nS]):=⟨by kernel_rfl⟩
instance:Ze prog 251 (.agg #[.pointer none,nS]):=⟨by kernel_rfl⟩
instance:Ze prog 320 (.agg #[.int .i64 0,.int .i64 0,.int .i64 0,.int .i64 0]):=⟨by kernel_rfl⟩
instance:Ze prog 384 (.agg #[nS,.int .i64 0]):=⟨by kernel_rfl⟩
instance:Bs prog 39 [.int .i64 0,.int .i64 0,nS] [0,1,2]:=⟨by kernel_rfl,by decide⟩
instance:Bs prog 47 [nS,nS,nS,nS,nS] [0,1,2,3,4]:=⟨by kernel_rfl,by decide⟩
instance:Bs prog 58 [nS,.int .i64 0,nS,nS] [0,1,2,3]:=⟨by kernel_rfl,by decide⟩
instance:Bs prog 83 [.int .i64 0,.int .i64 0,.int .i64 0,.int .i64 0] [0,1,2,3]:=⟨by kernel_rfl,by decide⟩
instance:Bs prog 87 [.string ByteArray.empty,.bool false,.bool false,.bool false,.int .i64 0] [0,1,2,3,4]:=⟨by kernel_rfl,by decide⟩
instance:Bs prog 95 [nS,nS,nS,nS] [0,1,2,3]:=⟨by kernel_rfl,by decide⟩
instance:Bs prog 122 [.string ByteArray.empty,nS] [0,1]:=⟨by kernel_rfl,by decide⟩
instance:Bs prog 124 [.int .i64 0,.int .i64 0] [0,1]:=⟨by kernel_rfl,by decide⟩
instance:Bs prog 127 [.string ByteArray.empty,nS,.int .i64 0] [0,1,2]:=⟨by kernel_rfl,by decide⟩
instance:Bs prog 129 [.int .i64 0,.int .i64 0] [0,1]:=⟨by kernel_rfl,by decide⟩
instance:Bs prog 137 [.int .i64 0,.int .i64 0,.nilFunc] [0,1,2]:=⟨by kernel_rfl,by decide⟩
instance:Bs prog 144 [.int .i64 0,.int .i64 0,.int .i64 0] [0,1,2]:=⟨by kernel_rfl,by decide⟩
instance:Bs prog 151 [nS,nS,nS] [0,1,2]:=⟨by kernel_rfl,by decide⟩
instance:Bs prog 173 [nS,.int .i64 0] [0,1]:=⟨by kernel_rfl,by decide⟩
instance:Bs prog 227 [.int .i64 0,.int .i64 0] [0,1]:=⟨by kernel_rfl,by decide⟩
instance:Bs prog 243 [nS,nS,nS] [0,1,2]:=⟨by kernel_rfl,by decide⟩
instance:Bs prog 320 [.int .i64 0,.int .i64 0,.int .i64 0,.int .i64 0] [0,1,2,3]:=⟨by kernel_rfl,by decide⟩
instance:Bs prog 384 [nS,.int .i64 0] [0,1]:=⟨by kernel_rfl,by decide⟩
instance:Ik prog 3 .i64:=⟨underlying3⟩
instance:Ik prog 5 .u8:=⟨underlying5⟩
instance:St prog 9:=⟨underlying9⟩
instance:Ik prog 21 .i32:=⟨underlying21⟩
instance:Ik prog 33 .i8:=⟨underlying33⟩
instance:Ik prog 269 .u64:=⟨underlying269⟩
instance:S3 prog 144:=⟨⟨_,_,_,underlying144,by decide,by decide,by decide,O,O,O,underlying3,underlying3,underlying3⟩,by kernel_rfl,by kernel_rfl⟩
instance:Mp prog 152 9 3 (.int .i64 0):=⟨underlying152,by kernel_rfl⟩
instance:Key prog 9 XG:=Qjk underlying9
instance:Mp prog 192 9 4 (.bool false):=⟨underlying192,by kernel_rfl⟩
instance:Mp prog 214 3 213 (.nilFunc):=⟨underlying214,by kernel_rfl⟩
instance:Key prog 3 KX:=Qjl underlying3
instance:Mp prog 225 227 3 (.int .i64 0):=⟨underlying225,by kernel_rfl⟩
instance:Key prog 227 Xn:=QgF underlying227 underlying3 (by kernel_rfl)
instance:Mp prog 302 3 3 (.int .i64 0):=⟨underlying302,by kernel_rfl⟩
instance:Mp prog 322 3 37 (nS):=⟨underlying322,by kernel_rfl⟩
instance:Fu prog 12 Tryz.f12:=Zi func12
instance:Fu prog 13 Tryz.f13:=Zi func13
instance:Fu prog 14 Tryz.f14:=Zi func14
instance:Fu prog 16 Tryz.f16:=Zi func16
instance:Fu prog 17 Tryz.f17:=Zi func17
instance:Fu prog 18 Tryz.f18:=Zi func18
instance:Fu prog 19 Tryz.f19:=Zi func19
instance:Fu prog 20 Tryz.f20:=Zi func20
instance:Fu prog 21 Tryz.f21:=Zi func21
instance:Fu prog 22 Tryz.f22:=Zi func22
instance:Fu prog 23 Tryz.f23:=Zi func23
instance:Fu prog 25 Tryz.f25:=Zi func25
instance:Fu prog 26 Tryz.f26:=Zi func26
instance:Fu prog 27 Tryz.f27:=Zi func27
instance:Fu prog 28 Tryz.f28:=Zi func28
instance:Fu prog 29 Tryz.f29:=Zi func29
instance:Fu prog 30 Tryz.f30:=Zi func30
instance:Fu prog 31 Tryz.f31:=Zi func31
instance:Fu prog 32 Tryz.f32:=Zi func32
instance:Fu prog 33 Tryz.f33:=Zi func33
instance:Fu prog 37 Tryz.f37:=Zi func37
instance:Fu prog 38 Tryz.f38:=Zi func38
instance:Fu prog 41 Tryz.f41:=Zi func41
instance:Fu prog 44 Tryz.f44:=Zi func44
instance:Fu prog 49 Tryz.f49:=Zi func49
instance:Fu prog 50 Tryz.f50:=Zi func50
instance:Fu prog 51 Tryz.f51:=Zi func51
instance:Fu prog 52 Tryz.f52:=Zi func52
instance:Fu prog 53 Tryz.f53:=Zi func53
instance:Fu prog 54 Tryz.f54:=Zi func54
instance:Fu prog 55 Tryz.f55:=Zi func55
instance:Fu prog 56 Tryz.f56:=Zi func56
instance:Fu prog 57 Tryz.f57:=Zi func57
instance:Fu prog 58 Tryz.f58:=Zi func58
instance:Fu prog 59 Tryz.f59:=Zi func59
instance:Fu prog 61 Tryz.f61:=Zi func61
instance:Fu prog 62 Tryz.f62:=Zi func62
instance:Fu prog 63 Tryz.f63:=Zi func63
instance:Fu prog 64 Tryz.f64:=Zi func64
instance:Fu prog 65 Tryz.f65:=Zi func65
instance:Fu prog 66 Tryz.f66:=Zi func66
instance:Fu prog 67 Tryz.f67:=Zi func67
instance:Fu prog 68 Tryz.f68:=Zi func68
instance:Fu prog 69 Tryz.f69:=Zi func69
instance:Fu prog 70 Tryz.f70:=Zi func70
instance:Fu prog 71 Tryz.f71:=Zi func71
instance:Fu prog 72 Tryz.f72:=Zi func72
instance:Fu prog 73 Tryz.f73:=Zi func73
instance:Fu prog 74 Tryz.f74:=Zi func74
instance:Fu prog 75 Tryz.f75:=Zi func75
instance:Fu prog 76 Tryz.f76:=Zi func76
instance:Fu prog 77 Tryz.f77:=Zi func77
instance:Fu prog 78 Tryz.f78:=Zi func78
instance:Fu prog 79 Tryz.f79:=Zi func79
instance:Fu prog 80 Tryz.f80:=Zi func80
instance:Fu prog 81 Tryz.f81:=Zi func81
instance:Fu prog 82 Tryz.f82:=Zi func82
instance:Fu prog 83 Tryz.f83:=Zi func83
instance:Fu prog 84 Tryz.f84:=Zi func84
instance:Fu prog 94 Tryz.f94:=Zi func94
instance:Fu prog 95 Tryz.f95:=Zi func95
instance:Fu prog 96 Tryz.f96:=Zi func96
instance:Fu prog 97 Tryz.f97:=Zi func97
instance:Fu prog 98 Tryz.f98:=Zi func98
instance:Fu prog 99 Tryz.f99:=Zi func99
instance:Fu prog 101 Tryz.f101:=Zi func101
instance:Fu prog 109 Tryz.f109:=Zi func109
instance:Fu prog 114 Tryz.f114:=Zi func114
instance:Fu prog 118 Tryz.f118:=Zi func118
instance:Fu prog 123 Tryz.f123:=Zi func123
instance:Fu prog 126 Tryz.f126:=Zi func126
instance:Fu prog 127 Tryz.f127:=Zi func127
instance:Fu prog 128 Tryz.f128:=Zi func128
instance:Fu prog 129 Tryz.f129:=Zi func129
instance:Fu prog 130 Tryz.f130:=Zi func130
instance:Fu prog 131 Tryz.f131:=Zi func131
instance:Fu prog 132 Tryz.f132:=Zi func132
instance:Fu prog 133 Tryz.f133:=Zi func133
instance:Fu prog 134 Tryz.f134:=Zi func134
instance:Fu prog 135 Tryz.f135:=Zi func135
instance:Fu prog 136 Tryz.f136:=Zi func136
instance:Fu prog 137 Tryz.f137:=Zi func137
instance:Fu prog 138 Tryz.f138:=Zi func138
instance:Fu prog 139 Tryz.f139:=Zi func139
instance:Fu prog 140 Tryz.f140:=Zi func140
instance:Fu prog 141 Tryz.f141:=Zi func141
instance:Fu prog 142 Tryz.f142:=Zi func142
instance:Fu prog 143 Tryz.f143:=Zi func143
instance:Fu prog 144 Tryz.f144:=Zi func144
instance:Fu prog 145 Tryz.f145:=Zi func145
instance:Fu prog 146 Tryz.f146:=Zi func146
instance:Fu prog 147 Tryz.f147:=Zi func147
instance:Fu prog 148 Tryz.f148:=Zi func148
instance:Fu prog 149 Tryz.f149:=Zi func149
instance:Fu prog 150 Tryz.f150:=Zi func150
instance:Fu prog 151 Tryz.f151:=Zi func151
instance:Fu prog 152 Tryz.f152:=Zi func152
instance:Fu prog 153 Tryz.f153:=Zi func153
instance:Fu prog 154 Tryz.f154:=Zi func154
instance:Fu prog 155 Tryz.f155:=Zi func155
instance:Fu prog 156 Tryz.f156:=Zi func156
instance:Fu prog 157 Tryz.f157:=Zi func157
instance:Fu prog 158 Tryz.f158:=Zi func158
instance:Fu prog 159 Tryz.f159:=Zi func159
instance:Fu prog 160 Tryz.f160:=Zi func160
instance:Fu prog 161 Tryz.f161:=Zi func161
instance:Fu prog 162 Tryz.f162:=Zi func162
instance:Fu prog 163 Tryz.f163:=Zi func163
instance:Fu prog 164 Tryz.f164:=Zi func164
instance:Fu prog 165 Tryz.f165:=Zi func165
instance:Fu prog 166 Tryz.f166:=Zi func166
instance:Fu prog 167 Tryz.f167:=Zi func167
instance:Fu prog 168 Tryz.f168:=Zi func168
instance:Fu prog 169 Tryz.f169:=Zi func169
instance:Fu prog 170 Tryz.f170:=Zi func170
instance:Fu prog 171 Tryz.f171:=Zi func171
instance:Fu prog 172 Tryz.f172:=Zi func172
instance:Fu prog 173 Tryz.f173:=Zi func173
instance:Fu prog 174 Tryz.f174:=Zi func174
instance:Fu prog 185 Tryz.f185:=Zi func185
instance:Fu prog 194 Tryz.f194:=Zi func194
instance:Fu prog 195 Tryz.f195:=Zi func195
instance:Fu prog 196 Tryz.f196:=Zi func196
instance:Fu prog 197 Tryz.f197:=Zi func197
instance:Fu prog 198 Tryz.f198:=Zi func198
instance:Fu prog 199 Tryz.f199:=Zi func199
instance:Fu prog 200 Tryz.f200:=Zi func200
instance:Fu prog 201 Tryz.f201:=Zi func201
instance:Fu prog 202 Tryz.f202:=Zi func202
instance:Fu prog 203 Tryz.f203:=Zi func203
instance:Fu prog 204 Tryz.f204:=Zi func204
instance:Fu prog 206 Tryz.f206:=Zi func206
instance:Fu prog 207 Tryz.f207:=Zi func207
instance:Fu prog 208 Tryz.f208:=Zi func208
instance:Fu prog 209 Tryz.f209:=Zi func209
instance:Fu prog 210 Tryz.f210:=Zi func210
instance:Fu prog 211 Tryz.f211:=Zi func211
instance:Fu prog 212 Tryz.f212:=Zi func212
instance:Fu prog 213 Tryz.f213:=Zi func213
instance:Fu prog 214 Tryz.f214:=Zi func214
instance:Fu prog 215 Tryz.f215:=Zi func215
instance:Fu prog 217 Tryz.f217:=Zi func217
instance:Fu prog 218 Tryz.f218:=Zi func218
instance:Fu prog 219 Tryz.f219:=Zi func219
instance:Fu prog 220 Tryz.f220:=Zi func220
instance:Fu prog 244 Tryz.f244:=Zi func244
instance:Fu prog 245 Tryz.f245:=Zi func245
instance:Fu prog 247 Tryz.f247:=Zi func247
instance:Fu prog 248 Tryz.f248:=Zi func248
instance:Fu prog 249 Tryz.f249:=Zi func249
instance:Fu prog 250 Tryz.f250:=Zi func250
instance:Fu prog 251 Tryz.f251:=Zi func251
instance:Fu prog 252 Tryz.f252:=Zi func252
instance:Fu prog 253 Tryz.f253:=Zi func253
instance:Fu prog 254 Tryz.f254:=Zi func254
instance:Fu prog 255 Tryz.f255:=Zi func255
instance:Fu prog 256 Tryz.f256:=Zi func256
instance:Fu prog 259 Tryz.f259:=Zi func259
instance:Fu prog 260 Tryz.f260:=Zi func260
instance:Fu prog 261 Tryz.f261:=Zi func261
instance:Fu prog 262 Tryz.f262:=Zi func262
instance:Fu prog 263 Tryz.f263:=Zi func263
instance:Fu prog 264 Tryz.f264:=Zi func264
instance:Fu prog 265 Tryz.f265:=Zi func265
instance:Fu prog 278 Tryz.f278:=Zi func278
instance:Fu prog 279 Tryz.f279:=Zi func279
instance:Fu prog 280 Tryz.f280:=Zi func280
instance:Fu prog 281 Tryz.f281:=Zi func281
instance:Fu prog 282 Tryz.f282:=Zi func282
instance:Fu prog 287 Tryz.f287:=Zi func287
instance:Fu prog 306 Tryz.f306:=Zi func306
instance:Fu prog 307 Tryz.f307:=Zi func307
instance:Fu prog 319 Tryz.f319:=Zi func319
theorem mixed:prog.follows .mixedOrders=true:=by kernel_rfl
end Go.Proofs
namespace Go.Proofs.YtdffckgdcegpaaaGreatDoor
open Go.Lg
def nxt (E:List Ed) (s e:Int):Int:=match E with
 | []=>-1
 | x::E=>if x.1=s∧x.2.1=e then x.2.2 else nxt E s e
abbrev Z0 (l:LI):Prop:=l.Pairwise (·<·)
def UW:Option Int→Int→Bool
 | none,_=>false
 | some b,a=>decide (a≤b)
def Xp (n:Int):Option Int→LI→Int
 | _,[]=>0
 | pr,a::l=>if a<0∨n≤a then 2 else if UW pr a=true then 5 else Xp n (some a) l
def pv {α:Type}(l:List α) (k:Nat):Option α:=if k=0 then none else l[k - 1]?
theorem Jz {α:Type}{l:List α}{k:Nat}(h:k<l.length):pv l (k+1)=some l[k]:=by simp[pv,h]
def edO:Option Ed→Ed→Bool
 | none,_=>false
 | some y,a=>decide (a.1<y.1∨(a.1=y.1∧a.2.1≤y.2.1))
def ckE (al:LI) (st:Int):Option Ed→List Ed→Int
 | _,[]=>0
 | pr,a::l=>if a.1<0∨st≤a.1∨a.2.2<0∨st≤a.2.2 then 2 else if a.2.1∉al then 9 else if edO pr a=true then 5 else ckE al st (some a) l
def JI (a:QN):Int :=
 if Xp 32 none a.al≠0 then Xp 32 none a.al else if a.st<0 then 2 else if 4096<a.st then 3 else if Xp a.st none a.mr≠0 then Xp a.st none a.mr else ckE a.al a.st none a.ed
def Xv:LI→LI→Bool
 | [],_=>false
 | _::_,[]=>true
 | a::_,b::_=>decide (a≤b)
def tl (c:Bool) (l:LI):LI:=bif c then l.tail else l
def hx (a b:LI):Int:=bif Xv b a then b.headD 0 else a.headD 0
def zt (keep:Bool→Bool→Bool):Nat→LI→LI→LI
 | 0,_,_=>[]
 | n+1,a,b=>if a=[]∧b=[] then [] else (bif keep (Xv a b) (Xv b a) then [hx a b] else [])++zt keep n (tl (Xv a b) a) (tl (Xv b a) b)
def mrg (keep:Bool→Bool→Bool) (a b:LI):LI:=zt keep (a.length+b.length) a b
theorem qI {a b:LI}(h:¬(a=[]∧b=[])):(tl (Xv a b) a).length+(tl (Xv b a) b).length<a.length+b.length:=by
 cases a with
 | nil=>cases b with
  | nil=>simp at h
  | cons y b=>simp[Xv,tl]
 | cons x a=>cases b with
  | nil=>simp[Xv,tl]
  | cons y b =>
   simp only[Xv,tl];by_cases h1:x≤y <;> by_cases h2:y≤x <;> simp[h1,h2] <;> omega
theorem zY (keep:Bool→Bool→Bool):∀(n:Nat) (a b:LI),a.length+b.length≤n→zt keep n a b=mrg keep a b:=by
 have key:∀(n m:Nat) (a b:LI),a.length+b.length≤n→a.length+b.length≤m→zt keep n a b=zt keep m a b:=by
  intro n;induction n with
  | zero =>
   intro m a b h1 _;have ha:a=[]:=Ln (by omega);have hb:b=[]:=Ln (by omega);subst ha hb;cases m <;> simp[zt]
  | succ n ih =>
   intro m a b h1 h2;by_cases h:a=[]∧b=[]
   ·obtain ⟨rfl,rfl⟩:=h;cases m <;> simp[zt]
   have E:=qI h;cases m with
   | zero=>omega
   | succ m=>rw[zt,zt,if_neg h,if_neg h,ih m _ _ (by omega) (by omega)]
 intro n a b h;exact key n _ a b h (Lt _)
theorem JB (keep:Bool→Bool→Bool):mrg keep [] []=[]:=rfl
theorem Jo (keep:Bool→Bool→Bool) {a b:LI}(h:¬(a=[]∧b=[])) :
  mrg keep a b=(bif keep (Xv a b) (Xv b a) then [hx a b] else [])++mrg keep (tl (Xv a b) a) (tl (Xv b a) b):=by
 have E:=qI h;rw[←zY keep (a.length+b.length - 1+1) a b (by omega),zt,if_neg h,zY keep _ _ _ (by omega)]
theorem QbN (keep:Bool→Bool→Bool):∀(n:Nat) (a b:LI),a.length+b.length≤n→(mrg keep a b).length≤a.length+b.length:=by
 intro n;induction n with
 | zero =>
  intro a b h;have ha:a=[]:=Ln (by omega);have hb:b=[]:=Ln (by omega);subst ha hb;simp[JB]
 | succ n ih =>
  intro a b E;by_cases h:a=[]∧b=[]
  ·obtain ⟨rfl,rfl⟩:=h;simp[JB]
  have G:=qI h;rw[Jo keep h];have:=ih (tl (Xv a b) a) (tl (Xv b a) b) (by omega);cases keep (Xv a b) (Xv b a) <;> simp <;> omega
theorem y8 (keep:Bool→Bool→Bool) (a b:LI):(mrg keep a b).length≤a.length+b.length:=QbN keep _ a b (Lt _)
theorem Qb8 {α:Type}(q:α→Bool) (E:List α) (lo hi:Nat) (h1:lo≤hi) (h2:hi≤E.length) (ha:∀m (hm:m<E.length),m<lo→q E[m]=false) (hb:∀m (hm:m<E.length),lo≤m→m<hi→q E[m]=true)
  (hc:∀m (hm:m<E.length),hi≤m→q E[m]=false):(E.drop lo).take (hi - lo)=E.filter q:=by
 have e1:E=E.take lo++((E.drop lo).take (hi - lo)++E.drop hi):=by
  conv=>lhs;rw[←MK lo E]
  congr 1;conv=>lhs;rw[←MK (hi - lo) (E.drop lo)]
  rw[List.drop_drop];congr 2;omega
 have f1:(E.take lo).filter q=[]:=by
  rw[Nc];intro a G;obtain ⟨m,hm,rfl⟩:=LD G;rw[Lx] at hm;rw[M6,ha m (by omega) (by omega)];simp
 have f3:(E.drop hi).filter q=[]:=by
  rw[Nc];intro a G;obtain ⟨m,hm,rfl⟩:=LD G;rw[Mq] at hm;rw[List.getElem_drop,hc (hi+m) (by omega) (by omega)];simp
 have f2:((E.drop lo).take (hi - lo)).filter q=(E.drop lo).take (hi - lo):=by
  rw[Nm];intro a G;obtain ⟨m,hm,rfl⟩:=LD G;rw[Lx,Mq] at hm;rw[M6,List.getElem_drop];exact hb (lo+m) (by omega) (by omega) (by omega)
 conv=>rhs;rw[e1]
 rw[L7,L7,f1,f2,f3];simp
def Zz (E:List Ed) (s:Int):List Ed:=E.filter λe=>decide (e.1=s)
open Go.Proofs.Tryz
theorem QgW {L:LN}{w:World}{v:Value}{l:LI}(h:QL L w.heap v l) (n:Int) :
  QK prog 132 [v,.int .i64 n] w λr w'=>w'=w∧∃i:Int,r=.int .i64 i∧(0≤i↔n∈l):=by
 have I:=h.le;refine QK.of_W func132 O ntmps132 results132 (by simp) ?_;refine Qc<|Qe<|Qf<|Qc<|Qb<|x (Qs h O)<|Qb<|xe<|Qh<|QA (α:=Nat) [(4,5),(8,18)] (λk=>[(8,.int .i64 k)]) (λk w'=>w'=w∧k≤l.length∧(n∈l↔n∈l.drop k)) (λk=>l.length - k) (by rfl) 0 Z ⟨O,Ll _,by simp⟩ ?_;rintro k g J ⟨rfl,hk,hm⟩;refine Qc<|x (QB O O)<|xe<|Qf<|QG O (λh9=>?_) (λh9=>?_)
 ·refine Qz<|Qc<|Qe<|Qn ⟨[.int .i64 (-1)],Z,O,-1,O,?_⟩;rw[Lr (by omega)] at hm;simp[hm]
 have G:k<l.length:=by omega
 have hd:=QX G;refine Qi<|Qf<|Qh<|Qc<|Qb<|Qe<|Qc<|Qb<|Qb<|Qb<|xii h O O G λS H=>x (Qw H O)<|x (Q4 O O)<|xe<|Q7 rfl (λE=>?_) (λE=>?_)
 ·refine Qc<|Qb<|Qe<|Qn ⟨[.int .i64 k],Z,O,k,O,?_⟩;have:n∈l:=by rw[hm,hd,E];exact Lm
  simp[this]
 refine Qi<|Qy<|QO O O<|Qb<|xe<|⟨k+1,by omega,Z,O,by omega,?_⟩;rw[hm,hd,Lb];exact ⟨λh=>h.resolve_left E,.inr⟩
theorem ZP {L:LN}{w:World}{v:Value}{l:LI}(h:QL L w.heap v l) (n:Int) :
  QK prog 57 [v,.int .i64 n] w λr w'=>r=.bool (decide (n∈l))∧w'=w:=by
 refine QK.of_W func57 O ntmps57 results57 (by simp) ?_;refine Qc<|Qe<|Qc<|Qb<|Qb<|xl O<|xf<|(QgW h n).mono ?_;rintro E G ⟨rfl,i,rfl,hi⟩;refine x (ZV O O)<|Qe<|Qn ⟨[.bool (decide (0≤i))],Z,?_,O⟩;simp[tup,hi]
theorem Ky {L L':LN}{w:World}{v v':Value}{l l':LI}(h:QL L w.heap v l) (h':QL L' w.heap v' l') :
  QK prog 64 [v,v'] w λr w'=>r=.bool (decide (l=l'))∧Step [] w w':=by
 have hb:=h.le;refine QK.of_W func64 O ntmps64 results64 (by simp) ?_;refine Qc<|Qe<|Qf<|Qc<|Qb<|x (Qs h O)<|Qb<|x (Qs h' O)<|x (Q9 O O)<|xe<|Q7 rfl (λG=>?_) (λG=>?_)
 ·refine Qc<|Qe<|Qn ⟨[.bool false],Z,?_,Step.refl _ _⟩;have:l≠l':=λe=>G (by rw[e]);simp[tup,this]
 have he:l.length=l'.length:=by omega
 refine Qi<|Qf<|Qc<|Qb<|x (Qs h O)<|Qb<|xe<|Qh<|QA (α:=Nat) [(4,5),(13,25)] (λk=>[(13,.int .i64 k)]) (λk w'=>Step [] w w'∧k≤l.length∧(l=l'↔l.drop k=l'.drop k)) (λk=>l.length - k) (by rfl) 0 Z ⟨Step.refl _ _,Ll _,by simp⟩ ?_;rintro k g H ⟨hs,hk,hm⟩
 replace h:=h.ext hs
 replace h':=h'.ext hs;refine Qc<|x (QB O O)<|xe<|Qf<|QG O (λV=>?_) (λV=>?_)
 ·refine Qz<|Qc<|Qe<|Qn ⟨[.bool true],Z,?_,hs⟩;rw[Lr (by omega),Lr (by omega)] at hm;simp[tup,hm]
 have I:k<l.length:=by omega
 have J:k<l'.length:=by omega
 refine Qi<|Qf<|Qh<|Qc<|Qb<|Qe<|Qf<|QW (Step [] H) [(0,true),(1,true),(2,true),(3,true),(4,true),(5,true),(6,true),(7,true),(8,true)] mixed (by rfl) (by kernel_rfl) (Step.drew _ _) ?_;refine p (λ_=>Qp)<|p (λ_=>Qp)<|pii O h O O I λhf Y=>pq (λ_ hc=>Qw (Y.ext hc) O) <|
  p (λ_=>Qp)<|p (λ_=>Qp)<|pii O h' O O J λhg ha=>pq (λ_ hc=>Qw (ha.ext hc) O)<|p (λ_=>Q9 O O)<|pe ?_
 have S:=hs.trans (Step.drew [] H);refine Q7 rfl (λE=>?_) (λE=>?_)
 ·refine Qc<|Qe<|Qn ⟨[.bool false],Z,?_,S⟩;have:l≠l':=λe=>E (by simp[e]);simp[tup,this]
 refine Qi<|Qy<|QO O O<|Qb<|xe<|⟨k+1,by omega,Z,S,by omega,?_⟩;have e:l[k]=l'[k]:=Ls.1 E;rw[hm,QX I,QX J,e];exact ⟨λh=>(List.cons.inj h).2,λh=>by rw[h]⟩
theorem Qez {L L':LN}{w:World}{v v':Value}{l l':List Ed}(h:zj L w.heap v l) (h':zj L' w.heap v' l') :
  QK prog 68 [v,v'] w λr w'=>r=.bool (decide (l=l'))∧Step [] w w':=by
 have hb:=h.le;refine QK.of_W func68 O ntmps68 results68 (by simp) ?_;refine Qc<|Qe<|Qf<|Qc<|Qb<|x (Qs h O)<|Qb<|x (Qs h' O)<|x (Q9 O O)<|xe<|Q7 rfl (λG=>?_) (λG=>?_)
 ·refine Qc<|Qe<|Qn ⟨[.bool false],Z,?_,Step.refl _ _⟩;have:l≠l':=λe=>G (by rw[e]);simp[tup,this]
 have he:l.length=l'.length:=by omega
 refine Qi<|Qf<|Qc<|Qb<|x (Qs h O)<|Qb<|xe<|Qh<|QA (α:=Nat) [(4,5),(13,25)] (λk=>[(13,.int .i64 k)]) (λk w'=>Step [] w w'∧k≤l.length∧(l=l'↔l.drop k=l'.drop k)) (λk=>l.length - k) (by rfl) 0 Z ⟨Step.refl _ _,Ll _,by simp⟩ ?_;rintro k g H ⟨hs,hk,hm⟩
 replace h:=h.ext hs
 replace h':=h'.ext hs;refine Qc<|x (QB O O)<|xe<|Qf<|QG O (λV=>?_) (λV=>?_)
 ·refine Qz<|Qc<|Qe<|Qn ⟨[.bool true],Z,?_,hs⟩;rw[Lr (by omega),Lr (by omega)] at hm;simp[tup,hm]
 have I:k<l.length:=by omega
 have J:k<l'.length:=by omega
 refine Qi<|Qf<|Qh<|Qc<|Qb<|Qe<|Qf<|QW (Step [] H) [(0,true),(1,true),(2,true),(3,true),(4,true),(5,true),(6,true),(7,true),(8,true)] mixed (by rfl) (by kernel_rfl) (Step.drew _ _) ?_;refine p (λ_=>Qp)<|p (λ_=>Qp)<|pie O h O O I λhf Y=>pq (λ_ hc=>QI (Y.ext hc) O O) <|
  p (λ_=>Qp)<|p (λ_=>Qp)<|pie O h' O O J λhg ha=>pq (λ_ hc=>QI (ha.ext hc) O O)<|p (λ_=>Vl O O)<|pe ?_
 have S:=hs.trans (Step.drew [] H);refine Q7 rfl (λE=>?_) (λE=>?_)
 ·refine Qc<|Qe<|Qn ⟨[.bool false],Z,?_,S⟩;have:l≠l':=λe=>E (by simp[e]);simp[tup,this]
 refine Qi<|Qy<|QO O O<|Qb<|xe<|⟨k+1,by omega,Z,S,by omega,?_⟩;have e:l[k]=l'[k]:=Ls.1 E;rw[hm,QX I,QX J,e];exact ⟨λh=>(List.cons.inj h).2,λh=>by rw[h]⟩
theorem Qas {w:World}(n:Int):QK prog 161 [.int .i64 n] w λr w'=>r=.bool false∧w'=w:=by
 refine QK.of_W func161 O ntmps161 results161 (by simp) ?_;refine Qc<|Qe<|Qc<|Qb<|Qb<|x (Q9 O O)<|Qe ?_;exact Qn ⟨[.bool (decide (¬n=n))],Z,by simp[tup],rfl⟩
theorem Qep {w:World}(n:Int):QK prog 219 [.int .i64 n] w λr w'=>r=.bool false∧w'=w:=by
 refine QK.of_W func219 O ntmps219 results219 (by simp) ?_;refine Qc<|Qe<|Qc<|Qb<|Qb<|x (Q9 O O)<|Qe ?_;exact Qn ⟨[.bool (decide (¬n=n))],Z,by simp[tup],rfl⟩
theorem Qdg {w:World}(m n:Int):QK prog 160 [.int .i64 m,.int .i64 n] w λr w'=>r=.bool (decide (m<n))∧w'=w:=by
 refine QK.of_W func160 O ntmps160 results160 (by simp) ?_;refine Qc<|Qe<|Qc<|Qb<|xl O<|xf<|(Qep m).mono ?_;rintro E G ⟨rfl,rfl⟩;refine Qb<|xs O<|xs O<|xs O<|x (Ql O)<|Qb<|Qb<|Qb<|x (QB O O)<|x (Ql O)<|Qe ?_;exact Qn ⟨[.bool (decide (m<n))],Z,O,O⟩
theorem Z0.get {l:LI}(h:Z0 l) {i j:Nat}(E:j<l.length) (G:i<j):l[i]<l[j]:=Mu.1 h i j (by omega) E G
theorem q7 {L:LN}{w:World}{v:Value}{l:LI}(h:QL L w.heap v l) (hi:Z0 l) (n:Int) :
  QK prog 84 [v,.int .i64 n] w λr w'=>w'=w∧∃i:Int,r=.tuple #[.int .i64 i,.bool (decide (n∈l))]:=by
 have hv:=h.le;refine QK.of_W func84 O ntmps84 results84 (by simp) ?_;refine Qc<|x Qg<|Qe<|Qc<|Qb<|x (Qs h O)<|Qe<|Qc<|Qb<|x Qg<|Qe<|Qf<|Qh<|QA (α:=Nat×Nat) [(7,9),(13,30)] (λz=>[(7,.int .i64 z.1),(8,.int .i64 z.2)])
  (λz w'=>w'=w∧z.1≤z.2∧z.2≤l.length∧(∀m (hm:m<l.length),m<z.1→l[m]<n)∧(∀m (hm:m<l.length),z.2≤m→n≤l[m])) (λz=>z.2 - z.1) (by rfl) (0,l.length) ⟨O,O,U⟩
  ⟨O,Ll _,Lt _,λm _ I=>absurd I (Nh m),λm h1 I=>absurd h1 (by simp only[] at I;omega)⟩ ?_
 rintro ⟨i,j⟩ g w1 ⟨rfl,hc,V,E,J⟩;simp only[] at hc V E J;refine Qf<|Qc<|Qb<|Qb<|x (QB O O)<|xe<|QG rfl (λhe=>?_) (λhe=>?_)
 ·have e:i=j:=by omega
  subst e;refine Qz<|QT (α:=Bool) [(4,5),(31,53)] (λz=>[(4,.int .i64 i),(5,.bool z)]) (λz w'=>w'=w1∧z=decide (n∈l)) (by rfl) ?_ ?_
  ·refine Qy<|Qb<|Qb<|Qb<|xb (QB O O) (λhf=>?_) (λhf=>?_)
   ·have G:i<l.length:=by omega
    refine Qb<|Qb<|Qb<|xii h O O G λhw hg=>x (Qw hg O)<|Qb<|xb (Q4 O O) (λS=>?_) (λS=>?_)
    ·refine Qb<|xs O<|xs O<|xs O<|xs O<|xs O<|xs O<|xs O<|xs O<|xs O<|x (Ql O)<|x (Ql O)<|x Qg<|Qe ?_;have:n∈l:=by rw[←S];exact Lc G
     exact ⟨true,⟨O,O,U⟩,O,by simp[this]⟩
    refine Qb<|Qb<|Qb<|xii h O O G λhy hk=>x (Qw hk O)<|xl O<|xf<|(Qas _).mono ?_;rintro r3 w3 ⟨rfl,rfl⟩;refine Qb<|xs O<|xs O<|x (Ql O)<|x (Ql O)<|x (Ql O)<|x Qg<|Qe<|⟨false,⟨O,O,U⟩,O,?_⟩;have:n∉l:=by
     intro hm;obtain ⟨m,H,Y⟩:=LD hm;by_cases hl:m<i
     ·have:=E m H hl;omega
     by_cases hn:m=i
     ·subst hn;exact S Y
     have:=Z0.get hi H (show i<m by omega);have:=J i G (Lt _);omega
    simp[this]
   refine Qb<|xs O<|xs O<|xs O<|xs O<|xs O<|xs O<|xs O<|xs O<|xs O<|xs O<|xs O<|xs O<|xs O<|xs O<|xs O<|xs O<|xs O <|
    x (Ql rfl)<|x Qg<|Qe<|⟨false,⟨O,O,U⟩,O,?_⟩
   have:n∉l:=by
    intro hm;obtain ⟨m,H,Y⟩:=LD hm;have:=E m H (by omega);omega
   simp[this]
  rintro z g w7 ⟨rfl,rfl⟩;exact Qn ⟨[.int .i64 i,.bool (decide (n∈l))],⟨O,O,U⟩,O,i,O⟩
 have hz:i<j:=by omega
 refine Qi<|Qh<|Qc<|Qb<|Qb<|QO O O<|x (ZL O (by exact ⟨by omega,by omega⟩))<|x (zS (n:=1) O O (by decide))<|x (ZL O (by exact ⟨by omega,by omega⟩))<|Qe ?_;have hh:(((i:Int)+(j:Int)) / 2 ^ 1)=(((i+j) / 2:Nat):Int):=by omega
 rw[hh];generalize hq:(i+j) / 2=q;have ho:i≤q:=by omega
 have hp:q<j:=by omega
 have ha:q<l.length:=by omega
 refine Qc<|Qb<|Qb<|xii h O O ha λh2 hr=>x (Qw hr O)<|Qb<|xl O<|xf<|(Qdg _ _).mono ?_;rintro r8 w8 ⟨rfl,rfl⟩;refine xe<|QG rfl (λhb=>?_) (λhb=>?_)
 ·refine Qy<|Qb<|Qe<|⟨(i,q),by simp only[];omega,⟨O,O,U⟩,O,ho,by omega,E,λm hm ht=>?_⟩;by_cases e:q=m
  ·subst e;omega
  have:=Z0.get hi hm (show q<m by simp only[] at ht;omega);omega
 refine Qy<|Qb<|QO O O<|Qe<|⟨(q+1,j),by simp only[];omega,⟨O,O,U⟩,O,hp,V,λm hm hu=>?_,J⟩;by_cases e:m=q
 ·subst e;exact hb
 have:=Z0.get hi ha (show m<q by simp only[] at hu;omega);omega
theorem Jg {L:LN}{w:World}{v:Value}{l:LI}(h:QL L w.heap v l) (hi:Z0 l) (n:Int) :
  QK prog 195 [v,.int .i64 n] w λr w'=>r=.bool (decide (n∈l))∧w'=w:=by
 refine QK.of_W func195 O ntmps195 results195 (by simp) ?_;refine Qc<|Qe<|Qc<|Qb<|Qb<|xl O<|xf<|(q7 h hi n).mono ?_;rintro E G ⟨rfl,i,rfl⟩;refine Qb<|x (Qk O O)<|x (Qk O O)<|x Qg<|Qe<|Qc<|Qb<|Qe ?_;exact Qn ⟨[.bool (decide (n∈l))],Z,O,O⟩
theorem Uu {L:LN}{w:World}{v:Value}{l:LI}(h:QL L w.heap v l) (n:Int) :
  QK prog 211 [v,.int .i64 n] w λr w'=>r=.int .i64 (Xp n none l)∧w'=w:=by
 have he:=h.le;refine QK.of_W func211 O ntmps211 results211 (by simp) ?_;refine Qc<|Qe<|Qf<|Qc<|Qb<|x (Qs h O)<|Qb<|xe<|Qh<|QA (α:=Nat) [(4,6),(9,34)] (λk=>[(9,.int .i64 k)]) (λk w'=>w'=w∧k≤l.length∧Xp n (pv l k) (l.drop k)=Xp n none l) (λk=>l.length - k) (by rfl) 0 Z ⟨O,Ll _,O⟩ ?_;rintro k g S ⟨rfl,hk,hm⟩;refine Qc<|x (QB O O)<|xe<|Qf<|QG O (λV=>?_) (λV=>?_)
 ·refine Qz<|Qc<|Qe<|Qn ⟨[.int .i64 0],Z,?_,O⟩;rw[←hm,Lr (by omega)];rfl
 have E:k<l.length:=by omega
 have hd:=QX E;rw[hd,Xp] at hm;refine Qi<|Qf<|Qh<|Qc<|Qb<|xii h O O E λhf Y=>x (Qw Y O)<|x Qg<|Qe<|Qh<|QT (α:=Bool) [(14,21)] (λz=>[(14,.bool z)]) (λz w'=>w'=S∧z=decide (l[k]<0∨n≤l[k])) (by rfl) ?_ ?_
 ·refine Qy<|Qb<|xb (QB O O) (λG=>?_) (λG=>?_)
  ·refine Qb<|xs O<|xs O<|xs O<|x (Ql O)<|Qe ?_;exact ⟨true,Z,O,by simp[G]⟩
  refine Qb<|Qb<|Qb<|x (ZV O O)<|x (Ql O)<|Qe ?_;exact ⟨_,Z,O,by simp[G]⟩
 rintro z g w2 ⟨rfl,rfl⟩;refine Q7 rfl (λH=>?_) (λH=>?_)
 ·refine Qc<|Qe<|Qn ⟨[.int .i64 2],Z,?_,O⟩;rw[←hm,if_pos H];rfl
 rw[if_neg H] at hm;refine QT (α:=Bool) [(22,33)] (λz=>[(22,.bool z)]) (λz w'=>w'=w2∧z=UW (pv l k) l[k]) (by rfl) ?_ ?_
 ·refine Qy<|Qb<|xb (ZR O O) (λha=>?_) (λha=>?_)
  ·have hb:((k:Int) - 1)=((k - 1:Nat):Int):=by omega
   refine Qb<|Qb<|Qb<|Qb<|x (JR O O ⟨by omega,by omega⟩)<|xii (i:=k - 1) h O (by show Value.int _ ((k:Int) - 1)=_;rw[hb]) (by omega) λhg hc=>x (Qw hc rfl)<|x (X3 rfl rfl)<|x (Ql rfl)<|Qe<|⟨_,⟨rfl,U⟩,rfl,?_⟩;have:pv l k=some l[k - 1]:=by
    have I:k≠0:=by omega
    simp[pv,I,show k - 1<l.length by omega]
   rw[this];rfl
  refine Qb<|xs O<|xs O<|xs O<|xs O<|xs O<|xs O<|xs O<|x (Ql O)<|Qe ?_;have I:k=0:=by omega
  exact ⟨false,Z,O,by simp[pv,I,UW]⟩
 rintro z g w3 ⟨rfl,rfl⟩;refine Q3 rfl (λJ=>?_) (λJ=>?_)
 ·refine Qc<|Qe<|Qn ⟨[.int .i64 5],Z,?_,O⟩;rw[←hm,if_pos J];rfl
 rw[if_neg (by simp[J])] at hm;refine Qi<|Qy<|QO O O<|Qb<|xe ?_;exact ⟨k+1,by omega,Z,O,by omega,by rw[Jz E];exact hm⟩
theorem zw {L:LN}{w:World}{va vm ve:Value}{a:QN}(h:Zv L w.heap va vm ve a) :
  QK prog 212 [.agg #[va,.int .i64 a.st,vm,ve]] w λr w'=>r=.int .i64 (ckE a.al a.st none a.ed)∧Step [] w w':=by
 obtain ⟨I,_,G⟩:=h;have h6:=G.le;refine QK.of_W func212 O ntmps212 results212 (by simp) ?_;refine Qc<|xl O<|QS (us:=[va,.int .i64 a.st,vm,ve]) O λb1 w1 ha h7 H=>Qe ?_
 replace I:=I.ext ha
 replace G:=G.ext ha;refine Qf<|Qc<|x (Qa O)<|x (Qd H O O)<|x (Qs G O)<|Qb<|xe<|Qh<|QA (α:=Nat) [(2,5),(9,71)] (λk=>[(9,.int .i64 k)]) (λk w'=>Step [] w1 w'∧k≤a.ed.length∧ckE a.al a.st (pv a.ed k) (a.ed.drop k)=ckE a.al a.st none a.ed) (λk=>a.ed.length - k) (by rfl) 0 Z
  ⟨Step.refl _ _,Ll _,O⟩ ?_
 rintro k g w2 ⟨J,hk,hm⟩
 replace I:=I.ext J
 replace G:=G.ext J
 replace H:=H.ext J;refine Qc<|x (QB O O)<|xe<|Qf<|QG O (λht=>?_) (λht=>?_)
 ·refine Qz<|Qc<|Qe<|Qn ⟨[.int .i64 0],Z,?_,ha.trans J⟩;rw[←hm,Lr (by omega)];rfl
 have hb:k<a.ed.length:=by omega
 have hd:=QX hb;rw[hd,ckE] at hm;refine Qi<|Qf<|Qh<|Qc<|Qb<|xie G O O hb λh8 hu=>x (QI hu O O)<|xl O<|Qt (us:=[.int .i64 0,.int .i64 0,.int .i64 0]) O λb4 w3 hv hw E=>x Qg <|
  xl rfl<|Qo E O O O O ⟨O,O,O,U⟩ λw4 hy E=>xe ?_
 have S:=hv.then1 hy hw
 replace I:=I.ext S
 replace G:=G.ext S
 replace H:=H.ext S;have V:=(ha.trans J).trans S;refine Qf<|Qh<|QT (α:=Bool) [(14,36)] (λz=>[(14,.bool z)]) (λz w'=>w'=w4∧z=decide (a.ed[k].1<0∨a.st≤a.ed[k].1∨a.ed[k].2.2<0∨a.st≤a.ed[k].2.2)) (by rfl) ?_ ?_
 ·refine Qy<|x (Qa O)<|x (Qd E O O)<|xb (QB O O) (λhc=>?_) (λhc=>?_)
  ·refine Qb<|xs O<|xs O<|xs O<|xs O<|xs O<|x (Ql O)<|Qb<|xs O<|xs O<|xs O<|x (Ql O)<|Qb<|xs O<|xs O<|xs O<|xs O<|xs O<|x (Ql O)<|Qe ?_;exact ⟨true,Z,O,by simp[hc]⟩
  refine Qb<|x (Qa O)<|x (Qd E O O)<|x (Qa O)<|x (Qd H O O)<|xb (ZV O O) (λhe=>?_) (λhe=>?_)
  ·refine x (Ql O)<|Qb<|xs O<|xs O<|xs O<|x (Ql O)<|Qb<|xs O<|xs O<|xs O<|xs O<|xs O<|x (Ql O)<|Qe ?_;exact ⟨true,Z,O,by simp[he]⟩
  refine x (Ql O)<|Qb<|x (Qa O)<|x (Qd E O O)<|xb (QB O O) (λhf=>?_) (λhf=>?_)
  ·refine x (Ql O)<|Qb<|xs O<|xs O<|xs O<|xs O<|xs O<|x (Ql O)<|Qe ?_;exact ⟨true,Z,O,by simp[hf]⟩
  refine x (Ql O)<|Qb<|x (Qa O)<|x (Qd E O O)<|x (Qa O)<|x (Qd H O O)<|x (ZV O O)<|x (Ql O)<|Qe ?_;exact ⟨_,Z,O,by simp[hc,he,hf]⟩
 rintro z g w5 ⟨rfl,rfl⟩;refine Q7 rfl (λhg=>?_) (λhg=>?_)
 ·refine Qc<|Qe<|Qn ⟨[.int .i64 2],Z,?_,V⟩;rw[←hm,if_pos hg];rfl
 rw[if_neg hg] at hm;refine Qc<|x (Qa O)<|x (Qd H O O)<|x (Qa O)<|x (Qd E O O)<|xl O<|xf<|(ZP I _).mono ?_;rintro r4 w6 ⟨rfl,rfl⟩;refine x (Zm O)<|Qe<|Q3 O (λhh=>?_) (λhh=>?_)
 ·have hn:a.ed[k].2.1∉a.al:=by simpa using hh
  refine Qc<|Qe<|Qn ⟨[.int .i64 9],Z,?_,V⟩;rw[←hm,if_pos hn];rfl
 have hn:¬(a.ed[k].2.1∉a.al):=by simpa using hh
 rw[if_neg hn] at hm;refine Qi<|Qf<|Qc<|Qb<|x (Q4 O O)<|xe<|Q7 rfl (λhz=>?_) (λhz=>?_)
 ·have h0:k=0:=by omega
  rw[if_neg (by simp[pv,h0,edO])] at hm;refine Qz<|Qy<|QO O O<|Qb<|xe ?_;exact ⟨k+1,by omega,Z,J.trans S,by omega,by rw[Jz hb];exact hm⟩
 have h0:k≠0:=by omega
 have h1:((k:Int) - 1)=((k - 1:Nat):Int):=by omega
 have hr:k - 1<a.ed.length:=by omega
 refine Qi<|Qc<|x (Qa O)<|x (Qd H O O)<|Qb<|x (JR O O ⟨by omega,by omega⟩)<|xie (i:=k - 1) G O (by show Value.int _ ((k:Int) - 1)=_;rw[h1]) hr λh9 h2 =>
  x (QI h2 O O)<|xl O<|Qt (us:=[.int .i64 0,.int .i64 0,.int .i64 0]) O λb5 w7 h3 h4 Y=>xl O<|Qo Y O O O O ⟨O,O,O,U⟩ λw8 h5 Y=>xe ?_
 have hj:=h3.then1 h5 h4
 replace E:=E.ext hj
 replace V:=V.trans hj;have hp:pv a.ed k=some a.ed[k - 1]:=by simp[pv,h0,hr]
 rw[hp] at hm;refine QT (α:=Bool) [(52,70)] (λz=>[(70,.bool z)]) (λz w'=>w'=w8∧z=edO (some a.ed[k - 1]) a.ed[k]) (by rfl) ?_ ?_
 ·refine Qy<|x (Qa O)<|x (Qd E O O)<|x (Qa O)<|x (Qd Y O O)<|xb (QB O O) (λhl=>?_) (λhl=>?_)
  ·refine Qb<|xs O<|xs O<|xs O<|xs O<|xs O<|xs O<|xs O<|xs O<|xs O<|xs O<|xs O<|xs O<|x (Ql O)<|xe ?_;exact ⟨true,Z,O,by simp[edO,hl]⟩
  refine Qb<|x (Qa O)<|x (Qd E O O)<|x (Qa O)<|x (Qd Y O O)<|xb (Q4 O O) (λho=>?_) (λho=>?_)
  ·refine Qb<|x (Qa O)<|x (Qd E O O)<|x (Qa O)<|x (Qd Y O O)<|x (X3 O O)<|x (Ql O)<|x (Ql O)<|xe ?_;exact ⟨_,Z,O,by simp[edO,ho]⟩
  refine Qb<|xs O<|xs O<|xs O<|xs O<|xs O<|x (Ql O)<|x (Ql O)<|xe ?_;exact ⟨false,Z,O,by simp[edO,ho,hl]⟩
 rintro z g w9 ⟨rfl,rfl⟩;refine Q3 rfl (λhq=>?_) (λhq=>?_)
 ·refine Qc<|Qe<|Qn ⟨[.int .i64 5],Z,?_,V⟩;rw[←hm,if_pos hq];rfl
 rw[if_neg (by simp[hq])] at hm;refine Qi<|Qy<|QO O O<|Qb<|xe ?_;exact ⟨k+1,by omega,Z,(J.trans S).trans hj,by omega,by rw[Jz hb];exact hm⟩
theorem XJ {L:LN}{w:World}{va vm ve:Value}{a:QN}(h:Zv L w.heap va vm ve a) :
  QK prog 153 [.agg #[va,.int .i64 a.st,vm,ve]] w λr w'=>r=.int .i64 (JI a)∧Step [] w w':=by
 refine QK.of_W func153 O ntmps153 results153 (by simp) ?_;refine Qc<|xl O<|QS (us:=[va,.int .i64 a.st,vm,ve]) O λV Y E ha G=>Qe ?_
 replace h:=h.ext E;refine Qf<|Qc<|x (Qa O)<|x (Qd G O O)<|xl O<|xf<|(Uu h.al 32).mono ?_;rintro r2 w2 ⟨rfl,rfl⟩;refine Qe<|Qc<|Qb<|x (Q9 O O)<|xe<|Q7 rfl (λh9=>?_) (λh9=>?_)
 ·refine Qc<|Qb<|Qe<|Qn ⟨[.int .i64 (Xp 32 none a.al)],Z,?_,E⟩;rw[JI,if_pos h9];rfl
 refine Qi<|Qf<|Qh<|Qc<|x (Qa O)<|x (Qd G O O)<|x (QB O O)<|Qe<|Q7 O (λH=>?_) (λH=>?_)
 ·refine Qc<|Qe<|Qn ⟨[.int .i64 2],Z,?_,E⟩;rw[JI,if_neg h9,if_pos H];rfl
 refine Qc<|x (Qa O)<|x (Qd G O O)<|x (ZR O O)<|Qe<|Q7 O (λI=>?_) (λI=>?_)
 ·refine Qc<|Qe<|Qn ⟨[.int .i64 3],Z,?_,E⟩;rw[JI,if_neg h9,if_neg H,if_pos I];rfl
 refine Qi<|Qf<|Qc<|x (Qa O)<|x (Qd G O O)<|x (Qa O)<|x (Qd G O O)<|xl O<|xf<|(Uu h.mr a.st).mono ?_;rintro r3 w3 ⟨rfl,rfl⟩;refine Qe<|Qc<|Qb<|x (Q9 O O)<|xe<|Q7 rfl (λJ=>?_) (λJ=>?_)
 ·refine Qc<|Qb<|Qe<|Qn ⟨[.int .i64 (Xp a.st none a.mr)],Z,?_,E⟩;rw[JI,if_neg h9,if_neg H,if_neg I,if_pos J];rfl
 refine Qi<|Qc<|x (Qr G O O)<|xl O<|xf<|(zw h).mono ?_;rintro r4 w4 ⟨rfl,S⟩;refine Qe<|Qn ⟨[.int .i64 (ckE a.al a.st none a.ed)],Z,?_,E.trans S⟩;rw[JI,if_neg h9,if_neg H,if_neg I,if_neg J];rfl
theorem ZZ {L:LN}{w:World}{v:Value}{l:LI}(h:QL L w.heap v l) :
  QK prog 66 [v] w λr w'=>Step [] w w'∧Qu 3 w.heap.size w' r l:=by
 have ha:=h.le;refine QK.of_W func66 O ntmps66 results66 (by simp) ?_;refine Qc<|Qe ?_;obtain ⟨ao,cap,E⟩:=h.shape;refine Qf<|Qc<|Qb<|x (Vn (show ev _ _=_ from E) O)<|xe<|Q3 rfl (λG=>?_) (λG=>?_)
 ·refine Qc<|Qe<|Qn ⟨[nS],Z,Step.refl _ _,?_⟩;rcases h.2.2 with ⟨h1,h2⟩ | ⟨a,c,h1,_⟩
  ·have:l=[]:=Ln h2;subst this;exact QP _ _ _ _
  rw[h1] at E;cases E;cases G
 rcases h.2.2 with ⟨h1,h2⟩ | ⟨a,c,h1,h2,h3⟩
 ·rw[h1] at E;injection E with e1;subst e1;cases G
 refine Qi<|Qc<|xl O<|KS λb5 w1 H I J=>Qb<|xl O<|Q5 (base:=w.heap.size) (J.own (n:=0) (sz:=1) O (by omega) I) O (show ev _ _=_ from h1) (by simp) (h3.ext H) (Vo l) (by omega) (by have:=J.lt;omega) λS w2 V Y hb=>Qe<|Qn ⟨[S],Z,H.then1 Y I,?_⟩;simpa[tup] using V
theorem Qai {g:Nat}{fn:Func}[Fu prog g fn] {keep:Bool→Bool→Bool}(hk:∀(p q:Bool) (w:World),QK prog g [.bool p,.bool q] w λr w'=>r=.bool (keep p q)∧w'=w)
  {L L':LN} {w:World} {va vb:Value} {a b:LI} (ha:QL L w.heap va a) (hb:QL L' w.heap vb b) (hF:a.length+b.length≤1099511627776) :
  QK prog 166 [va,vb,.func (.func g) #[] #[]] w λr w'=>Step [] w w'∧Qu 3 w.heap.size w' r (mrg keep a b):=by
 refine QK.of_W func166 O ntmps166 results166 (by simp) ?_;refine Qc<|Qe<|Qc<|Qe<|Qf<|Qh<|QA (α:=(LI×Value)×(LI×Value)×(LI×Value)) [(0,1),(7,72)] (λz=>[(0,z.1.2),(1,z.2.1.2),(7,z.2.2.2)])
  (λz w'=>QL L w.heap z.1.2 z.1.1∧QL L' w.heap z.2.1.2 z.2.1.1∧Qu 3 w.heap.size w' z.2.2.2 z.2.2.1∧Step [] w w'∧z.2.2.1++mrg keep z.1.1 z.2.1.1=mrg keep a b∧z.2.2.1.length+z.1.1.length+z.2.1.1.length≤1099511627776)
  (λz=>z.1.1.length+z.2.1.1.length) (by rfl) ((a,va),(b,vb),([],nS)) ⟨O,O,O,U⟩ ⟨ha,hb,QP _ _ _ _,Step.refl _ _,O,by simp;omega⟩ ?_
 clear ha hb;rintro ⟨⟨a1,h0⟩,⟨E,h1⟩,⟨o,vo⟩⟩ g1 w1 ⟨ha,hb,G,hs,hm,hl⟩;simp only[] at ha hb G hs hm hl;refine Qf<|QT (α:=Bool) [(11,18)] (λz=>[(18,.bool z)]) (λz w'=>w'=w1∧z=decide (¬(a1=[]∧E=[]))) (by rfl) ?_ ?_
 ·refine Qy<|Qb<|x (Qs ha O)<|xb (ZR O O) (λhh=>?_) (λhh=>?_)
  ·refine Qb<|xs O<|xs O<|xs O<|x (Ql O)<|xe ?_;have:a1≠[]:=by intro e;subst e;simp at hh
   exact ⟨true,Z,O,by simp[this]⟩
  refine Qb<|Qb<|x (Qs hb O)<|x (ZR O O)<|x (Ql O)<|xe ?_;have:a1=[]:=Ln (by omega);refine ⟨_,Z,O,?_⟩;cases E <;> simp[this]
 rintro z g2 w2 ⟨rfl,rfl⟩;refine QG rfl (λV=>?_) (λV=>?_)
 ·refine Qz<|Qc<|Qb<|Qe<|Qn ⟨[vo],Z,hs,?_⟩;obtain ⟨rfl,rfl⟩:=Ls.1 V;rw[JB,LH] at hm;rw[←hm];exact G
 refine Qi ?_;rw[Jo keep V] at hm;have hj:=qI V;have hG:=ha.le;have hH:=hb.le;refine Qh<|QT (α:=Bool) [(8,8),(19,35)] (λz=>[(8,.bool z)]) (λz w'=>Step [] w2 w'∧z=Xv a1 E) (by rfl) ?_ ?_
 ·refine QW (Step [] w2) [(0,true),(1,true),(2,true),(3,true),(4,true),(5,true),(6,true),(7,true),(8,true),(9,true),(10,true),(11,true),(12,true),(13,true),(14,true),(15,true),(16,true),(17,true)] mixed (by rfl) (by kernel_rfl) (Step.drew _ _) ?_;refine p (λ_=>Qp)<|p (λ_=>Qs ha O)<|pb (λ_=>ZR O O) (λhn=>?_) (λhn=>?_)
  ·refine p (λ_=>Qp)<|p (λ_=>Qp)<|p (λ_=>Qs hb O)<|pb (λ_=>Q4 O O) (λh2=>?_) (λh2=>?_)
   ·refine p (λ_=>Qp)<|ps<|ps<|ps<|ps<|ps<|ps<|ps<|p (λ_=>Ql O)<|p (λ_=>Ql O)<|p (λ_=>Qg)<|pe ?_;refine ⟨true,Z,Step.drew _ _,?_⟩;have:E=[]:=Ln (by omega);subst this;cases a1 with
    | nil=>simp at hn
    | cons y a1=>rfl
   have H:0<a1.length:=by omega
   have I:0<E.length:=by omega
   refine p (λ_=>Qp)<|p (λ_=>Qp)<|pii O (i:=0) (ha.ext hs) O O H λhI h3=>pq (λ_ hc=>Qw (h3.ext hc) O) <|
    p (λ_=>Qp)<|pii O (i:=0) (hb.ext hs) O O I λhJ h4=>pq (λ_ hc=>Qw (h4.ext hc) O)<|p (λ_=>X3 O O) <|
    p (λ_=>Ql O)<|p (λ_=>Ql O)<|p (λ_=>Qg)<|pe ?_
   refine ⟨_,Z,Step.drew _ _,?_⟩;cases a1 with
   | nil=>simp at H
   | cons y a1=>cases E with
    | nil=>simp at I
    | cons z E=>rfl
  refine p (λ_=>Qp)<|ps<|ps<|ps<|ps<|ps<|ps<|ps<|ps<|ps<|ps<|ps<|ps<|p (λ_=>Ql O)<|p (λ_=>Qg)<|pe ?_;refine ⟨false,Z,Step.drew _ _,?_⟩;have:a1=[]:=Ln (by omega);subst this;rfl
 rintro z g3 w3 ⟨hp,rfl⟩
 replace G:=Qq G hp
 replace hs:=hs.trans hp;refine QT (α:=Bool) [(9,9),(36,52)] (λz=>[(9,.bool z)]) (λz w'=>Step [] w3 w'∧z=Xv E a1) (by rfl) ?_ ?_
 ·refine QW (Step [] w3) [(0,true),(1,true),(2,true),(3,true),(4,true),(5,true),(6,true),(7,true),(8,true),(9,true),(10,true),(11,true),(12,true),(13,true),(14,true),(15,true),(16,true),(17,true)] mixed (by rfl) (by kernel_rfl) (Step.drew _ _) ?_;refine p (λ_=>Qp)<|p (λ_=>Qs hb O)<|pb (λ_=>ZR O O) (λhq=>?_) (λhq=>?_)
  ·refine p (λ_=>Qp)<|p (λ_=>Qp)<|p (λ_=>Qs ha O)<|pb (λ_=>Q4 O O) (λh5=>?_) (λh5=>?_)
   ·refine p (λ_=>Qp)<|ps<|ps<|ps<|ps<|ps<|ps<|ps<|p (λ_=>Ql O)<|p (λ_=>Ql O)<|p (λ_=>Qg)<|pe ?_;refine ⟨true,Z,Step.drew _ _,?_⟩;have:a1=[]:=Ln (by omega);subst this;cases E with
    | nil=>simp at hq
    | cons y E=>rfl
   have H:0<a1.length:=by omega
   have I:0<E.length:=by omega
   refine p (λ_=>Qp)<|p (λ_=>Qp)<|pii O (i:=0) (hb.ext hs) O O I λhK h6=>pq (λ_ hc=>Qw (h6.ext hc) O) <|
    p (λ_=>Qp)<|pii O (i:=0) (ha.ext hs) O O H λhL h7=>pq (λ_ hc=>Qw (h7.ext hc) O)<|p (λ_=>X3 O O) <|
    p (λ_=>Ql O)<|p (λ_=>Ql O)<|p (λ_=>Qg)<|pe ?_
   refine ⟨_,Z,Step.drew _ _,?_⟩;cases a1 with
   | nil=>simp at H
   | cons y a1=>cases E with
    | nil=>simp at I
    | cons z E=>rfl
  refine p (λ_=>Qp)<|ps<|ps<|ps<|ps<|ps<|ps<|ps<|ps<|ps<|ps<|ps<|ps<|p (λ_=>Ql O)<|p (λ_=>Qg)<|pe ?_;refine ⟨false,Z,Step.drew _ _,?_⟩;have:E=[]:=Ln (by omega);subst this;rfl
 rintro z g4 w4 ⟨hr,rfl⟩
 replace G:=Qq G hr
 replace hs:=hs.trans hr;refine Qc<|Qe<|QT (α:=Value) [(0,0),(10,10),(53,58)] (λz=>[(0,z),(10,.int .i64 (bif Xv a1 E then a1.headD 0 else 0))]) (λz w'=>Step [] w4 w'∧QL L w.heap z (tl (Xv a1 E) a1)) (by rfl) ?_ ?_
 ·refine Qc<|Qb<|xe<|Q3 O (λJ=>?_) (λJ=>?_)
  ·have H:0<a1.length:=by cases a1 with | nil=>simp[Xv] at J | cons y a1=>simp
   refine QW (Step [] w4) [(0,true),(1,true),(2,true),(3,true),(4,true),(5,true),(6,true)] mixed (by rfl) (by kernel_rfl) (Step.drew _ _) ?_;refine p (λ_=>Qp)<|pii O (i:=0) (ha.ext hs) O O H λh8 Y=>pq (λ_ hc=>Qw (Y.ext hc) O)<|p (λ_=>Qp) <|
    Qlb rfl (lo:=1) ha O O H λv' hv'=>p (λ_=>Qg)<|p (λ_=>Qg)<|pe ?_
   have he:=QL.drop hv';refine ⟨v',⟨O,?_,U⟩,Step.drew _ _,?_⟩
   ·show Value.int .i64 a1[0]=_;rw[J];cases a1 with | nil=>simp at H | cons y a1=>rfl
   rw[J];simpa[tl] using he
  refine Qi<|⟨h0,⟨O,by show _=_;rw[J];rfl,U⟩,Step.refl _ _,?_⟩;rw[J];exact ha
 rintro ht g5 w5 ⟨hu,hv⟩
 replace G:=Qq G hu
 replace hs:=hs.trans hu;refine QT (α:=Value) [(1,1),(10,10),(59,64)] (λz=>[(1,z),(10,.int .i64 (bif Xv E a1 then E.headD 0 else bif Xv a1 E then a1.headD 0 else 0))]) (λz w'=>Step [] w5 w'∧QL L' w.heap z (tl (Xv E a1) E)) (by rfl) ?_ ?_
 ·refine Qc<|Qb<|xe<|Q3 O (λS=>?_) (λS=>?_)
  ·have I:0<E.length:=by cases E with | nil=>simp[Xv] at S | cons y E=>simp
   refine QW (Step [] w5) [(0,true),(1,true),(2,true),(3,true),(4,true),(5,true),(6,true)] mixed (by rfl) (by kernel_rfl) (Step.drew _ _) ?_;refine p (λ_=>Qp)<|pii O (i:=0) (hb.ext hs) O O I λh8 Y=>pq (λ_ hc=>Qw (Y.ext hc) O)<|p (λ_=>Qp) <|
    Qlb rfl (lo:=1) hb O O I λv' hv'=>p (λ_=>Qg)<|p (λ_=>Qg)<|pe ?_
   have he:=QL.drop hv';refine ⟨v',⟨O,?_,U⟩,Step.drew _ _,?_⟩
   ·show Value.int .i64 E[0]=_;rw[S];cases E with | nil=>simp at I | cons y E=>rfl
   rw[S];simpa[tl] using he
  refine Qi<|⟨h1,⟨O,by show _=_;rw[S];rfl,U⟩,Step.refl _ _,?_⟩;rw[S];exact hb
 rintro hw g6 w6 ⟨hy,hz⟩
 replace G:=Qq G hy
 replace hs:=hs.trans hy;have h9:(bif Xv E a1 then E.headD 0 else bif Xv a1 E then a1.headD 0 else 0)=hx a1 E:=by
  unfold hx;cases e:Xv E a1 with
  | true=>rfl
  | false =>
   cases e2:Xv a1 E with
   | true=>rfl
   | false=>rw[e,e2] at hj;simp[tl] at hj
 refine Qc<|Qb<|Qb<|Qb<|xl O<|xc (first:=[]) (capt:=[]) O<|(hk _ _ _).mono ?_;rintro r7 w7 ⟨rfl,rfl⟩;refine xe<|Q3 rfl (λhf=>?_) (λhf=>?_)
 ·refine Qy ?_;rw[hf,cond_true] at hm;refine Qb<|Qb<|xl O<|QC (us:=[[.int .i64 (hx a1 E)]]) O O (by decide) (by simp) ⟨by rw[←h9];rfl,O,U⟩ λhM w8 hg hN hC =>
   xl rfl<|Q5 (news:=[.int .i64 (hx a1 E)]) (L:=[]) (Qq G hg) O O O (hC.at (by simp)) (by simp[Value.oneCell']) (by omega) (by have:=hs.size;have:=hg.size;omega) λv9 w9 hD hE hO=>Qe ?_
  have hge:=Qm G;refine ⟨((tl (Xv a1 E) a1,ht),(tl (Xv E a1) E,hw),(o++[hx a1 E],v9)),by simp only[];omega,⟨O,O,O,U⟩,hv,hz,?_,(hs.trans hg).then hE (λb hb=>.inr (hge b hb).1),by rw[LC];exact hm,by simp only[List.length_append,List.length_singleton];omega⟩;exact Qu.snoc hD
 rw[hf,cond_false,Mb] at hm;refine Qi ?_;exact ⟨((tl (Xv a1 E) a1,ht),(tl (Xv E a1) E,hw),(o,vo)),by simp only[];omega,⟨O,O,O,U⟩,hv,hz,G,hs,hm,by simp only[];omega⟩
theorem QmJ (p q:Bool) (w:World):QK prog 167 [.bool p,.bool q] w λr w'=>r=.bool (p || q)∧w'=w:=by
 refine QK.of_W func167 O ntmps167 results167 (by simp) ?_;refine Qc<|Qe<|Qc ?_;cases p
 ·refine Qb<|Qb<|Qb<|x (Ql O)<|Qe ?_;exact Qn ⟨[.bool q],Z,O,O⟩
 refine Qb<|Qb<|xs O<|x (Ql O)<|Qe ?_;exact Qn ⟨[.bool true],Z,O,O⟩
theorem Qgq (p q:Bool) (w:World):QK prog 185 [.bool p,.bool q] w λr w'=>r=.bool (p && !q)∧w'=w:=by
 refine QK.of_W func185 O ntmps185 results185 (by simp) ?_;refine Qc<|Qe<|Qc ?_;cases p
 ·refine Qb<|Qb<|xs O<|xs O<|x (Ql O)<|Qe ?_;exact Qn ⟨[.bool false],Z,O,O⟩
 refine Qb<|Qb<|Qb<|x (Zm O)<|x (Ql O)<|Qe ?_;exact Qn ⟨[.bool (!q)],Z,O,O⟩
theorem Qa3 {L L':LN}{w:World}{va vb:Value}{a b:LI}(ha:QL L w.heap va a) (hb:QL L' w.heap vb b) (E:a.length+b.length≤1099511627776) :
  QK prog 96 [va,vb] w λr w'=>Step [] w w'∧Qu 3 w.heap.size w' r (mrg (· || ·) a b):=by
 refine QK.of_W func96 O ntmps96 results96 (by simp) ?_;refine Qc<|Qe<|Qc<|Qb<|Qb<|xl O<|xf<|(Qai QmJ ha hb E).mono ?_;rintro G I ⟨hs,H⟩;refine Qe ?_;exact Qn ⟨[G],Z,hs,H⟩
theorem Qh9 {L L':LN}{w:World}{va vb:Value}{a b:LI}(ha:QL L w.heap va a) (hb:QL L' w.heap vb b) (E:a.length+b.length≤1099511627776) :
  QK prog 118 [va,vb] w λr w'=>Step [] w w'∧Qu 3 w.heap.size w' r (mrg (λp q=>p && !q) a b):=by
 refine QK.of_W func118 O ntmps118 results118 (by simp) ?_;refine Qc<|Qe<|Qc<|Qb<|Qb<|xl O<|xf<|(Qai Qgq ha hb E).mono ?_;rintro G I ⟨hs,H⟩;refine Qe ?_;exact Qn ⟨[G],Z,hs,H⟩
theorem QeN {L L':LN}{w:World}{va vb:Value}{a b:LI}(ha:QL L w.heap va a) (hb:QL L' w.heap vb b) (E:a.length+b.length≤1099511627776) :
  QK prog 165 [va,vb] w λr w'=>Step [] w w'∧r=.bool (decide (mrg (λp q=>p && !q) a b=[])):=by
 refine QK.of_W func165 O ntmps165 results165 (by simp) ?_;refine Qc<|Qe<|Qc<|Qb<|Qb<|xl O<|xf<|(Qh9 ha hb E).mono ?_;rintro H I ⟨hs,G⟩;have hm:=y8 (λp q=>p && !q) a b;have hi:=Qu.ints (L:=[]) G (by omega) (by simp);refine x (Qs hi O)<|x (Q4 O O)<|Qe<|Qn ⟨[.bool (decide (((mrg (λp q=>p && !q) a b).length:Int)=0))],Z,hs,?_⟩;simp[tup]
theorem QhW {g:Nat}{fn:Func}[Fu prog g fn] (hk:∀(e:Ed) (s:Int) (w:World),0≤e.1→e.1≤1099511627776→0≤s→s≤1099511627776→QK prog g [.agg (Qx e).toArray,.int .i64 s] w λr w'=>r=.int .i64 (e.1 - s)∧Step [] w w')
  {L:LN} {w:World} {v:Value} {E:List Ed} (h:zj L w.heap v E) (hi:E.Pairwise (λa b=>a.1≤b.1)) (hb:∀e∈E,0≤e.1∧e.1≤1099511627776) (s:Int) (ha:0≤s) (hc:s≤1099511627776) :
  QK prog 154 [v,.int .i64 s,.func (.func g) #[] #[]] w λr w'=>Step [] w w'∧∃(i:Nat) (b:Bool),r=.tuple #[.int .i64 i,.bool b]∧i≤E.length ∧
   (∀m (hm:m<E.length),m<i→E[m].1<s)∧(∀m (hm:m<E.length),i≤m→s≤E[m].1):=by
 have h4:=h.le;have he:∀{i j:Nat} (G:j<E.length) (I:i<j),E[i].1≤E[j].1:=λ{i j} G I=>Mu.1 hi i j (by omega) G I;have hf:∀m (hm:m<E.length),0≤E[m].1∧E[m].1≤1099511627776:=λm hm=>hb _ (Lc hm);refine QK.of_W func154 O ntmps154 results154 (by simp) ?_
 refine Qc<|x Qg<|Qe<|Qc<|Qb<|x (Qs h O)<|Qe<|Qc<|Qb<|x Qg<|Qe<|Qf<|Qh<|QA (α:=Nat×Nat) [(9,11),(15,34)] (λz=>[(9,.int .i64 z.1),(10,.int .i64 z.2)])
  (λz w'=>Step [] w w'∧z.1≤z.2∧z.2≤E.length∧(∀m (hm:m<E.length),m<z.1→E[m].1<s)∧(∀m (hm:m<E.length),z.2≤m→s≤E[m].1)) (λz=>z.2 - z.1) (by rfl) (0,E.length) ⟨O,O,U⟩
  ⟨Step.refl _ _,Ll _,Lt _,λm _ J=>absurd J (Nh m),λm h1 J=>absurd h1 (by simp only[] at J;omega)⟩ ?_
 rintro ⟨i,j⟩ g1 w1 ⟨H,I,G,S,V⟩;simp only[] at I G S V;refine Qf<|Qc<|Qb<|Qb<|x (QB O O)<|xe<|QG rfl (λho=>?_) (λho=>?_)
 ·have e:i=j:=by omega
  subst e;refine Qz<|QT (α:=Bool) [(6,7),(35,48)] (λz=>[(6,.int .i64 i),(7,.bool z)]) (λz w'=>Step [] w1 w') (by rfl) ?_ ?_
  ·refine Qy<|Qb<|Qb<|Qb<|xb (QB O O) (λhp=>?_) (λhp=>?_)
   ·have hg:i<E.length:=by omega
    have hq:=hf i hg;refine Qb<|Qb<|Qb<|Qb<|xie (h.ext H) O O hg λh5 hr=>x (QI hr O O)<|Qb<|xl O<|xc (first:=[]) (capt:=[]) O<|(hk E[i] s _ hq.1 hq.2 ha hc).mono ?_;rintro r2 w2 ⟨rfl,ht⟩;refine x (Q4 O O)<|x (Ql O)<|x Qg<|Qe ?_;exact ⟨_,⟨O,O,U⟩,ht⟩
   refine Qb<|xs O<|xs O<|xs O<|xs O<|xs O<|xs O<|xs O<|xs O<|x (Ql O)<|x Qg<|Qe ?_;exact ⟨false,⟨O,O,U⟩,Step.refl _ _⟩
  rintro z g3 w3 hu;exact Qn ⟨[.int .i64 i,.bool z],⟨O,O,U⟩,H.trans hu,i,z,O,G,S,V⟩
 have h6:i<j:=by omega
 refine Qi<|Qh<|Qc<|Qb<|Qb<|QO O O<|x (ZL O (by exact ⟨by omega,by omega⟩))<|x (zS (n:=1) O O (by decide))<|x (ZL O (by exact ⟨by omega,by omega⟩))<|Qe ?_;have hh:(((i:Int)+(j:Int)) / 2 ^ 1)=(((i+j) / 2:Nat):Int):=by omega
 rw[hh];generalize hq:(i+j) / 2=q;have hv:i≤q:=by omega
 have hw:q<j:=by omega
 have Y:q<E.length:=by omega
 have hl:=hf q Y;refine Qc<|Qb<|Qb<|Qb<|xie (h.ext H) O O Y λh7 hy=>x (QI hy O O)<|Qb<|xl O<|xc (first:=[]) (capt:=[]) O<|(hk E[q] s _ hl.1 hl.2 ha hc).mono ?_;rintro r4 w4 ⟨rfl,hn⟩;refine x (QB O O)<|xe<|QG rfl (λhz=>?_) (λhz=>?_)
 ·refine Qy<|Qb<|Qe<|⟨(i,q),by simp only[];omega,⟨O,O,U⟩,H.trans hn,hv,by omega,S,λm hm h2=>?_⟩;by_cases e:q=m
  ·subst e;omega
  have:=he hm (show q<m by simp only[] at h2;omega);omega
 refine Qy<|Qb<|QO O O<|Qe<|⟨(q+1,j),by simp only[];omega,⟨O,O,U⟩,H.trans hn,hw,G,λm hm h3=>?_,V⟩;by_cases e:m=q
 ·subst e;omega
 have:=he Y (show m<q by simp only[] at h3;omega);omega
theorem Qi0 (e:Ed) (s:Int) (w:World) (H:0≤e.1) (h1:e.1≤1099511627776) (h2:0≤s) (h3:s≤1099511627776) :
  QK prog 155 [.agg (Qx e).toArray,.int .i64 s] w λr w'=>r=.int .i64 (e.1 - s)∧Step [] w w':=by
 refine QK.of_W func155 O ntmps155 results155 (by simp) ?_;refine Qc<|xl O<|QS (us:=Qx e) O λI J E S G=>Qe<|Qc<|x (Qa O)<|x (Qd G O O)<|Qb<|x (JR O O ⟨by omega,by omega⟩)<|Qe ?_;exact Qn ⟨[.int .i64 (e.1 - s)],Z,O,E⟩
theorem QiZ (e:Ed) (s:Int) (w:World) (H:0≤e.1) (h1:e.1≤1099511627776) (h2:0≤s) (h3:s≤1099511627776) :
  QK prog 156 [.agg (Qx e).toArray,.int .i64 s] w λr w'=>r=.int .i64 (e.1 - s)∧Step [] w w':=by
 refine QK.of_W func156 O ntmps156 results156 (by simp) ?_;refine Qc<|xl O<|QS (us:=Qx e) O λI J E S G=>Qe<|Qc<|x (Qa O)<|x (Qd G O O)<|Qb<|x (JR O O ⟨by omega,by omega⟩)<|Qe ?_;exact Qn ⟨[.int .i64 (e.1 - s)],Z,O,E⟩
theorem yU {L:LN}{w:World}{va vm ve:Value}{st:Int}{E:List Ed}(h:zj L w.heap ve E) (hi:E.Pairwise (λa b=>a.1≤b.1)) (hb:∀e∈E,0≤e.1∧e.1≤1099511627776) (s:Int) (hf:0≤s) (ho:s<1099511627776) :
  QK prog 77 [.agg #[va,.int .i64 st,vm,ve],.int .i64 s] w λr w'=>Step [] w w'∧zj L w'.heap r (Zz E s):=by
 refine QK.of_W func77 O ntmps77 results77 (by simp) ?_;refine Qc<|xl O<|QS (us:=[va,.int .i64 st,vm,ve]) O λb2 w1 S hp G=>Qe ?_
 replace h:=h.ext S;refine Qc<|x (Qa O)<|x (Qd G O O)<|Qb<|xl O<|xf<|(QhW Qi0 h hi hb s hf (by omega)).mono ?_;rintro r2 w2 ⟨I,lo,b,rfl,hq,V,hg⟩
 replace h:=h.ext I
 replace G:=G.ext I;refine Qb<|x (Qk O O)<|x (Qk O O)<|x Qg<|Qe<|Qc<|x (Qa O)<|x (Qd G O O)<|Qb<|QO O O<|xl O<|xf<|(QhW QiZ h hi hb (s+1) (by omega) (by omega)).mono ?_;rintro r3 w3 ⟨J,H,b',rfl,Y,hh,ha⟩
 replace h:=h.ext J
 replace G:=G.ext J;refine Qb<|x (Qk O O)<|x (Qk O O)<|x Qg<|Qe ?_;have he:lo≤H:=by
  rcases Nat.lt_or_ge H lo with hj | hge
  ·have h1:=V H (by omega) hj;have h2:=ha H (by omega) (Lt _);omega
  exact hge
 refine Qc<|x (Qa O)<|x (Qd G O O)<|Qb<|Qb<|Qnv h O O O he Y λv' hv'=>Qe<|Qn ⟨[v'],Z,(S.trans I).trans J,?_⟩;have hc:=Qb8 (λe:Ed=>decide (e.1=s)) E lo H he Y (λm hm hk=>by have:=V m hm hk;simp;omega) (λm hm h1 h2=>by have:=hg m hm h1;have:=hh m hm h2;simp;omega) (λm hm h1=>by have:=ha m hm h1;simp;omega)
 have hl:(Zz E s).length=H - lo:=by unfold Zz;rw[←hc,Lx,Mq];omega
 show Zs L w3.heap v' (Zz E s).length 3 _;rw[hl];have e1:(Zz E s).flatMap Qx=((E.flatMap Qx).drop (lo*3)).take ((H - lo)*3):=by
  unfold Zz;rw[←hc];have key:∀(l:List Ed) (k:Nat),(l.flatMap Qx).drop (k*3)=(l.drop k).flatMap Qx:=by
   intro l;induction l with
   | nil=>intro k;simp
   | cons a l ih=>intro k;cases k with
    | zero=>simp
    | succ k=>simp only[List.flatMap_cons,List.drop_succ_cons,Nat.add_mul,Nat.one_mul];rw[M2,←List.drop_drop,show (Qx a++l.flatMap Qx).drop 3=l.flatMap Qx from rfl,ih]
  have hn:∀(l:List Ed) (k:Nat),(l.flatMap Qx).take (k*3)=(l.take k).flatMap Qx:=by
   intro l;induction l with
   | nil=>intro k;simp
   | cons a l ih=>intro k;cases k with
    | zero=>simp
    | succ k =>
     simp only[List.flatMap_cons,List.take_succ_cons,Nat.add_mul,Nat.one_mul];rw[List.take_append,X6,←ih,Lo (by simp[X6])];simp
  rw[key,hn]
 rw[e1];exact hv'
structure Q2 (a:QN):Prop where
 al:∀e∈a.al,0≤e∧e<32
 ali:Z0 a.al
 st0:0≤a.st
 st1:a.st≤4096
 mr:∀s∈a.mr,0≤s∧s<a.st
 mri:Z0 a.mr
 ed:∀e∈a.ed,0≤e.1∧e.1<a.st∧e.2.1∈a.al∧0≤e.2.2∧e.2.2<a.st
 edi:a.ed.Pairwise λx y=>x.1<y.1∨(x.1=y.1∧x.2.1<y.2.1)
theorem Yu (n:Int):∀(l:LI) (pr:Option Int),Xp n pr l=0↔(∀x∈l,0≤x∧x<n)∧Z0 l∧∀y,pr=some y→∀x∈l,y<x
 | [],pr=>by simp[Xp]
 | a::l,pr=>by
  have ih:=Yu n l (some a);rw[Xp];by_cases h1:a<0∨n≤a
  ·rw[if_pos h1];simp only[List.forall_mem_cons];constructor
   ·intro h;cases h
   rintro ⟨⟨h,_⟩,_⟩;omega
  rw[if_neg h1];by_cases h2:UW pr a=true
  ·rw[if_pos h2];constructor
   ·intro h;cases h
   rintro ⟨_,_,h⟩;cases pr with
   | none=>simp[UW] at h2
   | some y=>simp[UW] at h2;have:=h y O a Lm;omega
  rw[if_neg h2,ih];simp only[List.forall_mem_cons,List.pairwise_cons];constructor
  ·rintro ⟨h3,E,h5⟩;refine ⟨⟨by omega,h3⟩,⟨λb hb=>h5 a O b hb,E⟩,?_⟩;rintro y rfl;simp[UW] at h2;exact ⟨h2,λz G=>by have:=h5 a O z G;omega⟩
  rintro ⟨⟨_,h3⟩,⟨E,h5⟩,_⟩;exact ⟨h3,h5,λy hy z G=>by cases hy;exact E z G⟩
theorem QaP (al:LI) (st:Int):∀(l:List Ed) (pr:Option Ed),ckE al st pr l=0↔(∀e∈l,0≤e.1∧e.1<st∧e.2.1∈al∧0≤e.2.2∧e.2.2<st)∧(l.Pairwise λx y=>x.1<y.1∨(x.1=y.1∧x.2.1<y.2.1)) ∧
  ∀y,pr=some y→∀e∈l,y.1<e.1∨(y.1=e.1∧y.2.1<e.2.1)
 | [],pr=>by simp[ckE]
 | a::l,pr=>by
  have ih:=QaP al st l (some a);rw[ckE];by_cases h1:a.1<0∨st≤a.1∨a.2.2<0∨st≤a.2.2
  ·rw[if_pos h1];simp only[List.forall_mem_cons];constructor
   ·intro h;cases h
   rintro ⟨⟨h,_⟩,_⟩;omega
  rw[if_neg h1];by_cases h2:a.2.1∉al
  ·rw[if_pos h2];constructor
   ·intro h;cases h
   rintro ⟨h,_⟩;exact absurd (h a Lm).2.2.1 h2
  rw[if_neg h2];by_cases h3:edO pr a=true
  ·rw[if_pos h3];constructor
   ·intro h;cases h
   rintro ⟨_,_,h⟩;cases pr with
   | none=>simp[edO] at h3
   | some y=>simp[edO] at h3;have:=h y O a Lm;omega
  rw[if_neg h3,ih];simp only[List.forall_mem_cons,List.pairwise_cons];have I:a.2.1∈al:=Ls.1 h2;constructor
  ·rintro ⟨G,h5,E⟩;refine ⟨⟨⟨by omega,by omega,I,by omega,by omega⟩,G⟩,⟨λb hb=>E a O b hb,h5⟩,?_⟩;rintro y rfl;simp[edO] at h3;have J:y.1<a.1∨y.1=a.1∧y.2.1<a.2.1:=by omega
   exact ⟨J,λz H=>by have:=E a O z H;omega⟩
  rintro ⟨⟨_,G⟩,⟨h5,E⟩,_⟩;exact ⟨G,E,λy hy z H=>by cases hy;exact h5 z H⟩
theorem ZE (a:QN):JI a=0↔Q2 a:=by
 unfold JI;by_cases h1:Xp 32 none a.al≠0
 ·rw[if_pos h1];exact ⟨λh=>absurd h h1,λh=>absurd ((Yu 32 a.al none).2 ⟨h.al,h.ali,λ_ h=>by cases h⟩) h1⟩
 rw[if_neg h1];have G:=(Yu 32 a.al none).1 (Ls.1 h1);by_cases h2:a.st<0
 ·rw[if_pos h2];exact ⟨λh=>(by cases h),λh=>(by have:=h.st0;omega)⟩
 rw[if_neg h2];by_cases h3:4096<a.st
 ·rw[if_pos h3];exact ⟨λh=>(by cases h),λh=>(by have:=h.st1;omega)⟩
 rw[if_neg h3];by_cases E:Xp a.st none a.mr≠0
 ·rw[if_pos E];exact ⟨λh=>absurd h E,λh=>absurd ((Yu a.st a.mr none).2 ⟨h.mr,h.mri,λ_ h=>by cases h⟩) E⟩
 rw[if_neg E,QaP];have H:=(Yu a.st a.mr none).1 (Ls.1 E);exact ⟨λh=>⟨G.1,G.2.1,by omega,by omega,H.1,H.2.1,h.1,h.2.1⟩,λh=>⟨h.ed,h.edi,λ_ h=>by cases h⟩⟩
theorem XH:∀(l:LI) (a n:Int),Z0 l→(∀x∈l,a≤x∧x<n)→(l.length:Int)≤max 0 (n - a)
 | [],a,n,_,_=>by simp;omega
 | x::l,a,n,h1,h2=>by
  simp only[List.pairwise_cons,List.forall_mem_cons] at h1 h2;have:=XH l (x+1) n h1.2 (λy hy=>⟨by have:=h1.1 y hy;omega,(h2.2 y hy).2⟩);simp only[List.length_cons];omega
theorem Q2.al_le {a:QN}(h:Q2 a):a.al.length≤32:=by have:=XH a.al 0 32 h.ali h.al;omega
theorem Q2.mr_le {a:QN}(h:Q2 a):a.mr.length≤4096:=by have:=XH a.mr 0 a.st h.mri h.mr;have:=h.st1;omega
theorem Q2.eds {a:QN}(h:Q2 a):a.ed.Pairwise λx y=>x.1≤y.1:=h.edi.imp λh=>by omega
structure Cs where
 ord:LI
 num:LI
 mk':LI
 ed:List Ed
def ZB (l:LI) (k:Int):Int:=l.getD k.toNat 0
def Zf (i:Nat) (c:Cs) (e:Ed):Cs :=
 if ZB c.num e.2.2<0 then ⟨c.ord++[e.2.2],c.num.set e.2.2.toNat c.ord.length,c.mk',c.ed++[((i:Int),e.2.1,(c.ord.length:Int))]⟩
 else ⟨c.ord,c.num,c.mk',c.ed++[((i:Int),e.2.1,ZB c.num e.2.2)]⟩
def ZO (a:QN) (i:Nat) (c:Cs):Cs:=if ZB c.ord i∈a.mr then ⟨c.ord,c.num,c.mk'++[(i:Int)],c.ed⟩ else c
def UB (a:QN) (i:Nat) (c:Cs):Cs:=(Zz a.ed (ZB c.ord i)).foldl (Zf i) (ZO a i c)
def YJ (a:QN):Nat→Nat→Cs→Cs
 | 0,_,c=>c
 | f+1,i,c=>if i<c.ord.length then YJ a f (i+1) (UB a i c) else c
def ZC (a:QN):Cs:=⟨[0],(List.replicate a.st.toNat (-1)).set 0 0,[],[]⟩
def Yi (a:QN):QN:=if a.st=0 then ⟨a.al,0,[],[]⟩ else
 let c:=YJ a a.st.toNat 0 (ZC a);⟨a.al,c.ord.length,c.mk',c.ed⟩
def neg (l:LI):Nat:=(l.filter (·<0)).length
theorem Vq:∀(l:LI) (k:Nat) (v:Int) (h:k<l.length),l[k]<0→0≤v→neg (l.set k v)+1=neg l
 | a::l,0,v,_,h1,h2=>by
  have E:a<0:=h1;simp[neg,E,show ¬v<0 by omega]
 | a::l,k+1,v,h,h1,h2=>by
  have ih:=Vq l k v (by simpa using h) h1 h2;unfold neg at *;simp only[List.set_cons_succ,List.filter_cons];split
  ·simp only[List.length_cons];omega
  exact ih
structure Va (st:Int) (c:Cs):Prop where
 nl:c.num.length=st.toNat
 sum:c.ord.length+neg c.num=st.toNat
 ord:∀s∈c.ord,0≤s∧s<st
 num:∀v∈c.num,v<c.ord.length
 el:c.ed.length≤1000000000
theorem Va.le {st:Int}{c:Cs}(h:Va st c):c.ord.length≤st.toNat:=by have:=h.sum;omega
theorem Vz {l:LI}{k:Int}(h:k.toNat<l.length):ZB l k=l[k.toNat]:=by unfold ZB;simp[List.getD,h]
theorem jV {st:Int}{c:Cs}{i:Nat}{e:Ed}(h:Va st c) (H:0≤e.2.2) (h1:e.2.2<st) (hl:c.ed.length+1≤1000000000):Va st (Zf i c e):=by
 have hk:e.2.2.toNat<c.num.length:=by rw[h.nl];omega
 unfold Zf;split
 ·rename_i G;rw[Vz hk] at G;refine ⟨by simp[h.nl],?_,?_,?_,by simpa using hl⟩
  ·have:=Vq c.num e.2.2.toNat c.ord.length hk G (by omega);have:=h.sum;simp only[List.length_append,List.length_singleton];omega
  ·intro s hs;simp only[List.mem_append,List.mem_singleton] at hs;rcases hs with hs | rfl
   ·exact h.ord s hs
   exact ⟨H,h1⟩
  intro v E;simp only[List.length_append,List.length_singleton];rcases Ng E with E | rfl
  ·have:=h.num v E;omega
  omega
 exact ⟨h.nl,h.sum,h.ord,h.num,by simpa using hl⟩
theorem jX (i:Nat) (c:Cs) (e:Ed):(Zf i c e).ed.length=c.ed.length+1:=by unfold Zf;split <;> simp
theorem Qgu {a:QN}{st:Int}{c:Cs}{i:Nat}(h:Va st c):Va st (ZO a i c):=by
 unfold ZO;split
 ·exact ⟨h.nl,h.sum,h.ord,h.num,h.el⟩
 exact h
theorem Zt {E:List Ed}{s:Int}{e:Ed}(h:e∈Zz E s):e∈E∧e.1=s:=by unfold Zz at h;simpa using h
theorem QdL {a:QN}(I:0<a.st):Va a.st (ZC a):=by
 have G:0<a.st.toNat:=by omega
 refine ⟨by simp[ZC],?_,?_,?_,by simp[ZC]⟩
 ·have H:0<(List.replicate a.st.toNat (-1:Int)).length:=by simpa using G
  have h1:=Vq (List.replicate a.st.toNat (-1)) 0 0 H (by simp) (M5 _);have h2:neg (List.replicate a.st.toNat (-1))=a.st.toNat:=by
   unfold neg;rw[Nm.2 (by intro b hb;have:=Nk hb;subst this;rfl)];simp
  simp only[ZC,List.length_singleton];omega
 ·intro s hs;simp[ZC] at hs;subst hs;omega
 intro v E;simp only[ZC,List.length_singleton] at *;rcases Ng E with E | rfl
 ·have:=Nk E;omega
 omega
theorem yl {a:QN}{f i:Nat}{c:Cs}(h:¬i<c.ord.length):YJ a f i c=c:=by
 cases f with
 | zero=>rfl
 | succ f=>rw[YJ,if_neg h]
theorem Q2.ed_le {a:QN}(h:Q2 a):a.ed.length≤131072:=by
 have h1:Z0 (a.ed.map λe=>e.1*32+e.2.1):=by
  refine Ms.2 (List.Pairwise.imp_of_mem ?_ h.edi);intro x y hx hy G;have h2:=h.al _ (h.ed x hx).2.2.1;have h3:=h.al _ (h.ed y hy).2.2.1;omega
 have h2:=XH _ 0 131072 h1 (by
  intro v E;obtain ⟨e,he,rfl⟩:=Lp.1 E;have h3:=h.ed e he;have H:=h.al _ h3.2.2.1;have:=h.st1;omega)
 simp only[List.length_map] at h2;omega
theorem J6 (E:List Ed) (s:Int):(Zz E s).length≤E.length:=Ma _ _
structure JP (b3 b22:Nat) (r3:Value) (wS:World) (c:Cs) (vo vk ve:Value) (w:World):Prop where
 st:Step [b3,b22] wS w
 B3:QZ w.heap b3 58 [r3,.int .i64 0,vk,ve]
 B22:QZ w.heap b22 3 (c.num.map (Value.int .i64))
 o:Qu 3 wS.heap.size w vo c.ord
 k:Qu 3 wS.heap.size w vk c.mk'
 e:Z8 144 wS.heap.size w ve c.ed
 d1:Dj vo vk
 d2:Dj vo ve
 d3:Dj vk ve
theorem JP.ext {b3 b22:Nat}{r3:Value}{wS:World}{c:Cs}{vo vk ve:Value}{w w':World}(h:JP b3 b22 r3 wS c vo vk ve w) (hs:Step [] w w'):JP b3 b22 r3 wS c vo vk ve w' :=
 ⟨h.st.trans hs,h.B3.ext hs,h.B22.ext hs,Qq h.o hs,Qq h.k hs,Qq h.e hs,h.d1,h.d2,h.d3⟩
section
variable {b3 b22:Nat} {r3:Value} {wS:World} {c:Cs} {vo vk ve:Value} {w w' w'':World}
theorem JP.setK (h:JP b3 b22 r3 wS c vo vk ve w) (V:b3<wS.heap.size) (J:b22<wS.heap.size) (ne:b3≠b22) {G:Value}{m:LI}(hs:Step (ob vk) w w') (H:Qu 3 wS.heap.size w' G m)
  (I:∀b∈ob G,b∈ob vk∨w.heap.size≤b) (E:Step [b3] w' w'') (S:QZ w''.heap b3 58 [r3,.int .i64 0,G,ve]):JP b3 b22 r3 wS ⟨c.ord,c.num,m,c.ed⟩ vo G ve w'':=by
 have hge:=Qm h.k;refine ⟨(h.st.then hs (λb hb=>.inr (hge b hb).1)).then E (λb hb=>.inl (by simp at hb;simp[hb])),S,(h.B22.step hs (QM h.k J)).step E (by simp;omega),
  Qj (Qj h.o hs h.d1) E (λb hb=>by have:=(Qm h.o b hb).1;simp;omega),Qj H E (λb hb=>by have:=(Qm H b hb).1;simp;omega),
  Qj (Qj h.e hs h.d3.symm) E (λb hb=>by have:=(Qm h.e b hb).1;simp;omega),h.d1.grow I (QR h.o),h.d2,(h.d3.symm.grow I (QR h.e)).symm⟩
theorem JP.setE (h:JP b3 b22 r3 wS c vo vk ve w) (V:b3<wS.heap.size) (J:b22<wS.heap.size) (ne:b3≠b22) {G:Value}{m:List Ed}(hs:Step (ob ve) w w') (H:Z8 144 wS.heap.size w' G m)
  (I:∀b∈ob G,b∈ob ve∨w.heap.size≤b) (E:Step [b3] w' w'') (S:QZ w''.heap b3 58 [r3,.int .i64 0,vk,G]):JP b3 b22 r3 wS ⟨c.ord,c.num,c.mk',m⟩ vo vk G w'':=by
 have hge:=Qm h.e;refine ⟨(h.st.then hs (λb hb=>.inr (hge b hb).1)).then E (λb hb=>.inl (by simp at hb;simp[hb])),S,(h.B22.step hs (QM h.e J)).step E (by simp;omega),
  Qj (Qj h.o hs h.d2) E (λb hb=>by have:=(Qm h.o b hb).1;simp;omega),Qj (Qj h.k hs h.d3) E (λb hb=>by have:=(Qm h.k b hb).1;simp;omega),
  Qj H E (λb hb=>by have:=(Qm H b hb).1;simp;omega),h.d1,h.d2.grow I (QR h.o),h.d3.grow I (QR h.k)⟩
theorem JP.setN (h:JP b3 b22 r3 wS c vo vk ve w) (H:b22<wS.heap.size) (ne:b3≠b22) {m:LI}(E:Step [b22] w w') (G:QZ w'.heap b22 3 (m.map (Value.int .i64))):JP b3 b22 r3 wS ⟨c.ord,m,c.mk',c.ed⟩ vo vk ve w' :=
 ⟨h.st.then E (λb hb=>.inl (by simp at hb;simp[hb])),h.B3.step E (by simp;omega),G,Qj h.o E (λb hb=>by have:=(Qm h.o b hb).1;simp;omega),
  Qj h.k E (λb hb=>by have:=(Qm h.k b hb).1;simp;omega),Qj h.e E (λb hb=>by have:=(Qm h.e b hb).1;simp;omega),h.d1,h.d2,h.d3⟩
theorem JP.setO (h:JP b3 b22 r3 wS c vo vk ve w) (H:b3<wS.heap.size) (I:b22<wS.heap.size) {E:Value}{m:LI}(hs:Step (ob vo) w w') (J:Qu 3 wS.heap.size w' E m)
  (G:∀b∈ob E,b∈ob vo∨w.heap.size≤b):JP b3 b22 r3 wS ⟨m,c.num,c.mk',c.ed⟩ E vk ve w' :=
 ⟨h.st.then hs (λb hb=>.inr (Qm h.o b hb).1),h.B3.step hs (QM h.o H),h.B22.step hs (QM h.o I),J,Qj h.k hs h.d1.symm,Qj h.e hs h.d2.symm,
  (h.d1.symm.grow G (QR h.k)).symm,(h.d2.symm.grow G (QR h.e)).symm,h.d3⟩
end
def ZW (c:Cs) (e:Ed):Cs:=if ZB c.num e.2.2<0 then ⟨c.ord++[e.2.2],c.num.set e.2.2.toNat c.ord.length,c.mk',c.ed⟩ else c
theorem Qc4 (c:Cs) (e:Ed):(ZW c e).num.length=c.num.length:=by unfold ZW;split <;> simp
theorem U9 {i:Nat}{c:Cs}{e:Ed}(h:e.2.2.toNat<c.num.length):Zf i c e=⟨(ZW c e).ord,(ZW c e).num,(ZW c e).mk',(ZW c e).ed++[((i:Int),e.2.1,ZB (ZW c e).num e.2.2)]⟩:=by
 unfold Zf ZW;split
 ·simp[ZB,List.getD,h]
 rfl
set_option maxHeartbeats 1000000 in
theorem JK {L:LN}{w:World}{va vm ve:Value}{a:QN}(h:Zv L w.heap va vm ve a) (V:Q2 a) :
  QK prog 194 [.agg #[va,.int .i64 a.st,vm,ve]] w λr w'=>Step [] w w'∧Y0 w.heap.size w'.heap r (Yi a):=by
 have z9:=V.st0;have hst1:=V.st1;refine QK.of_W func194 O ntmps194 results194 (by simp) ?_;refine Qc<|xl O<|QS (us:=[va,.int .i64 a.st,vm,ve]) O λb1 w1 hL hb1 hr=>xl O<|Qt (us:=[nS,.int .i64 0,nS,nS]) O λb2 w2 Y hb2 ht=>xe ?_;have hz1:=hL.size;have hz2:=Y.size;have hl1:=hr.lt;have hl2:=ht.lt
 refine Qc<|x (Qa O)<|x (Qd (hr.ext Y) O O)<|xl O<|xf<|(ZZ ((h.al.ext hL).ext Y)).mono ?_;rintro r3 w3 ⟨ha,H⟩;have hz3:=ha.size;refine x (QD ⟨(Qu.ints (L:=[]) H h.al.le (by simp)).cells,U⟩)<|xl rfl<|Qt (us:=[nS,.int .i64 0,nS,nS]) rfl λb3 w4 kp kq hv =>
  xl rfl<|Qo (us:=[r3,.int .i64 0,nS,nS]) hv O O O O ⟨(Qu.ints (L:=[]) H h.al.le (by simp)).one,rfl,rfl,rfl,U⟩ λw5 kr hv=>xe ?_
 have G:Step [] w3 w5:=kp.then1 kr kq;have hz5:=G.size;have hl3:=hv.lt;have gp:Step [] w w5:=((hL.trans Y).trans ha).trans G;refine Qf<|Qc<|x (Qa O)<|x (Qd (((hr.ext Y).ext ha).ext G) O O)<|x (Q4 O O)<|xe<|Q7 rfl (λhM=>?_) (λhM=>?_)
 ·refine Qc<|x (Qr hv O O)<|xl O<|Qo (us:=[r3,.int .i64 0,nS,nS]) ((ht.ext ha).ext G) O O O O ⟨(Qu.ints (L:=[]) H h.al.le (by simp)).one,rfl,rfl,rfl,U⟩ λw6 gq ht=>xe ?_;refine Qn ⟨[.agg #[r3,.int .i64 0,nS,nS]],⟨⟨_,O,Qv O (ht.at (L:=[]) (by simp)).cells⟩,U⟩,gp.then1 gq (by omega),?_⟩;have kt:=Qj (Qq H G) gq (λb hb=>by have:=(Qm H b hb).1;simp;omega);unfold Yi;rw[if_pos hM]
  exact ⟨r3,_,_,O,λL' hw=>⟨Qu.ints kt h.al.le (λb hb=>by have:=hw b hb;omega),Zs.nil _ _ _,Zs.nil _ _ _⟩⟩
 have ku:0<a.st:=by omega
 obtain ⟨n,hn⟩:∃n:Nat,a.st=n:=⟨a.st.toNat,by omega⟩;have kv:a.st.toNat=n:=by omega
 refine Qi<|Qc<|x (Qa O)<|x (Qd (((hr.ext Y).ext ha).ext G) O O)<|xl O<|V1 (n:=n) (congrArg (Value.int .i64) hn) (congrArg (Value.int .i64) hn) (by omega) λb22 w7 hj hb22 hN=>Qe ?_;have hz7:=hj.size;have hl22:=hN.lt;have kw:=gp.trans hj
 rw[show (List.replicate n (Value.int .i64 0).cells.toList).flatten=((List.replicate n 0).map (Value.int .i64)) by rw[show (Value.int .i64 0).cells.toList=[Value.int .i64 0] from rfl,j7,List.map_replicate]] at hN;have kx:Step [] w3 w7:=G.trans hj;refine Qf<|Qc<|Qb<|x (Um O)<|Qb<|xe ?_
 refine Qh<|QA (α:=Nat) [(5,5),(25,31)] (λk=>[(25,.int .i64 k)]) (λk w'=>Step [b22] w7 w'∧k≤n∧QZ w'.heap b22 3 ((List.replicate k (-1)++List.replicate (n - k) 0).map (Value.int .i64))) (λk=>n - k) (by rfl) 0 Z
  ⟨Step.refl _ _,Ll _,by simpa using hN⟩ ?_
 rintro k g w8 ⟨hO,hk,hP⟩;refine Qc<|x (QB O O)<|xe<|Qf<|QG O (λky=>?_) (λky=>?_)
 rotate_left
 ·have J:k<n:=by omega
  refine Qi<|Qf<|Qh<|Qc<|Qb<|Qe<|Qy<|Qb<|Qb<|x (Zj O O J)<|xl O<|Jm hP O O (by simp;omega) λw9 h7 gr=>xe ?_;refine Qy<|QO O O<|Qb<|xe<|⟨k+1,by omega,Z,hO.trans' h7,by omega,?_⟩;have e:(List.replicate k (-1:Int)++List.replicate (n - k) 0).set k (-1)=List.replicate (k+1) (-1)++List.replicate (n - (k+1)) 0:=by
   rw[List.set_append_right _ _ (by simp)];obtain ⟨m,hm⟩:∃m,n - k=m+1:=⟨n - k - 1,by omega⟩;rw[hm,show n - (k+1)=m by omega,List.replicate_succ,List.replicate_succ' (n:=k)];simp
  rw[e] at gr;exact gr
 have kz:n=k:=by omega
 subst kz;simp only[Nat.sub_self,List.replicate_zero,List.append_nil] at hP;refine Qz<|Qc<|Qb<|x (Zj (i:=0) O O (by omega))<|xl O<|Jm (i:=0) hP O O (by simp;omega) λwS h7 k0=>xe ?_;have hzS:w8.heap.size≤wS.heap.size:=h7.size;have hz8:=hO.size;have hy:Step [b22] w7 wS:=hO.trans' h7;have hz:Step [] w wS:=kw.then1 hy (by omega)
 have hA:Zv [b3,b22] wS.heap va vm ve a:=(h.up (λb hb=>.inr (by simp at hb;omega))).ext hz;have gs:QZ wS.heap b1 58 [va,.int .i64 a.st,vm,ve]:=((((hr.ext Y).ext ha).ext G).ext hj).step hy (by simp;omega);have k4:QZ wS.heap b2 58 [nS,.int .i64 0,nS,nS]:=(((ht.ext ha).ext G).ext hj).step hy (by simp;omega)
 have k5:QZ wS.heap b3 58 [r3,.int .i64 0,nS,nS]:=(hv.ext hj).step hy (by simp;omega);have k6:Qu 3 w2.heap.size wS r3 a.al:=Qj (Qq H kx) hy (λb hb=>by have:=QR H b hb;simp;omega);have k7:∀b∈ob r3,b<w3.heap.size:=QR H;have h0:b3<wS.heap.size:=by omega
 have h2:b22<wS.heap.size:=by omega
 have hQ:b3≠b22:=by omega
 refine Qc<|xl O<|QC (us:=[[.int .i64 0]]) O O (by decide) (by simp) ⟨rfl,rfl,U⟩ λgt k8 hR hb34 k9=>Qe ?_;have ma:Qu 3 wS.heap.size k8 (.slice (some ⟨gt,0,none⟩) 1 1) [0]:=k9.own (n:=1) (sz:=1) O (by omega) (by omega);refine Qf<|Qc<|Qe ?_;have hedle:=V.ed_le;have mc:∀e∈a.ed,0≤e.1∧e.1≤1099511627776:=λe he=>by have:=V.ed e he;omega
 refine Qh<|QA (α:=Nat×Cs×Value×Value×Value) [(6,9),(11,11),(35,100)] (λz=>[(6,z.2.2.1),(7,.int .i64 z.1)])
  (λz w'=>JP b3 b22 r3 wS z.2.1 z.2.2.1 z.2.2.2.1 z.2.2.2.2 w'∧z.1≤z.2.1.ord.length∧Va a.st z.2.1∧z.2.1.mk'.length≤z.1∧z.2.1.ed.length≤z.1*131072∧YJ a (a.st.toNat - z.1) z.1 z.2.1=YJ a a.st.toNat 0 (ZC a))
  (λz=>a.st.toNat - z.1) (by rfl) (0,ZC a,.slice (some ⟨gt,0,none⟩) 1 1,nS,nS) ⟨O,O,U⟩
  ⟨⟨hR.any,k5.ext hR,by show QZ _ _ _ (List.map _ ((List.replicate a.st.toNat (-1)).set 0 0));rw[kv];exact k0.ext hR,ma,QP _ _ _ _,QP _ _ _ _,Dj.nil' _,Dj.nil' _,Dj.nil' _⟩,Ll _,QdL ku,Ll _,Ll _,O⟩ ?_
 rintro ⟨i,c,vo,vk,I⟩ g2 gu ⟨E,hi,hc,mf,mg,hS⟩;simp only[] at E hi hc mf mg hS;have hcle:=hc.le;have hT:=Qu.ints (L:=[]) E.o (by omega) (by simp);have mh:=hA.st E.st;have mj:=gs.step E.st (by simp;omega);refine Qf<|Qc<|Qb<|Qb<|x (Qs hT O)<|x (QB O O)<|xe<|QG rfl (λmo=>?_) (λmo=>?_)
 ·have mq:c=YJ a a.st.toNat 0 (ZC a):=by rw[←hS,yl (by omega)]
  refine Qz<|Qc<|Qb<|x (Qs hT O)<|x (Qa O)<|xl O<|QF E.B3 O O (by simp) rfl λms h8 mt=>xe ?_;refine Qc ?_;have mu:=Qu.ints (L:=[]) E.k (by omega) (by simp);have mv:=Z8.eds (L:=[]) E.e (by have:=hc.el;omega) (by simp);have mw:=Qu.ints (L:=[]) H h.al.le (by simp)
  refine x (Qr mt O O)<|xl O<|Qo (us:=[r3,.int .i64 c.ord.length,vk,I]) (((k4.step E.st (by simp;omega))).step h8 (by simp;omega)) O O O O ⟨mw.one,O,mu.one,mv.one,U⟩ λmy h9 mz=>xe ?_;have gv:Step [b3,b22] wS ms:=E.st.then h8 (λb hb=>.inl (by simp at hb;simp[hb]));have m0:Step [] w my:=(hz.then gv (λb hb=>.inr (by simp at hb;omega))).then1 h9 (by omega)
  refine Qn ⟨[.agg #[r3,.int .i64 c.ord.length,vk,I]],⟨⟨_,O,Qv O (mz.at (L:=[]) (by simp)).cells⟩,U⟩,m0,?_⟩;unfold Yi;rw[if_neg hM];simp only[];rw[←mq];have hNge:w.heap.size≤wS.heap.size:=hz.size;have k1:=Qj (Qj E.k h8 (λb hb=>by have:=(Qm E.k b hb).1;simp;omega)) h9 (λb hb=>by have:=(Qm E.k b hb).1;simp;omega)
  have k2:=Qj (Qj E.e h8 (λb hb=>by have:=(Qm E.e b hb).1;simp;omega)) h9 (λb hb=>by have:=(Qm E.e b hb).1;simp;omega);have k3:=Qj (Qj k6 gv (λb hb=>by have:=k7 b hb;simp;omega)) h9 (λb hb=>by have:=(Qm H b hb).1;simp;omega)
  exact ⟨r3,vk,I,O,λL' hw=>⟨Qu.ints k3 h.al.le (λb hb=>by have:=hw b hb;omega),Qu.ints k1 (by show c.mk'.length≤_;omega) (λb hb=>by have:=hw b hb;omega),Z8.eds k2 (by show c.ed.length≤_;have:=hc.el;omega) (λb hb=>by have:=hw b hb;omega)⟩⟩
 have J:i<c.ord.length:=by omega
 refine Qi<|Qf<|Qh<|QT (α:=Value) [(8,9),(41,57)] (λz=>[]) (λz w'=>JP b3 b22 r3 wS (ZO a i c) vo z I w') (by rfl) ?_ ?_
 ·refine Qf<|QW (Step [] gu) [(0,true),(1,true),(2,true),(3,true),(4,true),(5,true),(6,false),(7,true),(8,true),(9,true),(10,true),(11,true)] mixed (by rfl) (by kernel_rfl) (Step.drew _ _) ?_;refine p (λ_=>Qa O)<|pq (λ_ hc=>Qd (mj.ext hc) O O)<|p (λ_=>Qp)<|p (λ_=>Qp)<|pii O hT O O J λa46 m1 =>
   pq (λ_ hc=>Qw (m1.ext hc) O)<|pk<|xf<|(q7 (mh.mr.ext (Step.drew _ _)) V.mri _).mono ?_
  rintro r14 w14 ⟨rfl,j14,rfl⟩;refine ⟨Step.drew _ _,?_⟩;refine p (λ_=>Qp)<|p (λ_=>Qk O O)<|p (λ_=>Qk O O)<|p (λ_=>Qg)<|p (λ_=>Qg)<|pe ?_;have hU:=E.ext (Step.drew [] gu);refine Qc<|Qb<|xe ?_;have hB:ZB c.ord i=c.ord[i]:=Vz (by simpa using J);refine QG O (λhV=>?_) (λhV=>?_)
  ·refine Qi<|⟨vk,U,?_⟩;unfold ZO;rw[hB,if_neg hV];exact hU
  refine Qy<|x (Qa O)<|x (Qd hU.B3 O O)<|Qb<|xl O<|QC (us:=[[.int .i64 i]]) O O (by decide) (by simp) ⟨rfl,rfl,U⟩ λb55 w15 m2 hb55 m3=>?_;have h3:=hU.ext m2;refine xl O<|Q5 (news:=[.int .i64 i]) (L:=[]) h3.k O O O (m3.at (by simp)) (by simp[Value.oneCell']) (by omega) h3.st.size λgw m4 m5 gx m6=>?_;have gy:Qu 3 wS.heap.size m4 gw (c.mk'++[(i:Int)]):=Qu.snoc m5
  refine x (Qa O)<|xl O<|QF (h3.B3.step gx (QM h3.k h0)) O O (by simp) (Qu.ints (L:=[]) gy (by simp;omega) (by simp)).one λw17 m7 m8=>xe ?_;refine ⟨gw,U,?_⟩;unfold ZO;rw[hB,if_pos hV];exact h3.setK h0 h2 hQ gx gy m6 m7 m8
 rintro hW g3 ho hf;have m9:Va a.st (ZO a i c):=Qgu hc;have hX:(ZO a i c).ord=c.ord:=by unfold ZO;split <;> rfl
 have pa:(ZO a i c).ed=c.ed:=by unfold ZO;split <;> rfl
 have pc:(ZO a i c).mk'.length≤i+1:=by
  unfold ZO;split
  ·simp only[List.length_append,List.length_singleton];omega
  omega
 have gz:QL [] ho.heap vo (ZO a i c).ord:=Qu.ints (L:=[]) hf.o (by rw[hX];omega) (by simp);rw[hX] at gz;have pd:Step [] w ho:=hz.then hf.st (λb hb=>.inr (by simp at hb;omega));have hNw:=hz.size;have pf:Zv (b3::b22::(ob vo++ob I)) ho.heap va vm ve a:=(h.up (λb hb=>.inr (by
  simp only[List.mem_cons,List.mem_append] at hb;rcases hb with rfl | rfl | hb | hb
  ·omega
  ·omega
  ·have:=(Qm hf.o b hb).1;omega
  have:=(Qm hf.e b hb).1;omega))).ext pd
 have pg:=gs.step hf.st (by simp;omega);have hs:=hc.ord c.ord[i] (Lc J);refine Qf<|QW (Step [] ho) [(0,true),(1,true),(2,true),(3,true),(4,true),(7,true),(5,false),(6,true)] mixed (by rfl) (by kernel_rfl) (Step.drew _ _) ?_;refine pq (λ_ hc=>Qr (pg.ext hc) O O)<|p (λ_=>Qp)<|p (λ_=>Qp)<|pii O gz O O J λa61 ph =>
  pq (λ_ hc=>Qw (ph.ext hc) O)<|p (λ_=>Qp)<|pk<|xf<|(yU (pf.ed.ext (Step.drew _ _)) V.eds mc c.ord[i] hs.1 (by omega)).mono ?_
 rintro r19 hp ⟨pj,g0⟩;have hY:Step [] ho hp:=(Step.drew [] ho).trans pj;refine ⟨hY,?_⟩;refine p (λ_=>Qs g0 O)<|pe ?_;have pm:=hf.ext hY;have hB:ZB c.ord i=c.ord[i]:=Vz (by simpa using J);have hol:=J6 a.ed c.ord[i];have pn:UB a i c=(Zz a.ed c.ord[i]).foldl (Zf i) (ZO a i c):=by unfold UB;rw[hB]
 generalize po:Zz a.ed c.ord[i]=os at *;have pp:∀e∈os,0≤e.2.2∧e.2.2<a.st:=λe he=>by rw[←po] at he;have:=V.ed e (Zt he).1;omega
 refine Qh<|QA (α:=Nat×Cs×Value×Value) [(6,6),(11,11),(65,100)] (λz=>[(6,z.2.2.1),(65,.int .i64 z.1)])
  (λz w'=>JP b3 b22 r3 wS z.2.1 z.2.2.1 hW z.2.2.2 w'∧Step (b3::b22::(ob vo++ob I)) hp w'∧(∀b∈ob z.2.2.1,b∈ob vo∨hp.heap.size≤b)∧(∀b∈ob z.2.2.2,b∈ob I∨hp.heap.size≤b)∧z.1≤os.length∧Va a.st z.2.1∧z.2.1.mk'=(ZO a i c).mk'∧z.2.1.ed.length=c.ed.length+z.1∧c.ord.length≤z.2.1.ord.length∧(os.drop z.1).foldl (Zf i) z.2.1=UB a i c)
  (λz=>os.length - z.1) (by rfl) (0,ZO a i c,vo,I) ⟨O,O,U⟩
  ⟨pm,Step.refl _ _,λ_ hb=>.inl hb,λ_ hb=>.inl hb,Ll _,m9,O,by simp[pa],by simp[hX],by rw[pn];rfl⟩ ?_
 rintro ⟨k,d,g6,hC⟩ g4 pt ⟨hg,hD,hE,hZ,pu,S,ga,gb,pw,h4⟩;simp only[] at hg hD hE hZ pu S ga gb pw h4;refine Qc<|x (QB O O)<|xe<|Qf<|QG O (λpz=>?_) (λpz=>?_)
 ·rw[Lr (by omega),Ns] at h4;subst h4;refine Qz<|Qy<|Qb<|QO O O<|Qe ?_;have p0:=S.le;refine ⟨(i+1,UB a i c,g6,hW,hC),by simp only[];omega,⟨O,O,U⟩,hg,by simp only[];omega,S,by simp only[];rw[ga];exact pc,by simp only[];omega,?_⟩;simp only[];rw[←hS];obtain ⟨m,hm⟩:∃m,a.st.toNat - i=m+1:=⟨a.st.toNat - i - 1,by omega⟩
  rw[hm,YJ,if_pos J,show a.st.toNat - (i+1)=m by omega]
 have gc:k<os.length:=by omega
 have p1:=QX gc;rw[p1,LM] at h4;have g7:=pp os[k] (Lc gc);have p2:=g0.st hD;have p0:=S.le;have hz19:=hY.size;have hzS4:=hD.size;have hz18:=hf.st.size;have hI4z:=hg.st.size;have p3:=Qu.ints (L:=[]) hg.o (by omega) (by simp);obtain ⟨q,hq⟩:∃q:Nat,os[k].2.2=q:=⟨os[k].2.2.toNat,by omega⟩;have ge:os[k].2.2.toNat=q:=by omega
 have gg:q<n:=by omega
 have gh:q<d.num.length:=by rw[S.nl];omega
 have g8:ZB d.num os[k].2.2=d.num[q]:=by rw[Vz (by omega)];simp only[ge]
 have p4:=QR hg.e;have p5:=QR hg.o;refine Qi<|Qf<|Qh<|Qc<|xie p2 O O gc λa67 p6=>x (QI p6 O O)<|xl O<|Qt (us:=[.int .i64 0,.int .i64 0,.int .i64 0]) O λg9 w21 p7 p8 hh=>xl O<|Qo (us:=Qx os[k]) hh O O O O ⟨O,O,O,U⟩ λp9 qc hh=>xe ?_;have gi:Step [] pt p9:=p7.then1 qc p8;have hF:=hg.ext gi;have hz22:=gi.size;have hl11:=hh.lt;have G:=hD.trans gi
 refine QT (α:=Value) [(6,6),(69,85)] (λz=>[(6,z)]) (λz w'=>JP b3 b22 r3 wS (ZW d os[k]) z hW hC w'∧Step (b3::b22::(ob vo++ob I)) hp w'∧(∀b∈ob z,b∈ob vo∨hp.heap.size≤b)∧QZ w'.heap g9 144 (Qx os[k])) (by rfl) ?_ ?_
 ·refine Qc<|Qb<|x (Qa O)<|x (Qd hh O O)<|x (Zj O (congrArg (Value.int .i64) hq) gg)<|x (UP hF.B22 O gh)<|x (QB O O)<|xe<|QG O (λgj=>?_) (λgj=>?_)
  ·refine Qi<|⟨g6,Z,?_,G,hE,hh⟩;unfold ZW;rw[g8,if_neg gj];exact hF
  refine Qc<|Qb<|x (Qa O)<|x (Qd hh O O)<|Qb<|x (Qs p3 O)<|x (Zj O (congrArg (Value.int .i64) hq) gg)<|xl O<|Jm hF.B22 O O gh λw23 hG qf=>xe ?_;have ql:=hF.setN h2 hQ hG qf;have ka:=hh.step hG (by simp;omega);refine Qy<|Qb<|x (Qa O)<|x (Qd ka O O)<|xl O<|QC (us:=[[.int .i64 os[k].2.2]]) O O (by decide) (by simp) ⟨rfl,rfl,U⟩ λb84 w24 hH hb84 qo=>?_
  have gk:=ql.ext hH;refine xl O<|Q5 (news:=[.int .i64 os[k].2.2]) (L:=[]) gk.o O O O (qo.at (by simp)) (by simp[Value.oneCell']) (by show d.ord.length+1≤_;omega) gk.st.size λkb qr q0 gl kc=>Qe ?_;have q1:Qu 3 wS.heap.size qr kb (d.ord++[os[k].2.2]):=Qu.snoc q0;have hz23:=hG.size;have hz24:=hH.size
  refine ⟨kb,Z,?_,?_,?_,(ka.ext hH).step gl (λhb=>by have:=p5 _ hb;omega)⟩
  ·unfold ZW;rw[g8,if_pos gj,ge];exact gk.setO h0 h2 gl q1 kc
  ·refine ((G.then hG (λb hb=>.inl ?_)).trans hH).then gl (λb hb=>?_)
   ·simp at hb;simp[hb]
   rcases hE b hb with h1 | h1
   ·exact .inl (by simp[h1])
   exact .inr h1
  intro b hb;rcases kc b hb with h1 | h1
  ·exact hE b h1
  exact .inr (by omega)
 rintro q2 g5 gm ⟨h5,ke,q3,kf⟩;have gn:Zf i d os[k]=⟨(ZW d os[k]).ord,(ZW d os[k]).num,(ZW d os[k]).mk',(ZW d os[k]).ed++[((i:Int),os[k].2.1,ZB (ZW d os[k]).num os[k].2.2)]⟩:=U9 (by omega);have q4:q<(ZW d os[k]).num.length:=by rw[Qc4];exact gh
 have q5:ZB (ZW d os[k]).num os[k].2.2=(ZW d os[k]).num[q]:=by rw[Vz (by omega)];simp only[ge]
 have kg:=QM h5.e h0;have za:=QM h5.e h2;have kh:g9∉ob hC:=λhb=>by have:=p4 _ hb;omega
 have ki:(ZW d os[k]).ed=d.ed:=by unfold ZW;split <;> rfl
 have zv:Va a.st (Zf i d os[k]):=jV S g7.1 g7.2 (by rw[gb];omega);refine QW (Step (ob hC) gm) [(0,true),(1,true),(2,true),(3,true),(4,true),(5,true),(6,true),(7,true),(8,true),(9,true),(10,true),(11,false),(12,false),(13,true),(14,false)] mixed (by rfl) (by kernel_rfl) (Step.drew _ _) ?_
 refine p (λ_=>Qa O)<|pq (λ_ hc=>Qd (h5.B3.step hc kg) O O)<|p (λ_=>Qp)<|p (λ_=>Qa O)<|pq (λ_ hc=>Qd (kf.step hc kh) O O) <|
  p (λ_=>Qp)<|p (λ_=>Qa O)<|pq (λ_ hc=>Qd (kf.step hc kh) O O)<|p (λ_=>Zj O (congrArg (Value.int .i64) hq) gg) <|
  pq (λ_ hc=>UP (h5.B22.step hc za) O q4)<|p (λ_=>QD ⟨O,O,O,U⟩)<|pk<|QC (us:=[Qx ((i:Int),os[k].2.1,(ZW d os[k]).num[q])]) O O (by decide) (by exact (by decide:1*3≤1000000)) ⟨O,O,U⟩ λb97 z0 z1 hb97 z2=>?_
 have h6:Step [] gm z0:=(Step.drew [] gm).trans z1;refine ⟨h6.any,?_⟩;have hJ:=h5.ext h6;refine pk<|Q5 (news:=Qx ((i:Int),os[k].2.1,(ZW d os[k]).num[q])) (L:=[]) hJ.e O O O (z2.at (by simp)) (λu hu=>by simp only[Qx,List.mem_cons,List.not_mem_nil,or_false] at hu;rcases hu with rfl | rfl | rfl <;> rfl) (by rw[ki];have:=S.el;omega) hJ.st.size λkj z3 z4 hK kk=>?_
 refine ⟨h6.any.trans' hK,?_⟩;have kn:Z8 144 wS.heap.size z3 kj ((ZW d os[k]).ed++[((i:Int),os[k].2.1,(ZW d os[k]).num[q])]):=Z8.snoc z4;refine p (λ_=>Qa O)<|pkl (hl:=by kernel_rfl)<|QF (hJ.B3.step hK kg) O O (by simp) (Z8.eds (L:=[]) kn (by simp[ki];have:=S.el;omega) (by simp)).one λw29 ko z5=>pe ?_;have go:=hJ.setE h0 h2 hQ hK kn kk ko z5
 rw[←q5] at go;rw[←gn] at go;refine Qy<|QO O O<|Qb<|xe ?_;have hz26:=ke.size;have hz27:=h6.size;refine ⟨(k+1,Zf i d os[k],q2,kj),by simp only[];omega,⟨O,O,U⟩,go,?_,q3,?_,by simp only[];omega,zv,?_,?_,?_,h4⟩
 ·refine (((ke.trans h6)).then hK (λb hb=>?_)).then ko (λb hb=>.inl (by simp at hb;simp[hb]));rcases hZ b hb with h1 | h1
  ·exact .inl (by simp[h1])
  exact .inr h1
 ·intro b hb;rcases kk b hb with h1 | h1
  ·exact hZ b h1
  exact .inr (by omega)
 ·simp only[];rw[←ga,gn];simp only[];unfold ZW;split <;> rfl
 ·simp only[];rw[jX,gb];omega
 simp only[];rw[gn];simp only[];unfold ZW;split
 ·simp only[List.length_append];omega
 omega
end Go.Proofs.YtdffckgdcegpaaaGreatDoor
namespace Go.Proofs
open Go.Proofs.Tryz
open Go.Shelf
def Tryz.lays169_ren:Go.Shelf.Ren:=⟨λ| 169=>147 | n=>n,λ| 70=>249 | 9=>9 | 0=>0 | 72=>251 | 37=>73 | 127=>311 | 3=>3 | 5=>5 | n=>n,λ| n=>n⟩
theorem Tryz.lays169:Go.Proofs.Lays.n169 prog Tryz.lays169_ren:={
 mixed:=by kernel_rfl
 f169:=func147.trans (congrArg some (by kernel_rfl))
 t0:=underlying0
 a0:=Tryz.isAgg0
 z0:=Tryz.sizeOf0
 v0:=Tryz.zeroValue0
 t3:=underlying3
 a3:=Tryz.isAgg3
 z3:=Tryz.sizeOf3
 v3:=Tryz.zeroValue3
 t9:=underlying9
 a9:=Tryz.isAgg9
 z9:=Tryz.sizeOf9
 v9:=Tryz.zeroValue9
 t37:=underlying73
 a37:=Tryz.isAgg73
 z37:=Tryz.sizeOf73
 v37:=Tryz.zeroValue73
 t70:=underlying249
 a70:=Tryz.isAgg249
 z70:=Tryz.sizeOf249
 v70:=Tryz.zeroValue249
 t72:=underlying251
 a72:=Tryz.isAgg251
 z72:=Tryz.sizeOf251
 v72:=Tryz.zeroValue251
 t127:=underlying311
 a127:=Tryz.isAgg311
 z127:=Tryz.sizeOf311
 v127:=Tryz.zeroValue311 }
theorem Tryz.Builder_Extra_169:Builder.Extra prog Tryz.lays169_ren:={
 sizeBuilder:=by kernel_rfl
 liesBuilder:=by kernel_rfl
 t5:=underlying5
 a5:=Tryz.isAgg5
 z5:=Tryz.sizeOf5
 v5:=Tryz.zeroValue5
 infoByte:=by kernel_rfl
 cellsByte:=by kernel_rfl
 sizeByte:=by kernel_rfl
 neB5:=by decide }
open Go.RowKit in
open Go.RowKit in
open Go.RowKit in
theorem Tryz.Builder_String_any (B b:Nat) (l:List UInt8) (w:World) (h:Lib.IsBuilder 251 5 B b (Lib.byteCells l) w) (E:B≤w.heap.size) :
  Calls prog 147 #[.pointer (some ⟨b,0,none⟩)] w λe w'=>e=.returned (.string ⟨l.toArray⟩)∧Below B w w':=Any.Builder_String_any Tryz.lays169 Tryz.Builder_Extra_169 B b l w h E
def Tryz.laysM171_ren:Go.Shelf.Ren:=⟨λ| 171=>146 | 243=>205 | 246=>258 | 283=>283 | 284=>284 | 285=>285 | 286=>286 | 129=>230 | 317=>309 | 318=>310 | 319=>311 | 320=>312 | 337=>320 | 338=>321 | n=>n,λ| 3=>3 | 9=>9 | 2=>2 | 4=>4 | 171=>391 | 0=>0 | 53=>340 | 37=>73 | 5=>5 | 173=>393 | 212=>410 | 51=>338 | 20=>20 | 213=>411 | 46=>269 | 232=>419 | 233=>420 | n=>n,λ| 17=>0 | 18=>1 | 19=>2 | n=>n⟩
theorem Tryz.laysM171:Go.Proofs.LaysM.n171 prog Tryz.laysM171_ren:={
 mixed:=by kernel_rfl
 f129:=func230.trans (congrArg some (by kernel_rfl))
 f171:=func146.trans (congrArg some (by kernel_rfl))
 f243:=func205.trans (congrArg some (by kernel_rfl))
 f246:=func258.trans (congrArg some (by kernel_rfl))
 f283:=func283.trans (congrArg some (by kernel_rfl))
 f284:=func284.trans (congrArg some (by kernel_rfl))
 f285:=func285.trans (congrArg some (by kernel_rfl))
 f286:=func286.trans (congrArg some (by kernel_rfl))
 f317:=func309.trans (congrArg some (by kernel_rfl))
 f318:=func310.trans (congrArg some (by kernel_rfl))
 f319:=func311.trans (congrArg some (by kernel_rfl))
 f320:=func312.trans (congrArg some (by kernel_rfl))
 f337:=func320.trans (congrArg some (by kernel_rfl))
 f338:=func321.trans (congrArg some (by kernel_rfl))
 t0:=underlying0
 a0:=Tryz.isAgg0
 z0:=Tryz.sizeOf0
 v0:=Tryz.zeroValue0
 t2:=underlying2
 a2:=Tryz.isAgg2
 z2:=Tryz.sizeOf2
 v2:=Tryz.zeroValue2
 t3:=underlying3
 a3:=Tryz.isAgg3
 z3:=Tryz.sizeOf3
 v3:=Tryz.zeroValue3
 t4:=underlying4
 a4:=Tryz.isAgg4
 z4:=Tryz.sizeOf4
 v4:=Tryz.zeroValue4
 t5:=underlying5
 a5:=Tryz.isAgg5
 z5:=Tryz.sizeOf5
 v5:=Tryz.zeroValue5
 t9:=underlying9
 a9:=Tryz.isAgg9
 z9:=Tryz.sizeOf9
 v9:=Tryz.zeroValue9
 t20:=underlying20
 a20:=Tryz.isAgg20
 z20:=Tryz.sizeOf20
 v20:=Tryz.zeroValue20
 t37:=underlying73
 a37:=Tryz.isAgg73
 z37:=Tryz.sizeOf73
 v37:=Tryz.zeroValue73
 t46:=underlying269
 a46:=Tryz.isAgg269
 z46:=Tryz.sizeOf269
 v46:=Tryz.zeroValue269
 t51:=underlying338
 a51:=Tryz.isAgg338
 z51:=Tryz.sizeOf338
 v51:=Tryz.zeroValue338
 t53:=underlying340
 a53:=Tryz.isAgg340
 z53:=Tryz.sizeOf340
 v53:=Tryz.zeroValue340
 t171:=underlying391
 a171:=Tryz.isAgg391
 z171:=Tryz.sizeOf391
 v171:=Tryz.zeroValue391
 t173:=underlying393
 a173:=Tryz.isAgg393
 z173:=Tryz.sizeOf393
 v173:=Tryz.zeroValue393
 t212:=underlying410
 a212:=Tryz.isAgg410
 z212:=Tryz.sizeOf410
 v212:=Tryz.zeroValue410
 t213:=underlying411
 a213:=Tryz.isAgg411
 z213:=Tryz.sizeOf411
 t232:=underlying419
 a232:=Tryz.isAgg419
 z232:=Tryz.sizeOf419
 v232:=Tryz.zeroValue419
 t233:=underlying420
 a233:=Tryz.isAgg420
 z233:=Tryz.sizeOf420
 v233:=Tryz.zeroValue420
 g17:=by kernel_rfl
 g18:=by kernel_rfl
 g19:=by kernel_rfl
 i0:=by kernel_rfl
 i2:=by kernel_rfl
 i3:=by kernel_rfl
 i4:=by kernel_rfl
 i5:=by kernel_rfl
 i9:=by kernel_rfl
 i20:=by kernel_rfl
 i37:=by kernel_rfl
 i46:=by kernel_rfl
 i51:=by kernel_rfl
 i53:=by kernel_rfl
 i171:=by kernel_rfl
 i173:=by kernel_rfl
 i212:=by kernel_rfl
 i232:=by kernel_rfl
 i233:=by kernel_rfl
 m17:=by kernel_rfl
 m18:=by kernel_rfl
 m19:=by kernel_rfl }
open Go.RowKit Go.Sort Go.Lib in
theorem Tryz.strconv_Itoa (n:Int) (E:-9223372036854775808≤n) (h1:n≤9223372036854775807) (w:World) (G:Lib.TabIs prog w "internal/strconv.uint64pow10" .u64 Lib.pow10Tab) :
  Calls prog 146 #[.int .i64 n] w λe w'=>e=.returned (.string ⟨(Lib.itoa n).toArray⟩)∧∃k os,w'=grow (w.drewN k) os:=Any.strconv_Itoa Tryz.laysM171 n E h1 w G
def Tryz.lays171_ren:Go.Shelf.Ren:=⟨λ| 171=>146 | 243=>205 | 246=>258 | 283=>283 | 284=>284 | 285=>285 | 286=>286 | 129=>230 | 317=>309 | 318=>310 | 319=>311 | 320=>312 | 337=>320 | 338=>321 | n=>n,λ| 3=>3 | 9=>9 | 2=>2 | 4=>4 | 171=>391 | 0=>0 | 53=>340 | 37=>73 | 5=>5 | 173=>393 | 212=>410 | 51=>338 | 20=>20 | 213=>411 | 46=>269 | 232=>419 | 233=>420 | n=>n,λ| 17=>0 | 18=>1 | 19=>2 | n=>n⟩
theorem Tryz.lays171:Go.Proofs.Lays.n171 prog Tryz.lays171_ren:={
 mixed:=by kernel_rfl
 f129:=func230.trans (congrArg some (by kernel_rfl))
 f171:=func146.trans (congrArg some (by kernel_rfl))
 f243:=func205.trans (congrArg some (by kernel_rfl))
 f246:=func258.trans (congrArg some (by kernel_rfl))
 f283:=func283.trans (congrArg some (by kernel_rfl))
 f284:=func284.trans (congrArg some (by kernel_rfl))
 f285:=func285.trans (congrArg some (by kernel_rfl))
 f286:=func286.trans (congrArg some (by kernel_rfl))
 f317:=func309.trans (congrArg some (by kernel_rfl))
 f318:=func310.trans (congrArg some (by kernel_rfl))
 f319:=func311.trans (congrArg some (by kernel_rfl))
 f320:=func312.trans (congrArg some (by kernel_rfl))
 f337:=func320.trans (congrArg some (by kernel_rfl))
 f338:=func321.trans (congrArg some (by kernel_rfl))
 t0:=underlying0
 a0:=Tryz.isAgg0
 z0:=Tryz.sizeOf0
 v0:=Tryz.zeroValue0
 t2:=underlying2
 a2:=Tryz.isAgg2
 z2:=Tryz.sizeOf2
 v2:=Tryz.zeroValue2
 t3:=underlying3
 a3:=Tryz.isAgg3
 z3:=Tryz.sizeOf3
 v3:=Tryz.zeroValue3
 t4:=underlying4
 a4:=Tryz.isAgg4
 z4:=Tryz.sizeOf4
 v4:=Tryz.zeroValue4
 t5:=underlying5
 a5:=Tryz.isAgg5
 z5:=Tryz.sizeOf5
 v5:=Tryz.zeroValue5
 t9:=underlying9
 a9:=Tryz.isAgg9
 z9:=Tryz.sizeOf9
 v9:=Tryz.zeroValue9
 t20:=underlying20
 a20:=Tryz.isAgg20
 z20:=Tryz.sizeOf20
 v20:=Tryz.zeroValue20
 t37:=underlying73
 a37:=Tryz.isAgg73
 z37:=Tryz.sizeOf73
 v37:=Tryz.zeroValue73
 t46:=underlying269
 a46:=Tryz.isAgg269
 z46:=Tryz.sizeOf269
 v46:=Tryz.zeroValue269
 t51:=underlying338
 a51:=Tryz.isAgg338
 z51:=Tryz.sizeOf338
 v51:=Tryz.zeroValue338
 t53:=underlying340
 a53:=Tryz.isAgg340
 z53:=Tryz.sizeOf340
 v53:=Tryz.zeroValue340
 t171:=underlying391
 a171:=Tryz.isAgg391
 z171:=Tryz.sizeOf391
 v171:=Tryz.zeroValue391
 t173:=underlying393
 a173:=Tryz.isAgg393
 z173:=Tryz.sizeOf393
 v173:=Tryz.zeroValue393
 t212:=underlying410
 a212:=Tryz.isAgg410
 z212:=Tryz.sizeOf410
 v212:=Tryz.zeroValue410
 t213:=underlying411
 a213:=Tryz.isAgg411
 z213:=Tryz.sizeOf411
 t232:=underlying419
 a232:=Tryz.isAgg419
 z232:=Tryz.sizeOf419
 v232:=Tryz.zeroValue419
 t233:=underlying420
 a233:=Tryz.isAgg420
 z233:=Tryz.sizeOf420
 v233:=Tryz.zeroValue420
 g17:=by kernel_rfl
 g18:=by kernel_rfl
 g19:=by kernel_rfl }
open Go.RowKit Go.Sort Go.Lib in
theorem Tryz.strconv_Itoa_small (i:Nat) (hi:i<100) (w:World) :
  Calls prog 146 #[.int .i64 i] w λe w'=>e=.returned (.string ⟨(Lib.decDigits i).toArray⟩)∧w'=w:=Any.strconv_Itoa_small Tryz.lays171 i hi w
end Go.Proofs
namespace Go.Lg
open Go.RowKit
section
variable {P:Program} {K:Fr→World→Prop} {f:Fr} {w:World} {d:Option Nat} {ty:Nat} {ps:String} {af:Array Edge} {gd:Option (Nat×Bool)}
theorem QcU {t te E:Nat}(hp:P.underlying t=some (.pointer te)) {x y:Operand}{a:Option Addr}(hx:ev f x=.pointer a) (hy:ev f y=.pointer none) :
  (execOp (ev f) ⟨d,.binOp .eql t x y E,ty,ps,af,gd⟩).run P w=.ok (.value (.bool a.isNone)) w:=by
 have G:(eqGuard .eql t x y (.pointer a) (.pointer none)).run P w=.ok () w:=by simp[eqGuard]
 have key:∀m,(Op.equalIn (m+1) t (.pointer a) (.pointer none)).run P w=.ok a.isNone w:=by
  intro m;unfold Op.equalIn;cases a <;> simp[run_underlying hp]
 have he:(Op.equal t (.pointer a) (.pointer none)).run P w=.ok a.isNone w:=key 9999;simp only[execOp,hx,hy,Sem.run_bind,G,Result.andThen_ok,binOp,he,Sem.run_pure]
theorem Qea {t te E:Nat}{j:TypeInfo}(hp:P.underlying t=some (.pointer te)) (G:P.info? te=some j) {x y:Operand}{a:Addr}(hx:ev f x=.pointer (some a)) (hy:ev f y=.pointer (some a)) :
  (execOp (ev f) ⟨d,.binOp .neq t x y E,ty,ps,af,gd⟩).run P w=.ok (.value (.bool false)) w:=by
 have H:(eqGuard .neq t x y (.pointer (some a)) (.pointer (some a))).run P w=.ok () w:=by simp[eqGuard]
 simp only[execOp,hx,hy,Sem.run_bind,H,Result.andThen_ok,Lib.run_neq_ptr_same w a hp G,Sem.run_pure]
theorem UQ {t E:Nat}{x:Operand}{v v':Value}(hx:ev f x=v) (h:(convert t E v).run P w=.ok v' w) :
  (execOp (ev f) ⟨d,.convert t E x,ty,ps,af,gd⟩).run P w=.ok (.value v') w:=by
 simp[execOp,hx,h]
theorem QfW {g:Nat}{fn:Func}{e:Array Value→Sem Value}{x:Operand}{v:Value}{ts:Array Nat}(E:P.funcs[g]?=some fn) (G:(fn.name == "runtime.NumGoroutine")=false)
  (hb:fn.body.isNone=true) (H:Extern.findNext fn=none) (he:Extern.find fn=some e) (h:(e #[ev f x]).run P w=.ok v w) :
  (execOp (ev f) ⟨d,.call ⟨.value (.func g),#[x],ts⟩,ty,ps,af,gd⟩).run P w=.ok (.value v) w:=by
 have hc:=run_callFunc_extern E G hb H he #[ev f x] w;rw[h] at hc;have I:ev f (.func g)=.func (.func g) #[] #[]:=rfl;simp[execOp,resolve,I,Deferred.ofValue,invoke,hc,Result.andThen]
theorem Qld {t e u:Nat}[h:Sl P t e 1 1 (.int .u8 0)] (hu:P.underlying u=some .string) {s y:Operand}{base:Nat}{v:Value}{n:Nat}{cs:LV}(E:w.ownsRow base e 1 v n cs) (hs:ev f s=v)
  {b:ByteArray} (hy:ev f y=.string b) (hb:n+b.size≤1099511627776) (G:base≤w.heap.size)
  (H:∀v' w',w'.ownsRow base e 1 v' (n+b.size) (cs++Lib.strCells b)→Step (ob v) w w'→K (QV f d v') w') :
  XO P ⟨d,.call ⟨.builtin .append,#[s,y],#[t,u]⟩,ty,ps,af,gd⟩ f w K:=by
 obtain ⟨i,hi,I,J,S⟩:=Sl.info h;obtain ⟨v',w',V,h2,h3,_⟩:=Lib.run_append_own_string (P:=P) w base t u ty e i h.u hu hi I J S v n cs E b (by simp only[maxLen];omega) (by omega) G;have Y:(execOp (ev f) ⟨d,.call ⟨.builtin .append,#[s,y],#[t,u]⟩,ty,ps,af,gd⟩).run P w=.ok (.value v') w':=by
  simp[execOp,resolve,invoke,builtin,hs,hy,V]
 exact xv Y (H v' w' h2 (by rw[yX];exact Step.of_grown h3))
theorem QfU {x:Operand}{u:Nat}(hu:P.underlying u=some .string) {b:ByteArray}(hx:ev f x=.string b) :
  (execOp (ev f) ⟨d,.call ⟨.builtin .len,#[x],#[u]⟩,ty,ps,af,gd⟩).run P w=.ok (.value (.int .i64 b.size)) w:=by
 simp[execOp,resolve,invoke,builtin,Builtin.len_,hx,run_underlying hu,goInt]
end
end Go.Lg
namespace Go.Proofs.YtdffckgdcegpaaaGreatDoor
open Go.Proofs.Tryz
open Go.Lg
def Bl (p:Value) (b:Nat) (E:List UInt8) (w:World):Prop:=∃v,QZ w.heap b 251 [p,v]∧w.ownsRow (b+1) 5 1 v E.length (Lib.byteCells E)
def me (b:Nat):Value:=.pointer (some ⟨b,0,none⟩)
theorem Qjz {P:Program}{t n:Nat}(h:(P.info? t).map (·.size)=some n):∃j,P.info? t=some j∧j.size=n:=by
 simpa using h
theorem yn {w:World}{b T:Nat}{cs:LV}(h:QZ w.heap b T cs):w.shape? b=some (T,cs.length):=by
 unfold QZ at h;simp[World.shape?,h]
theorem VL {G w:World}{b:Nat}{J:List UInt8}{p:Value}(S:Step [] G w) (hb:G.heap.size≤b) (hp:p=.pointer none∨p=me b) (h:Bl p b J w) :
  QK prog 204 [me b] w λr w'=>r=.tuple #[]∧Step [] G w'∧Bl (me b) b J w':=by
 obtain ⟨v,E,H⟩:=h;obtain ⟨j,I,Y⟩:=Qjz (P:=prog) (t:=251) (n:=2) (by kernel_rfl);refine QK.of_W func204 O ntmps204 results204 (by simp) ?_;refine Qc ?_;rcases hp with rfl | rfl
 ·refine Qb<|x (QE O)<|x (Qa O)<|x (Qd E O O)<|x (QcU underlying249 O O)<|xe<|zc O ?_;refine Qy<|Qb<|Qb<|x (UQ (v':=me b) O (Lib.run_to_unsafe w ⟨b,0,none⟩ underlying249 underlying363 I (by rw[Y];decide) (yn E) (by simp))) <|
   x (QfW (v:=me b) func257 (by kernel_rfl) (by kernel_rfl) (by kernel_rfl) (e:=Extern.AbiNoEscape.same) (by kernel_rfl) O) <|
   x (UQ (v':=me b) O (Lib.run_from_unsafe w ⟨b,0,none⟩ underlying363 underlying249 I (yn E) (by kernel_rfl)))<|x (QE O) <|
   x (Qa rfl)<|xl O<|QF E O O (by simp) rfl λw2 V ha=>xe ?_
  exact ⟨[],U,O,S.then1 V hb,v,ha,Qj H V (λc hc=>by have:=(Qm H c hc).1;simp;omega)⟩
 refine Qb<|x (QE O)<|x (Qa O)<|x (Qd E O O)<|x (QcU underlying249 O O)<|xe<|ZM O ?_;refine Qc<|Qb<|x (QE O)<|x (Qa O)<|x (Qd E O O)<|Qb<|x (Qea underlying249 I O O)<|xe<|ZM O ?_;refine Qi ?_;exact ⟨[],U,O,S,v,E,H⟩
theorem yx {H w:World}{b:Nat}{E:List UInt8}{p:Value}(h0:Step [] H w) (hb:H.heap.size≤b) (hp:p=.pointer none∨p=me b) (h:Bl p b E w) (c:UInt8) (hl:E.length+1≤1000000000) :
  QK prog 203 [me b,.int .u8 c.toNat] w λ_ w'=>Step [] H w'∧Bl (me b) b (E++[c]) w':=by
 refine QK.of_W func203 O ntmps203 results203 (by simp) ?_;refine Qc<|Qe<|Qc<|Qb<|xl O<|xf<|(VL h0 hb hp h).mono ?_;rintro r1 w1 ⟨rfl,he,v,I,J⟩;refine xe ?_;have hm:=I.lt;refine Qc<|Qb<|Qb<|x (QE O)<|x (Qa O)<|x (Qd I O O)<|Qb<|xl O<|QC (us:=[[.int .u8 c.toNat]]) O O (by decide) (by simp) ⟨rfl,rfl,U⟩ λhn w2 G hq hf=>?_;have hr:=G.size;have hg:=Qq J G
 refine xl rfl<|Q5 (news:=[.int .u8 c.toNat]) (L:=[]) hg O O O (hf.at (by simp)) (by simp[Value.oneCell']) (by omega) (by omega) λV w3 hh Y ht=>?_;have hj:=(I.ext G).step Y (λhc=>by have:=(Qm J b hc).1;omega);have S:w3.ownsRow (b+1) 5 1 V (E++[c]).length (Lib.byteCells (E++[c])):=by simpa[Lib.byteCells] using hh
 refine x (QE O)<|x (Qa O)<|xl O<|QF hj O O (by simp) (QU (L:=[]) S (by simp;omega) (by simp)).one λw4 ha hk=>xe ?_;refine Qc<|Qe<|Qn ⟨[.nilIface],Z,(((he.trans G).then Y (λc hc=>.inr ?_)).then1 ha hb),V,hk,Qj S ha (λc hc=>by have:=(Qm S c hc).1;simp;omega)⟩;have:=(Qm J c hc).1;omega
theorem J1 {G w:World}{b:Nat}{E:List UInt8}{p:Value}(h0:Step [] G w) (hb:G.heap.size≤b) (hp:p=.pointer none∨p=me b) (h:Bl p b E w) (s:ByteArray) (hl:E.length+s.size≤1000000000) :
  QK prog 145 [me b,.string s] w λ_ w'=>Step [] G w'∧Bl (me b) b (E++s.data.toList) w':=by
 refine QK.of_W func145 O ntmps145 results145 (by simp) ?_;refine Qc<|x Qg<|Qe<|Qc<|Qb<|xl O<|xf<|(VL h0 hb hp h).mono ?_;rintro r1 w1 ⟨rfl,he,v,H,I⟩;refine xe ?_;have hj:=H.lt;refine Qc<|Qb<|Qb<|x (QE O)<|x (Qa O)<|x (Qd H O O)<|Qb<|xl O<|Qld underlying9 I O O (by omega) (by omega) λS w3 hf V=>?_;have hg:=H.step V (λhc=>by have:=(Qm I b hc).1;omega)
 have Y:s.size=s.data.toList.length:=rfl;have J:w3.ownsRow (b+1) 5 1 S (E++s.data.toList).length (Lib.byteCells (E++s.data.toList)):=by
  rw[Lh,←Y,show Lib.byteCells (E++s.data.toList)=Lib.byteCells E++Lib.strCells s by simp[Lib.byteCells,Lib.strCells_eq]];exact hf
 refine x (QE O)<|x (Qa O)<|xl O<|QF hg O O (by simp) (QU (L:=[]) J (by rw[Lh,←Y];omega) (by simp)).one λw4 ha hh=>xe ?_;refine Qc<|Qb<|x (QfU underlying9 O)<|x Qg<|Qe<|Qn ⟨[.int .i64 s.size,.nilIface],⟨O,O,U⟩,((he.then V (λc hc=>.inr ?_)).then1 ha hb),S,hh,Qj J ha (λc hc=>by have:=(Qm J c hc).1;simp;omega)⟩;have:=(Qm I c hc).1;omega
theorem zI {I w:World}{b:Nat}{H:List UInt8}{p:Value}(E:Step [] I w) (hb:I.heap.size≤b) (hp:p=.pointer none∨p=me b) (h:Bl p b H w) :
  QK prog 147 [me b] w λr w'=>r=.string ⟨H.toArray⟩∧Step [] I w':=by
 obtain ⟨v,J,S⟩:=h;have ha:=J.lt;have V:Lib.BuilderAt 251 5 b b p (Lib.byteCells H) w:=⟨Lt _,v,J,by rw[Lib.byteCells_length];exact Zr S (by omega),λe=>by
  have:b∈ob v:=by rw[yX,e];simp
  have:=(Qm S b this).1;omega⟩
 unfold QK;refine Calls.mono (Tryz.Builder_String_any b b H w (by rcases hp with rfl | rfl;exact .inl V;exact .inr V) (by omega)) ?_
 rintro e w' ⟨rfl,G⟩;exact ⟨O,⟨G.os.trans E.os,G.tape.trans E.tape,G.output.trans E.output,LS E.size G.size,λk hk Y=>(G.block k (by omega)).trans (E.block k hk Y)⟩⟩
def Tb (w:World):Prop:=Lib.TabIs prog w "internal/strconv.uint64pow10" .u64 Lib.pow10Tab
theorem Qe3 {P:Program}{w w':World}{name:String}{v:Array Value}(h:w.var? P name=some v) (hs:Step [] w w'):w'.var? P name=some v:=by
 unfold World.var? at *;rw[Ml] at *;obtain ⟨g,h1,h2⟩:=h;refine ⟨g,h1,?_⟩;cases E:w.heap[g]? with
 | none=>rw[E] at h2;cases h2
 | some o =>
  have G:g<w.heap.size:=(LE.1 E).1;rw[hs.block g G (by simp)];exact h2
theorem Tb.ext {w w':World}(h:Tb w) (hs:Step [] w w'):Tb w':=Qe3 h hs
def Kb (w:World) (m:Int):Prop:=m≤100∨(m≤1000000∧Tb w)
theorem Kb.ext {w w':World}{m:Int}(h:Kb w m) (hs:Step [] w w'):Kb w' m:=h.imp id λh=>⟨h.1,h.2.ext hs⟩
theorem Kb.le {w:World} {m:Int} (h:Kb w m):m≤1000000:=by rcases h with h | h <;> omega
theorem Qbl {w:World}{k:Nat}{os:Array Obj}:Step [] w (Sort.grow (w.drewN k) os):=by
 refine ⟨O,O,O,?_,λi hi _=>?_⟩
 ·show w.heap.size≤(w.heap++os).size;simp
 show (w.heap++os)[i]?=w.heap[i]?;rw[Array.getElem?_append_left hi]
theorem Qdl {m:Int}(i:Nat) (hi:(i:Int)<m) (w:World) (hk:Kb w m):QK prog 146 [.int .i64 i] w λr w'=>r=.string ⟨(Lib.decDigits i).toArray⟩∧Step [] w w':=by
 unfold QK;rcases hk with hk | hk
 ·refine Calls.mono (Tryz.strconv_Itoa_small i (by omega) w) ?_;rintro e w' ⟨rfl,rfl⟩;exact ⟨O,Step.refl _ _⟩
 refine Calls.mono (Tryz.strconv_Itoa i (by omega) (by omega) w hk.2) ?_;rintro e w' ⟨rfl,k,os,rfl⟩;refine ⟨?_,Qbl⟩;unfold Lib.itoa;rw[if_neg (by omega),LY]
def XS (l:LI):List UInt8:=l.flatMap λn=>Lib.decDigits n.toNat++[32]
theorem Ub:∀(k u:Nat),u<10 ^ k→(Lib.decDigits u).length≤max 1 k
 | 0,u,h=>by
  unfold Lib.decDigits;rw[dif_pos (by simp at h;omega)];simp
 | k+1,u,h=>by
  unfold Lib.decDigits;split
  ·simp
  rename_i hu;have ih:=Ub k (u / 10) (by rw[Nat.pow_succ] at h;omega);rw[Lh];simp only[List.length_singleton];have h1:k≠0:=λe=>by subst e;simp at h;omega
  omega
theorem Bl.ext {w w':World}{p:Value}{b:Nat}{E:List UInt8}(h:Bl p b E w) (hs:Step [] w w'):Bl p b E w':=by
 obtain ⟨v,h1,h2⟩:=h;exact ⟨v,h1.ext hs,Qq h2 hs⟩
theorem jg {L:LN}{w:World}{v:Value}{l:LI}{m:Int}(h:QL L w.heap v l) (S:Kb w m) (hb:∀n∈l,0≤n∧n<m) (hl:l.length≤1000000) :
  QK prog 142 [v] w λr w'=>r=.string ⟨(XS l).toArray⟩∧Step [] w w':=by
 refine QK.of_W func142 O ntmps142 results142 (by simp) ?_;refine Qc<|Qe<|Qc<|xl O<|Qt (us:=[.pointer none,nS]) O λH w1 ha I hc=>xe ?_;refine Qf<|Qc<|Qb<|x (Qs h O)<|Qb<|xe ?_
 refine Qh<|QA (α:=Nat×Value) [(5,5),(8,16)] (λz=>[(8,.int .i64 z.1)]) (λz w'=>z.1≤l.length∧Step [] w w'∧(z.2=.pointer none∨z.2=me H)∧Bl z.2 H (XS (l.take z.1)) w'∧(XS (l.take z.1)).length≤8*z.1) (λz=>l.length - z.1) (by rfl) (0,.pointer none) Z
  ⟨Ll _,ha,.inl O,⟨_,hc,QP _ _ _ _⟩,Lt _⟩ ?_
 rintro ⟨k,p⟩ g w2 ⟨hk,E,hp,G,he⟩;simp only[] at hk hp G he;refine Qc<|x (QB O O)<|xe<|Qf<|QG O (λh9=>?_) (λh9=>?_)
 ·refine Qz<|Qc ?_;rw[Lo (by omega)] at G;refine xl O<|xf<|(zI E I hp G).mono ?_;rintro r3 w3 ⟨rfl,hf⟩;refine Qe ?_;exact Qn ⟨[.string ⟨(XS l).toArray⟩],Z,O,hf⟩
 have J:k<l.length:=by omega
 have hr:=hb l[k] (Lc J);obtain ⟨q,hq⟩:∃q:Nat,l[k]=q:=⟨l[k].toNat,by omega⟩;have hg:l[k].toNat=q:=by omega
 have ht:=Ub 7 q (by have:=S.le;omega);have V:XS (l.take (k+1))=XS (l.take k)++Lib.decDigits q++[32]:=by
  rw[Li J];unfold XS;rw[Ly,List.flatMap_singleton,hg,LC]
 refine Qi<|Qf<|Qh<|Qc<|xii (h.ext E) O O J λhu hh=>x (Qw hh O)<|Qe<|Qc<|Qb<|xl O<|xf ?_;refine (show QK _ _ [.int .i64 l[k]] _ _ by rw[hq];exact (Qdl q (by omega) w2 (S.ext E))).mono ?_;rintro r4 w4 ⟨rfl,Y⟩;refine xl rfl<|xf<|(J1 (E.trans Y) I hp (G.ext Y) ⟨(Lib.decDigits q).toArray⟩ (by show _+(Lib.decDigits q).toArray.size≤_;simp;omega)).mono ?_;rintro r5 w5 ⟨hj,hm⟩
 refine xe<|Qy<|xl O<|xf<|(yx hj I (.inr O) hm 32 (by simp;omega)).mono ?_;rintro r6 w6 ⟨hn,ho⟩;refine xe<|Qy<|QO O O<|Qb<|xe<|⟨(k+1,me H),by simp only[];omega,Z,by simp only[];omega,hn,.inr O,?_,?_⟩
 ·simp only[];rw[V];simpa using ho
 simp only[];rw[V];simp;omega
end Go.Proofs.YtdffckgdcegpaaaGreatDoor
namespace Go.Lg
section
variable {P:Program} {ops:List Oper} {K:Fr→World→Prop} {f:Fr} {w:World} {d:Option Nat} {ty:Nat} {ps:String} {af:Array Edge} {gd:Option (Nat×Bool)} {l:List Oper} {C:World→Prop} {pl:List (Nat×Bool)} {i0:Nat}
theorem xig {α:Type}{g:α→LV}{x y:Operand}{t e sz bys:Nat}{z:Value}[Sl P t e sz bys z] (G:∀x,(g x).length=sz) {L:LN}{E:List α}{v:Value}{k:IntKind}{i:Nat}
  (h:Zs L w.heap v E.length sz (E.flatMap g)) (H:ev f x=v) (hy:ev f y=.int k i) (hi:i<E.length)
  (I:∀a,At L w.heap a (g E[i])→XL P ops K l (QV f d (.pointer (some a))) w) (J:Yk ops f ⟨d,.indexAddr t x y,ty,ps,af,gd⟩=true:=by rfl) :
  XL P ops K (⟨d,.indexAddr t x y,ty,ps,af,gd⟩::l) f w:=by
 obtain ⟨a,cap,h1,h2⟩:=Zs.at h hi;rw[X5 g sz G E i hi] at h2;refine xl J (xv (Xt (H.trans h1) hy (by omega) (by omega)) (I _ ?_));simpa using h2
theorem pig {α:Type}{g:α→LV}{x y:Operand}{t e sz bys:Nat}{z:Value}[Sl P t e sz bys z] (G:Q6 ops i0=⟨d,.indexAddr t x y,ty,ps,af,gd⟩) (I:∀x,(g x).length=sz) {L:LN}{E:List α}{v:Value}{H:Array Obj}{k:IntKind}{i:Nat}
  (h:Zs L H v E.length sz (E.flatMap g)) (J:ev f x=v) (hy:ev f y=.int k i) (hi:i<E.length)
  (S:∀a,At L H a (g E[i])→XP P ops C K pl (QV f d (.pointer (some a))) w) (V:Yk ops f (Q6 ops i0)=true:=by rfl) :
  XP P ops C K ((i0,true)::pl) f w:=by
 obtain ⟨a,cap,h1,h2⟩:=Zs.at h hi;rw[X5 g sz I E i hi] at h2;refine Lg.p (λw'=>by rw[G];exact Xt (J.trans h1) hy (by omega) (by omega)) ?_ V;rw[G];refine S _ ?_;simpa using h2
end
theorem Zs.grow {X X' Y:LN}{w w':World}{v:Value}{n sz:Nat}{cs:LV}(h:Zs X w.heap v n sz cs) (hs:Step Y w w') (E:∀b∈Y,b∈X) (G:∀b∈X',b∈X∨w.heap.size≤b):Zs X' w'.heap v n sz cs:=by
 have h1:Zs (X++X') w.heap v n sz cs:=h.up (λb hb=>by
  rcases Lj.1 hb with h1 | h1
  ·exact .inl h1
  exact G b h1)
 have h2:=h1.step hs (λb hb=>Lj.2 (.inl (E b hb)));exact h2.up (λb hb=>.inl (Lj.2 (.inr hb)))
structure AV where
 va:Value
 vm:Value
 ve:Value
 a:QN
abbrev Zk (p:AV):LV:=[p.va,.int .i64 p.a.st,p.vm,p.ve]
structure XM (L:LN) (H:Array Obj) (v:Value) (ps:List AV):Prop where
 arr:Zs L H v ps.length 4 (ps.flatMap Zk)
 each:∀p∈ps,Zv L H p.va p.vm p.ve p.a
theorem XM.ext {L:LN}{w w':World}{v:Value}{ps:List AV}(h:XM L w.heap v ps) (hs:Step [] w w'):XM L w'.heap v ps:=⟨h.arr.ext hs,λp hp=>(h.each p hp).ext hs⟩
theorem XM.st {L:LN}{w w':World}{v:Value}{ps:List AV}(h:XM L w.heap v ps) (hs:Step L w w'):XM L w'.heap v ps:=⟨h.arr.st hs,λp hp=>(h.each p hp).st hs⟩
theorem XM.up {L L':LN}{H:Array Obj}{v:Value}{ps:List AV}(h:XM L H v ps) (E:∀b∈L',b∈L∨H.size≤b):XM L' H v ps:=⟨h.arr.up E,λp hp=>(h.each p hp).up E⟩
abbrev TV:=Value×LI
abbrev Yc (p:TV):LV:=[p.1]
structure XX (L:LN) (H:Array Obj) (v:Value) (ps:List TV):Prop where
 arr:Zs L H v ps.length 1 (ps.flatMap Yc)
 each:∀p∈ps,QL L H p.1 p.2
theorem XX.ext {L:LN}{w w':World}{v:Value}{ps:List TV}(h:XX L w.heap v ps) (hs:Step [] w w'):XX L w'.heap v ps:=⟨h.arr.ext hs,λp hp=>(h.each p hp).ext hs⟩
theorem XX.st {L:LN}{w w':World}{v:Value}{ps:List TV}(h:XX L w.heap v ps) (hs:Step L w w'):XX L w'.heap v ps:=⟨h.arr.st hs,λp hp=>(h.each p hp).st hs⟩
theorem XX.up {L L':LN}{H:Array Obj}{v:Value}{ps:List TV}(h:XX L H v ps) (E:∀b∈L',b∈L∨H.size≤b):XX L' H v ps:=⟨h.arr.up E,λp hp=>(h.each p hp).up E⟩
def Qa4 (N:Nat) (H:Array Obj) (v:Value) (l:List (LI)):Prop:=∃ps:List TV,ps.map (·.2)=l∧∀L:LN,(∀b∈L,b<N)→XX L H v ps
theorem Qa4.mono {N M:Nat}{H:Array Obj}{v:Value}{l:List (LI)}(h:Qa4 N H v l) (E:M≤N):Qa4 M H v l:=let ⟨ps,h1,h2⟩:=h;⟨ps,h1,λL G=>h2 L (λb hb=>L2 (G b hb) E)⟩
abbrev zy (e base:Nat) (w:World) (v:Value) (ps:List TV):Prop:=w.ownsRow base e 1 v ps.length (ps.flatMap Yc)
theorem zy.snoc {e base:Nat}{w:World}{v:Value}{ps:List TV}{p:TV}(h:w.ownsRow base e 1 v (ps.length+1) (ps.flatMap Yc++[p.1])):zy e base w v (ps++[p]):=by
 unfold zy;rw[Lh,Ly];simpa using h
theorem Qed {w:World}{base e sz n:Nat}{v:Value}{cs:LV}(h:w.ownsRow base e sz v n cs) (E:0<n):∃g cap,v=.slice (some ⟨g,0,none⟩) n cap:=by
 rcases h.2 with ⟨_,G⟩ | ⟨g,cap,cur,h1,_⟩
 ·omega
 exact ⟨g,cap,h1⟩
section
variable {P:Program} {ops:List Oper} {K:Fr→World→Prop} {f:Fr} {w:World} {d:Option Nat} {ty:Nat} {ps:String} {af:Array Edge} {gd:Option (Nat×Bool)} {l:List Oper}
theorem Qf6 {t:Nat}[h1:X9 P t] {x y:Operand}{base e n g cap i:Nat}{cs:LV}{u:Value}(h:w.ownsRow base e 1 (.slice (some ⟨g,0,none⟩) n cap) n cs) (hx:ev f x=.pointer (some ⟨g,0+i*1,none⟩)) (hy:ev f y=u) (hi:i<n) (hu:u.oneCell'=true)
  (G:∀w',Step [g] w w'→w'.ownsRow base e 1 (.slice (some ⟨g,0,none⟩) n cap) n (cs.set i u)→K (QV f d undef) w'):XO P ⟨d,.store t x y,ty,ps,af,gd⟩ f w K:=by
 obtain ⟨hl,h⟩:=h;rcases h with ⟨H,_⟩ | ⟨g',cap',cur,e1,hb,I,J,hm,E,S⟩
 ·cases H
 cases e1
 have V:QZ w.heap g e cur.toList:=by unfold QZ;simpa using I
 refine QF (j:=i) V (by rw[hx];simp) hy (by simp[E];omega) hu λw' hs Y=>G w' hs ⟨by simpa using hl,.inr ⟨g,cap,(cur.toList.set i u).toArray,rfl,hb,Y,J,hm,by simpa using E,?_⟩⟩;rw[←S];simp[List.take_set]
end
section
variable {P:Program} {f:Fr} {w:World} {d:Option Nat} {ty:Nat} {ps:String} {af:Array Edge} {gd:Option (Nat×Bool)} {κ:Type} [DecidableEq κ]
theorem zT {t kt et:Nat}{z:Value}[hm:Mp P t kt et z] {enc:κ→Value}[hk:Key P kt enc] {x y:Operand}{b:Nat}{m:List (κ×Value)}{k:κ}{u:Value}(h:Z7 enc w.heap b m) (hx:ev f x=.map (some b)) (hy:ev f y=enc k) (E:mget m k=some u) :
  (execOp (ev f) ⟨d,.lookup t x y true,ty,ps,af,gd⟩).run P w=.ok (.value (.tuple #[u,.bool true])) w:=by
 have:=Vm (P:=P) (t:=t) (d:=d) (ty:=ty) (ps:=ps) (af:=af) (gd:=gd) h hx hy;rw[E] at this;exact this
theorem Qeb {t kt et:Nat}{z:Value}[hm:Mp P t kt et z] {enc:κ→Value}[hk:Key P kt enc] {x y:Operand}{b:Nat}{m:List (κ×Value)}{k:κ}(h:Z7 enc w.heap b m) (hx:ev f x=.map (some b)) (hy:ev f y=enc k) (E:mget m k=none) :
  (execOp (ev f) ⟨d,.lookup t x y true,ty,ps,af,gd⟩).run P w=.ok (.value (.tuple #[z,.bool false])) w:=by
 have:=Vm (P:=P) (t:=t) (d:=d) (ty:=ty) (ps:=ps) (af:=af) (gd:=gd) h hx hy;rw[E] at this;exact this
end
end Go.Lg
namespace Go.Proofs.YtdffckgdcegpaaaGreatDoor
open Go.Lg
def ckL:List QN→Int
 | []=>0
 | a::l=>if JI a≠0 then JI a else ckL l
def KB (l:List QN):Int:=if 12<l.length then 3 else ckL l
theorem VM:∀(l:List QN),ckL l=0↔∀a∈l,Q2 a
 | []=>by simp[ckL]
 | a::l=>by
  rw[ckL];by_cases h:JI a=0
  ·rw[if_neg (by simpa using h),VM l];simp[(ZE a).1 h]
  rw[if_pos h];simp only[List.forall_mem_cons];exact ⟨λe=>absurd e h,λe=>absurd ((ZE a).2 e.1) h⟩
def evs (l:List QN):LI:=l.foldl (λacc a=>mrg (· || ·) acc a.al) []
def Up (m:List ((Int×Int)×Value)) (E:List Ed):List ((Int×Int)×Value):=E.foldl (λm e=>mput m (e.1,e.2.1) (.int .i64 e.2.2)) m
def eget:List Ed→Int→Int→Option Int
 | [],_,_=>none
 | e::l,s,v=>if e.1=s∧e.2.1=v then some e.2.2 else eget l s v
theorem Kz {l:List Ed}{s v:Int}(h:∀e∈l,¬(e.1=s∧e.2.1=v)):eget l s v=none:=by
 induction l with
 | nil=>rfl
 | cons e l ih =>
  rw[eget,if_neg (h e Lm)];exact ih λe he=>h e (Lk _ he)
theorem yg:∀(E:List Ed) (m:List ((Int×Int)×Value)) (s v:Int),(E.Pairwise λx y=>x.1<y.1∨(x.1=y.1∧x.2.1<y.2.1)) →
  mget (Up m E) (s,v)=match eget E s v with | some t=>some (.int .i64 t) | none=>mget m (s,v)
 | [],m,s,v,_=>rfl
 | e::E,m,s,v,h=>by
  simp only[List.pairwise_cons] at h;have ih:=yg E (mput m (e.1,e.2.1) (.int .i64 e.2.2)) s v h.2;unfold Up at *;rw[LM,ih,eget];by_cases hk:e.1=s∧e.2.1=v
  ·rw[if_pos hk,Kz (λx hx G=>by have:=h.1 x hx;omega)];simp only[Jp];rw[if_pos (by rw[hk.1,hk.2])]
  rw[if_neg hk];cases eget E s v with
  | some t=>rfl
  | none =>
   simp only[Jp];rw[if_neg (λhe=>hk (by simpa using he))]
def Zl (ev:Int):List QN→LI→Option (LI)
 | a::bs,t::ts=>if ev∉a.al then (Zl ev bs ts).map (t::·) else match eget a.ed t ev with | none=>none | some u=>(Zl ev bs ts).map (u::·)
 | _,_=>some []
def XD:List QN→LI→Bool
 | a::bs,t::ts=>decide (t∈a.mr) && XD bs ts
 | _,_=>true
structure Sy where
 tup:List (LI)
 mk':LI
 ed:List Ed
def syE (aa:List QN) (i:Nat) (t:LI) (s:Sy) (v:Int):Option Sy :=
 match Zl v aa t with
 | none=>some s
 | some u=>if u∈s.tup then some ⟨s.tup,s.mk',s.ed++[((i:Int),v,(s.tup.idxOf u:Int))]⟩
  else if s.tup.length=4096 then none else some ⟨s.tup++[u],s.mk',s.ed++[((i:Int),v,(s.tup.length:Int))]⟩
def KO (aa:List QN) (i:Nat) (t:LI):LI→Sy→Option Sy
 | [],s=>some s
 | v::vs,s=>(syE aa i t s v).bind (KO aa i t vs)
def ZA (aa:List QN) (i:Nat) (t:LI) (s:Sy):Sy:=if XD aa t=true then ⟨s.tup,s.mk'++[(i:Int)],s.ed⟩ else s
def Uj (s:Sy) (i:Nat):LI:=s.tup.getD i []
def jQ (aa:List QN):Nat→Nat→Sy→Option Sy
 | 0,_,s=>some s
 | f+1,i,s=>if i<s.tup.length then (KO aa i (Uj s i) (evs aa) (ZA aa i (Uj s i) s)).bind (jQ aa f (i+1)) else some s
def U6 (aa:List QN):Sy:=⟨[List.replicate aa.length 0],[],[]⟩
def sync (aa:List QN):Option (QN×List (LI)) :=
 if ∃a∈aa,a.st=0 then some (⟨evs aa,0,[],[]⟩,[]) else (jQ aa 4096 0 (U6 aa)).map λs=>(⟨evs aa,s.tup.length,s.mk',s.ed⟩,s.tup)
theorem Qfj {aa:List QN}{f i:Nat}{s:Sy}(h:¬i<s.tup.length):jQ aa f i s=some s:=by
 cases f with
 | zero=>rfl
 | succ f=>rw[jQ,if_neg h]
def Vt (aa:List QN) (t:LI):Prop:=t.length=aa.length∧∀i (h:i<t.length) (h':i<aa.length),0≤t[i]∧t[i]<aa[i].st
theorem Vt.cons {a:QN}{aa:List QN}{u:Int}{t:LI}(E:0≤u) (h1:u<a.st) (h:Vt aa t):Vt (a::aa) (u::t):=by
 refine ⟨by simp[h.1],λi h2 h3=>?_⟩;cases i with
 | zero=>exact ⟨E,h1⟩
 | succ i=>exact h.2 i (by simpa using h2) (by simpa using h3)
theorem YY {l:List Ed}{s v u:Int}(h:eget l s v=some u):(s,v,u)∈l:=by
 induction l with
 | nil=>cases h
 | cons e l ih =>
  rw[eget] at h;split at h
  ·rename_i he;obtain ⟨e1,e2⟩:=he;cases h
   obtain ⟨a,b,c⟩:=e;simp only[] at e1 e2;subst e1 e2;exact Lm
  exact Lk _ (ih h)
theorem Y9 {v:Int}:∀{aa:List QN}{t u:LI},(∀a∈aa,Q2 a)→Vt aa t→Zl v aa t=some u→Vt aa u
 | [],t,u,_,h,hs=>by
  cases t with
  | nil=>simp[Zl] at hs;subst hs;exact h
  | cons x t=>have:=h.1;simp at this
 | a::aa,[],u,_,h,hs=>by have:=h.1;simp at this
 | a::aa,x::t,u,E,h,hs=>by
  have hx:=h.2 0 (by simp) (by simp);have ht:Vt aa t:=⟨by have:=h.1;simpa using this,λi h2 h3=>h.2 (i+1) (by simpa using h2) (by simpa using h3)⟩;have G:∀a∈aa,Q2 a:=λa ha=>E a (Lk _ ha);rw[Zl] at hs;split at hs
  ·obtain ⟨H,h1,rfl⟩:=L9.1 hs;exact Vt.cons hx.1 hx.2 (Y9 G ht h1)
  split at hs
  ·cases hs
  rename_i q hq;obtain ⟨H,h1,rfl⟩:=L9.1 hs;have:=(E a Lm).ed _ (YY hq);exact Vt.cons this.2.2.2.1 this.2.2.2.2 (Y9 G ht h1)
structure Uf (aa:List QN) (s:Sy):Prop where
 v:∀t∈s.tup,Vt aa t
 le:s.tup.length≤4096
theorem zG {aa:List QN}{i:Nat}{t:LI}{s:Sy}(h:Uf aa s):Uf aa (ZA aa i t s):=by
 unfold ZA;split
 ·exact ⟨h.v,h.le⟩
 exact h
theorem Qfn {aa:List QN}{i:Nat}{t:LI}{s E:Sy}{v:Int}(G:∀a∈aa,Q2 a) (h:Uf aa s) (ht:Vt aa t) (hs:syE aa i t s v=some E):Uf aa E:=by
 unfold syE at hs;split at hs
 ·cases hs;exact h
 rename_i u hu;have H:=Y9 G ht hu;split at hs
 ·cases hs;exact ⟨h.v,h.le⟩
 split at hs
 ·cases hs
 cases hs
 have:=h.le;refine ⟨λt ht=>?_,by simp;omega⟩;simp only[List.mem_append,List.mem_singleton] at ht;rcases ht with ht | rfl
 ·exact h.v t ht
 exact H
open Go.Proofs.Tryz
theorem K4 (p:AV):(Zk p).length=4:=rfl
theorem KN (p:TV):(Yc p).length=1:=rfl
theorem XM.le {L:LN}{H:Array Obj}{v:Value}{ps:List AV}(h:XM L H v ps):ps.length≤1099511627776:=h.arr.le
theorem QhE {l:List QN}{k:Nat}(h:k<l.length):ckL (l.drop k)=if JI l[k]≠0 then JI l[k] else ckL (l.drop (k+1)):=by
 rw[LP h,ckL]
theorem Qec {L:LN}{w:World}{v:Value}{ps:List AV}(h:XM L w.heap v ps) :
  QK prog 139 [v] w λr w'=>r=.int .i64 (KB (ps.map (·.a)))∧Step [] w w':=by
 have hj:=XM.le h;refine QK.of_W func139 O ntmps139 results139 (by simp) ?_;refine Qc<|Qe<|Qf<|Qc<|Qb<|x (Qs h.arr O)<|x (ZR O O)<|xe<|Q7 rfl (λh8=>?_) (λh8=>?_)
 ·refine Qc<|Qe<|Qn ⟨[.int .i64 3],Z,?_,Step.refl _ _⟩;unfold KB;rw[if_pos (by simp;omega)];rfl
 refine Qi ?_;have hP:KB (ps.map (·.a))=ckL (ps.map (·.a)):=by unfold KB;rw[if_neg (by simp;omega)]
 rw[hP];refine Qf<|Qc<|Qb<|x (Qs h.arr O)<|Qb<|xe<|Qh<|QA (α:=Nat) [(2,2),(4,5),(11,20)] (λz=>[(11,.int .i64 z)]) (λz w'=>z≤ps.length∧Step [] w w'∧ckL (ps.map (·.a))=ckL ((ps.map (·.a)).drop z)) (λz=>ps.length - z) (by rfl) 0 Z
  ⟨Ll _,Step.refl _ _,O⟩ ?_
 rintro k g w1 ⟨hk,E,G⟩;refine Qc<|x (QB O O)<|xe<|Qf<|QG O (λha=>?_) (λha=>?_)
 ·refine Qz<|Qc<|Qe<|Qn ⟨[.int .i64 0],Z,?_,E⟩;rw[G,Lr (by simp;omega)];rfl
 have H:k<ps.length:=by omega
 have hb:k<(ps.map (·.a)).length:=by simpa using H
 rw[QhE hb,LL] at G;refine Qi<|Qf<|Qh<|Qc<|xig K4 (h.ext E).arr O O H λhl hc=>x (QI hc O O)<|xl O<|Qt (us:=[nS,.int .i64 0,nS,nS]) O λb4 w2 he hf J=>?_;have I:=h.each ps[k] (Lc H);refine xl rfl<|Qo (us:=Zk ps[k]) J O O O O ⟨I.al.one,O,I.mr.one,I.ed.one,U⟩ λw3 hg J=>xe ?_;have V:Step [] w1 w3:=he.then1 hg hf
 refine Qc<|x (Qr J O O)<|xl O<|xf<|(XJ ((I.ext E).ext V)).mono ?_;rintro r4 w4 ⟨rfl,hh⟩;refine Qe ?_;have Y:=(E.trans V).trans hh;refine Qc<|Qb<|x (Q9 O O)<|xe<|Q7 rfl (λS=>?_) (λS=>?_)
 ·refine Qc<|Qb<|Qe<|Qn ⟨[.int .i64 (JI ps[k].a)],Z,?_,Y⟩;rw[G,if_pos S];rfl
 refine Qi<|Qy<|QO O O<|Qb<|xe<|⟨k+1,by omega,Z,H,Y,?_⟩;rw[G,if_neg S]
theorem Qhn {l:List QN}{k:Nat}(h:k<l.length):evs (l.take (k+1))=mrg (· || ·) (evs (l.take k)) l[k].al:=by
 unfold evs;rw[Li h,Mx];rfl
theorem jr (l:List QN) (h:∀a∈l,a.al.length≤32):(evs l).length≤32*l.length:=by
 have key:∀(l:List QN) (acc:LI),(∀a∈l,a.al.length≤32)→(l.foldl (λacc a=>mrg (· || ·) acc a.al) acc).length≤acc.length+32*l.length:=by
  intro l;induction l with
  | nil=>intro acc _;simp
  | cons a l ih =>
   intro acc h;have h1:=ih (mrg (· || ·) acc a.al) (λa ha=>h a (Lk _ ha));have h2:=y8 (· || ·) acc a.al;have h3:=h a Lm;simp only[List.foldl_cons,List.length_cons];omega
 have:=key l [] h;unfold evs;simpa using this
theorem Qey {L:LN}{w:World}{v:Value}{ps:List AV}(h:XM L w.heap v ps) (hn:ps.length≤12) (V:∀p∈ps,p.a.al.length≤32) :
  QK prog 202 [v] w λr w'=>Step [] w w'∧Qu 3 w.heap.size w' r (evs (ps.map (·.a))):=by
 refine QK.of_W func202 O ntmps202 results202 (by simp) ?_;refine Qc<|Qe<|Qc<|Qe<|Qf<|Qc<|Qb<|x (Qs h.arr O)<|Qb<|xe<|Qh<|QA (α:=Nat×Value) [(3,3),(5,5),(8,16)] (λz=>[(3,z.2),(8,.int .i64 z.1)]) (λz w'=>z.1≤ps.length∧Step [] w w'∧Qu 3 w.heap.size w' z.2 (evs ((ps.map (·.a)).take z.1))) (λz=>ps.length - z.1) (by rfl) (0,nS) ⟨O,O,U⟩
  ⟨Ll _,Step.refl _ _,QP _ _ _ _⟩ ?_
 rintro ⟨k,vo⟩ g w1 ⟨hk,I,G⟩;simp only[] at hk G;have hj:=jr ((ps.map (·.a)).take k) (λa ha=>by obtain ⟨p,hp,rfl⟩:=Lp.1 (LT ha);exact V p hp);have hl:((ps.map (·.a)).take k).length≤12:=by simp;omega
 refine Qc<|x (QB O O)<|xe<|Qf<|QG O (λh9=>?_) (λh9=>?_)
 ·refine Qz<|Qc<|Qb<|Qe<|Qn ⟨[vo],Z,I,?_⟩;rw[Lo (by simp;omega)] at G;exact G
 have E:k<ps.length:=by omega
 refine Qi<|Qf<|Qh<|Qc<|xig K4 (h.ext I).arr O O E λhm hb=>x (QI hb O O)<|xl O<|Qt (us:=[nS,.int .i64 0,nS,nS]) O λb5 w2 hc he J=>?_;have H:=h.each ps[k] (Lc E);have hq:=V ps[k] (Lc E);refine xl rfl<|Qo (us:=Zk ps[k]) J O O O O ⟨H.al.one,O,H.mr.one,H.ed.one,U⟩ λw3 hf J=>xe ?_;have Y:Step [] w1 w3:=hc.then1 hf he
 have S:=I.trans Y;refine Qy<|Qb<|x (Qa O)<|x (Qd J O O)<|xl O<|xf<|(Qa3 (Qu.ints (L:=[]) (Qq G Y) (by omega) (by simp)) (H.al.ext S) (by omega)).mono ?_;rintro r4 w4 ⟨hg,hh⟩;refine Qe<|Qy<|QO O O<|Qb<|xe<|⟨(k+1,r4),by simp only[];omega,⟨O,O,U⟩,E,S.trans hg,?_⟩;simp only[];rw[Qhn (by simpa using E),LL];exact Zr hh S.size
abbrev Qda (b:Nat):LV:=[.map (some b)]
structure Kn (L:LN) (H:Array Obj) (vl ve vs:Value) (ps:List AV) (ms:LN):Prop where
 al:XM L H vl ps
 ev:QL L H ve (evs (ps.map (·.a)))
 ml:ms.length=ps.length
 sl:Zs L H vs ms.length 1 (ms.flatMap Qda)
 mp:∀i (h:i<ms.length) (h':i<ps.length),Z7 Xn H ms[i] (Up [] ps[i].a.ed)∧ms[i]∉L
theorem Kn.ext {L:LN}{w w':World}{vl ve vs:Value}{ps:List AV}{E:LN}(h:Kn L w.heap vl ve vs ps E) (hs:Step [] w w'):Kn L w'.heap vl ve vs ps E :=
 ⟨h.al.ext hs,h.ev.ext hs,h.ml,h.sl.ext hs,λi h1 h2=>⟨(h.mp i h1 h2).1.ext hs,(h.mp i h1 h2).2⟩⟩
theorem Kn.st {L:LN}{w w':World}{vl ve vs:Value}{ps:List AV}{E:LN}(h:Kn L w.heap vl ve vs ps E) (hs:Step L w w'):Kn L w'.heap vl ve vs ps E :=
 ⟨h.al.st hs,h.ev.st hs,h.ml,h.sl.st hs,λi h1 h2=>⟨(h.mp i h1 h2).1.step hs (h.mp i h1 h2).2,(h.mp i h1 h2).2⟩⟩
theorem Kn.up {L L':LN}{H:Array Obj}{vl ve vs:Value}{ps:List AV}{G:LN}(h:Kn L H vl ve vs ps G) (E:∀b∈L',b∈L∨H.size≤b):Kn L' H vl ve vs ps G :=
 ⟨h.al.up E,h.ev.up E,h.ml,h.sl.up E,λi h1 h2=>⟨(h.mp i h1 h2).1,λhm=>by rcases E _ hm with h3 | h3;exact (h.mp i h1 h2).2 h3;have:=(h.mp i h1 h2).1.lt;omega⟩⟩
theorem Qb5 {m:List ((Int×Int)×Value)}{E:List Ed}{k:Nat}(h:k<E.length):Up m (E.take (k+1))=mput (Up m (E.take k)) (E[k].1,E[k].2.1) (.int .i64 E[k].2.2):=by
 unfold Up;rw[Li h,Mx];rfl
theorem Qi1 {L:LN}{w:World}{vl:Value}{ps:List AV}(h:XM L w.heap vl ps) (hn:ps.length≤12) (hH:∀p∈ps,p.a.al.length≤32) (hL:∀b∈L,b<w.heap.size) :
  QK prog 140 [vl] w λr w'=>Step [] w w'∧∃ve vs E,r=.agg #[vl,ve,vs]∧Kn L w'.heap vl ve vs ps E∧Qu 3 w.heap.size w' ve (evs (ps.map (·.a))):=by
 refine QK.of_W func140 O ntmps140 results140 (by simp) ?_;refine Qc<|xl O<|Qt (us:=[nS,nS,nS]) O λb2 w1 hw hT hy=>xe ?_;refine Qc<|Qb<|Qb<|xl O<|xf<|(Qey (h.ext hw) hn hH).mono ?_;rintro ve w2 ⟨he,hf⟩;have hU:=jr (ps.map (·.a)) (λa ha=>by obtain ⟨p,hp,rfl⟩:=Lp.1 ha;exact hH p hp);have kb:(evs (ps.map (·.a))).length≤1000:=by simp at hU;omega
 have hz:=Qu.ints (L:=[]) hf (by omega) (by simp);refine x (QD ⟨h.arr.cells,hz.cells,U⟩)<|xl O<|Qt (us:=[nS,nS,nS]) O λb3 w3 hV hW hg =>
  xl rfl<|Qo (us:=[vl,ve,nS]) hg O O O O ⟨h.arr.one,hz.one,O,U⟩ λG hX hg=>xe ?_
 have hY:=hw.size;have kc:=he.size;have V:Step [] w2 G:=hV.then1 hX hW;have ke:=V.size;have kf:=hy.lt;have kg:=hg.lt;have hZ:Step [] w G:=(hw.trans he).trans V;have ga:=Qq hf V;refine Qf<|Qc<|Qb<|x (Qs h.arr O)<|Qb<|xe ?_;have gb:=QR hf;refine Qh<|QA (α:=Nat×LN×Value) [(5,6),(8,8),(15,42)] (λz=>[(15,.int .i64 z.1)])
  (λz w'=>z.1≤ps.length∧z.2.1.length=z.1∧Step [b3] G w'∧QZ w'.heap b3 243 [vl,ve,z.2.2]∧w'.ownsRow G.heap.size 225 1 z.2.2 z.2.1.length (z.2.1.flatMap Qda) ∧
   (∀i (h:i<z.2.1.length) (h':i<ps.length),Z7 Xn w'.heap z.2.1[i] (Up [] ps[i].a.ed)∧G.heap.size≤z.2.1[i]∧z.2.1[i]∉ob z.2.2)) (λz=>ps.length - z.1) (by rfl) (0,[],nS) Z
  ⟨Ll _,O,Step.refl _ _,hg,QP _ _ _ _,λi h=>by simp at h⟩ ?_
 rintro ⟨k,E,vs⟩ g w5 ⟨hk,hh,H,h0,I,hl⟩;simp only[] at hk hh H h0 I hl;have ho:Step [] w w5:=hZ.then1 H (by omega);have kh:=H.size;have hr:=Qm I;refine Qc<|x (QB O O)<|xe<|Qf<|QG O (λgc=>?_) (λgc=>?_)
 ·have ge:k=ps.length:=by omega
  subst ge;refine Qz<|Qc ?_;have gg:=QU (L:=[]) I (by omega) (by simp);refine x (Qr h0 O O)<|xl O<|Qo (us:=[vl,ve,vs]) (((hy.ext he).ext V).step H (by simp;omega)) O O O O ⟨h.arr.one,hz.one,gg.one,U⟩ λw6 ht gh=>xe ?_;have hI:=ho.then1 ht hT
  have hJ:Qu 3 w1.heap.size w6 ve _:=Qj (Qj ga H (λb hb=>by have:=gb b hb;simp;omega)) ht (λb hb=>by have:=(Qm hf b hb).1;simp;omega);have hK:=Qj I ht (λb hb=>by have:=(hr b hb).1;simp;omega)
  refine Qn ⟨[.agg #[vl,ve,vs]],⟨⟨_,O,Qv O (gh.at (L:=[]) (by simp)).cells⟩,U⟩,hI,ve,vs,E,rfl,⟨h.ext hI,Qu.ints hJ (by omega) (λb hb=>by have:=hL b hb;omega),hh,QU hK (by omega) (λb hb h3=>by have:=hL b h3;have:=(Qm hK b hb).1;omega),λi h1 h2=>⟨?_,λh3=>by have:=hL _ h3;have:=(hl i h1 h2).2.1;omega⟩⟩,Zr hJ hY⟩;obtain ⟨J,m2,_⟩:=hl i h1 h2;exact J.step ht (λhb=>by
   simp only[List.mem_singleton] at hb;have h7:=(((hy.ext he).ext V).step H (by simp;omega));rw[hb] at J;obtain ⟨es,c,m4,_⟩:=J;unfold QZ at h7;rw[h7] at m4;cases m4)
 have h4:k<ps.length:=by omega
 have S:=h.each ps[k] (Lc h4);refine Qi<|Qf<|Qh<|Qc<|xig K4 (h.ext ho).arr O O h4 λki gi=>x (QI gi O O)<|xl O<|Qt (us:=[nS,.int .i64 0,nS,nS]) O λb5 w7 gj gk gl =>
  xl rfl<|Qo (us:=Zk ps[k]) gl O O O O ⟨S.al.one,O,S.mr.one,S.ed.one,U⟩ λw8 gm hM=>xe ?_
 have hN:Step [] w5 w8:=gj.then1 gm gk;have kj:=hN.size;have kk:=hM.lt;refine Qc<|xl O<|YB Xn λbm w9 h6 kn hO=>Qe ?_;have ko:=h6.size;have kp:=hO.lt;have hP:=hN.trans h6;have gn:=ho.trans hP;refine Qf<|Qc<|x (Qa O)<|x (Qd (hM.ext h6) O O)<|x (Qs S.ed O)<|Qb<|xe ?_;have go:=(S.ed.up (L':=[bm]) (λb hb=>.inr (by simp at hb;have:=ho.size;omega))).ext gn
 have kq:=S.ed.le;refine Qh<|QA (α:=Nat) [(8,8),(23,35)] (λz=>[(23,.int .i64 z)]) (λz w'=>z≤ps[k].a.ed.length∧Step [bm] w9 w'∧Z7 Xn w'.heap bm (Up [] (ps[k].a.ed.take z))) (λz=>ps[k].a.ed.length - z) (by rfl) 0 Z
  ⟨Ll _,Step.refl _ _,hO⟩ ?_
 rintro j g2 Y ⟨hj,hu,h8⟩;have kr:=hu.size;refine Qc<|x (QB O O)<|xe<|Qf<|QG O (λgp=>?_) (λgp=>?_)
 ·refine Qz ?_;rw[Lo (by omega)] at h8;have h9:Step [] w5 Y:=hP.then1 hu (by omega);have hQ:QZ Y.heap b3 243 [vl,ve,vs]:=h0.ext h9;refine Qy<|x (Qa O)<|x (Qd hQ O O)<|Qb<|xl O<|QC (us:=[[.map (some bm)]]) O O (by decide) (by simp) ⟨rfl,rfl,U⟩ λkt gq hv ku gr=>?_;have hB:=h9.trans hv;have gs:=Qq I hB;have kv:=hB.size
  refine xl O<|Q5 (news:=[.map (some bm)]) (L:=[]) gs O O O (gr.at (by simp)) (by simp[Value.oneCell']) (by omega) (by omega) λhC gt gu hD hR=>?_;have hE:gt.ownsRow G.heap.size 225 1 hC (E++[bm]).length ((E++[bm]).flatMap Qda):=by
   rw[Lh,Ly];simpa using gu
  have gv:=(hQ.ext hv).step hD (QM I (by omega));refine x (Qa O)<|xl O<|QF gv O O (by simp) (QU (L:=[]) hE (by simp;omega) (by simp)).one λgw hF gx=>xe ?_;refine Qy<|QO O O<|Qb<|xe ?_;have gy:∀b∈ob hC,G.heap.size≤b:=λb hb=>(Qm hE b hb).1;have kw:Y.heap.size≤gq.heap.size:=hv.size
  refine ⟨(k+1,E++[bm],hC),by simp only[];omega,Z,h4,by simp[hh],?_,gx,Qj hE hF (λb hb=>by have:=gy b hb;simp;omega),?_⟩
  ·exact ((H.trans hB).then hD (λb hb=>.inr (hr b hb).1)).trans' hF
  intro i h1 h2;simp only[List.length_append,List.length_singleton] at h1;have keep:∀(c:Nat) (m:List ((Int×Int)×Value)),Z7 Xn Y.heap c m→c≠b3→c∉ob vs→Z7 Xn gw.heap c m:=λc m hm gz g0 =>
   ((hm.ext hv).step hD g0).step hF (by simpa using gz)
  by_cases hi:i<E.length
  ·obtain ⟨J,m2,m3⟩:=hl i hi h2;simp only[List.getElem_append_left hi];refine ⟨keep _ _ (J.ext h9) (by omega) m3,m2,λhb=>?_⟩;have kx:=J.lt;rcases hR _ hb with h5 | h5
   ·exact m3 h5
   omega
  have g3:i=E.length:=by omega
  subst g3;simp only[List.getElem_append_right (Nat.le_refl _),Nat.sub_self,List.getElem_singleton];have hq:E.length=k:=hh;have e2:ps[E.length]=ps[k]:=by simp only[hq]
  rw[e2];refine ⟨keep _ _ h8 (by omega) (λhb=>by have:=(hr _ hb).2;omega),by omega,λhb=>?_⟩;rcases hR _ hb with h5 | h5
  ·have:=(hr _ h5).2;omega
  omega
 have hG:j<ps[k].a.ed.length:=by omega
 refine Qi<|Qf<|Qh<|Qc<|xie (go.st hu) O O hG λky g4=>x (QI g4 O O)<|xl O<|Qt (us:=[.int .i64 0,.int .i64 0,.int .i64 0]) O λb8 kz g5 g6 hc=>xl O<|Qo (us:=Qx ps[k].a.ed[j]) hc O O O O ⟨O,O,O,U⟩ λg7 g8 hc=>xe ?_;have hS:Step [] Y g7:=g5.then1 g8 g6;refine Qy<|Qb<|x (Qa O)<|x (Qd hc O O)<|x (Qa O)<|x (Qd hc O O)<|x (QD ⟨O,O,U⟩)<|x (Qa O) <|
  x (Qd hc O O)<|xl O<|XB (k:=(ps[k].a.ed[j].1,ps[k].a.ed[j].2.1)) (h8.ext hS) O O λk0 g9 ka=>xe ?_
 refine Qy<|QO O O<|Qb<|xe<|⟨j+1,by omega,Z,hG,(hu.trans hS).trans' g9,?_⟩;rw[Qb5 hG];exact ka
theorem QbY {L:LN}{w:World}{vl ve vs:Value}{ps:List AV}{ms:LN}(h:Kn L w.heap vl ve vs ps ms) (hn:ps.length≤12) :
  QK prog 141 [.agg #[vl,ve,vs]] w λr w'=>Step [] w w' ∧
   if ∃p∈ps,p.a.st=0 then r=.tuple #[nS,.bool false] else ∃v,r=.tuple #[v,.bool true]∧Qu 3 w.heap.size w' v (List.replicate ps.length 0):=by
 refine QK.of_W func141 O ntmps141 results141 (by simp) ?_;refine Qc<|xl O<|QS (us:=[vl,ve,vs]) O λb1 w1 G hm V=>x Qg<|Qe<|Qf<|Qc<|x (Qa O)<|x (Qd V O O)<|x (Qs h.al.arr O)<|Qb<|xe<|Qh<|QA (α:=Nat) [(2,3),(5,5),(9,16)] (λz=>[(9,.int .i64 z)]) (λz w'=>z≤ps.length∧Step [] w1 w'∧∀i (h:i<ps.length),i<z→ps[i].a.st≠0) (λz=>ps.length - z) (by rfl) 0 Z
  ⟨Ll _,Step.refl _ _,λi _ h=>by omega⟩ ?_
 rintro k g w2 ⟨hk,E,Y⟩;refine Qc<|x (QB O O)<|xe<|Qf<|QG O (λhc=>?_) (λhc=>?_)
 ·refine Qz<|Qc<|x (Qa O)<|x (Qd (V.ext E) O O)<|x (Qs h.al.arr O)<|xl O<|V1 (n:=ps.length) O O (by omega) λhe w3 hf ho ha=>x Qg<|Qe ?_;rw[show (List.replicate ps.length (Value.int .i64 0).cells.toList).flatten=((List.replicate ps.length 0).map (Value.int .i64)) by rw[show (Value.int .i64 0).cells.toList=[Value.int .i64 0] from rfl,j7,List.map_replicate]] at ha
  have hz:=(G.trans E).size;refine Qn ⟨[.slice (some ⟨he,0,none⟩) ps.length ps.length,.bool true],⟨O,O,U⟩,(G.trans E).trans hf,?_⟩;rw[if_neg (by
   rintro ⟨p,hp,h0⟩;obtain ⟨i,hi,rfl⟩:=LD hp;exact Y i hi (by omega) h0)]
  refine ⟨_,O,?_⟩;have:=ha.own (n:=ps.length) (sz:=1) (base:=w.heap.size) (by simp) (by omega) (by omega);unfold Qu;rw[List.length_replicate];exact this
 have H:k<ps.length:=by omega
 have I:=h.al.each ps[k] (Lc H);refine Qi<|Qf<|Qh<|Qc<|xig K4 ((h.al.ext G).ext E).arr O O H λhq hg=>x (QI hg O O)<|xl O<|Qt (us:=[nS,.int .i64 0,nS,nS]) O λb5 w4 hh hj J =>
  xl rfl<|Qo (us:=Zk ps[k]) J O O O O ⟨I.al.one,O,I.mr.one,I.ed.one,U⟩ λw5 hl J=>xe ?_
 have hb:Step [] w2 w5:=hh.then1 hl hj;refine Qc<|x (Qa O)<|x (Qd J O O)<|x (Q4 O O)<|xe<|Q7 rfl (λS=>?_) (λS=>?_)
 ·refine Qc<|x Qg<|Qe<|Qn ⟨[nS,.bool false],⟨O,O,U⟩,(G.trans E).trans hb,?_⟩;rw[if_pos ⟨ps[k],Lc H,S⟩];rfl
 refine Qi<|Qy<|QO O O<|Qb<|xe<|⟨k+1,by omega,Z,H,E.trans hb,λi hi hr=>?_⟩;by_cases e:i=k
 ·subst e;exact S
 exact Y i hi (by omega)
theorem QbO {aa:List QN}{ts:LI}{k:Nat}(h:k<aa.length) (h':k<ts.length):XD (aa.drop k) (ts.drop k)=(decide (ts[k]∈aa[k].mr) && XD (aa.drop (k+1)) (ts.drop (k+1))):=by
 rw[LP h,LP h',XD]
theorem Qej {L:LN}{w:World}{vl ve vs vt:Value}{ps:List AV}{ms:LN}{ts:LI}(h:Kn L w.heap vl ve vs ps ms) (ht:QL L w.heap vt ts) (hl:ts.length=ps.length) (hi:∀p∈ps,Z0 p.a.mr) (hn:ps.length≤12) :
  QK prog 143 [.agg #[vl,ve,vs],vt] w λr w'=>r=.bool (XD (ps.map (·.a)) ts)∧Step [] w w':=by
 refine QK.of_W func143 O ntmps143 results143 (by simp) ?_;refine Qc<|xl O<|QS (us:=[vl,ve,vs]) O λb2 w1 he hr hf=>Qe<|Qf<|Qc<|x (Qa O)<|x (Qd hf O O)<|x (Qs h.al.arr O)<|Qb<|xe<|Qh<|QA (α:=Nat) [(4,6),(10,23)] (λz=>[(10,.int .i64 z)]) (λz w'=>z≤ps.length∧Step [] w w'∧XD (ps.map (·.a)) ts=XD ((ps.map (·.a)).drop z) (ts.drop z)) (λz=>ps.length - z) (by rfl) 0 Z
  ⟨Ll _,he,O⟩ ?_
 rintro k g w2 ⟨hk,I,G⟩;refine Qc<|x (QB O O)<|xe<|Qf<|QG O (λhg=>?_) (λhg=>?_)
 ·refine Qz<|Qc<|Qe<|Qn ⟨[.bool true],Z,?_,I⟩;rw[G,Lr (by simp;omega)];rfl
 have E:k<ps.length:=by omega
 have ha:k<ts.length:=by omega
 have H:=h.al.each ps[k] (Lc E);rw[QbO (by simpa using E) ha,LL] at G;refine Qi<|Qf<|Qh<|Qc<|Qb<|xig K4 (h.al.ext I).arr O O E λhu hh=>x (QI hh O O)<|xl O<|Qt (us:=[nS,.int .i64 0,nS,nS]) O λb6 w3 hj hm J=>x Qg <|
  xl rfl<|Qo (us:=Zk ps[k]) J O O O O ⟨H.al.one,O,H.mr.one,H.ed.one,U⟩ λS ho J=>xe ?_
 have hp:Step [] w2 S:=hj.then1 ho hm;have V:=I.trans hp;refine Qf<|QW (Step [] S) [(0,true),(1,true),(2,true),(3,true),(4,true),(5,true),(6,false),(7,true)] mixed (by rfl) (by kernel_rfl) (Step.drew _ _) ?_;refine p (λ_=>Qa O)<|pq (λ_ hc=>Qd (J.ext hc) O O)<|p (λ_=>Qp)<|p (λ_=>Qp)<|pii O (ht.ext V) O O ha λhv hq =>
  pq (λ_ hc=>Qw (hq.ext hc) O)<|pk<|xf<|(Jg ((H.mr.ext V).ext (Step.drew _ _)) (hi ps[k] (Lc E)) _).mono ?_
 rintro r5 w5 ⟨rfl,rfl⟩;refine ⟨Step.drew _ _,?_⟩;refine p (λ_=>Zm O)<|pe ?_;have hb:=V.trans (Step.drew [] S);refine Q3 rfl (λY=>?_) (λY=>?_)
 ·refine Qc<|Qe<|Qn ⟨[.bool false],Z,?_,hb⟩;rw[G,show decide (ts[k]∈ps[k].a.mr)=false by simpa using Y];rfl
 refine Qi<|Qy<|QO O O<|Qb<|xe<|⟨k+1,by omega,Z,E,hb,?_⟩;rw[G,show decide (ts[k]∈ps[k].a.mr)=true by simpa using Y,Bool.true_and]
theorem Qbo {aa:List QN}{ts:LI}{k:Nat}{v:Int}(h:k<aa.length) (h':k<ts.length):Zl v (aa.drop k) (ts.drop k) =
  if v∉aa[k].al then (Zl v (aa.drop (k+1)) (ts.drop (k+1))).map (ts[k]::·) else match eget aa[k].ed ts[k] v with | none=>none | some u=>(Zl v (aa.drop (k+1)) (ts.drop (k+1))).map (u::·):=by
 rw[LP h,LP h'];show (if v∉aa[k].al then _ else _)=_
 split
 ·rfl
 cases eget aa[k].ed ts[k] v <;> rfl
theorem QfX {L:LN}{w:World}{vl ve vs vt:Value}{ps:List AV}{ms:LN}{ts:LI}(h:Kn L w.heap vl ve vs ps ms) (ht:QL L w.heap vt ts) (hl:ts.length=ps.length) (hi:∀p∈ps,Z0 p.a.al)
  (h0:∀p∈ps,p.a.ed.Pairwise λx y=>x.1<y.1∨(x.1=y.1∧x.2.1<y.2.1)) (hn:ps.length≤12) (v:Int) :
  QK prog 144 [.agg #[vl,ve,vs],vt,.int .i64 v] w λr w'=>Step [] w w' ∧
   match Zl v (ps.map (·.a)) ts with | none=>r=.tuple #[nS,.bool false] | some u=>∃v',r=.tuple #[v',.bool true]∧Qu 3 w.heap.size w' v' u:=by
 refine QK.of_W func144 O ntmps144 results144 (by simp) ?_;refine Qc<|xl O<|QS (us:=[vl,ve,vs]) O λb3 w1 hf hM hg=>x Qg<|Qe<|Qc<|Qb<|xl O<|xf<|(ZZ (ht.ext hf)).mono ?_;rintro vx w2 ⟨S,hr⟩;refine Qe ?_;have h1:=hf.size;have hN:=S.size;have hO:=hg.lt;have hh:=hf.trans S;refine Qf<|Qc<|x (Qa O)<|x (Qd (hg.ext S) O O)<|x (Qs h.al.arr O)<|Qb<|xe ?_;have hge:=Qm hr
 have h2:Kn (ob vx) w2.heap vl ve vs ps ms:=((h.up (L':=ob vx) (λb hb=>.inr (by have:=(hge b hb).1;omega))).ext hh);have h3:QL (ob vx) w2.heap vt ts:=((ht.up (L':=ob vx) (λb hb=>.inr (by have:=(hge b hb).1;omega))).ext hh);refine Qh<|QA (α:=Nat×LI) [(6,7),(9,12),(18,49)] (λz=>[(18,.int .i64 z.1)])
  (λz w'=>z.1≤ps.length∧z.2.length=z.1∧Step (ob vx) w2 w'∧Qu 3 w1.heap.size w' vx (z.2++ts.drop z.1)∧Zl v (ps.map (·.a)) ts=(Zl v ((ps.map (·.a)).drop z.1) (ts.drop z.1)).map (z.2++·)) (λz=>ps.length - z.1) (by rfl) (0,[]) Z
  ⟨Ll _,O,Step.refl _ _,hr,by simp⟩ ?_
 rintro ⟨k,pre⟩ g w3 ⟨hk,V,H,J,E⟩;simp only[] at hk V J E;have hP:=H.size;have hj:Step [] w w3:=hh.then H (λb hb=>.inr (by have:=(hge b hb).1;omega));refine Qc<|x (QB O O)<|xe<|Qf<|QG O (λh4=>?_) (λh4=>?_)
 ·refine Qz<|Qc<|Qb<|x Qg<|Qe<|Qn ⟨[vx,.bool true],⟨O,O,U⟩,hj,?_⟩;rw[Lr (by simp;omega),Lr (by omega)] at E;rw[Lr (by omega)] at J;rw[E];simp only[Zl,Option.map_some];exact ⟨vx,O,Zr J h1⟩
 have G:k<ps.length:=by omega
 have hm:k<ts.length:=by omega
 have hu:k<ms.length:=by rw[h.ml];exact G
 have Y:=h.al.each ps[k] (Lc G);rw[Qbo (by simpa using G) hm,LL] at E;have hv:=h2.st H;have h5:=h3.st H;refine Qi<|Qf<|Qh<|Qc<|Qb<|xig K4 hv.al.arr O O G λhQ h6=>x (QI h6 O O)<|xl O<|Qt (us:=[nS,.int .i64 0,nS,nS]) O λhR w4 h7 h8 ho=>x Qg <|
  xl rfl<|Qo (us:=Zk ps[k]) ho O O O O ⟨Y.al.one,O,Y.mr.one,Y.ed.one,U⟩ λw5 h9 ho=>xe ?_
 have I:Step [] w3 w5:=h7.then1 h9 h8;have hB:=hj.trans I;refine Qf<|Qc<|x (Qa O)<|x (Qd ho O O)<|Qb<|xl O<|xf<|(Jg (Y.al.ext hB) (hi ps[k] (Lc G)) v).mono ?_;rintro r6 w6 ⟨rfl,rfl⟩;refine x (Zm O)<|xe ?_;have hw:=QX hm;refine Q3 rfl (λhp=>?_) (λhp=>?_)
 ·have hC:v∉ps[k].a.al:=by simpa using hp
  refine Qz<|Qy<|QO O O<|Qb<|xe<|⟨(k+1,pre++[ts[k]]),by simp only[];omega,Z,G,by simp[V],H.trans I,?_,?_⟩
  ·simp only[List.append_assoc,List.singleton_append];rw[←hw];exact Qq J I
  simp only[];rw[E,if_pos hC,Option.map_map];congr 1;funext l;simp
 have hD:¬(v∉ps[k].a.al):=by simpa using hp
 rw[if_neg hD] at E;refine Qi ?_;have hE:=(hg.ext S).step H (λhb=>by have:=(hge b3 hb).1;omega);have hy:=hv.ext I;obtain ⟨hF,hS⟩:=hy.mp k hu G
 refine Qf<|QW (Step [] w6) [(0,true),(1,true),(2,true),(3,true),(4,true),(5,true),(6,true),(7,true),(8,true),(9,true),(10,true),(11,true),(12,true),(13,true),(14,true),(15,true),(16,true)] mixed (by rfl) (by kernel_rfl) (Step.drew _ _) ?_;refine p (λ_=>Qa O)<|pq (λ_ hc=>Qd ((hE.ext I).ext hc) O O)<|p (λ_=>Qp)<|pig O (g:=Qda) (λ_=>O) hy.sl O O hu λhT hG =>
  pq (λ_ hc=>Qw (hG.ext hc) O)<|p (λ_=>Qp)<|p (λ_=>Qp)<|pii O (h5.ext I) O O hm λhU hH=>pq (λ_ hc=>Qw (hH.ext hc) O) <|
  p (λ_=>Qp)<|p (λ_=>QD ⟨O,O,U⟩)<|pq (λ_ hc=>Vm (k:=(ts[k],v)) (hF.ext hc) O O)<|?_
 rw[yg ps[k].a.ed [] ts[k] v (h0 ps[k] (Lc G))];have hq:Step [] w3 { w6 with drawn:=w6.drawn+1 }:=I.trans (Step.drew [] w6)
 cases he:eget ps[k].a.ed ts[k] v with
 | none =>
  rw[he] at E;refine p (λ_=>Qp)<|p (λ_=>Qk O O)<|p (λ_=>Qk O O)<|p (λ_=>Qg)<|p (λ_=>Qg)<|pe ?_;refine Qf<|Qc<|Qb<|x (Zm O)<|xe<|zc O ?_;refine Qc<|x Qg<|Qe<|Qn ⟨[nS,.bool false],⟨O,O,U⟩,hj.trans hq,?_⟩;rw[E];rfl
 | some u =>
  rw[he] at E;refine p (λ_=>Qp)<|p (λ_=>Qk O O)<|p (λ_=>Qk O O)<|p (λ_=>Qg)<|p (λ_=>Qg)<|pe ?_;refine Qf<|Qc<|Qb<|x (Zm O)<|xe<|ZM O ?_;refine Qi ?_;have hz:=Qq J hq;have hV:(pre++ts.drop k).length=ts.length:=by simp;omega
  obtain ⟨gx,cx,ha⟩:=Qed J (by omega);have hI:ob vx=[gx]:=by rw[ha];rfl
  refine Qy<|Qb<|Qb<|Qb<|x (Zj ha O (by omega))<|xl O<|Qf6 (u:=.int .i64 u) (by rw[ha] at hz;exact hz) O O (by omega) O λw7 hJ hK=>xe ?_;refine Qy<|QO O O<|Qb<|xe ?_;have hL:(pre++ts.drop k).set k u=(pre++[u])++ts.drop (k+1):=by
   rw[hw,List.set_append_right _ _ (by omega),V,Nat.sub_self,List.set_cons_zero,LC];rfl
  refine ⟨(k+1,pre++[u]),by simp only[];omega,Z,G,by simp[V],(H.trans hq).then hJ (λb hb=>.inl (by rw[hI];exact hb)),?_,?_⟩
  ·simp only[];rw[←hL];unfold Qu;rw[Nv,List.map_set,ha];exact hK
  simp only[];rw[E,Option.map_map];congr 1;funext l;simp
theorem Ve {n:Nat}(h:n<256):(UInt8.ofNat n).toNat=n:=by
 simp[Nat.mod_eq_of_lt h]
theorem QaI (u:Nat):(32:UInt8)∉Lib.decDigits u:=by
 induction u using Nat.strongRecOn with
 | _ u ih =>
  unfold Lib.decDigits;split
  ·intro h;simp only[List.mem_singleton] at h;have:=congrArg UInt8.toNat h;rw[Ve (by omega)] at this;have E:(32:UInt8).toNat=32:=rfl;omega
  intro h;rcases Lj.1 h with h | h
  ·exact ih _ (by omega) h
  simp only[List.mem_singleton] at h;have:=congrArg UInt8.toNat h;rw[Ve (by omega)] at this;have E:(32:UInt8).toNat=32:=rfl;omega
def dval (l:List UInt8):Nat:=l.foldl (λa b=>a*10+(b.toNat - 48)) 0
theorem QaG (u:Nat):dval (Lib.decDigits u)=u:=by
 induction u using Nat.strongRecOn with
 | _ u ih =>
  unfold Lib.decDigits;split
  ·simp only[dval,List.foldl_cons,List.foldl_nil];rw[Ve (by omega)];omega
  have:=ih (u / 10) (by omega);unfold dval at *;rw[Mx,this];simp only[List.foldl_cons,List.foldl_nil];rw[Ve (by omega)];omega
theorem QcJ:∀{a b r E:List UInt8},(32:UInt8)∉a→(32:UInt8)∉b→a++32::r=b++32::E→a=b∧r=E
 | [],[],_,_,_,_,h=>by simpa using h
 | [],y::b,_,_,_,hb,h=>by simp at h;exact absurd h.1 (by intro e;exact hb (by simp[e]))
 | x::a,[],_,_,ha,_,h=>by simp at h;exact absurd h.1 (by intro e;exact ha (by simp[e]))
 | x::a,y::b,_,_,ha,hb,h=>by
  simp only[List.cons_append,List.cons.injEq] at h;have:=QcJ (λe=>ha (Lk _ e)) (λe=>hb (Lk _ e)) h.2;exact ⟨by rw[h.1,this.1],this.2⟩
theorem Qap:∀{l l':LI},(∀n∈l,0≤n)→(∀n∈l',0≤n)→XS l=XS l'→l=l'
 | [],[],_,_,_=>rfl
 | [],y::b,_,_,h=>by simp[XS] at h
 | x::a,[],_,_,h=>by simp[XS] at h
 | x::a,y::b,ha,hb,h=>by
  have h':Lib.decDigits x.toNat++32::XS a=Lib.decDigits y.toNat++32::XS b:=by simpa[XS] using h
  obtain ⟨h1,h2⟩:=QcJ (QaI _) (QaI _) h';have h3:x.toNat=y.toNat:=by rw[←QaG x.toNat,←QaG y.toNat,h1]
  have G:=Qap (λn E=>ha n (Lk _ E)) (λn E=>hb n (Lk _ E)) h2;have h5:=ha x Lm;have H:=hb y Lm;rw[G,show x=y by omega]
def JW (l:LI):ByteArray:=⟨(XS l).toArray⟩
theorem QgG {l l':LI}(h1:∀n∈l,0≤n) (h2:∀n∈l',0≤n) (h:JW l=JW l'):l=l':=by
 refine Qap h1 h2 ?_;have:=congrArg (λb:ByteArray=>b.data.toList) h;simpa[JW] using this
def Ug (n:Nat) (m:List (ByteArray×Value)) (tup:List (LI)):Prop :=
 ∀u:LI,u.length=n→(∀x∈u,0≤x)→mget m (JW u)=if u∈tup then some (.int .i64 (tup.idxOf u:Int)) else none
theorem Ug.add {n:Nat}{m:List (ByteArray×Value)}{tup:List (LI)}(h:Ug n m tup) {u:LI}(hu:u∉tup) (E:∀x∈u,0≤x):Ug n (mput m (JW u) (.int .i64 (tup.length:Int))) (tup++[u]):=by
 intro v G h1;rw[Jp];by_cases e:u=v
 ·subst e;rw[if_pos rfl,if_pos (by simp),Mi,if_neg hu];simp
 rw[if_neg (λhk=>e (QgG E h1 hk)),h v G h1];by_cases hm:v∈tup
 ·rw[if_pos hm,if_pos (by simp[hm]),Mi,if_pos hm]
 rw[if_neg hm,if_neg (by simp[hm,Ne.symm e])]
structure yq (N b2 b38 b37:Nat) (ve:Value) (wS:World) (s:Sy) (m:List (ByteArray×Value)) (qs:List TV) (vt vk vd:Value) (w:World):Prop where
 st:Step [b2,b38,b37] wS w
 A:QZ w.heap b2 58 [ve,.int .i64 0,vk,vd]
 M:Z7 XG w.heap b38 m
 t:zy 37 N w vt qs
 tb:∀b∈ob vt,b=b37∨wS.heap.size≤b
 k:Qu 3 wS.heap.size w vk s.mk'
 e:Z8 144 wS.heap.size w vd s.ed
 q:qs.map (·.2)=s.tup
 el:∀p∈qs,Qu 3 N w p.1 p.2
 sep:∀p∈qs,∀b∈ob p.1,b≠b38∧b∉ob vt∧b∉ob vk∧b∉ob vd
 d1:Dj vt vk
 d2:Dj vt vd
 d3:Dj vk vd
section
variable {N b2 b38 b37:Nat} {ve:Value} {wS:World} {s:Sy} {m:List (ByteArray×Value)} {qs:List TV} {vt vk vd:Value} {w w' w'':World}
theorem yq.ext (h:yq N b2 b38 b37 ve wS s m qs vt vk vd w) (hs:Step [] w w'):yq N b2 b38 b37 ve wS s m qs vt vk vd w' :=
 ⟨h.st.trans hs,h.A.ext hs,h.M.ext hs,Qq h.t hs,h.tb,Qq h.k hs,Qq h.e hs,h.q,λp hp=>Qq (h.el p hp) hs,h.sep,h.d1,h.d2,h.d3⟩
structure SyN (N b2 b38 b37:Nat) (wS:World):Prop where
 l2:b2<N
 l38:b38<wS.heap.size
 l37:b37<wS.heap.size
 n37:N≤b37
 n38:b37<b38
 nS:N≤wS.heap.size
theorem yq.setK (h:yq N b2 b38 b37 ve wS s m qs vt vk vd w) (n:SyN N b2 b38 b37 wS) {G:Value}{l:LI}(hs:Step (ob vk) w w') (I:Qu 3 wS.heap.size w' G l)
  (H:∀b∈ob G,b∈ob vk∨w.heap.size≤b) (E:Step [b2] w' w'') (J:QZ w''.heap b2 58 [ve,.int .i64 0,G,vd]):yq N b2 b38 b37 ve wS ⟨s.tup,l,s.ed⟩ m qs vt G vd w'':=by
 have hge:=Qm h.k;have l2:=n.l2;have l38:=n.l38;have n37:=n.n37;have n38:=n.n38;have nS:=n.nS;refine ⟨(h.st.then hs (λb hb=>.inr (hge b hb).1)).then E (λb hb=>.inl (by simp at hb;simp[hb])),J,(h.M.step hs (QM h.k (by omega))).step E (by simp;omega),
  Qj (Qj h.t hs h.d1) E (λb hb=>by have:=(Qm h.t b hb).1;simp;omega),h.tb,Qj I E (λb hb=>by have:=(Qm I b hb).1;simp;omega),
  Qj (Qj h.e hs h.d3.symm) E (λb hb=>by have:=(Qm h.e b hb).1;simp;omega),h.q,
  λp hp=>Qj (Qj (h.el p hp) hs (λb hb=>(h.sep p hp b hb).2.2.1)) E (λb hb=>by have:=(Qm (h.el p hp) b hb).1;simp;omega),
  λp hp b hb=>⟨(h.sep p hp b hb).1,(h.sep p hp b hb).2.1,λS=>?_,(h.sep p hp b hb).2.2.2⟩,h.d1.grow H (QR h.t),h.d2,(h.d3.symm.grow H (QR h.e)).symm⟩
 rcases H b S with h1 | h1
 ·exact (h.sep p hp b hb).2.2.1 h1
 have:=QR (h.el p hp) b hb;omega
theorem yq.setE (h:yq N b2 b38 b37 ve wS s m qs vt vk vd w) (n:SyN N b2 b38 b37 wS) {G:Value}{l:List Ed}(hs:Step (ob vd) w w') (I:Z8 144 wS.heap.size w' G l)
  (H:∀b∈ob G,b∈ob vd∨w.heap.size≤b) (E:Step [b2] w' w'') (J:QZ w''.heap b2 58 [ve,.int .i64 0,vk,G]):yq N b2 b38 b37 ve wS ⟨s.tup,s.mk',l⟩ m qs vt vk G w'':=by
 have hge:=Qm h.e;have l2:=n.l2;have l38:=n.l38;have n37:=n.n37;have n38:=n.n38;have nS:=n.nS;refine ⟨(h.st.then hs (λb hb=>.inr (hge b hb).1)).then E (λb hb=>.inl (by simp at hb;simp[hb])),J,(h.M.step hs (QM h.e (by omega))).step E (by simp;omega),
  Qj (Qj h.t hs h.d2) E (λb hb=>by have:=(Qm h.t b hb).1;simp;omega),h.tb,Qj (Qj h.k hs h.d3) E (λb hb=>by have:=(Qm h.k b hb).1;simp;omega),
  Qj I E (λb hb=>by have:=(Qm I b hb).1;simp;omega),h.q,
  λp hp=>Qj (Qj (h.el p hp) hs (λb hb=>(h.sep p hp b hb).2.2.2)) E (λb hb=>by have:=(Qm (h.el p hp) b hb).1;simp;omega),
  λp hp b hb=>⟨(h.sep p hp b hb).1,(h.sep p hp b hb).2.1,(h.sep p hp b hb).2.2.1,λS=>?_⟩,h.d1,h.d2.grow H (QR h.t),h.d3.grow H (QR h.k)⟩
 rcases H b S with h1 | h1
 ·exact (h.sep p hp b hb).2.2.2 h1
 have:=QR (h.el p hp) b hb;omega
theorem yq.setM (h:yq N b2 b38 b37 ve wS s m qs vt vk vd w) (n:SyN N b2 b38 b37 wS) {E:List (ByteArray×Value)}(hs:Step [b38] w w') (hm:Z7 XG w'.heap b38 E):yq N b2 b38 b37 ve wS s E qs vt vk vd w':=by
 have l2:=n.l2;have l38:=n.l38;have n37:=n.n37;have n38:=n.n38;have nS:=n.nS;exact ⟨h.st.then hs (λb hb=>.inl (by simp at hb;simp[hb])),h.A.step hs (by simp;omega),hm,Qj h.t hs (λb hb=>by have:=h.tb b hb;simp;omega),h.tb,
  Qj h.k hs (λb hb=>by have:=(Qm h.k b hb).1;simp;omega),Qj h.e hs (λb hb=>by have:=(Qm h.e b hb).1;simp;omega),h.q,
  λp hp=>Qj (h.el p hp) hs (λb hb=>by have:=(h.sep p hp b hb).1;simpa using this),h.sep,h.d1,h.d2,h.d3⟩
theorem yq.setT (h:yq N b2 b38 b37 ve wS s m qs vt vk vd w) (n:SyN N b2 b38 b37 wS) {E vx:Value}{u:LI}(hx:Qu 3 wS.heap.size w vx u) (H:∀b∈ob vx,b∉ob vt∧b∉ob vk∧b∉ob vd) (hs:Step (ob vt) w w')
  (I:zy 37 N w' E (qs++[(vx,u)])) (G:∀b∈ob E,b∈ob vt∨w.heap.size≤b):yq N b2 b38 b37 ve wS ⟨s.tup++[u],s.mk',s.ed⟩ m (qs++[(vx,u)]) E vk vd w':=by
 have l2:=n.l2;have l38:=n.l38;have n37:=n.n37;have n38:=n.n38;have nS:=n.nS;have S:=h.st.size;have nott:∀c,c<w.heap.size→c∉ob vt→c∉ob E:=λc hc J hv'=>by
  rcases G c hv' with h1 | h1
  ·exact J h1
  omega
 refine ⟨h.st.then hs (λb hb=>by have:=h.tb b hb;simp;omega),h.A.step hs (λhb=>by have:=h.tb b2 hb;omega),h.M.step hs (λhb=>by have:=h.tb b38 hb;omega),I,
  λb hb=>?_,Qj h.k hs h.d1.symm,Qj h.e hs h.d2.symm,by rw[Lu,h.q];rfl,λp hp=>?_,λp hp b hb=>?_,(h.d1.symm.grow G (QR h.k)).symm,(h.d2.symm.grow G (QR h.e)).symm,h.d3⟩
 ·rcases G b hb with h1 | h1
  ·exact h.tb b h1
  exact .inr (by omega)
 ·rcases Lj.1 hp with hp | hp
  ·exact Qj (h.el p hp) hs (λb hb=>(h.sep p hp b hb).2.1)
  simp only[List.mem_singleton] at hp;subst hp;exact Zr (Qj hx hs (λb hb=>(H b hb).1)) nS
 rcases Lj.1 hp with hp | hp
 ·have:=h.sep p hp b hb;exact ⟨this.1,nott b (QR (h.el p hp) b hb) this.2.1,this.2.2⟩
 simp only[List.mem_singleton] at hp;subst hp;have h1:=(Qm hx b hb);have h2:=H b hb;exact ⟨by omega,nott b h1.2 h2.1,h2.2⟩
end
end Go.Proofs.YtdffckgdcegpaaaGreatDoor
