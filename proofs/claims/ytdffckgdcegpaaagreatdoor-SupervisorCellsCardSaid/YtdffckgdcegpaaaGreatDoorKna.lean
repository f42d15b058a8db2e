/- Merged out of 23 texts. -/
import Derived.Orders
import Derived.Below
import Derived.WalkKit
import Derived.Laws.AppendOwn
import Derived.Laws.Rows
import Derived.Laws.Tables
import Derived.Great.BuildSlice
import Derived.Deep.OwnRows
import Derived.MapKept
import Derived.Test.YtdffckgdcegpaaaGreatDoorProg
import Derived.Shelf.Strings.Builder1
import Derived.Shelf.Small.Bits
import Derived.Shelf.Strings.BuilderF
import Derived.Shelf.Strings.BuilderK
import Derived.Shelf.Strconv.Itoa0
import Derived.Shelf.Strconv.Itoa1
import Derived.Shelf.LaysM
import Derived.Shelf.Strconv.Itoa2
import Derived.Shelf.Strconv.Itoa3
import Derived.Shelf.Strings.BuilderCap
import Derived.Ground.SlsfProg
import Derived.Shelf.SlSortCmp.Insertion
import Derived.Shelf.SlSortCmp.SiftDown1
import Derived.Shelf.SlSortCmp.HeapSort1
import Derived.Shelf.SlSortCmp.Insertion1
import Derived.Shelf.SlSortCmp.Median1
import Derived.Shelf.SlSortCmp.Pivot1
import Derived.Shelf.SlSortCmp.ReverseRange1
import Derived.Shelf.SlSortCmp.PartitionEqual1
import Derived.Lib.Builder
import Derived.Laws.Externs
namespace Go
abbrev nS:Value:=.slice none 0 0
abbrev LI:=List Int
abbrev LN:=List Nat
abbrev LV:=List Value
theorem O.{u}{α:Sort u}{a:α}:a=a:=rfl
theorem La:True:=trivial
theorem Lb.{u}{α:Sort u}{a:α}:a=a∧True:=⟨rfl,trivial⟩
abbrev Lc:=@List.mem_singleton
abbrev Le:=@List.mem_cons_of_mem
abbrev Lh:=@List.mem_cons_self
abbrev Li:=@List.mem_cons
abbrev Lj:=@List.getElem_mem
abbrev Lk:=@List.length_append
abbrev Ll:=@List.take_succ_eq_append_getElem
abbrev Lm:=@Nat.zero_le
abbrev Ln:=@List.eq_nil_of_length_eq_zero
abbrev Lo:=@List.length_map
abbrev Lp:=@List.mem_append
abbrev Lq:=@List.take_of_length_le
abbrev Lr:=@List.drop_of_length_le
abbrev Ls:=@List.foldl_cons
abbrev Lt:=@Decidable.not_not
abbrev Lu:=@List.not_mem_nil
abbrev Lv:=@Nat.le_refl
abbrev Lx:=@Bool.and_eq_true
abbrev Ly:=@List.mem_range'_1
abbrev Lz:=@List.mem_map
abbrev LA:=@List.map_append
abbrev LB:=@List.append_assoc
abbrev LC:=@List.idxOf_lt_length_of_mem
abbrev LD:=@List.length_singleton
abbrev LE:=@List.mem_append_left
abbrev LF:=@List.length_take
abbrev LG:=@Array.getElem?_eq_some_iff
abbrev LH:=@List.mem_filter
abbrev LJ:=@Nat.zero_add
abbrev LK:=@List.getElem?_eq_getElem
abbrev LL:=@List.flatMap_append
abbrev LM:=@List.flatMap_cons
abbrev LO:=@List.getElem_of_mem
abbrev LP:=@List.length_cons
abbrev LQ:=@List.drop_eq_getElem_cons
abbrev LR:=@List.getD_eq_getElem?_getD
abbrev LS:=@List.range'_1_concat
abbrev LT:=@List.getElem_append_left
abbrev LU:=@List.append_nil
abbrev LW:=@List.foldl_append
abbrev LX:=@List.mem_map_of_mem
abbrev LY:=@Int.toNat_natCast
abbrev LZ:=@Option.map_eq_some_iff
abbrev L3:=@List.idxOf_append
abbrev L4:=@Option.bind_eq_some_iff
abbrev L5:=@Nat.le_trans
abbrev L6:=@List.all_eq_true
abbrev L7:=@List.pairwise_cons
abbrev L8:=@List.map_cons
abbrev L9:=@List.ext_getElem
abbrev Ma:=@List.getElem?_take
abbrev Mc:=@List.getElem?_toArray
abbrev Md:=@List.size_toArray
abbrev Me:=@List.filter_append
abbrev Mf:=@List.length_drop
abbrev Mh:=@List.mem_of_mem_take
abbrev Mi:=@List.getElem?_append_left
abbrev Mj:=@List.length_filter_le
abbrev Mk:=@List.filterMap_cons
abbrev Ml:=@List.mem_of_getElem?
abbrev Mm:=@List.pairwise_map
abbrev Mn:=@List.any_eq_true
abbrev Mo:=@List.nil_append
abbrev Mq:=@List.getElem_idxOf
abbrev Mr:=@List.getElem_append_right
abbrev Ms:=@Nat.add_mul
abbrev Mt:=@List.mem_of_mem_drop
abbrev Mu:=@List.pairwise_append
abbrev Mv:=@List.getElem_map
abbrev Mw:=@List.filter_cons
abbrev Mx:=@List.mem_filterMap
abbrev My:=@List.all_cons
abbrev Mz:=@List.filter_sublist
abbrev MA:=@List.getElem_cons_zero
abbrev MB:=@Nat.mul_le_mul_right
abbrev MC:=@Nat.lt_of_lt_of_le
abbrev MD:=@Option.isSome_iff_exists
abbrev ME:=@List.getElem?_append_right
abbrev MF:=@List.foldl_nil
abbrev MG:=@List.cons_append
abbrev MH:=@List.getElem?_set_ne
abbrev MI:=@Nat.exists_eq_succ_of_ne_zero
abbrev MJ:=@List.getElem?_eq_some_iff
abbrev MK:=@List.getElem?_drop
abbrev ML:=@Bool.not_eq_true'
abbrev MM:=@List.pairwise_lt_range'
abbrev MN:=@List.nodup_nil
abbrev MO:=@Bool.or_eq_false_iff
abbrev MP:=@List.mem_flatMap
abbrev MQ:=@Array.getElem?_eq_getElem
abbrev MR:=@Array.getElem?_append
abbrev MS:=@List.getElem?_eq_none
abbrev MT:=@List.take_append_drop
abbrev MU:=@List.mem_range
abbrev MV:=@List.length_set
abbrev MW:=@List.map_map
abbrev MX:=@Nat.add_comm
abbrev MY:=@List.headD_cons
abbrev MZ:=@Nat.add_sub_cancel_left
abbrev M0:=@List.getElem_set
abbrev M4:=@Array.size_modify
abbrev M5:=@Nat.add_zero
abbrev M6:=@List.filter_eq_nil_iff
abbrev M7:=@List.nodup_append
abbrev M8:=@List.getElem_cons_succ
abbrev M9:=@List.tail_cons
abbrev Na:=@List.take_succ_cons
abbrev Nb:=@List.mem_or_eq_of_mem_set
abbrev Nc:=@List.mem_append_right
abbrev Nd:=@Array.getElem?_toList
abbrev Nf:=@List.singleton_append
abbrev Nh:=@List.eq_of_mem_replicate
abbrev Ni:=@Int.le_refl
abbrev Nj:=@List.drop_append_of_le_length
abbrev Nk:=@List.forall_mem_cons
abbrev Nl:=@List.getElem?_map
abbrev Nm:=@Nat.min_eq_left
abbrev Nn:=@Nat.sub_self
abbrev Np:=@List.map_set
abbrev Nq:=@List.range'_succ
abbrev Nr:=@Bool.false_eq_true
abbrev Ns:=@List.map_singleton
abbrev Nt:=@Array.getElem?_modify
abbrev Nu:=@List.set_append_right
abbrev Nv:=@List.pairwise_iff_getElem
abbrev Nw:=@List.filter_nil
abbrev Ny:=@List.any_append
abbrev Nz:=@Nat.lt_or_ge
abbrev NA:=@Bool.true_and
abbrev NB:=@Array.length_toList
abbrev NC:=@List.take_append
abbrev ND:=@List.pairwise_singleton
abbrev NE:=@Nat.one_mul
abbrev NF:=@List.getElem_range
abbrev NG:=@List.set_cons_zero
abbrev NH:=@List.map_replicate
abbrev NI:=@Option.map_some
abbrev NJ:=@Bool.false_or
end Go
namespace Go.Lg
open Go.RowKit
abbrev Fr:=Nat→Value
def upd (f:Fr) (d:Nat) (v:Value):Fr:=λt=>bif Nat.beq t d then v else f t
def ev (f:Fr):Operand→Value
 | .tmp t=>f t
 | .const v=>v
 | .global g=>.pointer (some ⟨g,0,none⟩)
 | .func g=>.func (.func g) #[] #[]
def Q4 (f:Fr):Option Nat→Value→Fr
 | some d,v=>upd f d v
 | none,_=>f
structure Rel (n:Nat) (a:Act) (f:Fr):Prop where
 size:a.tmps.size=n
 defers:a.defers=[]
 get:∀t,a.tmps.getD t undef=f t
theorem XH (f:Fr) (d:Nat) (v:Value):upd f d v d=v:=by simp[upd]
theorem JP (f:Fr) {d t:Nat}(v:Value) (h:t≠d):upd f d v t=f t:=by
 have:Nat.beq t d=false:=by
  cases e:Nat.beq t d with
  | false=>rfl
  | true=>exact absurd (Nat.eq_of_beq_eq_true e) h
 simp[upd,this]
theorem Rel.eval {n:Nat}{a:Act}{f:Fr}(h:Rel n a f):a.eval=ev f:=by
 funext x;cases x with
 | tmp t=>exact h.get t
 | _=>rfl
theorem Rel.put {n:Nat}{a:Act}{f:Fr}(h:Rel n a f) {dst:Option Nat}(hd:∀d,dst=some d→d<n) (v:Value):Rel n (a.put dst v) (Q4 f dst v):=by
 cases dst with
 | none=>exact h
 | some d =>
  have E:d<a.tmps.size:=by rw[h.size];exact hd d O
  refine ⟨by simp[Act.put,h.size],h.defers,λt=>?_⟩;by_cases e:t=d
  ·subst e;rw[Q4,XH];simp[Act.put,E]
  rw[Q4,JP _ _ e,←h.get t];simp[Act.put,Array.getElem?_setIfInBounds_ne (Ne.symm e)]
def ZU (l:List Oper) (t:Nat):Bool:=l.any λo=>match o.dst with | some d=>Nat.beq d t | none=>false
def wrs:Code→Nat→Bool
 | .region _ ops _,t=>ZU ops.toList t
 | .seq a b,t=>wrs a t || wrs b t
 | .cond _ a b,t=>wrs a t || wrs b t
 | .block _ a,t=>wrs a t
 | .loop a,t=>wrs a t
 | .skip,_ | .exit _,_ | .label _,_ | .goto _,_ | .ret,_=>false
 | _,_=>true
def J1 (D:List (Nat×Nat)) (t:Nat):Bool:=match D with
 | []=>false
 | (lo,hi)::D=>bif (Nat.ble lo t && Nat.ble t hi) then true else J1 D t
def inD (D:List (Nat×Nat)) (d:Option Nat):Bool:=match d with | none=>true | some d=>J1 D d
def Qd0 (D:List (Nat×Nat)) (l:List Oper):Bool:=l.all λo=>inD D o.dst
def wr (D:List (Nat×Nat)):Code→Bool
 | .region _ ops _=>Qd0 D ops.toList
 | .seq a b=>wr D a && wr D b
 | .cond _ a b=>wr D a && wr D b
 | .block _ a=>wr D a
 | .loop a=>wr D a
 | .skip | .exit _ | .label _ | .goto _ | .ret=>true
 | _=>false
theorem jj {D:List (Nat×Nat)}{l:List Oper}(h:Qd0 D l=true) {t:Nat}(ht:J1 D t=false):ZU l t=false:=by
 unfold Qd0 at h;unfold ZU;rw[List.any_eq_false];intro o E;have h1:=L6.1 h o E;cases hd:o.dst with
 | none=>simp
 | some d =>
  rw[hd] at h1;simp only[inD] at h1;intro e;have:=Nat.eq_of_beq_eq_true e;subst this;rw[h1] at ht;cases ht
theorem KL {D:List (Nat×Nat)}{t:Nat}(ht:J1 D t=false):∀c:Code,wr D c=true→wrs c t=false
 | .region _ ops _,h=>jj h ht
 | .seq a b,h=>by simp only[wr,Bool.and_eq_true] at h;simp[wrs,KL ht a h.1,KL ht b h.2]
 | .cond _ a b,h=>by simp only[wr,Bool.and_eq_true] at h;simp[wrs,KL ht a h.1,KL ht b h.2]
 | .block _ a,h=>KL ht a (by simpa[wr] using h)
 | .loop a,h=>KL ht a (by simpa[wr] using h)
 | .skip,_=>rfl
 | .exit _,_=>rfl
 | .label _,_=>rfl
 | .goto _,_=>rfl
 | .ret,_=>rfl
 | .rangeFunc ..,h=>by simp[wr] at h
 | .scope _,h=>by simp[wr] at h
 | .refuse _,h=>by simp[wr] at h
def mix (D:List (Nat×Nat)) (f g:Fr):Fr:=λt=>bif J1 D t then g t else f t
theorem KU {D:List (Nat×Nat)}{f g:Fr}(h:∀t,J1 D t=false→g t=f t):mix D f g=g:=by
 funext t;unfold mix;cases e:J1 D t with
 | false=>exact (h t e).symm
 | true=>rfl
def yR (S:List (Nat×Value)) (f:Fr):Fr:=match S with
 | []=>f
 | (t,v)::S=>upd (yR S f) t v
def JO (f:Fr):List (Nat×Value)→Prop
 | []=>True
 | (t,v)::S=>f t=v∧JO f S
theorem Xr {f:Fr}:∀{S:List (Nat×Value)},JO f S→yR S f=f
 | [],_=>rfl
 | (t,v)::S,h=>by
  funext s;simp only[yR,Xr h.2];by_cases e:s=t
  ·subst e;rw[XH];exact h.1.symm
  exact JP _ _ e
def W (P:Program) (n:Nat) (c:Code) (Q:Exit→Fr→World→Prop) (f:Fr) (w:World):Prop :=
 ∀a,Rel n a f→c.wp P (λe E w'=>∃f',Rel n E f'∧(∀t,wrs c t=false→f' t=f t)∧Q e f' w') a w
def thn (K:Fr→World→Prop) (Q:Exit→Fr→World→Prop):Exit→Fr→World→Prop
 | .normal,f,w=>K f w
 | e,f,w=>Q e f w
def blk (id:Nat) (Q:Exit→Fr→World→Prop):Exit→Fr→World→Prop
 | .exit i,f,w=>bif Nat.beq i id then Q .normal f w else Q (.exit i) f w
 | e,f,w=>Q e f w
section
variable {P:Program} {n:Nat} {Q:Exit→Fr→World→Prop} {f:Fr} {w:World}
theorem W.mono {c:Code}{Q':Exit→Fr→World→Prop}(h:W P n c Q f w) (hq:∀e f w,Q e f w→Q' e f w):W P n c Q' f w :=
 λa ha=>wp_mono (h a ha) λ_ _ _ ⟨E,h1,h2,h3⟩=>⟨E,h1,h2,hq _ _ _ h3⟩
theorem W.keeps {c:Code}(h:W P n c Q f w):W P n c (λe E w'=>(∀t,wrs c t=false→E t=f t)∧Q e E w') f w :=
 λa ha=>wp_mono (h a ha) λ_ _ _ ⟨E,h1,h2,h3⟩=>⟨E,h1,h2,h2,h3⟩
theorem Qj (h:Q .normal f w):W P n .skip Q f w:=λ_ ha=>wp_skip ⟨f,ha,λ_ _=>O,h⟩
theorem Qy {i:Nat}(h:Q (.exit i) f w):W P n (.exit i) Q f w:=λ_ ha=>wp_exit ⟨f,ha,λ_ _=>O,h⟩
theorem Qs (h:Q .ret f w):W P n .ret Q f w:=λ_ ha=>wp_ret ⟨f,ha,λ_ _=>O,h⟩
theorem Qg {x y:Code}(h:W P n x (thn (λf w=>W P n y Q f w) Q) f w):W P n (.seq x y) Q f w:=by
 intro a ha;refine wp_seq (wp_mono (h a ha) ?_);rintro e G w' ⟨E,h1,h2,h3⟩;have k1:∀t,wrs (.seq x y) t=false→E t=f t:=λt ht=>h2 t (by simp only[wrs,Bool.or_eq_false_iff] at ht;exact ht.1);cases e with
 | normal =>
  refine wp_mono (h3 G h1) λ_ _ _ ⟨H,J,S,U⟩=>⟨H,J,λt ht=>(S t ?_).trans (k1 t ht),U⟩;simp only[wrs,Bool.or_eq_false_iff] at ht;exact ht.2
 | exit id=>exact ⟨E,h1,k1,h3⟩
 | goto l=>exact ⟨E,h1,k1,h3⟩
 | ret=>exact ⟨E,h1,k1,h3⟩
 | panic ch=>exact ⟨E,h1,k1,h3⟩
 | outgrown=>exact ⟨E,h1,k1,h3⟩
theorem Q0 {α:Type}{x y:Code}(D:List (Nat×Nat)) (S:α→List (Nat×Value)) (I:α→World→Prop) (hD:wr D x=true)
  (h1:W P n x (thn (λE w'=>∃z,JO E (S z)∧I z w') Q) f w)
  (h2:∀z g w',I z w'→W P n y Q (yR (S z) (mix D f g)) w'):W P n (.seq x y) Q f w:=by
 refine Qg (h1.keeps.mono ?_);rintro e E w' ⟨hk,hq⟩;cases e with
 | normal =>
  obtain ⟨z,hs,hi⟩:=hq;have h3:=h2 z E w' hi;rw[KU (λt ht=>hk t (KL ht x hD)),Xr hs] at h3;exact h3
 | exit id=>exact hq
 | goto l=>exact hq
 | ret=>exact hq
 | panic ch=>exact hq
 | outgrown=>exact hq
theorem Q8 {c:Operand}{x y:Code}{t:Bool}(hc:ev f c=.bool t) (ht:t=true→W P n x Q f w) (E:t=false→W P n y Q f w) :
  W P n (.cond c x y) Q f w:=by
 intro a ha;have G:a.eval c=.bool t:=by rw[ha.eval];exact hc
 refine wp_cond_split G (λe=>wp_mono (ht e a ha) ?_) (λe=>wp_mono (E e a ha) ?_) <;>
  (rintro e J w' ⟨H,h1,h2,h3⟩
   refine ⟨H,h1,λt ht=>h2 t ?_,h3⟩;simp only[wrs,Bool.or_eq_false_iff] at ht
   first | exact ht.1 | exact ht.2)
theorem Zc {c:Operand}{x y:Code}{p:Prop}[Decidable p] (hc:ev f c=.bool (decide p)) (ht:p→W P n x Q f w) (E:¬p→W P n y Q f w) :
  W P n (.cond c x y) Q f w :=
 Q8 hc (λe=>ht (of_decide_eq_true e)) (λe=>E (of_decide_eq_false e))
theorem QI {c:Operand}{x y:Code}{p:Prop}[Decidable p] (hc:ev f c=.bool (decide p)) (E:¬p→W P n y Q f w) (ht:p→W P n x Q f w) :
  W P n (.cond c x y) Q f w:=Zc hc ht E
theorem JU {c:Operand}{x y:Code}(hc:ev f c=.bool true) (h:W P n x Q f w):W P n (.cond c x y) Q f w:=Q8 hc (λ_=>h) (λe=>by cases e)
theorem ZW {c:Operand}{x y:Code}(hc:ev f c=.bool false) (h:W P n y Q f w):W P n (.cond c x y) Q f w:=Q8 hc (λe=>by cases e) (λ_=>h)
theorem Qh {id:Nat}{c:Code}(h:W P n c (blk id Q) f w):W P n (.block id c) Q f w:=by
 intro a ha;refine wp_block (wp_mono (h a ha) ?_);rintro e G w' ⟨E,h1,h2,h3⟩;have k1:∀t,wrs (.block id c) t=false→E t=f t:=λt ht=>h2 t (by simpa[wrs] using ht);cases e with
 | exit i =>
  simp only[Exit.inBlock];simp only[blk] at h3;by_cases hi:i=id
  ·subst hi;simp only[Nat.beq_refl,cond_true] at h3;simp only[if_true];exact ⟨E,h1,k1,h3⟩
  have hb:Nat.beq i id=false:=by
   cases e:Nat.beq i id with
   | false=>rfl
   | true=>exact absurd (Nat.eq_of_beq_eq_true e) hi
  rw[hb] at h3;rw[if_neg hi];exact ⟨E,h1,k1,h3⟩
 | normal=>exact ⟨E,h1,k1,h3⟩
 | goto l=>exact ⟨E,h1,k1,h3⟩
 | ret=>exact ⟨E,h1,k1,h3⟩
 | panic ch=>exact ⟨E,h1,k1,h3⟩
 | outgrown=>exact ⟨E,h1,k1,h3⟩
theorem QC {α:Type}{c:Code}(D:List (Nat×Nat)) (S:α→List (Nat×Value)) (I:α→World→Prop) (m:α→Nat) (hD:wr D c=true) (z:α)
  (Z:JO f (S z)) (hI:I z w)
  (round:∀x g w',I x w'→W P n c (thn (λG Y=>∃U,m U<m x∧JO G (S U)∧I U Y) Q) (yR (S x) (mix D f g)) w'):W P n (.loop c) Q f w:=by
 intro a ha;refine wp_loop_ghost (λ(x:α) V w'=>∃G,Rel n V G∧(∀t,wrs c t=false→G t=f t)∧JO G (S x)∧I x w') m z ⟨f,ha,λ_ _=>O,Z,hI⟩ ?_;rintro x V w' ⟨G,h1,h2,h3,h4⟩;have h5:=round x G w' h4;rw[KU (λt ht=>h2 t (KL ht c hD)),Xr h3] at h5;refine wp_mono (h5 V h1) ?_;rintro e hb Y ⟨E,H,g2,J⟩;have k1:∀t,wrs c t=false→E t=f t:=λt ht=>(g2 t ht).trans (h2 t ht)
 have k2:∀t,wrs (.loop c) t=false→E t=f t:=λt ht=>k1 t (by simpa[wrs] using ht);cases e with
 | normal=>obtain ⟨U,hm,hs,hi⟩:=J;exact ⟨U,hm,E,H,k1,hs,hi⟩
 | exit id=>exact ⟨E,H,k2,J⟩
 | goto l=>exact ⟨E,H,k2,J⟩
 | ret=>exact ⟨E,H,k2,J⟩
 | panic ch=>exact ⟨E,H,k2,J⟩
 | outgrown=>exact ⟨E,H,k2,J⟩
where
 wp_loop_ghost {α:Type} {P:Program} {c:Code} {Q:Exit→Act→World→Prop} {a:Act} {w:World} (J:α→Act→World→Prop) (m:α→Nat) (z:α) (h₀:J z a w)
   (round:∀x a w,J x a w→c.wp P (Exit.then (λa' w'=>∃x',m x'<m x∧J x' a' w') Q) a w):(Code.loop c).wp P Q a w:=by
  intro b k cs
  have key:∀i x a w,m x=i→J x a w →
    ∃e a' w',Q e a' w'∧Arrives P (lone (b.at a (.code c::.inLoop c::k)) cs w) b k cs e a' w':=by
   intro i
   induction i using Nat.strongRecOn with
   | _ i ih =>
    intro x a w hx hJ
    obtain ⟨e,a₁,w₁,hq,harr⟩:=round x a w hJ b (.inLoop c::k) cs
    cases e with
    | normal =>
     obtain ⟨x',hlt,hJ'⟩:=hq
     obtain ⟨e₂,a₂,w₂,hq₂,harr₂⟩:=ih (m x') (hx ▸ hlt) x' a₁ w₁ rfl hJ'
     exact ⟨e₂,a₂,w₂,hq₂,.of_steps (Steps.trans harr (.one step_inLoop)) harr₂⟩
    | exit id=>exact ⟨_,a₁,w₁,hq,.pass (x:=.inLoop c) rfl (λ_ _=>.inl (by simp)) harr⟩
    | goto l=>exact ⟨_,a₁,w₁,hq,.pass (x:=.inLoop c) rfl (λ_ _=>.inl (by simp)) harr⟩
    | ret=>exact ⟨_,a₁,w₁,hq,.pass (x:=.inLoop c) rfl (λ_ _=>.inl (by simp)) harr⟩
    | panic ch=>exact ⟨_,a₁,w₁,hq,.pass (x:=.inLoop c) rfl (λ_ _=>.inl (by simp)) harr⟩
    | outgrown=>exact ⟨_,a₁,w₁,hq,.pass (x:=.inLoop c) rfl (λ_ _=>.inl (by simp)) harr⟩
  obtain ⟨e,a',w',hq,harr⟩:=key _ z a w rfl h₀
  exact ⟨e,a',w',hq,.of_steps (.one step_loop) harr⟩
end
def upF (P:Program) (dst:Option Nat) (f:Fr) (K:Fr→World→Prop):Result Next→Prop
 | .ok (.value v) w'=>K (Q4 f dst v) w'
 | .ok .skip w'=>K (Q4 f dst undef) w'
 | .ok (.enter g args) w'=>Calls P g args w' λe E=>match e with | .returned v=>K (Q4 f dst v) E | _=>False
 | _=>False
def XO (P:Program) (o:Oper) (f:Fr) (w:World) (K:Fr→World→Prop):Prop:=upF P o.dst f K ((execOp (ev f) o).run P w)
def YD (ops:List Oper) (f:Fr) (o:Oper):Bool:=match o.guard with
 | none=>true
 | some (j,want)=>match (ops[j]?).bind (·.dst) with
  | some d=>(match f d with | .bool b=>bif want then b else !b | _=>false)
  | none=>false
def XL (P:Program) (ops:List Oper) (K:Fr→World→Prop):List Oper→Fr→World→Prop
 | [],f,w=>K f w
 | o::l,f,w=>bif YD ops f o then XO P o f w (XL P ops K l) else XL P ops K l (Q4 f o.dst undef) w
theorem UD {n:Nat}{l:List Oper}{a:Act}{f:Fr}(h:Rel n a f) (H:∀o∈l,∀d,o.dst=some d→d<n) (o:Oper):Region.wanted o (yielded l.toArray a.tmps)=YD l f o:=by
 unfold Region.wanted YD;cases o.guard with
 | none=>rfl
 | some p =>
  obtain ⟨j,want⟩:=p;simp only[yielded,List.getElem?_toArray];cases hj:(l[j]?) with
  | none=>simp
  | some o' =>
   cases hd:o'.dst with
   | none=>simp[hd]
   | some d =>
    have E:d<a.tmps.size:=by rw[h.size];exact H o' (Ml hj) d hd
    have G:=h.get d;simp only[Option.bind_some,hd,Array.getElem?_eq_getElem E];simp[E] at G;rw[G];cases f d <;> simp
    cases want <;> simp
theorem Qll {P:Program}{n:Nat}{o:Oper}{a:Act}{f:Fr}{w:World}{K:Fr→World→Prop}{K':Act→World→Prop}{Q:Exit→Act→World→Prop}(h:Rel n a f)
  (E:∀v w',K (Q4 f o.dst v) w'→K' (a.put o.dst v) w') (hx:XO P o f w K):o.wp P a w K' Q:=by
 unfold XO at hx;unfold Oper.wp;rw[h.eval];generalize (execOp (ev f) o).run P w=r at hx;cases r with
 | ok nx w' =>
  cases nx <;> simp only[upF] at hx <;> simp only[Oper.upon]
  case value v=>exact E v w' hx
  case skip=>exact E _ w' hx
  case enter g args =>
   refine Calls.mono hx λe G he=>?_;cases e with
   | returned v=>exact E v G he
   | panicked c=>exact he.elim
   | outgrown=>exact he.elim
 | halt x w'=>exact hx.elim
theorem XO.mono {P:Program}{o:Oper}{f:Fr}{w:World}{K K':Fr→World→Prop}(E:∀v w',K (Q4 f o.dst v) w'→K' (Q4 f o.dst v) w') (hx:XO P o f w K):XO P o f w K':=by
 unfold XO at *;generalize (execOp (ev f) o).run P w=r at *;cases r with
 | ok nx w' =>
  cases nx <;> simp only[upF] at hx ⊢
  case value v=>exact E v w' hx
  case skip=>exact E _ w' hx
  case enter g args =>
   refine Calls.mono hx λe G he=>?_;cases e with
   | returned v=>exact E v G he
   | panicked c=>exact he.elim
   | outgrown=>exact he.elim
 | halt x w'=>exact hx.elim
def JL (n:Nat) (l:List Oper):Bool:=l.all λo=>match o.dst with | some d=>Nat.blt d n | none=>true
theorem Y4 {n:Nat}{l:List Oper}(h:JL n l=true):∀o∈l,∀d,o.dst=some d→d<n:=by
 intro o E d hd;have:=L6.1 h o E;simp only[hd,Nat.blt_eq] at this;exact this
theorem Jl {l:List Oper}{o:Oper}(E:o∈l) {t:Nat}(h:ZU l t=false):o.dst≠some t:=by
 intro e;have:=List.any_eq_false.1 h o E;simp[e] at this
theorem YL {f:Fr}{dst:Option Nat}{t:Nat}(h:dst≠some t) (v:Value):Q4 f dst v t=f t:=by
 cases dst with
 | none=>rfl
 | some d=>exact JP _ _ (λe=>h (by rw[e]))
section
variable {P:Program} {n:Nat} {Q:Exit→Fr→World→Prop} {f:Fr} {w:World}
theorem Qlm {all:List Oper}(G:∀o∈all,∀d,o.dst=some d→d<n) (f0:Fr) :
  ∀(l:List Oper) (k:Nat) (a:Act) (f:Fr) (w:World),(∀j,l[j]?=all[k+j]?)→Rel n a f→(∀t,ZU all t=false→f t=f0 t) →
   XL P all (λf w=>Q .normal f w) l f w →
   wpOps P all.toArray (λe U w'=>∃f',Rel n U f'∧(∀t,ZU all t=false→f' t=f0 t)∧Q e f' w') (List.range' k l.length) a w
 | [],_,a,f,w,_,E,hk,h=>⟨f,E,hk,h⟩
 | o::l,k,a,f,w,hl,E,hk,h=>by
  have J:all[k]?=some o:=by simpa using (hl 0).symm
  have H:o∈all:=Ml J;have ih:=λa f w=>Qlm G f0 l (k+1) a f w (λj=>by have:=hl (j+1);simpa[Nat.add_assoc,Nat.add_comm 1 j] using this);have next:∀v,(∀t,ZU all t=false→Q4 f o.dst v t=f0 t):=λv t ht=>(YL (Jl H ht) v).trans (hk t ht);simp only[List.length_cons,List.range'_succ,wpOps,List.getElem?_toArray,J];rw[UD E G o];simp only[XL] at h;cases S:YD all f o with
  | false =>
   rw[S] at h;exact ih _ _ _ (E.put (G o H) _) (next _) h
  | true =>
   rw[S] at h;exact .inl (Qll E (λv w' hx=>ih _ _ _ (E.put (G o H) v) (next v) hx) h)
theorem QcI {id:Nat}{l:List Oper}(E:JL n l=true) (h:XL P l (λf w=>Q .normal f w) l f w):W P n (.region id l.toArray false) Q f w:=by
 intro a ha;refine wp_region ?_;have:=Qlm (Y4 E) f l 0 a f w (by simp) ha (λ_ _=>rfl) h;simpa[List.range_eq_range',wrs] using this
end
def ju (o:Oper):Bool:=match o.op with
 | .move _ | .assign _ | .pick .. | .alloc _ | .box .. | .build .. | .buildSlice .. | .store .. | .nilCheck _ | .binOp .. | .unOp .. | .makeFunc .. | .makeMap .. | .makeSlice .. | .fieldAddr .. | .field .. | .indexAddr .. | .index .. | .extract .. | .insert .. | .mapUpdate ..=>false
 | .slice ..=>false
 | .call ⟨.builtin .append,_,_⟩=>false
 | .call ⟨.builtin .min,_,_⟩=>false
 | .call ⟨.builtin .max,_,_⟩=>false
 | .call ⟨.value _,_,_⟩=>false
 | _=>true
def Ud (all:List Oper) (j:Nat):Bool:=match all[j]? with
 | none=>false
 | some o=>(List.range all.length).all λi=>match all[i]? with
  | none=>true
  | some oi=>!ju oi || i == j || o.after.any λe=>Region.binds .any e && e.on == i
def XA (P:Program) (all:List Oper) (C:World→Prop) (K:Fr→World→Prop):Nat→Array Bool→Fr→World→Prop
 | 0,ls,f,w=>Region.ready .any all.toArray ls=[]∧K f w
 | k+1,ls,f,w=>(Region.ready .any all.toArray ls=[]→K f w) ∧
  ∀i∈Region.ready .any all.toArray ls,∀o,all[i]?=some o →
   bif YD all f o then XO P o f w (λE w'=>(Ud all i=true∨w'=w∨C w')∧XA P all C K k (ls.setIfInBounds i true) E w') else XA P all C K k (ls.setIfInBounds i true) (Q4 f o.dst undef) w
section
variable {P:Program} {n:Nat} {f:Fr} {w:World} {all:List Oper} {C:World→Prop} {K:Fr→World→Prop}
theorem Qfl {Q:Exit→Act→World→Prop}(G:∀o∈all,∀d,o.dst=some d→d<n) (f0:Fr)
  (H:∀a f w,Rel n a f→(∀t,ZU all t=false→f t=f0 t)→K f w→Q .normal a w) :
  ∀(k:Nat) (ls:Array Bool) (a:Act) (f:Fr) (w:World),Rel n a f→(∀t,ZU all t=false→f t=f0 t)→XA P all C K k ls f w→wpAny P .any all.toArray Q k ls a w
 | 0,_,a,f,w,E,hk,h=>⟨h.1,H a f w E hk h.2⟩
 | k+1,ls,a,f,w,E,hk,h=>by
  refine ⟨λV=>H a f w E hk (h.1 V),λi hi=>?_⟩;unfold wpOp;simp only[List.getElem?_toArray];cases J:all[i]? with
  | none =>
   exfalso;obtain ⟨_,o,Y,_⟩:=mem_ready.1 hi;simp[J] at Y
  | some o =>
   have S:o∈all:=Ml J;have h1:=h.2 i hi o J;have next:∀v,(∀t,ZU all t=false→Q4 f o.dst v t=f0 t):=λv t ht=>(YL (Jl S ht) v).trans (hk t ht);simp only[];rw[UD E G o];cases U:YD all f o with
   | false =>
    rw[U] at h1;exact Qfl G f0 H k _ _ _ _ (E.put (G o S) _) (next _) h1
   | true =>
    rw[U] at h1;exact .inl (Qll E (λv w' hx=>Qfl G f0 H k _ _ _ _ (E.put (G o S) v) (next v) hx.2) h1)
theorem UL (f:Fr) {x y:Option Nat}(v u:Value) (h:∀d,x=some d→y≠some d):Q4 (Q4 f x v) y u=Q4 (Q4 f y u) x v:=by
 cases x with
 | none=>rfl
 | some d =>
  cases y with
  | none=>rfl
  | some e =>
   have E:d≠e:=λhe=>h d O (he ▸ O);funext t;simp only[Q4];by_cases h1:t=d
   ·subst h1;rw[JP _ _ E,XH,XH]
   by_cases h2:t=e
   ·subst h2;rw[XH,JP _ _ h1,XH]
   rw[JP _ _ h2,JP _ _ h1,JP _ _ h1,JP _ _ h2]
theorem Qkw {f:Fr}{dst:Option Nat}{v:Value}{x:Operand}(h:∀d,dst=some d→x≠.tmp d):ev (Q4 f dst v) x=ev f x:=by
 cases dst with
 | none=>rfl
 | some d =>
  cases x with
  | tmp t=>exact JP _ _ (λe=>h d O (by rw[e]))
  | _=>rfl
theorem JJ {o:Oper}(hs:∀cs b,o.op≠.select cs b) (f:Fr) (dst:Option Nat) (v:Value) (h:∀d,dst=some d→d∉o.looksAt all.toArray) :
  execOp (ev (Q4 f dst v)) o=execOp (ev f) o :=
 execOp_congr o hs λx hx=>Qkw λd hd E=>h d hd (by
  subst E;exact LE _ (Mx.2 ⟨.tmp d,by simpa using hx,rfl⟩))
theorem Uh (o:Oper) (f:Fr) (dst:Option Nat) (v:Value) (h:∀d,dst=some d→d∉o.looksAt all.toArray):YD all (Q4 f dst v) o=YD all f o:=by
 unfold YD;cases E:o.guard with
 | none=>rfl
 | some gw =>
  obtain ⟨g,want⟩:=gw;simp only[];cases ht:(all[g]?).bind (·.dst) with
  | none=>rfl
  | some t =>
   have G:dst≠some t:=λe=>h t e (by simp[Oper.looksAt,E,ht]);simp only[];rw[YL G]
def Qfp (P:Program) (all:List Oper) (D:World→Prop) (o:Oper) (v:Value) (f:Fr):Prop :=
 (YD all f o=true∧∀w,D w→(execOp (ev f) o).run P w=.ok (.value v) w)∨(YD all f o=false∧v=undef)
theorem Qka {i j:Nat}{oi oj:Oper}(hi:all[i]?=some oi) (hj:all[j]?=some oj) (E:ju oi=true) (G:j≠i) (hl:Ud all j=true) (H:∀e∈oj.after,Region.binds .any e=true→e.on≠i):False:=by
 simp only[Ud,hj,List.all_eq_true,List.mem_range] at hl;have J:i<all.length:=(MJ.1 hi).1;have h1:=hl i J;simp only[hi,E,Bool.not_true,Bool.false_or,Bool.or_eq_true,beq_iff_eq,Array.any_eq_true',Bool.and_eq_true] at h1;rcases h1 with h1 | ⟨e,he,hb,S⟩
 ·exact G h1.symm
 exact H e he hb S
theorem Jt {i:Nat}{oi:Oper}{v:Value}{D:World→Prop}(hi:all[i]?=some oi) (hD:∀w,(ju oi=true→C w)→D w) (Y:∀(j:Nat) (o:Oper) cs b,all[j]?=some o→o.op≠.select cs b) :
  ∀(fuel:Nat) (ls:Array Bool) (f:Fr) (w:World),(ju oi=true→C w) →
   (∀j oj,all[j]?=some oj→j≠i→ls.getD j true=false→(∀e∈oj.after,Region.binds .any e=true→e.on≠i)→oi.apart all.toArray oj=true) →
   i∈Region.ready .any all.toArray ls→Qfp P all D oi v f →
   XA P all C K fuel (ls.setIfInBounds i true) (Q4 f oi.dst v) w→XA P all C K (fuel+1) ls f w:=by
 have Z:∀(fuel:Nat) (ls:Array Bool) (f:Fr) (w:World),(ju oi=true→C w)→Qfp P all D oi v f→XA P all C K fuel (ls.setIfInBounds i true) (Q4 f oi.dst v) w→∀o,all[i]?=some o →
   bif YD all f o then XO P o f w (λf' w'=>(Ud all i=true∨w'=w∨C w')∧XA P all C K fuel (ls.setIfInBounds i true) f' w') else XA P all C K fuel (ls.setIfInBounds i true) (Q4 f o.dst undef) w:=by
  intro fuel ls f w J hy H o ho;rw[hi] at ho;cases ho
  rcases hy with ⟨U,hv⟩ | ⟨U,rfl⟩
  ·rw[U];simp only[cond_true,XO,hv w (hD w J),upF];exact ⟨.inr (.inl La),H⟩
  rw[U];exact H
 intro fuel;induction fuel with
 | zero =>
  intro ls f w J _ S hy H;refine ⟨λh=>(by rw[h] at S;cases S),λj hj=>?_⟩;by_cases G:j=i
  ·subst G;exact Z _ _ _ _ J hy H
  have:=ready_mono hj G;rw[H.1] at this;cases this
 | succ fuel ih =>
  intro ls f w J ha S hy H;refine ⟨λh=>(by rw[h] at S;cases S),λj hj=>?_⟩;by_cases G:j=i
  ·subst G;exact Z _ _ _ _ J hy H
  intro oj V;have h1:=H.2 j (ready_mono hj G) oj V;obtain ⟨hc,E,hf,hq⟩:=mem_ready.1 hj;have hs:E=oj:=by rw[Mc,V] at hf;exact (Option.some.inj hf).symm
  subst hs;have hh:∀e∈E.after,Region.binds .any e=true→e.on≠i:=λe he hb heq=>by
   have h1:=hq e he hb;have h0:=(mem_ready.1 S).1;rw[heq] at h1;rcases Nz i ls.size with h' | h'
   ·simp[h'] at h0 h1;rw[h0] at h1;cases h1
   simp[Array.getElem?_eq_none h'] at h1
  obtain ⟨a1,a2,a3⟩:=Oper.apart_spec (ha j E V G hc hh);have ht:∀k ok,all[k]?=some ok→k≠i→(ls.setIfInBounds j true).getD k true=false →
    (∀e∈ok.after,Region.binds .any e=true→e.on≠i)→oi.apart all.toArray ok=true:=λk ok hk hu hm hw=>by
   refine ha k ok hk hu ?_ hw;by_cases hn:j=k
   ·subst hn;exact hc
   rw[getD_set_ne true hn] at hm;exact hm
  have keep:∀u,Qfp P all D oi v (Q4 f E.dst u):=λu=>by
   unfold Qfp at *;rw[Uh oi f E.dst u a3,JJ (all:=all) (Y i oi · · hi) f E.dst u a3];exact hy
  have dOf:∀w',(Ud all j=true∨w'=w∨C w')→(ju oi=true→C w'):=λw' hl hp=>by
   rcases hl with hl | rfl | hl
   ·exact (Qka hi V hp G hl hh).elim
   ·exact J hp
   exact hl
  have go:∀u w',(ju oi=true→C w')→XA P all C K fuel ((ls.setIfInBounds i true).setIfInBounds j true) (Q4 (Q4 f oi.dst v) E.dst u) w' →
    XA P all C K (fuel+1) (ls.setIfInBounds j true) (Q4 f E.dst u) w':=λu w' hz hx=>by
   refine ih _ _ _ hz ht (ready_mono S (Ne.symm G)) (keep u) ?_;rw[Array.setIfInBounds_comm _ _ G,←UL f v u a2];exact hx
  rw[Uh E f oi.dst v a1] at h1;cases U:YD all f E with
  | false=>rw[U] at h1;exact go _ _ J h1
  | true =>
   rw[U] at h1;simp only[cond_true] at h1 ⊢;unfold XO at *;rw[JJ (all:=all) (Y j E · · V) f oi.dst v a1] at h1;generalize (execOp (ev f) E).run P w=r at *;cases r with
   | ok nx w' =>
    cases nx <;> simp only[upF] at h1 ⊢
    case value u=>exact ⟨h1.1,go _ _ (dOf _ h1.1) h1.2⟩
    case skip=>exact ⟨h1.1,go _ _ (dOf _ h1.1) h1.2⟩
    case enter g args =>
     refine Calls.mono h1 λe h2 he=>?_;cases e with
     | returned u=>exact ⟨he.1,go _ _ (dOf _ he.1) he.2⟩
     | panicked c=>exact he.elim
     | outgrown=>exact he.elim
   | halt x w'=>exact h1.elim
def Xw (all:Array Oper):List (Nat×Bool)→Array Bool→Bool
 | [],ls=>(Region.ready .any all ls).isEmpty
 | (i,true)::pl,ls=>(Region.ready .any all ls).contains i && Region.free .any all ls i && Xw all pl (ls.setIfInBounds i true)
 | (i,false)::pl,ls=>Region.ready .any all ls == [i] && Xw all pl (ls.setIfInBounds i true)
def Qax (all:List Oper) (pl:List (Nat×Bool)):Bool:=Region.noSelect all.toArray && pl.length == all.length && Xw all.toArray pl (Array.replicate all.length false)
def Q6:List Oper→Nat→Oper
 | [],_=>default
 | o::_,0=>o
 | _::l,i+1=>Q6 l i
theorem ZD {l:List Oper}{i:Nat}{o:Oper}(h:l[i]?=some o):Q6 l i=o:=by
 induction l generalizing i with
 | nil=>simp at h
 | cons a l ih=>cases i with
  | zero=>simp at h;subst h;rfl
  | succ i=>exact ih (by simpa using h)
def XP (P:Program) (all:List Oper) (C:World→Prop) (K:Fr→World→Prop):List (Nat×Bool)→Fr→World→Prop
 | [],f,w=>K f w
 | (i,q)::pl,f,w=>bif YD all f (Q6 all i) then
    (bif q then ∃v,(∀w',(ju (Q6 all i)=true→C w')→(execOp (ev f) (Q6 all i)).run P w'=.ok (.value v) w')∧XP P all C K pl (Q4 f (Q6 all i).dst v) w
     else XO P (Q6 all i) f w λE w'=>(Ud all i=true∨w'=w∨C w')∧XP P all C K pl E w')
   else XP P all C K pl (Q4 f (Q6 all i).dst undef) w
def QcG (all:List Oper) (ls:Array Bool):Prop:=∀i o,all[i]?=some o→ju o=true→ls.getD i false=true
theorem QcG.set {ls:Array Bool}(h:QcG all ls) (i:Nat):QcG all (ls.setIfInBounds i true):=λj o E G=>getD_set_true (h j o E G)
theorem ZO (hs:Region.noSelect all.toArray=true):∀(pl:List (Nat×Bool)) (ls:Array Bool) (f:Fr) (w:World),ls.size=all.length→(C w∨QcG all ls)→Xw all.toArray pl ls=true→XP P all C K pl f w →
  XA P all C K pl.length ls f w
 | [],ls,f,w,_,_,hp,h=>⟨by simpa[Xw] using hp,h⟩
 | (i,true)::pl,ls,f,w,S,U,hp,h=>by
  simp only[Xw,Bool.and_eq_true] at hp;obtain ⟨⟨H,hf⟩,V⟩:=hp;simp only[XP] at h;have J:i∈Region.ready .any all.toArray ls:=by simpa using H
  cases E:all[i]? with
  | none =>
   exfalso;obtain ⟨_,o,hz,_⟩:=mem_ready.1 J;simp[E] at hz
  | some o =>
   rw[ZD E] at h;have hm:∀(j:Nat) (o:Oper) cs b,all[j]?=some o→o.op≠.select cs b:=λj o cs b hj=>Region.noSelect_spec hs j o cs b (by simpa using hj);have hn:=λj oj hj=>Region.free_spec (ops:=all.toArray) (md:=.any) (i:=i) (oi:=o) (listed:=ls) (by simpa using E) hf j oj (by simpa using hj);have hq:=(mem_ready.1 J).1;have ht:ju o=true→C w:=λZ=>U.resolve_right (λha=>by
    have h1:=ha i o E Z;have hh:i<ls.size:=by rw[S];exact (MJ.1 E).1
    simp[hh] at hq h1;rw[hq] at h1;cases h1)
   have hu:C w∨QcG all (ls.setIfInBounds i true):=U.imp id (λh=>h.set i);have Y:(ls.setIfInBounds i true).size=all.length:=by simpa using S
   cases G:YD all f o with
   | false =>
    rw[G] at h;exact Jt (v:=undef) (D:=λw=>ju o=true→C w) E (λ_ h=>h) hm pl.length ls f w ht hn J (.inr ⟨G,O⟩) (ZO hs pl _ _ _ Y hu V h)
   | true =>
    rw[G] at h;simp only[cond_true] at h;obtain ⟨v,hv,hx⟩:=h;exact Jt (v:=v) (D:=λw=>ju o=true→C w) E (λ_ h=>h) hm pl.length ls f w ht hn J (.inl ⟨G,hv⟩) (ZO hs pl _ _ _ Y hu V hx)
 | (i,false)::pl,ls,f,w,S,U,hp,h=>by
  simp only[Xw,Bool.and_eq_true,beq_iff_eq] at hp;obtain ⟨H,V⟩:=hp;refine ⟨λh0=>(by rw[h0] at H;cases H),?_⟩;have J:i∈Region.ready .any all.toArray ls:=by rw[H];simp
  rw[H];intro j hj o E;have:j=i:=by simpa using hj
  subst this;have Y:(ls.setIfInBounds j true).size=all.length:=by simpa using S
  simp only[XP,ZD E] at h;cases G:YD all f o with
  | false=>rw[G] at h;exact ZO hs pl _ _ _ Y (U.imp id (λh=>h.set j)) V h
  | true =>
   rw[G] at h;simp only[cond_true,cond_false] at h ⊢;refine h.mono λv w' hx=>⟨hx.1,ZO hs pl _ _ _ Y ?_ V hx.2⟩;rcases hx.1 with hl | rfl | hc
   ·right;intro k ok hk Z;by_cases hw:k=j
    ·subst hw;have hh:k<ls.size:=by rw[S];exact (MJ.1 hk).1
     simp[hh]
    simp only[Ud,E,List.all_eq_true,List.mem_range] at hl;have h1:=hl k (MJ.1 hk).1;simp only[hk,Z,Bool.not_true,Bool.false_or,Bool.or_eq_true,beq_iff_eq,Array.any_eq_true',Bool.and_eq_true] at h1;rcases h1 with h1 | ⟨e,he,hb,h2⟩
    ·exact absurd h1 hw
    obtain ⟨_,o',hy,ha⟩:=mem_ready.1 J;have:o'=o:=by rw[Mc,E] at hy;exact (Option.some.inj hy).symm
    subst this;have:=ha e he hb;rw[h2] at this;exact getD_set_true this
   ·exact U.imp id (λh=>h.set j)
   exact .inl hc
theorem QV {Q:Exit→Fr→World→Prop}{id:Nat}(C:World→Prop) (pl:List (Nat×Bool)) (hm:P.follows .mixedOrders=true) (G:JL n all=true) (hp:Qax all pl=true)
  (H:C { w with drawn:=w.drawn+1 }) (h:XP P all C (λf w=>Q .normal f w) pl f { w with drawn:=w.drawn+1 }):W P n (.region id all.toArray true) Q f w:=by
 intro a ha;simp only[Qax,Bool.and_eq_true,beq_iff_eq] at hp;obtain ⟨⟨hs,hl⟩,hp⟩:=hp;refine wp_region_any hm ?_;have h1:=ZO hs pl _ _ _ (by simp) (.inl H) hp h;rw[hl] at h1;have h2:=Qfl (n:=n) (Q:=λe J w'=>∃E,Rel n J E∧(∀t,ZU all t=false→E t=f t)∧Q e E w') (Y4 G) f
  (λa E w S hk hq=>⟨E,S,hk,hq⟩) _ _ a f _ ha (λ_ _=>O) h1
 simpa[wrs] using h2
theorem VR {Q:Exit→Fr→World→Prop}{id:Nat}(C:World→Prop) (hm:P.follows .mixedOrders=true) (G:JL n all=true)
  (h:XA P all C (λf w=>Q .normal f w) all.length (Array.replicate all.length false) f { w with drawn:=w.drawn+1 }):W P n (.region id all.toArray true) Q f w:=by
 intro a ha;refine wp_region_any hm ?_;have h2:=Qfl (n:=n) (Q:=λe H w'=>∃E,Rel n H E∧(∀t,ZU all t=false→E t=f t)∧Q e E w') (Y4 G) f
  (λa E w J hk hq=>⟨E,J,hk,hq⟩) _ _ a f _ ha (λ_ _=>O) h
 simpa[wrs] using h2
end
theorem Vs {P:Program}{all:List Oper}{C:World→Prop}{K:Fr→World→Prop}{k:Nat}{ls:Array Bool}{f:Fr}{w:World}(E:Region.ready .any all.toArray ls=[]→K f w)
  (h:∀i∈Region.ready .any all.toArray ls,∀o,all[i]?=some o →
   bif YD all f o then XO P o f w (λG w'=>(Ud all i=true∨w'=w∨C w')∧XA P all C K k (ls.setIfInBounds i true) G w') else XA P all C K k (ls.setIfInBounds i true) (Q4 f o.dst undef) w):XA P all C K (k+1) ls f w:=⟨E,h⟩
attribute [irreducible] W XL XP XO XA
class Sl (P:Program) (t:Nat) (e sz bys:outParam Nat) (z:outParam Value):Prop where
 u:P.underlying t=some (.slice e)
 i:(P.info? e).map (λi=>(i.zero,i.size,i.bytes))=some (some z,sz,bys)
 zs:z.cells.size=sz
 pos:0<sz
def Qns (P:Program) (t j:Nat):Option Nat:=match P.underlying t with
 | some (.struct fs)=>match fs[j]? with
  | some fd=>match P.info? fd.type with
   | some i=>if i.size=0 then none else some fd.offset
   | none=>none
  | none=>none
 | _=>none
class Zd (P:Program) (t j:Nat) (off:outParam Nat):Prop where
 h:Qns P t j=some off
class Jk (P:Program) (t:Nat):Prop where
 u:∃d,P.underlying t=some d∧(match d with | .struct _ | .array ..=>false | _=>true)=true
 i:(P.info? t).map (·.size)=some 1
class Ag (P:Program) (t:Nat) (sz:outParam Nat):Prop where
 u:∃d,P.underlying t=some d∧(match d with | .struct _ | .array ..=>true | _=>false)=true
 i:(P.info? t).map (·.size)=some sz
class Ze (P:Program) (t:Nat) (z:outParam Value):Prop where
 i:(P.info? t).map (·.zero)=some (some z)
class Fu (P:Program) (g:Nat) (fn:outParam Func):Prop where
 f:P.funcs[g]?=some fn
 b:fn.body.isNone=false
 nm:(fn.name == "runtime.NumGoroutine")=false
section
variable {P:Program} {ops:List Oper} {K:Fr→World→Prop} {f:Fr} {w:World}
theorem xe (h:K f w):XL P ops K [] f w:=by simp only[XL];exact h
theorem xl {o:Oper}{l:List Oper}(E:YD ops f o=true) (h:XO P o f w (XL P ops K l)):XL P ops K (o::l) f w:=by
 simp only[XL,E,cond_true];exact h
theorem xs {o:Oper}{l:List Oper}(E:YD ops f o=false) (h:XL P ops K l (Q4 f o.dst undef) w):XL P ops K (o::l) f w:=by
 simp only[XL,E,cond_false];exact h
theorem xv {o:Oper}{v:Value}{w':World}(E:(execOp (ev f) o).run P w=.ok (.value v) w') (h:K (Q4 f o.dst v) w'):XO P o f w K:=by
 simp only[XO,E,upF];exact h
theorem xk {o:Oper}{w':World}(E:(execOp (ev f) o).run P w=.ok .skip w') (h:K (Q4 f o.dst undef) w'):XO P o f w K:=by
 simp only[XO,E,upF];exact h
theorem x {o:Oper}{l:List Oper}{v:Value}(E:(execOp (ev f) o).run P w=.ok (.value v) w) (h:XL P ops K l (Q4 f o.dst v) w) (G:YD ops f o=true:=by rfl):XL P ops K (o::l) f w :=
 xl G (xv E h)
theorem xb {o:Oper}{l:List Oper}{q:Prop}[Decidable q] (E:(execOp (ev f) o).run P w=.ok (.value (.bool (decide q))) w) (ht:q→XL P ops K l (Q4 f o.dst (.bool true)) w) (H:¬q→XL P ops K l (Q4 f o.dst (.bool false)) w)
  (G:YD ops f o=true:=by rfl):XL P ops K (o::l) f w:=by
 by_cases h:q
 ·rw[decide_eq_true h] at E;exact x E (ht h) G
 rw[decide_eq_false h] at E;exact x E (H h) G
variable {C:World→Prop}
theorem pe (h:K f w):XP P ops C K [] f w:=by simp only[XP];exact h
theorem pq {i:Nat}{pl:List (Nat×Bool)}{v:Value}(E:∀w',C w'→(execOp (ev f) (Q6 ops i)).run P w'=.ok (.value v) w') (h:XP P ops C K pl (Q4 f (Q6 ops i).dst v) w)
  (hd:ju (Q6 ops i)=true:=by rfl) (G:YD ops f (Q6 ops i)=true:=by rfl):XP P ops C K ((i,true)::pl) f w:=by
 simp only[XP,G,cond_true];exact ⟨v,λw' hc=>E w' (hc hd),h⟩
theorem p {i:Nat}{pl:List (Nat×Bool)}{v:Value}(E:∀w',(execOp (ev f) (Q6 ops i)).run P w'=.ok (.value v) w') (h:XP P ops C K pl (Q4 f (Q6 ops i).dst v) w)
  (G:YD ops f (Q6 ops i)=true:=by rfl):XP P ops C K ((i,true)::pl) f w:=by
 simp only[XP,G,cond_true];exact ⟨v,λw' _=>E w',h⟩
theorem ps {i:Nat}{q:Bool}{pl:List (Nat×Bool)}(h:XP P ops C K pl (Q4 f (Q6 ops i).dst undef) w)
  (E:YD ops f (Q6 ops i)=false:=by rfl):XP P ops C K ((i,q)::pl) f w:=by
 simp only[XP,E,cond_false];exact h
theorem pb {i:Nat}{pl:List (Nat×Bool)}{q:Prop}[Decidable q] (E:∀w',(execOp (ev f) (Q6 ops i)).run P w'=.ok (.value (.bool (decide q))) w') (ht:q→XP P ops C K pl (Q4 f (Q6 ops i).dst (.bool true)) w) (H:¬q→XP P ops C K pl (Q4 f (Q6 ops i).dst (.bool false)) w)
  (G:YD ops f (Q6 ops i)=true:=by rfl):XP P ops C K ((i,true)::pl) f w:=by
 by_cases h:q
 ·rw[decide_eq_true h] at E;exact p E (ht h) G
 rw[decide_eq_false h] at E;exact p E (H h) G
theorem pk {i:Nat}{pl:List (Nat×Bool)}(h:XO P (Q6 ops i) f w λE w'=>C w'∧XP P ops C K pl E w')
  (G:YD ops f (Q6 ops i)=true:=by rfl):XP P ops C K ((i,false)::pl) f w:=by
 simp only[XP,G,cond_true,cond_false];exact h.mono λ_ _ hx=>⟨.inr (.inr hx.1),hx.2⟩
theorem pkl {i:Nat}{pl:List (Nat×Bool)}(h:XO P (Q6 ops i) f w λE w'=>XP P ops C K pl E w')
  (hl:Ud ops i=true:=by rfl) (G:YD ops f (Q6 ops i)=true:=by rfl):XP P ops C K ((i,false)::pl) f w:=by
 simp only[XP,G,cond_true,cond_false];exact h.mono λ_ _ hx=>⟨.inl hl,hx⟩
end
section
variable {P:Program} {f:Fr} {w:World} {d:Option Nat} {ty:Nat} {ps:String} {af:Array Edge} {gd:Option (Nat×Bool)}
theorem Ql {x:Operand}:(execOp (ev f) ⟨d,.move x,ty,ps,af,gd⟩).run P w=.ok (.value (ev f x)) w:=by simp[execOp]
theorem Qe {x:Operand}:(execOp (ev f) ⟨d,.assign x,ty,ps,af,gd⟩).run P w=.ok (.value (ev f x)) w:=by simp[execOp]
theorem Qp {c a b:Operand}{t:Bool}(h:ev f c=.bool t):(execOp (ev f) ⟨d,.pick c a b,ty,ps,af,gd⟩).run P w=.ok (.value (bif t then ev f a else ev f b)) w:=by
 cases t <;> simp[execOp,h,asBool]
theorem Qk {x:Operand}{j:Nat}{vs:LV}{v:Value}(h:ev f x=.tuple vs.toArray) (hj:vs[j]?=some v):(execOp (ev f) ⟨d,.extract x j,ty,ps,af,gd⟩).run P w=.ok (.value v) w:=by
 simp[execOp,h,Instr.extract,hj]
theorem Qca {op:BinOp}{t:TypeId}{x y:Operand}{k k':IntKind}{a b:Int}:(eqGuard op t x y (.int k a) (.int k' b)).run P w=.ok () w:=by
 simp only[eqGuard];split <;> simp
theorem JW {op:BinOp}{t E:Nat}{x y:Operand}{k k':IntKind}{a b:Int}{v:Value}(hx:ev f x=.int k a) (hy:ev f y=.int k' b)
  (h:(binOp op t (.int k a) (.int k' b)).run P w=.ok v w):(execOp (ev f) ⟨d,.binOp op t x y E,ty,ps,af,gd⟩).run P w=.ok (.value v) w:=by
 simp[execOp,hx,hy,Qca,h]
def inK (k:IntKind) (n:Int):Prop:=match k with
 | .i64=>-9223372036854775808≤n∧n≤9223372036854775807
 | .u8=>0≤n∧n≤255
 | .u16=>0≤n∧n≤65535
 | .u32=>0≤n∧n≤4294967295
 | .u64=>0≤n∧n≤18446744073709551615
 | .i32=>-2147483648≤n∧n≤2147483647
 | _=>False
theorem Ve {k:IntKind}{n:Int}(h:inK k n):k.wrap n=n:=by
 cases k <;> simp only[inK] at h <;> simp only[IntKind.wrap,IntKind.bits,IntKind.signed] <;> first | exact h.elim | (simp;omega)
theorem X1 {t E:Nat}{x y:Operand}{k:IntKind}{a b:Int}(hx:ev f x=.int k a) (hy:ev f y=.int k b) (h:inK k (a+b)) :
  (execOp (ev f) ⟨d,.binOp .add t x y E,ty,ps,af,gd⟩).run P w=.ok (.value (.int k (a+b))) w:=JW hx hy (by simp[binOp,Op.intArith,Ve h])
theorem JF {t E:Nat}{x y:Operand}{k:IntKind}{a b:Int}(hx:ev f x=.int k a) (hy:ev f y=.int k b) (h:inK k (a - b)) :
  (execOp (ev f) ⟨d,.binOp .sub t x y E,ty,ps,af,gd⟩).run P w=.ok (.value (.int k (a - b))) w:=JW hx hy (by simp[binOp,Op.intArith,Ve h])
theorem Qna {t E:Nat}{x y:Operand}{k:IntKind}{a b:Int}(hx:ev f x=.int k a) (hy:ev f y=.int k b) (h:inK k (a*b)) :
  (execOp (ev f) ⟨d,.binOp .mul t x y E,ty,ps,af,gd⟩).run P w=.ok (.value (.int k (a*b))) w:=JW hx hy (by simp[binOp,Op.intArith,Ve h])
theorem QD {t E:Nat}{x y:Operand}{k:IntKind}{a b:Int}(hx:ev f x=.int k a) (hy:ev f y=.int k b) :
  (execOp (ev f) ⟨d,.binOp .lss t x y E,ty,ps,af,gd⟩).run P w=.ok (.value (.bool (decide (a<b)))) w:=JW hx hy (by simp[binOp,Op.intCmp])
theorem JH {t E:Nat}{x y:Operand}{k:IntKind}{a b:Int}(hx:ev f x=.int k a) (hy:ev f y=.int k b) :
  (execOp (ev f) ⟨d,.binOp .leq t x y E,ty,ps,af,gd⟩).run P w=.ok (.value (.bool (decide (a≤b)))) w:=JW hx hy (by simp[binOp,Op.intCmp])
theorem ZL {t E:Nat}{x y:Operand}{k:IntKind}{a b:Int}(hx:ev f x=.int k a) (hy:ev f y=.int k b) :
  (execOp (ev f) ⟨d,.binOp .gtr t x y E,ty,ps,af,gd⟩).run P w=.ok (.value (.bool (decide (b<a)))) w:=JW hx hy (by simp[binOp,Op.intCmp])
theorem Yg {t E:Nat}{x y:Operand}{k:IntKind}{a b:Int}(hx:ev f x=.int k a) (hy:ev f y=.int k b) :
  (execOp (ev f) ⟨d,.binOp .geq t x y E,ty,ps,af,gd⟩).run P w=.ok (.value (.bool (decide (b≤a)))) w:=JW hx hy (by simp[binOp,Op.intCmp])
theorem Zf {t E:Nat}{x y:Operand}{k:IntKind}{a b:Int}(hx:ev f x=.int k a) (hy:ev f y=.int k b) :
  (execOp (ev f) ⟨d,.binOp .eql t x y E,ty,ps,af,gd⟩).run P w=.ok (.value (.bool (decide (a=b)))) w :=
 JW hx hy (by simp[binOp,Op.intCmp];by_cases h:a=b <;> simp[h])
theorem Zj {t E:Nat}{x y:Operand}{k:IntKind}{a b:Int}(hx:ev f x=.int k a) (hy:ev f y=.int k b) :
  (execOp (ev f) ⟨d,.binOp .neq t x y E,ty,ps,af,gd⟩).run P w=.ok (.value (.bool (decide (¬a=b)))) w :=
 JW hx hy (by simp[binOp,Op.intCmp];by_cases h:a=b <;> simp[h])
theorem Zh {t:Nat}{x:Operand}{b:Bool}(hx:ev f x=.bool b):(execOp (ev f) ⟨d,.unOp .not t x,ty,ps,af,gd⟩).run P w=.ok (.value (.bool (!b))) w:=by
 simp[execOp,hx,Op.unary]
theorem jv {x:Operand}{t e sz bys:Nat}{z:Value}[h:Sl P t e sz bys z] {a:Option Addr}{n c:Nat}(hx:ev f x=.slice a n c) :
  (execOp (ev f) ⟨d,.call ⟨.builtin .len,#[x],#[t]⟩,ty,ps,af,gd⟩).run P w=.ok (.value (.int .i64 n)) w:=by
 simp[execOp,resolve,invoke,builtin,Builtin.len_,hx,run_underlying h.u,goInt]
theorem Sl.info {t e sz bys:Nat}{z:Value}(h:Sl P t e sz bys z):∃i,P.info? e=some i∧i.zero=some z∧i.size=sz∧i.bytes=bys:=by
 have:=h.i;cases hi:P.info? e with
 | none=>simp[hi] at this
 | some i=>simp[hi] at this;exact ⟨i,O,this.1,this.2.1,this.2.2⟩
theorem X6 {x y:Operand}{t e sz bys:Nat}{z:Value}[h:Sl P t e sz bys z] {a:Addr}{n c:Nat}{k:IntKind}{i:Int}(hx:ev f x=.slice (some a) n c) (hy:ev f y=.int k i) (E:0≤i) (h1:i<n) :
  (execOp (ev f) ⟨d,.indexAddr t x y,ty,ps,af,gd⟩).run P w=.ok (.value (.pointer (some (a.add (i.toNat*sz))))) w:=by
 obtain ⟨ii,hi,_,hs,_⟩:=Sl.info h;simp[execOp,hx,hy,Instr.indexAt,asIntOf,run_underlying h.u,E,h1,sizeOf,typeInfo,hi,hs]
theorem jI {t:Nat}[h:Jk P t]:(isAgg t).run P w=.ok false w:=by
 obtain ⟨d,hu,hd⟩:=h.u;unfold isAgg;cases d <;> simp at hd <;> simp[run_underlying hu]
theorem QhR {t sz:Nat}[h:Ag P t sz]:(isAgg t).run P w=.ok true w:=by
 obtain ⟨d,hu,hd⟩:=h.u;unfold isAgg;cases d <;> simp at hd <;> simp[run_underlying hu]
theorem Y2 {t:Nat}[h:Jk P t] {a:Addr}{v:Value}(hc:w.cell? a=some v):(loadVar t a).run P w=.ok v w:=by
 simp[loadVar,jI,hc]
theorem zn {t:Nat}[h:Jk P t]:(sizeOf t).run P w=.ok 1 w:=by
 have:=h.i;cases hi:P.info? t with
 | none=>simp[hi] at this
 | some i=>simp[hi] at this;simp[sizeOf,typeInfo,hi,this]
theorem UI {t sz:Nat}[h:Ag P t sz]:(sizeOf t).run P w=.ok sz w:=by
 have:=h.i;cases hi:P.info? t with
 | none=>simp[hi] at this
 | some i=>simp[hi] at this;simp[sizeOf,typeInfo,hi,this]
theorem JE {a:Addr}:∀(vs:LV) (i:Nat) (acc:Array Value),(∀j v,vs[j]?=some v→w.cell? (a.add (i+j))=some v)→(loadCellsFrom a i vs.length acc).run P w=.ok (acc++vs.toArray) w
 | [],_,acc,_=>by simp[loadCellsFrom]
 | v::vs,i,acc,h=>by
  have E:=h 0 v O;have ih:=JE vs (i+1) (acc.push v) (λj u hu=>by have:=h (j+1) u (by simpa using hu);simpa[Nat.add_assoc,Nat.add_comm 1 j] using this);simp only[Nat.add_zero] at E;simp[loadCellsFrom,E,ih]
theorem QF {t sz:Nat}[h:Ag P t sz] {a:Addr}{vs:LV}(hl:vs.length=sz) (hc:∀j v,vs[j]?=some v→w.cell? (a.add j)=some v):(loadVar t a).run P w=.ok (.agg vs.toArray) w:=by
 have:=JE (P:=P) (w:=w) (a:=a) vs 0 #[] (by simpa using hc);subst hl;simp[loadVar,QhR,UI (sz:=vs.length),loadCells,this]
theorem Qg5 {t:Nat}[h:Jk P t] {x:Operand}{a:Addr}{v:Value}(hx:ev f x=.pointer (some a)) (hc:w.cell? a=some v) :
  (execOp (ev f) ⟨d,.load t x,ty,ps,af,gd⟩).run P w=.ok (.value v) w:=by
 simp[execOp,hx,Instr.loadAt,Instr.sureAddr,Y2 hc]
theorem qR {t sz:Nat}[h:Ag P t sz] {x:Operand}{a:Addr}{vs:LV}(hx:ev f x=.pointer (some a)) (hl:vs.length=sz) (hc:∀j v,vs[j]?=some v→w.cell? (a.add j)=some v) :
  (execOp (ev f) ⟨d,.load t x,ty,ps,af,gd⟩).run P w=.ok (.value (.agg vs.toArray)) w:=by
 simp[execOp,hx,Instr.loadAt,Instr.sureAddr,QF hl hc]
theorem Zn {t j off:Nat}[h:Zd P t j off] {x:Operand}{a:Addr}(hx:ev f x=.pointer (some a)) :
  (execOp (ev f) ⟨d,.fieldAddr t x j,ty,ps,af,gd⟩).run P w=.ok (.value (.pointer (some (a.add off)))) w:=by
 have E:=h.h;unfold Qns at E;cases hu:P.underlying t with
 | none=>simp[hu] at E
 | some dd =>
  cases dd <;> simp[hu] at E
  rename_i fs;cases G:fs[j]? with
  | none=>simp[G] at E
  | some fd =>
   cases hi:P.info? fd.type with
   | none=>simp[G,hi] at E
   | some i =>
    simp[G,hi] at E;simp[execOp,hx,Instr.fieldAt,run_underlying hu,G,Instr.sureAddr,fieldPlace,sizeOf,typeInfo,hi,E]
theorem Qr {x:Operand}{a:Addr}(hx:ev f x=.pointer (some a)):(execOp (ev f) ⟨d,.nilCheck x,ty,ps,af,gd⟩).run P w=.ok (.value (.pointer (some a))) w:=by
 simp[execOp,hx]
theorem ZF {fn:Fn}{l l':List Operand}:(execOp (ev f) ⟨d,.makeFunc fn l.toArray l'.toArray,ty,ps,af,gd⟩).run P w=.ok (.value (.func fn (l.map (ev f)).toArray (l'.map (ev f)).toArray)) w:=by
 simp[execOp,Instr.makeFunc]
end
def QM (P:Program) (g:Nat) (args:LV) (w:World) (R:Value→World→Prop):Prop :=
 Calls P g args.toArray w λe w'=>match e with | .returned v=>R v w' | _=>False
theorem QM.mono {P:Program}{g:Nat}{args:LV}{w:World}{R R':Value→World→Prop}(h:QM P g args w R) (E:∀v w',R v w'→R' v w'):QM P g args w R' :=
 Calls.mono h λe w' he=>by cases e <;> first | exact E _ _ he | exact he
theorem xc {P:Program}{f:Fr}{w:World}{K:Fr→World→Prop}{d:Option Nat}{ty:Nat}{ps:String}{af:Array Edge}{gd:Option (Nat×Bool)}{x:Operand}{l:List Operand}{at_:Array Nat}
  {g:Nat} {fn:Func} {first capt:LV} [hF:Fu P g fn] (hx:ev f x=.func (.func g) first.toArray capt.toArray) (h:QM P g (first++l.map (ev f)++capt) w λv w'=>K (Q4 f d v) w') :
  XO P ⟨d,.call ⟨.value x,l.toArray,at_⟩,ty,ps,af,gd⟩ f w K:=by
 have E:(execOp (ev f) ⟨d,.call ⟨.value x,l.toArray,at_⟩,ty,ps,af,gd⟩).run P w=.ok (.enter g (first++l.map (ev f)++capt).toArray) w:=by
  have h1:¬fn.name = "runtime.NumGoroutine" := by simpa using hF.nm
  have h2:¬fn.body=none:=by have:=hF.b;intro e;rw[e] at this;cases this
  simp[execOp,resolve,hx,Deferred.ofValue,invoke,callFunc,hF.f,h1,h2]
 simp only[XO,E,upF];exact h
theorem xf {P:Program}{f:Fr}{w:World}{K:Fr→World→Prop}{d:Option Nat}{ty:Nat}{ps:String}{af:Array Edge}{gd:Option (Nat×Bool)}{l:List Operand}{at_:Array Nat}
  {g:Nat} {fn:Func} [hF:Fu P g fn] (h:QM P g (l.map (ev f)) w λv w'=>K (Q4 f d v) w') :
  XO P ⟨d,.call ⟨.value (.func g),l.toArray,at_⟩,ty,ps,af,gd⟩ f w K :=
 xc (first:=[]) (capt:=[]) (g:=g) (fn:=fn) O (by simpa using h)
def ent:LV→Fr
 | [],_=>undef
 | v::_,0=>v
 | _::l,t+1=>ent l t
def Uz (P:Program) (f:Fr) (w:World):List ResultVar→LV→Prop
 | [],[]=>True
 | .tmp t::rs,v::vs=>f t=v∧Uz P f w rs vs
 | .cell a t::rs,v::vs=>(∃ad,f a=.pointer (some ad)∧(loadVar t ad).run P w=.ok v w)∧Uz P f w rs vs
 | _,_=>False
def tup:LV→Value
 | [v]=>v
 | vs=>.tuple vs.toArray
def rq (P:Program) (rs:List ResultVar) (R:Value→World→Prop):Exit→Fr→World→Prop
 | .ret,f,w=>∃vs,Uz P f w rs vs∧R (tup vs) w
 | .normal,f,w=>∃vs,Uz P f w rs vs∧R (tup vs) w
 | _,_,_=>False
theorem JD {P:Program}{n:Nat}{a:Act}{f:Fr}{w:World}(G:Rel n a f) (g:ResultVar→Sem Value) (H:∀t,g (.tmp t)=pure (a.tmps.getD t undef))
  (J:∀ad t,g (.cell ad t)=(do loadVar t (←asAddr (a.tmps.getD ad undef)))):∀(rs:List ResultVar) (vs:LV),Uz P f w rs vs→(rs.mapM g).run P w=.ok vs w
 | [],[],_=>by simp
 | [],_::_,h=>h.elim
 | .tmp t::rs,[],h=>h.elim
 | .cell _ _::rs,[],h=>h.elim
 | .tmp t::rs,v::vs,h=>by
  have ih:=JD G g H J rs vs h.2;have E:=G.get t;rw[h.1] at E;simp only[List.mapM_cons,Sem.run_bind,Sem.run_pure,Result.andThen_ok,ih,E,H]
 | .cell ad t::rs,v::vs,h=>by
  have ih:=JD G g H J rs vs h.2;obtain ⟨⟨S,h1,h2⟩,_⟩:=h;have E:=G.get ad;rw[h1] at E;have h5:(asAddr (.pointer (some S))).run P w=.ok S w:=rfl;simp only[List.mapM_cons,Sem.run_bind,J,E,h5,Sem.run_pure,Result.andThen_ok,h2,ih]
theorem QM.of_W {P:Program}{g:Nat}{fn:Func}{c:Code}{args:LV}{w:World}{R:Value→World→Prop}{n:Nat}{rs:List ResultVar}
  (G:P.funcs[g]?=some fn) (hb:fn.body=some c) (H:fn.ntmps=n) (J:fn.results=rs.toArray) (hl:args.length≤n)
  (h:W P n c (rq P rs R) (ent args) w):QM P g args w R:=by
 unfold W at h;refine calls_of_wp G hb (wp_mono (h _ ?_) ?_)
 ·refine ⟨by simp[H];omega,O,λt=>?_⟩;have key:∀(l:LV) (t:Nat),l[t]?.getD undef=ent l t:=by
   intro l;induction l with
   | nil=>intro t;rfl
   | cons v l ih=>intro t;cases t with | zero=>rfl | succ t=>simpa[ent] using ih t
  rw[←key];simp only[Array.getD_eq_getD_getElem?,Array.getElem?_append,List.size_toArray,List.getElem?_toArray];by_cases ht:t<args.length
  ·simp[ht]
  simp[ht,Array.getElem?_replicate];split <;> rfl
 rintro e E w' ⟨S,h1,_,h3⟩;have fin:(∃vs,Uz P S w' rs vs∧R (tup vs) w')→E.defers=[]∧∃v,(results fn E.tmps).run P w'=.ok v w'∧R v w':=by
  rintro ⟨vs,U,V⟩;refine ⟨h1.defers,tup vs,?_,V⟩;simp only[results,J,List.mapM_toArray,Sem.run_bind,Sem.run_map];rw[JD h1 _ (λ_=>rfl) (λ_ _=>rfl) rs vs U];cases vs with
  | nil=>rfl
  | cons v vs=>cases vs with | nil=>rfl | cons u us=>rfl
 cases e with
 | normal=>exact fin h3
 | ret=>exact fin h3
 | exit id=>exact h3.elim
 | goto l=>exact h3.elim
 | panic c=>exact h3.elim
 | outgrown=>exact h3.elim
attribute [irreducible] QM
theorem Zo {P:Program}{g:Nat}{fn:Func}(f:P.funcs[g]?=some fn) (b:fn.body.isNone=false:=by kernel_rfl) (nm:(fn.name == "runtime.NumGoroutine")=false:=by kernel_rfl):Fu P g fn:=⟨f,b,nm⟩
theorem Qd {P:Program}{n:Nat}{f:Fr}{w:World}{Q:Exit→Fr→World→Prop}{id:Nat}{l:List Oper}{y:Code}(h:XL P l (λf w=>thn (λf w=>W P n y Q f w) Q .normal f w) l f w) (E:JL n l=true:=by rfl):W P n (.seq (.region id l.toArray false) y) Q f w:=Qg (QcI E h)
theorem Qx {P:Program}{n:Nat}{f:Fr}{w:World}{Q:Exit→Fr→World→Prop}{id:Nat}{l:List Oper}(h:XL P l (λf w=>Q .normal f w) l f w) (E:JL n l=true:=by rfl):W P n (.region id l.toArray false) Q f w:=QcI E h
section
variable {P:Program} {ops:List Oper} {K:Fr→World→Prop} {f:Fr} {w:World} {d:Option Nat} {ty:Nat} {ps:String} {af:Array Edge} {gd:Option (Nat×Bool)} {l:List Oper} {y:Operand}
theorem Qb (h:XL P ops K l (Q4 f d (ev f y)) w) (E:YD ops f ⟨d,.move y,ty,ps,af,gd⟩=true:=by rfl):XL P ops K (⟨d,.move y,ty,ps,af,gd⟩::l) f w:=x Ql h E
theorem QN {t H:Nat}{E G:Operand}{k:IntKind}{a b:Int}(hx:ev f E=.int k a) (hy:ev f G=.int k b) (h:XL P ops K l (Q4 f d (.int k (a+b))) w) (hk:inK k (a+b):=by exact ⟨by omega,by omega⟩)
  (J:YD ops f ⟨d,.binOp .add t E G H,ty,ps,af,gd⟩=true:=by rfl):XL P ops K (⟨d,.binOp .add t E G H,ty,ps,af,gd⟩::l) f w:=x (X1 hx hy hk) h J
theorem Qf (h:K (Q4 f d (ev f y)) w) (E:YD ops f ⟨d,.assign y,ty,ps,af,gd⟩=true:=by rfl):XL P ops K [⟨d,.assign y,ty,ps,af,gd⟩] f w:=x Qe (xe h) E
end
structure Step (L:LN) (w w':World):Prop where
 os:w'.os=w.os
 tape:w'.tape=w.tape
 output:w'.output=w.output
 size:w.heap.size≤w'.heap.size
 block:∀k,k<w.heap.size→k∉L→w'.heap[k]?=w.heap[k]?
theorem Step.refl (L:LN) (w:World):Step L w w:=⟨O,O,O,Lv _,λ_ _ _=>O⟩
theorem Step.drew (L:LN) (w:World):Step L w { w with drawn:=w.drawn+1 }:=⟨O,O,O,Lv _,λ_ _ _=>O⟩
theorem Step.mono {L L':LN}{w w':World}(h:Step L w w') (E:∀b∈L,b∈L'):Step L' w w' :=
 ⟨h.os,h.tape,h.output,h.size,λk hk G=>h.block k hk (λhm=>G (E k hm))⟩
theorem Step.any {L:LN}{w w':World}(h:Step [] w w'):Step L w w':=h.mono (λ_ hb=>by cases hb)
theorem Step.then {L L':LN}{E w w':World}(h:Step L E w) (k:Step L' w w') (H:∀b∈L',b∈L∨E.heap.size≤b):Step L E w' :=
 ⟨k.os.trans h.os,k.tape.trans h.tape,k.output.trans h.output,L5 h.size k.size,λi hi G =>
  (k.block i (MC hi h.size) (λhm=>by rcases H i hm with h1 | h1;exact G h1;omega)).trans (h.block i hi G)⟩
theorem Step.trans {L:LN}{E w w':World}(h:Step L E w) (k:Step [] w w'):Step L E w':=h.then k (λ_ hb=>by cases hb)
theorem Step.trans' {L:LN}{E w w':World}(h:Step L E w) (k:Step L w w'):Step L E w':=h.then k (λ_ hb=>.inl hb)
theorem Step.below {w w':World}(h:Step [] w w'):Below w.heap.size w w':=⟨h.os,h.tape,h.output,h.size,λk hk=>h.block k hk (by simp)⟩
theorem Step.of_below {w w':World}(h:Below w.heap.size w w'):Step [] w w':=⟨h.os,h.tape,h.output,h.size,λk hk _=>h.block k hk⟩
theorem Step.of_grown {w w':World}{row:Option Nat}(h:w.grownBy w' row):Step row.toList w w' :=
 ⟨h.os,h.tape,h.output,h.size,λk hk E=>h.block k hk (λe=>E (by simp[←e]))⟩
theorem QdN (w:World) (o:Obj) (k:Nat) (h:k<w.heap.size):(w.alloc o).heap[k]?=w.heap[k]?:=by
 show (w.heap.push o)[k]?=_;rw[Array.getElem?_push,if_neg (by omega)]
theorem K6 (w:World) (o:Obj):(w.alloc o).heap[w.heap.size]?=some o:=by
 show (w.heap.push o)[w.heap.size]?=_;simp
theorem QaY (w:World) (o:Obj):(w.alloc o).heap.size=w.heap.size+1:=by show (w.heap.push o).size=_;simp
theorem Step.alloc (w:World) (o:Obj):Step [] w (w.alloc o):=⟨O,O,O,by rw[QaY];omega,λk hk _=>QdN w o k hk⟩
theorem Step.setRow (w:World) (g:Nat) (cs:Array Value):Step [g] w (w.setRow g cs) :=
 ⟨O,O,O,by simp[World.setRow],λk _ E=>setRow_other w g k cs (λe=>E (by simp[e]))⟩
def cel (H:Array Obj) (a:Addr):Option Value:=match H[a.block]? with
 | some (.cells c _ _)=>if a.spot.isSome then none else c[a.off]?
 | _=>none
theorem Ji (w:World) (a:Addr):w.cell? a=cel w.heap a:=rfl
structure At (L:LN) (H:Array Obj) (a:Addr) (us:LV):Prop where
 out:∀u∈us,a.block∉L
 lt:∀u∈us,a.block<H.size
 cell:∀j u,us[j]?=some u→cel H (a.add j)=some u
theorem Yk (a:Addr) (j:Nat):(a.add j).block=a.block:=by unfold Addr.add;split <;> rfl
theorem QiI {L:LN}{w w':World}(h:Step L w w') {a:Addr}(E:a.block∉L) (hl:a.block<w.heap.size):cel w'.heap a=cel w.heap a:=by
 unfold cel;rw[h.block _ hl E]
theorem At.step {L X:LN}{w w':World}{a:Addr}{us:LV}(h:At L w.heap a us) (hs:Step X w w') (E:∀b∈X,b∈L):At L w'.heap a us :=
 ⟨h.out,λu hu=>MC (h.lt u hu) hs.size,λj u hu=>by
  have hm:=Ml hu;rw[QiI (L:=X) hs (by rw[Yk];exact λhx=>h.out u hm (E _ hx)) (by rw[Yk];exact h.lt u hm)];exact h.cell j u hu⟩
theorem At.ext {L:LN}{w w':World}{a:Addr}{us:LV}(h:At L w.heap a us) (hs:Step [] w w'):At L w'.heap a us:=h.step hs (λ_ hb=>by cases hb)
theorem At.one {L:LN}{w:World}{a:Addr}{u:Value}(h:At L w.heap a [u]):w.cell? a=some u:=by
 have:=h.cell 0 u O;simp only[Addr.add,if_true] at this;exact this
theorem At.cells {L:LN}{w:World}{a:Addr}{us:LV}(h:At L w.heap a us):∀j v,us[j]?=some v→w.cell? (a.add j)=some v:=h.cell
theorem Addr.add_add (a:Addr) (i j:Nat):(a.add i).add j=a.add (i+j):=by
 unfold Addr.add;by_cases hi:i=0
 ·subst hi;simp
 by_cases hj:j=0
 ·subst hj;simp
 simp[hi,hj,Nat.add_assoc]
theorem At.fld {L:LN}{H:Array Obj}{a:Addr}{us:LV}(h:At L H a us) (j:Nat) (u:Value) (hu:us[j]?=some u):At L H (a.add j) [u] :=
 ⟨λ_ _=>by rw[Yk];exact h.out u (Ml hu),λ_ _=>by rw[Yk];exact h.lt u (Ml hu),λi v E=>by
  cases i with
  | zero=>simp at E;subst E;rw[Addr.add_add,M5];exact h.cell j u hu
  | succ i=>simp at E⟩
theorem At.up {L L':LN}{H:Array Obj}{a:Addr}{us:LV}(h:At L H a us) (E:∀b∈L',b∈L∨H.size≤b):At L' H a us :=
 ⟨λu hu hm=>by rcases E _ hm with h1 | h1;exact h.out u hu h1;have:=h.lt u hu;omega,h.lt,h.cell⟩
def Zz (L:LN) (H:Array Obj) (v:Value) (n sz:Nat) (cs:LV):Prop :=
 cs.length=n*sz∧n≤1099511627776∧((v=nS∧n=0)∨∃a cap,v=.slice (some a) n cap∧n≤cap∧At L H a cs)
theorem Zz.step {L X:LN}{w w':World}{v:Value}{n sz:Nat}{cs:LV}(h:Zz L w.heap v n sz cs) (hs:Step X w w') (E:∀b∈X,b∈L):Zz L w'.heap v n sz cs :=
 ⟨h.1,h.2.1,h.2.2.imp id λ⟨a,cap,h1,h2,h3⟩=>⟨a,cap,h1,h2,h3.step hs E⟩⟩
theorem Zz.ext {L:LN}{w w':World}{v:Value}{n sz:Nat}{cs:LV}(h:Zz L w.heap v n sz cs) (hs:Step [] w w'):Zz L w'.heap v n sz cs:=h.step hs (λ_ hb=>by cases hb)
theorem Zz.st {L:LN}{w w':World}{v:Value}{n sz:Nat}{cs:LV}(h:Zz L w.heap v n sz cs) (hs:Step L w w'):Zz L w'.heap v n sz cs:=h.step hs (λ_ hb=>hb)
theorem Zz.up {L L':LN}{H:Array Obj}{v:Value}{n sz:Nat}{cs:LV}(h:Zz L H v n sz cs) (E:∀b∈L',b∈L∨H.size≤b):Zz L' H v n sz cs :=
 ⟨h.1,h.2.1,h.2.2.imp id λ⟨a,cap,h1,h2,h3⟩=>⟨a,cap,h1,h2,h3.up E⟩⟩
theorem Zz.nil (L:LN) (H:Array Obj) (sz:Nat):Zz L H (nS) 0 sz []:=⟨by simp,by omega,.inl ⟨rfl,rfl⟩⟩
theorem Zz.shape {L:LN}{H:Array Obj}{v:Value}{n sz:Nat}{cs:LV}(h:Zz L H v n sz cs):∃a cap,v=.slice a n cap:=by
 rcases h.2.2 with ⟨h1,h2⟩ | ⟨a,cap,h1,_⟩
 ·exact ⟨none,0,by rw[h1,h2]⟩
 exact ⟨some a,cap,h1⟩
theorem Zz.one {L:LN}{H:Array Obj}{v:Value}{n sz:Nat}{cs:LV}(h:Zz L H v n sz cs):v.oneCell'=true:=by obtain ⟨a,cap,rfl⟩:=h.shape;rfl
theorem Zz.cells {L:LN}{H:Array Obj}{v:Value}{n sz:Nat}{cs:LV}(h:Zz L H v n sz cs):v.cells=[v].toArray:=by obtain ⟨a,cap,rfl⟩:=h.shape;rfl
theorem Zz.le {L:LN}{H:Array Obj}{v:Value}{n sz:Nat}{cs:LV}(h:Zz L H v n sz cs):n≤1099511627776:=h.2.1
theorem Zz.at {L:LN}{H:Array Obj}{v:Value}{n sz:Nat}{cs:LV}(h:Zz L H v n sz cs) {i:Nat}(hi:i<n) :
  ∃a cap,v=.slice (some a) n cap∧At L H (a.add (i*sz)) ((cs.drop (i*sz)).take sz):=by
 rcases h.2.2 with ⟨_,h2⟩ | ⟨a,cap,h1,_,h3⟩
 ·omega
 refine ⟨a,cap,h1,λu hu=>by rw[Yk];exact h3.out u (Mt (Mh hu)),λu hu=>by rw[Yk];exact h3.lt u (Mt (Mh hu)),λj u hu=>?_⟩;rw[Addr.add_add];refine h3.cell _ u ?_;rw[Ma] at hu;split at hu
 ·simpa using hu
 cases hu
abbrev QO (L:LN) (H:Array Obj) (v:Value) (l:LI):Prop:=Zz L H v l.length 1 (l.map (.int .i64))
theorem QO.at {L:LN}{H:Array Obj}{v:Value}{l:LI}(h:QO L H v l) {i:Nat}(hi:i<l.length) :
  ∃a cap,v=.slice (some a) l.length cap∧At L H (a.add (i*1)) [.int .i64 l[i]]:=by
 obtain ⟨a,cap,h1,h2⟩:=Zz.at h hi;refine ⟨a,cap,h1,?_⟩;have:((l.map (Value.int .i64)).drop (i*1)).take 1=[.int .i64 l[i]]:=by
  rw[Nat.mul_one,LQ (by simpa using hi)];simp
 rw[this] at h2;exact h2
def QX (H:Array Obj) (b T:Nat) (cs:LV):Prop:=H[b]?=some (.cells cs.toArray T (0,0))
theorem QX.lt {H:Array Obj}{b T:Nat}{cs:LV}(h:QX H b T cs):b<H.size:=(LG.1 h).1
theorem QX.step {X:LN}{w w':World}{b T:Nat}{cs:LV}(h:QX w.heap b T cs) (hs:Step X w w') (hb:b∉X):QX w'.heap b T cs:=by
 unfold QX;rw[hs.block b h.lt hb];exact h
theorem QX.ext {w w':World}{b T:Nat}{cs:LV}(h:QX w.heap b T cs) (hs:Step [] w w'):QX w'.heap b T cs:=h.step hs (by simp)
theorem QX.cell {H:Array Obj}{b T:Nat}{cs:LV}(h:QX H b T cs) (j:Nat):cel H ⟨b,j,none⟩=cs[j]?:=by
 unfold QX at h;simp[cel,h]
theorem QeI (b j:Nat):(⟨b,0,none⟩:Addr).add j=⟨b,j,none⟩:=by unfold Addr.add;split <;> simp_all
theorem XN (b i j:Nat):(⟨b,i,none⟩:Addr).add j=⟨b,i+j,none⟩:=by unfold Addr.add;split <;> simp_all
theorem QX.at {L:LN}{H:Array Obj}{b T:Nat}{cs:LV}(h:QX H b T cs) (hb:b∉L):At L H ⟨b,0,none⟩ cs :=
 ⟨λ_ _=>hb,λ_ _=>h.lt,λj u hu=>by rw[QeI,h.cell];exact hu⟩
theorem QX.arr {L:LN}{H:Array Obj}{b T:Nat}{cs:LV}(h:QX H b T cs) (hb:b∉L) {n cap sz:Nat}(hl:cs.length=n*sz) (E:n≤1099511627776) (hc:n≤cap) :
  Zz L H (.slice (some ⟨b,0,none⟩) n cap) n sz cs:=⟨hl,E,.inr ⟨_,_,O,hc,h.at hb⟩⟩
def ob:Value→LN
 | .slice (some a) _ _=>[a.block]
 | _=>[]
theorem Qdg (v:Value):ob v=v.ownBlock.toList:=by
 cases v <;> try rfl
 rename_i a _ _;cases a <;> rfl
theorem Qi {X:LN}{w w':World}{base e sz n:Nat}{v:Value}{cs:LV}(h:w.ownsRow base e sz v n cs) (hs:Step X w w') (E:∀b∈ob v,b∉X):w'.ownsRow base e sz v n cs:=by
 refine ⟨h.1,h.2.imp id λ⟨g,cap,cur,h1,h2,h3,h4⟩=>⟨g,cap,cur,h1,h2,?_,h4⟩⟩;rw[hs.block g (LG.1 h3).1 (E g (by rw[h1];simp[ob]))];exact h3
theorem Qt {w w':World}{base e sz n:Nat}{v:Value}{cs:LV}(h:w.ownsRow base e sz v n cs) (hs:Step [] w w'):w'.ownsRow base e sz v n cs:=Qi h hs (λ_ _=>by simp)
theorem Qm {w:World}{base e sz n:Nat}{v:Value}{cs:LV}(h:w.ownsRow base e sz v n cs):∀b∈ob v,base≤b∧b<w.heap.size:=by
 intro b hb;rcases h.2 with ⟨h1,_⟩ | ⟨g,cap,cur,h1,h2,h3,_⟩
 ·subst h1;simp[ob] at hb
 subst h1;simp[ob] at hb;subst hb;exact ⟨h2,(LG.1 h3).1⟩
theorem QT {w:World}{base base' e sz n:Nat}{v:Value}{cs:LV}(h:w.ownsRow base e sz v n cs) (hb:base'≤base):w.ownsRow base' e sz v n cs :=
 ⟨h.1,h.2.imp id λ⟨g,cap,cur,h1,h2,h3⟩=>⟨g,cap,cur,h1,L5 hb h2,h3⟩⟩
theorem QW {L:LN}{w:World}{base e sz n:Nat}{v:Value}{cs:LV}(h:w.ownsRow base e sz v n cs) (E:n≤1099511627776) (G:∀b∈ob v,b∉L):Zz L w.heap v n sz cs:=by
 refine ⟨h.1,E,?_⟩;rcases h.2 with h1 | ⟨g,cap,cur,h1,h2,h3,h4,h5,J,H⟩
 ·exact .inl h1
 refine .inr ⟨_,_,h1,h4,λ_ _=>G g (by rw[h1];simp[ob]),λ_ _=>(LG.1 h3).1,λj u hu=>?_⟩;rw[QeI];unfold cel;simp only[h3];rw[←H,Ma] at hu;split at hu
 ·simpa using hu
 cases hu
theorem QR (w:World) (base e sz:Nat):w.ownsRow base e sz (nS) 0 []:=World.ownsRow_nil w base e sz
theorem QX.own {w:World}{b T sz n:Nat}{cs:LV}(h:QX w.heap b T cs) (hl:cs.length=n*sz) (E:n≤1099511627776) {base:Nat}(hb:base≤b):w.ownsRow base T sz (.slice (some ⟨b,0,none⟩) n n) n cs :=
 ⟨hl,.inr ⟨b,n,cs.toArray,O,hb,h,Lv _,by simp only[maxLen];omega,by simp[hl],by simp[←hl]⟩⟩
section
variable {P:Program} {ops:List Oper} {K:Fr→World→Prop} {f:Fr} {w:World} {d:Option Nat} {ty:Nat} {ps:String} {af:Array Edge} {gd:Option (Nat×Bool)} {l:List Oper}
theorem Qw {x:Operand}{t e E bys:Nat}{z:Value}[Sl P t e E bys z] {L:LN}{n sz:Nat}{cs:LV}{v:Value}{H:Array Obj}(h:Zz L H v n sz cs) (G:ev f x=v) :
  (execOp (ev f) ⟨d,.call ⟨.builtin .len,#[x],#[t]⟩,ty,ps,af,gd⟩).run P w=.ok (.value (.int .i64 n)) w:=by
 obtain ⟨a,cap,h1⟩:=h.shape;exact jv (G.trans h1)
theorem xi {x y:Operand}{t e sz bys:Nat}{z:Value}[Sl P t e sz bys z] {L:LN}{n:Nat}{cs:LV}{v:Value}{k:IntKind}{i:Nat}
  (h:Zz L w.heap v n sz cs) (E:ev f x=v) (hy:ev f y=.int k i) (hi:i<n)
  (G:∀a,At L w.heap a ((cs.drop (i*sz)).take sz)→XL P ops K l (Q4 f d (.pointer (some a))) w) (H:YD ops f ⟨d,.indexAddr t x y,ty,ps,af,gd⟩=true:=by rfl) :
  XL P ops K (⟨d,.indexAddr t x y,ty,ps,af,gd⟩::l) f w:=by
 obtain ⟨a,cap,h1,h2⟩:=h.at hi;refine xl H (xv (X6 (E.trans h1) hy (by omega) (by omega)) (G _ ?_));simpa using h2
theorem xii {x y:Operand}{t e bys:Nat}{z:Value}[Sl P t e 1 bys z] {L:LN}{li:LI}{v:Value}{k:IntKind}{i:Nat}
  (h:QO L w.heap v li) (E:ev f x=v) (hy:ev f y=.int k i) (hi:i<li.length)
  (G:∀a,At L w.heap a [.int .i64 li[i]]→XL P ops K l (Q4 f d (.pointer (some a))) w) (H:YD ops f ⟨d,.indexAddr t x y,ty,ps,af,gd⟩=true:=by rfl) :
  XL P ops K (⟨d,.indexAddr t x y,ty,ps,af,gd⟩::l) f w:=by
 obtain ⟨a,cap,h1,h2⟩:=QO.at h hi;refine xl H (xv (X6 (E.trans h1) hy (by omega) (by omega)) (G _ ?_));simpa using h2
theorem Qv {t:Nat}[Jk P t] {x:Operand}{a:Addr}{L:LN}{u:Value}(h:At L w.heap a [u]) (hx:ev f x=.pointer (some a)) :
  (execOp (ev f) ⟨d,.load t x,ty,ps,af,gd⟩).run P w=.ok (.value u) w:=Qg5 hx h.one
theorem QQ {t sz:Nat}[Ag P t sz] {x:Operand}{a:Addr}{L:LN}{us:LV}(h:At L w.heap a us) (hx:ev f x=.pointer (some a)) (hl:us.length=sz) :
  (execOp (ev f) ⟨d,.load t x,ty,ps,af,gd⟩).run P w=.ok (.value (.agg us.toArray)) w:=qR hx hl h.cells
theorem Qc {t:Nat}[Jk P t] {x:Operand}{b T j:Nat}{cs:LV}{u:Value}(h:QX w.heap b T cs) (hx:ev f x=.pointer (some ⟨b,j,none⟩)) (hj:cs[j]?=some u) :
  (execOp (ev f) ⟨d,.load t x,ty,ps,af,gd⟩).run P w=.ok (.value u) w:=Qg5 hx (by rw[Ji,h.cell];exact hj)
theorem Qo {t sz:Nat}[Ag P t sz] {x:Operand}{b T:Nat}{cs:LV}(h:QX w.heap b T cs) (hx:ev f x=.pointer (some ⟨b,0,none⟩)) (hl:cs.length=sz) :
  (execOp (ev f) ⟨d,.load t x,ty,ps,af,gd⟩).run P w=.ok (.value (.agg cs.toArray)) w:=qR hx hl (h.at (L:=[]) (by simp)).cells
theorem Qa {t j off:Nat}[Zd P t j off] {x:Operand}{b o:Nat}(hx:ev f x=.pointer (some ⟨b,o,none⟩)) :
  (execOp (ev f) ⟨d,.fieldAddr t x j,ty,ps,af,gd⟩).run P w=.ok (.value (.pointer (some ⟨b,o+off,none⟩))) w:=by
 rw[←XN];exact Zn hx
end
section
variable {P:Program} {K:Fr→World→Prop} {f:Fr} {w:World} {d:Option Nat} {ty:Nat} {ps:String} {af:Array Edge} {gd:Option (Nat×Bool)}
theorem QS {t:Nat}{x:Operand}{us:LV}(hx:(ev f x).cells=us.toArray)
  (E:∀b w',Step [] w w'→w.heap.size≤b→QX w'.heap b t us→K (Q4 f d (.pointer (some ⟨b,0,none⟩))) w'):XO P ⟨d,.box t x,ty,ps,af,gd⟩ f w K:=by
 have G:(execOp (ev f) ⟨d,.box t x,ty,ps,af,gd⟩).run P w=.ok (.value (.pointer (some ⟨w.heap.size,0,none⟩))) (w.alloc (.cells us.toArray t)):=by
  simp[execOp,Instr.box,newVar,newRow,hx]
 exact xv G (E _ _ (Step.alloc w _) (Lv _) (K6 w _))
theorem Qu {t:Nat}{z:Value}[h:Ze P t z] {us:LV}(E:z.cells=us.toArray)
  (G:∀b w',Step [] w w'→w.heap.size≤b→QX w'.heap b t us→K (Q4 f d (.pointer (some ⟨b,0,none⟩))) w'):XO P ⟨d,.alloc t,ty,ps,af,gd⟩ f w K:=by
 have H:(execOp (ev f) ⟨d,.alloc t,ty,ps,af,gd⟩).run P w=.ok (.value (.pointer (some ⟨w.heap.size,0,none⟩))) (w.alloc (.cells us.toArray t)):=by
  have hi:=h.i;cases hq:P.info? t with
  | none=>simp[hq] at hi
  | some i =>
   simp[hq] at hi;simp[execOp,Instr.alloc,newVar,newRow,zeroValue,typeInfo,hq,hi,E]
 exact xv H (G _ _ (Step.alloc w _) (Lv _) (K6 w _))
def Qa5 (sz:Nat):LV→List (LV)→Prop
 | [],[]=>True
 | v::vs,u::us=>v.cells=u.toArray∧u.length=sz∧Qa5 sz vs us
 | _,_=>False
theorem yj {sz:Nat}:∀(vs:LV) (us:List (LV)) (E:Nat) (pre rest:LV),Qa5 sz vs us→pre.length=E*sz→rest.length=vs.length*sz →
  Instr.fill (λi=>some (i*sz,sz)) (pre++rest).toArray ((vs.zipIdx E).map λx=>(x.2,x.1))=some (pre++us.flatten).toArray
 | [],[],E,pre,rest,_,_,G=>by
  have:rest=[]:=Ln (by simpa using G);subst this;simp[Instr.fill]
 | [],_::_,_,_,_,h,_,_=>h.elim
 | _::_,[],_,_,_,h,_,_=>h.elim
 | v::vs,u::us,E,pre,rest,h,hp,G=>by
  obtain ⟨h1,h2,h3⟩:=h;have U:sz≤rest.length:=by rw[G];simp[Nat.add_mul]
  have ih:=yj vs us (E+1) (pre++u) (rest.drop sz) h3 (by simp[hp,h2,Nat.add_mul]) (by simp only[List.length_drop,G,List.length_cons,Nat.add_mul,Nat.one_mul];omega);simp only[List.zipIdx_cons,List.map_cons];unfold Instr.fill;have H:v.cells.size=sz:=by rw[h1];simp[h2]
  simp only[H];rw[if_neg (by simp;omega)];have key:v.cells.zipIdx.foldl (λcs (x:Value×Nat)=>cs.setIfInBounds (E*sz+x.2) x.1) (pre++rest).toArray=(pre++u++rest.drop sz).toArray:=by
   rw[←Array.foldl_toList,Array.toList_zipIdx,h1];obtain ⟨V,J⟩:=Great.foldl_set (E*sz) u 0 (pre++rest).toArray;apply Array.ext';apply List.ext_getElem?;intro k;have S:=J k;simp only[Array.getElem?_toList];rw[S];simp only[Nat.add_zero,List.size_toArray,List.length_append,List.getElem?_toArray];split
   ·rename_i hc;rw[LB,ME (by omega),Mi (by omega),←hp]
   rename_i hc;by_cases hk:k<pre.length
   ·rw[LB,Mi hk,Mi hk]
   rw[LB,ME (by omega),ME (by omega)];by_cases Y:k<pre.length+sz
   ·exfalso;apply hc;omega
   rw[ME (by omega),MK];congr 1;omega
  have Z:=ih;rw[LB pre u] at key;rw[show (v.cells.zipIdx.foldl (λcs (x:Value×Nat)=>cs.setIfInBounds (E*sz+x.2) x.1) (pre++rest).toArray)=(pre++u++rest.drop sz).toArray by rw[key,LB]];rw[ih];simp
theorem ji (f:Fr):∀(ps:List (Nat×Operand)) (i:Nat),ps.map (·.1)=List.range' i ps.length→(ps.map λx=>(x.1,ev f x.2))=((ps.map λx=>ev f x.2).zipIdx i).map λx=>(x.2,x.1)
 | [],_,_=>rfl
 | p::ps,i,h=>by
  simp only[List.map_cons,List.length_cons,List.range'_succ,List.cons.injEq] at h;simp only[List.map_cons,List.zipIdx_cons];rw[ji f ps (i+1) h.2,h.1]
theorem QL {t e sz bys:Nat}{z:Value}[h:Sl P t e sz bys z] {n:Nat}{parts:List (Nat×Operand)}{us:List (LV)}(hp:parts.map (·.1)=List.range' 0 n) (G:parts.length=n) (H:0<n) (hs:n*sz≤1000000)
  (hc:Qa5 sz (parts.map λx=>ev f x.2) us)
  (J:∀b w',Step [] w w'→w.heap.size≤b→QX w'.heap b e us.flatten→K (Q4 f d (.slice (some ⟨b,0,none⟩) n n)) w'):XO P ⟨d,.buildSlice t n parts.toArray,ty,ps,af,gd⟩ f w K:=by
 obtain ⟨ie,S,U,E,_⟩:=Sl.info h;subst G;have V:=h.pos;have hm:0<parts.length*sz:=Nat.mul_pos H V;have Y:Instr.fill (λi=>some (i*ie.size,ie.size)) ((Array.range (parts.length*ie.size)).map (z.cells[· % z.cells.size]!)) (parts.toArray.map λ(i,x)=>(i,ev f x)).toList=some us.flatten.toArray:=by
  rw[E];have:=yj (parts.map λx=>ev f x.2) us 0 [] ((Array.range (parts.length*sz)).map (z.cells[· % z.cells.size]!)).toList hc (by simp) (by simp);simp only[List.nil_append,Array.toArray_toList] at this;rw[←this,←ji f parts 0 hp];simp
 have Z:(execOp (ev f) ⟨d,.buildSlice t parts.length parts.toArray,ty,ps,af,gd⟩).run P w=.ok (.value (.slice (some ⟨w.heap.size,0,none⟩) parts.length parts.length)) (w.alloc (.cells us.flatten.toArray e)):=by
  have:=run_buildSlice (P:=P) w t e parts.length (parts.toArray.map λ(i,x)=>(i,ev f x)) us.flatten.toArray ie z h.u S U (by rw[E];omega) (by rw[E];omega) Y;simp only[execOp,Sem.run_bind,this,Result.andThen_ok,Sem.run_pure]
 exact xv Z (J _ _ (Step.alloc w _) (Lv _) (K6 w _))
theorem yX {base t ty e:Nat}{sz bys:Nat}{z:Value}[h:Sl P t e sz bys z] {v:Value}{n:Nat}{cs:LV}(G:w.ownsRow base e sz v n cs)
  {a:Addr} {m c:Nat} {news:LV} (hl:news.length=m*sz) (U:∀j u,news[j]?=some u→w.cell? (a.add j)=some u) (h1:∀u∈news,u.oneCell'=true)
  (hb:n+m≤1099511627776) (hq:bys≤128) (hc:base≤w.heap.size) :
  ∃v' w',(Builtin.append_ #[t,t] ty #[v,.slice (some a) m c]).run P w=.ok v' w'∧w'.ownsRow base e sz v' (n+m) (cs++news)∧Step (ob v) w w'∧(∀b∈ob v',b∈ob v∨w.heap.size≤b):=by
 obtain ⟨i,hi,Y,S,Z⟩:=Sl.info h;have ha:(n+m)*bys≤140737488355328:=L5 (Nat.mul_le_mul hb hq) (by omega);have he:n+m≤maxLen:=by simp only[maxLen];omega
 by_cases hg:∃g cap cur,v=.slice (some ⟨g,0,none⟩) n cap∧w.heap[g]?=some (.cells cur e (0,0))∧n+m≤cap
 ·obtain ⟨v',w',H,ho,hs,_⟩:=run_append_own (P:=P) w base t ty e i z sz bys h.u hi Y S Z h.zs h.pos v n cs G a m c news hl U h1 he ha hc;refine ⟨v',w',H,ho,by rw[Qdg];exact Step.of_grown hs,?_⟩;obtain ⟨g,cap,cur,rfl,hf,hroom⟩:=hg;rcases G.2 with ⟨h2,_⟩ | ⟨g2,cap2,hh,h2,h3,h4,h5,h6,h7,h8⟩
  ·cases h2
  cases h2
  have ht:n*i.size+news.length≤hh.size:=by rw[hl,h7,S,←Ms];exact MB _ hroom
  have hu:=run_append_room (P:=P) w t ty e i h.u hi g n cap hh h4 a m c news (by rw[S];exact hl) U h1 hroom ht;rw[hu] at H;cases H
  intro b E;exact .inl E
 have new:∀(old:Nat),old<n+m→∀J,J=(Obj.cells (cs.toArray++news.toArray++Builtin.zeroCells z.cells (grownCap w (n+m) old e - (n+m))) e) →
   (w.drew.alloc J).ownsRow base e sz (.slice (some ⟨w.heap.size,0,none⟩) (n+m) (grownCap w (n+m) old e)) (n+m) (cs++news):=by
  intro old ho J hv;subst hv;have hge:=grownCap_ge w (n+m) old e;have hj:grownCap w (n+m) old e≤maxLen:=grownCap_le_maxLen w (n+m) old e he;have hp:(cs++news).length=(n+m)*sz:=by rw[Lk,G.1,hl,Ms]
  refine ⟨hp,.inr ⟨w.heap.size,_,_,O,hc,K6 w.drew _,hge,hj,?_,?_⟩⟩
  ·simp only[Array.size_append,List.size_toArray,size_zeroCells,h.zs,G.1,hl,←Nat.add_mul];congr 1;omega
  simp only[Array.toList_append,List.append_assoc];rw[←LB,←hp];exact List.take_left
 have stp:∀J,Step (ob v) w (w.drew.alloc J):=λJ=>⟨O,O,O,by rw[QaY];exact Nat.le_succ _,λk hk _=>QdN w.drew J k hk⟩;have fin:∀(b:Nat),b∈ob (.slice (some ⟨w.heap.size,0,none⟩) (n+m) 0)→b∈ob v∨w.heap.size≤b:=λb E=>by simp[ob] at E;omega
 rcases G.2 with ⟨rfl,rfl⟩ | ⟨g,cap,cur,rfl,h9,hf,hA,hj,hB,hC⟩
 ·have hx:cs=[]:=Ln (by simpa using G.1);subst hx;by_cases hm:m=0
  ·subst hm;have V:news=[]:=Ln (by simpa using hl);subst V;refine ⟨nS,w,?_,QR _ _ _ _,Step.refl _ _,λb E=>by simp[ob] at E⟩;simp[Builtin.append_,run_underlying h.u,sizeOf,typeInfo,hi,Builtin.lenOf,Builtin.firstCells,loadCells,loadCellsFrom]
  have H:=run_append_nil (P:=P) w t ty e i z h.u hi Y a m c news (by rw[S];exact hl) U (by omega) (by omega) (by rw[Z];have hw:=ha;simp only[Nat.zero_add] at hw;omega);have V:=new 0 (by omega) _ O;simp only[Nat.zero_add,List.nil_append,Array.empty_append] at V ⊢;exact ⟨_,_,H,V,stp _,λb E=>fin b E⟩
 have hroom:cap<n+m:=by
  rcases Nz cap (n+m) with hy | hge
  ·exact hy
  exact absurd ⟨g,cap,cur,O,hf,hge⟩ hg
 have h0:∀j u,cs[j]?=some u→w.cell? ((⟨g,0,none⟩:Addr).add j)=some u:=G.cells (g:=g) O;have H:=run_append_grow (P:=P) w t ty e i z h.u hi Y ⟨g,0,none⟩ n cap cs (by rw[S];exact G.1) h0 a m c news (by rw[S];exact hl) U hroom (by omega) (growslice_fits hroom (by rw[Z];exact ha));exact ⟨_,_,H,new cap hroom _ O,stp _,λb E=>fin b E⟩
theorem QZ {t e sz bys:Nat}{z:Value}[h:Sl P t e sz bys z] {s y:Operand}{base:Nat}{v:Value}{n:Nat}{cs:LV}(E:w.ownsRow base e sz v n cs) (hs:ev f s=v)
  {a:Addr} {m c:Nat} {news:LV} (hy:ev f y=.slice (some a) m c) (hl:news.length=m*sz) {L:LN} (G:At L w.heap a news) (h1:∀u∈news,u.oneCell'=true)
  (hb:n+m≤1099511627776) (H:base≤w.heap.size)
  (J:∀v' w',w'.ownsRow base e sz v' (n+m) (cs++news)→Step (ob v) w w'→(∀b∈ob v',b∈ob v∨w.heap.size≤b)→K (Q4 f d v') w') (S:bys≤128:=by decide) :
  XO P ⟨d,.call ⟨.builtin .append,#[s,y],#[t,t]⟩,ty,ps,af,gd⟩ f w K:=by
 obtain ⟨v',w',U,h2,h3,h4⟩:=yX (P:=P) (t:=t) (ty:=ty) E hl G.cells h1 hb S H (c:=c);have V:(execOp (ev f) ⟨d,.call ⟨.builtin .append,#[s,y],#[t,t]⟩,ty,ps,af,gd⟩).run P w=.ok (.value v') w':=by
  simp[execOp,resolve,invoke,builtin,hs,hy,U]
 exact xv V (J v' w' h2 h3 h4)
end
def QmC (P:Program) (t:Nat):Option (LV×LN):=match P.info? t,P.underlying t with
 | some it,some (.struct fs)=>match it.zero,fs.toList.mapM (λf=>(P.info? f.type).bind λi=>if i.size=1 then some f.offset else none) with
  | some (.agg zs),some offs=>some (zs.toList,offs)
  | _,_=>none
 | some it,some (.array n e)=>match it.zero,P.info? e with
  | some (.agg zs),some ie=>if ie.size=1 then some (zs.toList,List.range n) else none
  | _,_=>none
 | _,_=>none
class Bs (P:Program) (t:Nat) (zs:outParam (LV)) (offs:outParam (LN)):Prop where
 h:QmC P t=some (zs,offs)
 b:offs.all (·<zs.length)=true
def bld (offs:LN) (zs:LV):List (Nat×Value)→LV
 | []=>zs
 | (j,v)::ps=>bld offs (zs.set (offs.getD j 0) v) ps
def Qk0:LV→Prop
 | []=>True
 | v::vs=>v.cells=[v].toArray∧Qk0 vs
theorem yh {place:Nat→Option (Nat×Nat)}{offs:LN}(hp:∀j,j<offs.length→place j=some (offs.getD j 0,1)):∀(ps:List (Nat×Value)) (zs:LV),Qk0 (ps.map (·.2))→ps.all (λp=>p.1<offs.length)=true →
  (∀o∈offs,o<zs.length)→Instr.fill place zs.toArray ps=some (bld offs zs ps).toArray
 | [],zs,_,_,_=>rfl
 | (j,v)::ps,zs,h1,h2,h3=>by
  simp only[List.all_cons,Bool.and_eq_true,decide_eq_true_eq] at h2;have hj:=hp j h2.1;have G:offs.getD j 0<zs.length:=h3 _ (by simp[List.getD,List.getElem?_eq_getElem h2.1]);unfold Instr.fill;simp only[hj];have hc:v.cells=#[v]:=h1.1;simp only[hc]
  rw[if_neg (by rw[show (#[v]:Array Value).size=1 from rfl,Md];simp only[ne_eq,not_true,decide_false,Bool.false_or,decide_eq_true_eq];omega)];have:(#[v]:Array Value).zipIdx.foldl (λcs (x:Value×Nat)=>cs.setIfInBounds (offs.getD j 0+x.2) x.1) zs.toArray=(zs.set (offs.getD j 0) v).toArray:=by
   simp[Array.zipIdx]
  rw[this];exact yh hp ps _ h1.2 h2.2 (λo E=>by rw[MV];exact h3 o E)
theorem QdL {P:Program}{t:Nat}{zs:LV}{offs:LN}(h:QmC P t=some (zs,offs)) (hb:offs.all (·<zs.length)=true) (ps:List (Nat×Value)) (h1:Qk0 (ps.map (·.2))) (h2:ps.all (λp=>p.1<offs.length)=true) :
  P.built t ps=some (bld offs zs ps).toArray:=by
 have h3:∀o∈offs,o<zs.length:=λo J=>by simpa using L6.1 hb o J
 unfold QmC at h;unfold Program.built;cases hi:P.info? t with
 | none=>simp[hi] at h
 | some it =>
  cases hu:P.underlying t with
  | none=>simp[hi,hu] at h
  | some dd =>
   simp only[hi,hu] at h;cases dd <;> simp only[] at h <;> try (cases h)
   case struct fs =>
    cases E:it.zero with
    | none=>simp[E] at h
    | some z =>
     cases z <;> simp only[E] at h <;> try (cases h)
     rename_i za;cases hm:fs.toList.mapM (λf=>(P.info? f.type).bind λi=>if i.size=1 then some f.offset else none) with
     | none=>simp[hm] at h
     | some offs' =>
      simp only[hm,Option.some.injEq,Prod.mk.injEq] at h;obtain ⟨rfl,rfl⟩:=h;have key:∀(l:List Field) (offs:LN),l.mapM (λf=>(P.info? f.type).bind λi=>if i.size=1 then some f.offset else none)=some offs →
        l.mapM (λf=>(P.info? f.type).map λi=>(f.offset,i.size))=some (offs.map λo=>(o,1)):=by
       intro l;induction l with
       | nil=>intro offs h;simp at h;subst h;rfl
       | cons f l ih =>
        intro offs h;simp only[List.mapM_cons] at h ⊢;cases G:P.info? f.type with
        | none=>simp[G] at h
        | some i =>
         by_cases hs:i.size=1
         ·simp only[G,Option.bind_some,hs,if_true,Option.bind_eq_bind] at h;cases hl:l.mapM (λf=>(P.info? f.type).bind λi=>if i.size=1 then some f.offset else none) with
          | none=>simp[hl] at h
          | some os =>
           simp[hl] at h;subst h;simp[ih os hl,hs]
         simp[G,hs] at h
      have S:=key _ _ hm;simp only[E,S,Value.cells];rw[←yh (place:=λj=>((offs'.map λo=>(o,1)).toArray)[j]?) (λj hj=>by simp[List.getElem?_eq_getElem hj,List.getD]) ps za.toList h1 h2 h3]
   case array n e =>
    cases E:it.zero with
    | none=>simp[E] at h
    | some z =>
     cases z <;> simp only[E] at h <;> try (cases h)
     rename_i za;cases H:P.info? e with
     | none=>simp[H] at h
     | some ie =>
      simp only[H] at h;split at h
      ·rename_i hs;simp only[Option.some.injEq,Prod.mk.injEq] at h;obtain ⟨rfl,rfl⟩:=h;simp only[E,H,Value.cells];rw[←yh (place:=λi=>some (i*ie.size,ie.size)) (λj hj=>by simp at hj;simp[hs,List.getD,hj]) ps za.toList h1 h2 h3]
      cases h
theorem QG {P:Program}{f:Fr}{w:World}{d:Option Nat}{ty:Nat}{ps:String}{af:Array Edge}{gd:Option (Nat×Bool)}{t:Nat}{zs:LV}{offs:LN}[h:Bs P t zs offs] {parts:List (Nat×Operand)}
  (h1:Qk0 (parts.map λx=>ev f x.2)) (h2:parts.all (λp=>p.1<offs.length)=true:=by rfl) :
  (execOp (ev f) ⟨d,.build t parts.toArray,ty,ps,af,gd⟩).run P w=.ok (.value (.agg (bld offs zs (parts.map λx=>(x.1,ev f x.2))).toArray)) w:=by
 have hb:=QdL h.h h.b (parts.map λx=>(x.1,ev f x.2)) (by rw[MW];exact h1) (by rw[List.all_map];exact h2);have E:=run_build (P:=P) w t (parts.toArray.map λ(i,x)=>(i,ev f x)) _ (by simpa using hb);simp only[execOp,Sem.run_bind,E,Result.andThen_ok,Sem.run_pure]
section
variable {κ:Type} [DecidableEq κ]
def mget:List (κ×Value)→κ→Option Value
 | [],_=>none
 | (k',v)::m,k=>if k'=k then some v else mget m k
def mput:List (κ×Value)→κ→Value→List (κ×Value)
 | [],k,v=>[(k,v)]
 | (k',v')::m,k,v=>if k'=k then (k',v)::m else (k',v')::mput m k v
theorem Xx (m:List (κ×Value)) (k k':κ) (v:Value):mget (mput m k v) k'=if k=k' then some v else mget m k':=by
 induction m with
 | nil=>simp[mget,mput]
 | cons p m ih =>
  obtain ⟨q,u⟩:=p;simp only[mput];by_cases h:q=k
  ·subst h;simp[mget];by_cases h2:q=k' <;> simp[h2]
  simp only[h,if_false,mget,ih];by_cases h2:q=k'
  ·subst h2;simp[Ne.symm h]
  simp[h2]
theorem qD {m:List (κ×Value)}{k:κ}(h:mget m k=none) (v:Value):(mput m k v).length=m.length+1:=by
 induction m with
 | nil=>simp[mput]
 | cons p m ih =>
  obtain ⟨q,x⟩:=p;simp only[mput];by_cases hq:q=k
  ·simp[mget,hq] at h
  simp only[mget,hq,if_false] at h;simp[hq,ih h]
def fnd (k:κ):List κ→List MapEntry→Nat→Option (Nat×Value)
 | q::ks,e::es,i=>if k=q then some (i,e.val) else fnd k ks es (i+1)
 | _,_,_=>none
end
class Key (P:Program) (kt:Nat) {κ:Type} [DecidableEq κ] (enc:κ→Value):Prop where
 check:∀(w:World) (em:Bool) (k:κ),(Instr.checkKey em 10000 kt (enc k)).run P w=.ok () w
 find:∀(w:World) (k:κ) (ks:List κ) (es:List MapEntry),es.map (·.key)=ks.map enc→(Instr.findKey kt (enc k) es).run P w=.ok (fnd k ks es 0) w
 same:∀k,Instr.sameBits 10000 (enc k) (enc k)=true
abbrev KH (n:Int):Value:=.int .i64 n
abbrev Zy (p:Int×Int):Value:=.agg #[.int .i64 p.1,.int .i64 p.2]
abbrev Jp (s:ByteArray):Value:=.string s
theorem Qkd {P:Program}{kt:Nat}(hu:P.underlying kt=some (.int .i64)):Key P kt KH:=by
 refine ⟨λw em k=>?_,λw k ks es h=>?_,λk=>by simp[Instr.sameBits]⟩
 ·have E:∀n,(Instr.checkKey em (n+1) kt (KH k)).run P w=.ok () w:=λn=>by simp[Instr.checkKey,run_underlying hu]
  exact E 9999
 have key:∀(ks:LI) (es:List MapEntry) (i:Nat),es.map (·.key)=ks.map KH→Instr.findNow (.int .i64) (KH k) es i=some (fnd k ks es i):=by
  intro ks;induction ks with
  | nil=>intro es i h;simp at h;subst h;rfl
  | cons q ks ih =>
   intro es i h;cases es with
   | nil=>simp at h
   | cons e es =>
    simp only[List.map_cons,List.cons.injEq] at h;have G:=ih es (i+1) h.2;simp only[Instr.findNow,h.1,Instr.sameNow,KH,if_true,fnd];by_cases hq:k=q
    ·subst hq;simp
    have:(k == q)=false:=by simpa using hq
    simp[hq,this,G]
 simp[Instr.findKey,run_underlying hu,key ks es 0 h]
theorem Qkc {P:Program}{kt:Nat}(hu:P.underlying kt=some .string):Key P kt Jp:=by
 refine ⟨λw em k=>?_,λw k ks es h=>?_,λk=>by simp[Instr.sameBits,(MapKept.bytes_beq k k).2 rfl]⟩
 ·have E:∀n,(Instr.checkKey em (n+1) kt (Jp k)).run P w=.ok () w:=λn=>by simp[Instr.checkKey,run_underlying hu]
  exact E 9999
 have key:∀(ks:List ByteArray) (es:List MapEntry) (i:Nat),es.map (·.key)=ks.map Jp→Instr.findNow .string (Jp k) es i=some (fnd k ks es i):=by
  intro ks;induction ks with
  | nil=>intro es i h;simp at h;subst h;rfl
  | cons q ks ih =>
   intro es i h;cases es with
   | nil=>simp at h
   | cons e es =>
    simp only[List.map_cons,List.cons.injEq] at h;have G:=ih es (i+1) h.2;simp only[Instr.findNow,h.1,Instr.sameNow,Jp,fnd];by_cases hq:k=q
    ·subst hq;simp[(MapKept.bytes_beq k k).2 rfl]
    have:(k == q)=false:=by
     cases hb:(k == q) with
     | false=>rfl
     | true=>exact absurd ((MapKept.bytes_beq k q).1 hb) hq
    simp[hq,this,G]
 simp[Instr.findKey,run_underlying hu,key ks es 0 h]
theorem KQ {P:Program}{kt e:Nat}(hu:P.underlying kt=some (.array 2 e)) (he:P.underlying e=some (.int .i64)) (hs:(P.info? e).map (·.size)=some 1) (w:World) (p q:Int×Int) :
  (Op.equal kt (Zy p) (Zy q)).run P w=.ok (decide (p=q)) w:=by
 obtain ⟨a,b⟩:=p;obtain ⟨c,d⟩:=q;cases hi:P.info? e with
 | none=>simp[hi] at hs
 | some ie =>
  simp[hi] at hs;have E:∀w,(isAgg e).run P w=.ok false w:=λw=>by simp[isAgg,run_underlying he]
  have hp:∀(x y:Int) (w:World),(part e #[.int .i64 x,.int .i64 y] 0).run P w=.ok (.int .i64 x) w:=λx y w=>by simp[part,E]
  have hp1:∀(x y:Int) (w:World),(part e #[.int .i64 x,.int .i64 y] 1).run P w=.ok (.int .i64 y) w:=λx y w=>by simp[part,E]
  have heq:∀(m:Nat) (x y:Int) (w:World),(Op.equalIn (m+1) e (.int .i64 x) (.int .i64 y)).run P w=.ok (x == y) w:=λm x y w=>by simp[Op.equalIn,run_underlying he]
  simp only[Op.equal,Op.maxDepth,Zy];unfold Op.equalIn;simp only[Sem.run_bind,run_underlying hu,Result.andThen_ok,sizeOf,typeInfo,run_program,hi,Sem.run_pure,hs];simp only[Std.Legacy.Range.forIn_eq_forIn_range',Std.Legacy.Range.size,Nat.sub_zero,Nat.add_sub_cancel,Nat.div_one,List.range'_succ,List.range'_zero,List.forIn_cons,List.forIn_nil,Nat.zero_mul,Nat.one_mul,Nat.zero_add];by_cases h1:a=c
  ·subst h1;by_cases h2:b=d
   ·subst h2;simp[hp,hp1,heq]
   simp[hp,hp1,heq,h2]
  simp[hp,heq,h1]
theorem QhF {P:Program}{kt e:Nat}(hu:P.underlying kt=some (.array 2 e)) (he:P.underlying e=some (.int .i64)) (hs:(P.info? e).map (·.size)=some 1):Key P kt Zy:=by
 refine ⟨λw em k=>?_,λw k ks es h=>?_,λk=>?_⟩
 ·obtain ⟨a,b⟩:=k;cases hi:P.info? e with
  | none=>simp[hi] at hs
  | some ie =>
   simp[hi] at hs;have E:∀w,(isAgg e).run P w=.ok false w:=λw=>by simp[isAgg,run_underlying he]
   have hp:∀(x y:Int) (w:World),(part e #[.int .i64 x,.int .i64 y] 0).run P w=.ok (.int .i64 x) w:=λx y w=>by simp[part,E]
   have hp1:∀(x y:Int) (w:World),(part e #[.int .i64 x,.int .i64 y] 1).run P w=.ok (.int .i64 y) w:=λx y w=>by simp[part,E]
   have G:∀(m:Nat) (x:Int) (w:World),(Instr.checkKey em (m+1) e (.int .i64 x)).run P w=.ok () w:=λm x w=>by simp[Instr.checkKey,run_underlying he]
   simp only[Zy];unfold Instr.checkKey;simp only[Sem.run_bind,run_underlying hu,Result.andThen_ok,sizeOf,typeInfo];simp[Std.Legacy.Range.forIn_eq_forIn_range',Std.Legacy.Range.size,List.range'_succ,hi,hs,hp,hp1,G]
 ·have H:∀es i,es.map (·.key)=ks.map Zy→Instr.findNow (.array 2 e) (Zy k) es i=none∨es=[]:=by
   intro es i h;cases es with
   | nil=>exact .inr O
   | cons e es=>left;simp[Instr.findNow,Instr.sameNow]
  have ask:∀(ks:List (Int×Int)) (es:List MapEntry) (i:Nat),es.map (·.key)=ks.map Zy→(Instr.findAsking kt (Zy k) es i).run P w=.ok (fnd k ks es i) w:=by
   intro ks;induction ks with
   | nil=>intro es i h;simp at h;subst h;simp[Instr.findAsking,fnd]
   | cons q ks ih =>
    intro es i h;cases es with
    | nil=>simp at h
    | cons e es =>
     simp only[List.map_cons,List.cons.injEq] at h;have J:=ih es (i+1) h.2;simp only[Instr.findAsking,h.1,Sem.run_bind,KQ hu he hs,Result.andThen_ok,fnd];by_cases hq:k=q
     ·subst hq;simp
     simp[hq,J]
  rcases H es 0 h with h1 | h1
  ·simp[Instr.findKey,run_underlying hu,h1,ask ks es 0 h]
  subst h1;have:ks=[]:=by simpa using h.symm
  subst this;simp[Instr.findKey,run_underlying hu,Instr.findNow,fnd]
 simp[Instr.sameBits]
class Mp (P:Program) (t:Nat) (kt et:outParam Nat) (z:outParam Value):Prop where
 u:P.underlying t=some (.map kt et)
 z:(P.info? et).map (·.zero)=some (some z)
def ZE {κ:Type}(enc:κ→Value) (H:Array Obj) (b:Nat) (m:List (κ×Value)):Prop :=
 ∃es clock,H[b]?=some (.map es clock)∧es.toList.map (λe=>(e.key,e.val))=m.map (λp=>(enc p.1,p.2))
section
variable {κ:Type} {enc:κ→Value}
theorem ZE.lt {H:Array Obj}{b:Nat}{m:List (κ×Value)}(h:ZE enc H b m):b<H.size:=by
 obtain ⟨es,c,h1,_⟩:=h;exact (LG.1 h1).1
theorem ZE.step {X:LN}{w w':World}{b:Nat}{m:List (κ×Value)}(h:ZE enc w.heap b m) (hs:Step X w w') (hb:b∉X):ZE enc w'.heap b m:=by
 have hl:=h.lt;obtain ⟨es,c,h1,h2⟩:=h;exact ⟨es,c,by rw[hs.block b hl hb];exact h1,h2⟩
theorem ZE.ext {w w':World}{b:Nat}{m:List (κ×Value)}(h:ZE enc w.heap b m) (hs:Step [] w w'):ZE enc w'.heap b m:=h.step hs (by simp)
theorem QaB {m:List (κ×Value)}{es:List MapEntry}(h:es.map (λe=>(e.key,e.val))=m.map (λp=>(enc p.1,p.2))):es.map (·.key)=(m.map (·.1)).map enc:=by
 have:=congrArg (List.map Prod.fst) h;simp only[List.map_map] at this ⊢;exact this
variable [DecidableEq κ]
theorem Uk {k:κ}:∀{m:List (κ×Value)}{es:List MapEntry}{i:Nat},es.map (λe=>(e.key,e.val))=m.map (λp=>(enc p.1,p.2))→mget m k=none→fnd k (m.map (·.1)) es i=none
 | [],es,i,h,_=>by simp[fnd]
 | (q,u)::m,[],i,h,_=>by simp at h
 | (q,u)::m,e::es,i,h,hm=>by
  simp only[List.map_cons,List.cons.injEq] at h;simp only[mget] at hm;by_cases hq:q=k
  ·simp[hq] at hm
  simp only[hq,if_false] at hm;simp only[List.map_cons,fnd,Ne.symm hq,if_false];exact Uk h.2 hm
theorem Uj {k:κ}{u:Value}:∀{m:List (κ×Value)}{es:List MapEntry}{i:Nat},es.map (λe=>(e.key,e.val))=m.map (λp=>(enc p.1,p.2))→mget m k=some u →
  ∃j,fnd k (m.map (·.1)) es i=some (i+j,u)∧j<es.length∧(∃e,es[j]?=some e∧e.key=enc k) ∧
   ∀v,(es.modify j λe=>{ e with key:=enc k,val:=v }).map (λe=>(e.key,e.val))=(mput m k v).map (λp=>(enc p.1,p.2))
 | [],es,i,_,h=>by simp[mget] at h
 | (q,x)::m,[],i,h,_=>by simp at h
 | (q,x)::m,e::es,i,h,hm=>by
  simp only[List.map_cons,List.cons.injEq,Prod.mk.injEq] at h;simp only[mget] at hm;by_cases hq:q=k
  ·subst hq;simp at hm;subst hm;refine ⟨0,by simp[fnd,h.1.2],by simp,⟨e,rfl,h.1.1⟩,λv=>?_⟩;simp[mput,h.2]
  simp only[hq,if_false] at hm;obtain ⟨j,h1,h2,⟨e',h3,E⟩,h4⟩:=Uj (i:=i+1) h.2 hm;refine ⟨j+1,?_,by simp;omega,⟨e',by simpa using h3,E⟩,λv=>?_⟩
  ·simp only[List.map_cons,fnd,Ne.symm hq,if_false,h1];congr 2;omega
  simp only[mput,hq,if_false,List.modify_succ_cons,List.map_cons,h4 v,h.1]
end
section
variable {P:Program} {K:Fr→World→Prop} {f:Fr} {w:World} {d:Option Nat} {ty:Nat} {ps:String} {af:Array Edge} {gd:Option (Nat×Bool)} {κ:Type} [DecidableEq κ]
omit [DecidableEq κ] in
theorem ZM {t:Nat}(enc:κ→Value)
  (E:∀b w',Step [] w w'→w.heap.size≤b→ZE enc w'.heap b []→K (Q4 f d (.map (some b))) w'):XO P ⟨d,.makeMap t none,ty,ps,af,gd⟩ f w K:=by
 have G:(execOp (ev f) ⟨d,.makeMap t none,ty,ps,af,gd⟩).run P w=.ok (.value (.map (some w.heap.size))) (w.alloc (.map #[] 0)):=by
  simp[execOp,Instr.makeMap]
 exact xv G (E _ _ (Step.alloc w _) (Lv _) ⟨#[],0,K6 w _,O⟩)
theorem YV {b:Nat}{es:Array MapEntry}{c:Nat}(h:w.heap[b]?=some (.map es c)):(getObj b).run P w=.ok (.map es c) w:=by
 simp[getObj,Sem.run,h]
theorem VD {b:Nat} {es E:Array MapEntry} {c G:Nat} (h:w.heap[b]?=some (.map es c)):(setObj b (.map E G)).run P w=.ok () { w with heap:=w.heap.setIfInBounds b (.map E G) }:=by
 simp[setObj,Sem.run,h]
theorem KR {t kt et:Nat}{z:Value}[hm:Mp P t kt et z] {enc:κ→Value}[hk:Key P kt enc] {x y:Operand}{b:Nat}{m:List (κ×Value)}{k:κ}(h:ZE enc w.heap b m) (hx:ev f x=.map (some b)) (hy:ev f y=enc k) :
  (execOp (ev f) ⟨d,.lookup t x y true,ty,ps,af,gd⟩).run P w=.ok (.value (match mget m k with | some u=>.tuple #[u,.bool true] | none=>.tuple #[z,.bool false])) w:=by
 obtain ⟨es,c,h1,h2⟩:=h;have G:=hk.find w k (m.map (·.1)) es.toList (QaB h2);have H:(zeroValue et).run P w=.ok z w:=by
  have:=hm.z;cases hi:P.info? et with
  | none=>simp[hi] at this
  | some i=>simp[hi] at this;simp[zeroValue,typeInfo,hi,this]
 simp only[execOp,Sem.run_bind,Instr.lookup,run_underlying hm.u,Result.andThen_ok,hx,hy,YV h1,Sem.run_pure,hk.check,G];cases E:mget m k with
 | none=>rw[Uk h2 E];simp[H]
 | some u =>
  obtain ⟨j,hj,_⟩:=Uj (i:=0) h2 E;rw[hj];simp
theorem Xv {t kt et:Nat}{z:Value}[hm:Mp P t kt et z] {enc:κ→Value}[hk:Key P kt enc] {x y:Operand}{b:Nat}{m:List (κ×Value)}{k:κ}(h:ZE enc w.heap b m) (hx:ev f x=.map (some b)) (hy:ev f y=enc k) :
  (execOp (ev f) ⟨d,.lookup t x y false,ty,ps,af,gd⟩).run P w=.ok (.value (match mget m k with | some u=>u | none=>z)) w:=by
 obtain ⟨es,c,h1,h2⟩:=h;have G:=hk.find w k (m.map (·.1)) es.toList (QaB h2);have H:(zeroValue et).run P w=.ok z w:=by
  have:=hm.z;cases hi:P.info? et with
  | none=>simp[hi] at this
  | some i=>simp[hi] at this;simp[zeroValue,typeInfo,hi,this]
 simp only[execOp,Sem.run_bind,Instr.lookup,run_underlying hm.u,Result.andThen_ok,hx,hy,YV h1,Sem.run_pure,hk.check,G];cases E:mget m k with
 | none=>rw[Uk h2 E];simp[H]
 | some u =>
  obtain ⟨j,hj,_⟩:=Uj (i:=0) h2 E;rw[hj];simp
omit [DecidableEq κ] in
theorem QlJ {t kt et:Nat}{z:Value}[hm:Mp P t kt et z] {enc:κ→Value}{x:Operand}{b:Nat}{m:List (κ×Value)}(h:ZE enc w.heap b m) (hx:ev f x=.map (some b)) :
  (execOp (ev f) ⟨d,.call ⟨.builtin .len,#[x],#[t]⟩,ty,ps,af,gd⟩).run P w=.ok (.value (.int .i64 m.length)) w:=by
 obtain ⟨es,c,h1,h2⟩:=h;have hl:es.size=m.length:=by have:=congrArg List.length h2;simpa using this
 simp[execOp,resolve,invoke,builtin,Builtin.len_,hx,run_underlying hm.u,goInt,YV h1,hl]
theorem zp {t kt et:Nat}{z:Value}[hm:Mp P t kt et z] {enc:κ→Value}[hk:Key P kt enc] {b:Nat}{m:List (κ×Value)}{k:κ}{u:Value}(h:ZE enc w.heap b m) :
  ∃w',(Instr.mapUpdate t (.map (some b)) (enc k) u).run P w=.ok () w'∧Step [b] w w'∧ZE enc w'.heap b (mput m k u):=by
 have hl:=h.lt;obtain ⟨es,c,h1,h2⟩:=h;have E:=hk.find w k (m.map (·.1)) es.toList (QaB h2);have stp:∀H J,Step [b] w { w with heap:=w.heap.setIfInBounds b (.map H J) }:=λH J =>
  ⟨rfl,rfl,rfl,by simp,λi hi S=>by
   have:b≠i:=λe=>S (by simp[e]);simp[Array.getElem?_setIfInBounds_ne this]⟩
 cases G:mget m k with
 | none =>
  rw[Uk h2 G] at E;refine ⟨_,?_,stp (es.push { key:=enc k,val:=u,born:=c }) (c+1),es.push { key:=enc k,val:=u,born:=c },c+1,?_,?_⟩
  ·simp only[Instr.mapUpdate,Sem.run_bind,run_underlying hm.u,Result.andThen_ok,YV h1,hk.check,E,VD h1]
  ·simp[hl]
  have U:mput m k u=m++[(k,u)]:=by
   clear h2 E;induction m with
   | nil=>rfl
   | cons p m ih =>
    obtain ⟨q,x⟩:=p;by_cases hq:q=k
    ·simp[mget,hq] at G
    simp only[mget,hq,if_false] at G;simp[mput,hq,ih G]
  simp[U,h2]
 | some u0 =>
  obtain ⟨j,hj,hb,⟨e,he,V⟩,Y⟩:=Uj (i:=0) h2 G;rw[hj] at E;simp only[Nat.zero_add] at E;have Z:∀w,(Instr.keyThatStays (enc k) (enc k)).run P w=.ok (enc k) w:=λw=>by simp[Instr.keyThatStays,hk.same]
  have ha:((es[j]?).map (·.key)).getD (enc k)=enc k:=by
   have:es[j]?=some e:=by simpa using he
   simp[this,V]
  refine ⟨_,?_,stp (es.modify j λe=>{ e with key:=enc k,val:=u }) c,es.modify j λe=>{ e with key:=enc k,val:=u },c,?_,?_⟩
  ·simp only[Instr.mapUpdate,Sem.run_bind,run_underlying hm.u,Result.andThen_ok,YV h1,hk.check,E,ha,Z,VD h1]
  ·simp[hl]
  rw[Array.toList_modify];exact Y u
theorem Yx {t kt et:Nat}{z:Value}[hm:Mp P t kt et z] {enc:κ→Value}[hk:Key P kt enc] {x y v:Operand}{b:Nat}{m:List (κ×Value)}{k:κ}(h:ZE enc w.heap b m) (hx:ev f x=.map (some b)) (hy:ev f y=enc k)
  (E:∀w',Step [b] w w'→ZE enc w'.heap b (mput m k (ev f v))→K (Q4 f d undef) w'):XO P ⟨d,.mapUpdate t x y v,ty,ps,af,gd⟩ f w K:=by
 obtain ⟨w',h1,h2,h3⟩:=zp (P:=P) (t:=t) (k:=k) (u:=ev f v) h;exact xk (w':=w') (by simp[execOp,hx,hy,h1]) (E w' h2 h3)
theorem Xg {t kt et:Nat}{z:Value}[hm:Mp P t kt et z] {enc:κ→Value}[hk:Key P kt enc] {x y v:Operand}{b:Nat}{m:List (κ×Value)}{k:κ}(h:ZE enc w.heap b m) (hx:ev f x=.map (some b)) (hy:ev f y=enc k)
  (E:∀w',Step [b] w w'→ZE enc w'.heap b (mput m k (ev f v))→K (Q4 f d undef) w'):XO P ⟨d,.insert t x y v,ty,ps,af,gd⟩ f w K:=by
 obtain ⟨w',h1,h2,h3⟩:=zp (P:=P) (t:=t) (k:=k) (u:=ev f v) h;exact xk (w':=w') (by simp[execOp,hx,hy,h1]) (E w' h2 h3)
end
section
variable {P:Program} {ops:List Oper} {K:Fr→World→Prop} {f:Fr} {w:World} {d:Option Nat} {ty:Nat} {ps:String} {af:Array Edge} {gd:Option (Nat×Bool)} {l:List Oper}
theorem Kl {b T:Nat}{cs E:LV}(h:QX w.heap b T cs):QX (w.setRow b E.toArray).heap b T E:=setRow_heap w b cs.toArray E.toArray T (0,0) h
theorem yS (cs:LV) (j:Nat) (u:Value) (h:j<cs.length):cs.take j++[u]++cs.drop (j+1)=cs.set j u:=by
 rw[List.set_eq_take_append_cons_drop,if_pos h];simp
theorem QH {t:Nat}[h1:Jk P t] {x y:Operand}{b T j:Nat}{cs:LV}{u:Value}(E:QX w.heap b T cs) (hx:ev f x=.pointer (some ⟨b,j,none⟩)) (hy:ev f y=u) (hj:j<cs.length) (hu:u.oneCell'=true)
  (J:∀w',Step [b] w w'→QX w'.heap b T (cs.set j u)→K (Q4 f d undef) w'):XO P ⟨d,.store t x y,ty,ps,af,gd⟩ f w K:=by
 have hc:u.cells=#[u]:=by cases u <;> first | rfl | cases hu
 have G:=run_storeCells_at P b j T [u] 0 cs.toArray w E (by simp;omega) (by simp[hu]);simp only[Nat.add_zero,List.length_singleton,yS cs j u hj] at G;refine xk (w':=w.setRow b (cs.set j u).toArray) ?_ (J _ (Step.setRow _ _ _) (Kl E));simp[execOp,hx,hy,Instr.storeAt,Instr.sureAddr,storeVar,zn,hc,G]
def Y0:LV→Prop
 | []=>True
 | u::us=>u.oneCell'=true∧Y0 us
theorem Y0.all:∀{us:LV},Y0 us→∀u∈us,u.oneCell'=true
 | [],_,u,hu=>by cases hu
 | v::us,h,u,hu=>by
  rcases Li.1 hu with rfl | hu
  ·exact h.1
  exact Y0.all h.2 u hu
theorem Qq {t sz:Nat}[h1:Ag P t sz] {x y:Operand}{b T:Nat}{cs us:LV}(E:QX w.heap b T cs) (hx:ev f x=.pointer (some ⟨b,0,none⟩)) (hy:ev f y=.agg us.toArray) (hl:us.length=sz) (hj:cs.length=sz) (hu:Y0 us)
  (J:∀w',Step [b] w w'→QX w'.heap b T us→K (Q4 f d undef) w'):XO P ⟨d,.store t x y,ty,ps,af,gd⟩ f w K:=by
 have G:=run_storeCells_at P b 0 T us 0 cs.toArray w E (by simp;omega) hu.all;have e:(cs.take 0++us++cs.drop us.length)=us:=by rw[hl,←hj];simp
 simp only[Nat.add_zero,Nat.zero_add,e] at G;refine xk (w':=w.setRow b us.toArray) ?_ (J _ (Step.setRow _ _ _) (Kl E));subst hl;simp[execOp,hx,hy,Instr.storeAt,Instr.sureAddr,storeVar,UI (sz:=us.length),Value.cells,G]
theorem QP {x y:Operand}{t e sz bys:Nat}{z:Value}[h:Sl P t e sz bys z] {b o n c:Nat}{k:IntKind}{i:Nat}(hx:ev f x=.slice (some ⟨b,o,none⟩) n c) (hy:ev f y=.int k i) (h1:i<n) :
  (execOp (ev f) ⟨d,.indexAddr t x y,ty,ps,af,gd⟩).run P w=.ok (.value (.pointer (some ⟨b,o+i*sz,none⟩))) w:=by
 have:=X6 (P:=P) (w:=w) (d:=d) (ty:=ty) (ps:=ps) (af:=af) (gd:=gd) (t:=t) hx hy (by omega) (by omega);rw[XN] at this;simpa using this
theorem YG {t e sz bys:Nat}{z:Value}[h:Sl P t e sz bys z] {x y:Operand}{k k':IntKind}{n:Nat}(hx:ev f x=.int k n) (hy:ev f y=.int k' n) (J:n≤1099511627776)
  (S:∀b w',Step [] w w'→w.heap.size≤b→QX w'.heap b e (List.replicate n z.cells.toList).flatten→K (Q4 f d (.slice (some ⟨b,0,none⟩) n n)) w') (U:bys≤128:=by decide) :
  XO P ⟨d,.makeSlice t x y,ty,ps,af,gd⟩ f w K:=by
 obtain ⟨i,hi,V,Y,Z⟩:=Sl.info h;have hb:i.bytes*n≤281474976710656:=by
  rw[Z];exact L5 (Nat.mul_le_mul U J) (by omega)
 have ha:(i.bytes:Int)*(n:Int)≤281474976710656:=by
  have h:((i.bytes*n:Nat):Int)≤281474976710656:=by omega
  rwa [Int.natCast_mul] at h
 have E:=run_make (P:=P) w t e i z h.u hi V k k' n n (by omega) (Ni _) ha (by omega);simp only[Int.toNat_natCast] at E;have hc:madeCells z.cells (n*i.size)=(List.replicate n z.cells.toList).flatten.toArray:=by
  have he:z.cells.size=i.size:=by rw[h.zs,Y]
  have hg:0<z.cells.size:=by rw[h.zs];exact h.pos
  apply Array.ext';apply List.ext_getElem?;intro j;simp only[madeCells,←he,Array.toList_map,Array.toList_range,List.getElem?_map];have hf:∀n,(List.replicate n z.cells.toList).flatten.length=n*z.cells.size:=λn=>by simp
  have key:∀n j,j<n*z.cells.size→(List.replicate n z.cells.toList).flatten[j]?=some z.cells[j % z.cells.size]!:=by
   intro n;induction n with
   | zero=>intro j hj;omega
   | succ n ih =>
    intro j hj;rw[List.replicate_succ,List.flatten_cons];by_cases G:j<z.cells.size
    ·rw[Mi (by simpa using G),Nat.mod_eq_of_lt G];simp[G]
    rw[ME (by simp;omega)];have:=ih (j - z.cells.size) (by rw[Ms] at hj;omega);rw[NB,this];rw[←Nat.mod_eq_sub_mod (by omega)]
  by_cases hj:j<n*z.cells.size
  ·rw[key n j hj];simp[hj]
  rw[MS (by simpa using Nat.le_of_not_lt hj),List.getElem?_eq_none (by rw[hf];omega)];rfl
 rw[hc] at E;refine xv (w':=w.alloc (.cells (List.replicate n z.cells.toList).flatten.toArray e)) (v:=.slice (some ⟨w.heap.size,0,none⟩) n n) ?_ (S _ _ (Step.alloc w _) (Lv _) (K6 w _));simp[execOp,hx,hy,E]
theorem ZZ {k:IntKind}{i y:Nat}{c:BoundsCode}(h:i≤y):(Instr.sliceBound (.int k i) y c).run P w=.ok i w:=by
 simp[Instr.sliceBound,asIntOf,h]
theorem Zz.cut {L:LN}{H:Array Obj}{a:Addr}{n cap sz:Nat}{cs:LV}(h:Zz L H (.slice (some a) n cap) n sz cs) {lo hi:Nat}(h1:lo≤hi) (h2:hi≤n) :
  Zz L H (.slice (if cap=lo then some a else some (a.add (lo*sz))) (hi - lo) (cap - lo)) (hi - lo) sz ((cs.drop (lo*sz)).take ((hi - lo)*sz)):=by
 obtain ⟨h3,h4,h5⟩:=h;rcases h5 with ⟨E,_⟩ | ⟨a',cap',E,J,G⟩
 ·cases E
 cases E
 refine ⟨?_,by omega,.inr ?_⟩
 ·simp only[List.length_take,List.length_drop,h3,←Nat.sub_mul];rw[Nm];exact MB _ (by omega)
 split
 ·rename_i hc;have:hi - lo=0:=by omega
  refine ⟨a,cap - lo,by rw[this],by omega,λu hu=>?_,λu hu=>?_,λj u hu=>?_⟩
  ·simp[this] at hu
  ·simp[this] at hu
  simp[this] at hu
 refine ⟨a.add (lo*sz),cap - lo,O,by omega,λu hu=>by rw[Yk];exact G.out u (Mt (Mh hu)),λu hu=>by rw[Yk];exact G.lt u (Mt (Mh hu)),λj u hu=>?_⟩;rw[Addr.add_add];rw[Ma] at hu;split at hu
 ·exact G.cell _ u (by simpa using hu)
 cases hu
theorem Qek {t e sz bys:Nat}{z:Value}[h:Sl P t e sz bys z] {x y1 y2:Operand}{L:LN}{v:Value}{n:Nat}{cs:LV}{H:Array Obj}{k k':IntKind}{lo hi:Nat}(G:Zz L H v n sz cs) (hx:ev f x=v) (hl:ev f y1=.int k lo) (J:ev f y2=.int k' hi)
  (h1:lo≤hi) (h2:hi≤n):∃v',Zz L H v' (hi - lo) sz ((cs.drop (lo*sz)).take ((hi - lo)*sz))∧∀w,(execOp (ev f) ⟨d,.slice t x (some y1) (some y2) none,ty,ps,af,gd⟩).run P w=.ok (.value v') w:=by
 obtain ⟨i,S,_,U,_⟩:=Sl.info h;rcases G.2.2 with ⟨E,V⟩ | ⟨a,cap,E,hc,Y⟩
 ·have e1:hi=0:=by omega
  have e2:lo=0:=by omega
  subst e1 e2;refine ⟨nS,⟨by simp,by omega,.inl ⟨rfl,rfl⟩⟩,λw=>?_⟩;simp[execOp,hx,E,hl,J,Instr.sliceAt,Instr.slice,run_underlying h.u,Instr.sliceBounds,Instr.sliceBound,asIntOf,sizeOf,typeInfo,S]
 subst E;refine ⟨_,G.cut h1 h2,λw=>?_⟩;have e1:(Instr.sliceBound (.int k' hi) cap .sliceAcap).run P w=.ok hi w:=ZZ (by omega);have e2:(Instr.sliceBound (.int k lo) hi .sliceB).run P w=.ok lo w:=ZZ (by omega);simp[execOp,hx,hl,J,Instr.sliceAt,Instr.slice,run_underlying h.u,Instr.sliceBounds,e1,e2,sizeOf,typeInfo,S,U]
theorem Qg1 {t e sz bys:Nat}{z:Value}[h:Sl P t e sz bys z] {x y1:Operand}{L:LN}{v:Value}{n:Nat}{cs:LV}{H:Array Obj}{k:IntKind}{lo:Nat}(E:Zz L H v n sz cs) (hx:ev f x=v) (hl:ev f y1=.int k lo)
  (h1:lo≤n):∃v',Zz L H v' (n - lo) sz (cs.drop (lo*sz))∧∀w,(execOp (ev f) ⟨d,.slice t x (some y1) none none,ty,ps,af,gd⟩).run P w=.ok (.value v') w:=by
 obtain ⟨i,J,_,U,_⟩:=Sl.info h;rcases E.2.2 with ⟨G,V⟩ | ⟨a,cap,G,hc,Y⟩
 ·have e2:lo=0:=by omega
  subst e2 V;have:cs=[]:=Ln (by simpa using E.1);subst this;refine ⟨nS,⟨by simp,by omega,.inl ⟨rfl,rfl⟩⟩,λw=>?_⟩;simp[execOp,hx,G,hl,Instr.sliceAt,Instr.slice,run_underlying h.u,Instr.sliceBounds,Instr.sliceBound,asIntOf,sizeOf,typeInfo,J]
 subst G;have S:=E.cut h1 (Lv n);have e:(cs.drop (lo*sz)).take ((n - lo)*sz)=cs.drop (lo*sz):=Lq (by rw[Mf,E.1,←Nat.sub_mul];exact Lv _);rw[e] at S;refine ⟨_,S,λw=>?_⟩;have e2:(Instr.sliceBound (.int k lo) n .sliceB).run P w=.ok lo w:=ZZ h1
 simp[execOp,hx,hl,Instr.sliceAt,Instr.slice,run_underlying h.u,Instr.sliceBounds,e2,sizeOf,typeInfo,J,U]
theorem Qg2 {t e sz bys:Nat}{z:Value}[h:Sl P t e sz bys z] {x y2:Operand}{L:LN}{v:Value}{n:Nat}{cs:LV}{H:Array Obj}{k:IntKind}{hi:Nat}(G:Zz L H v n sz cs) (hx:ev f x=v) (J:ev f y2=.int k hi)
  (h1:hi≤n):∃v',Zz L H v' hi sz (cs.take (hi*sz))∧∀w,(execOp (ev f) ⟨d,.slice t x none (some y2) none,ty,ps,af,gd⟩).run P w=.ok (.value v') w:=by
 obtain ⟨i,S,_,V,_⟩:=Sl.info h;rcases G.2.2 with ⟨E,Y⟩ | ⟨a,cap,E,hc,Z⟩
 ·have e2:hi=0:=by omega
  subst e2;refine ⟨nS,⟨by simp,by omega,.inl ⟨rfl,rfl⟩⟩,λw=>?_⟩;simp[execOp,hx,E,J,Instr.sliceAt,Instr.slice,run_underlying h.u,Instr.sliceBounds,Instr.sliceBound,asIntOf,sizeOf,typeInfo,S]
 subst E;have U:=G.cut (Lm hi) h1;simp only[Nat.zero_mul,List.drop_zero,Nat.sub_zero] at U;refine ⟨_,U,λw=>?_⟩;have e2:(Instr.sliceBound (.int k hi) cap .sliceAcap).run P w=.ok hi w:=ZZ (by omega);simp[execOp,hx,J,Instr.sliceAt,Instr.slice,run_underlying h.u,Instr.sliceBounds,e2,sizeOf,typeInfo,S]
end
section
variable {P:Program} {ops:List Oper} {K:Fr→World→Prop} {C:World→Prop} {f:Fr} {w w0:World} {d:Option Nat} {ty:Nat} {ps:String} {af:Array Edge} {gd:Option (Nat×Bool)} {pl:List (Nat×Bool)} {i0:Nat}
theorem pi {x y:Operand}{t e sz bys:Nat}{z:Value}[Sl P t e sz bys z] {L:LN}{n:Nat}{cs:LV}{v:Value}{H:Array Obj}{k:IntKind}{i:Nat}
  (E:Q6 ops i0=⟨d,.indexAddr t x y,ty,ps,af,gd⟩) (h:Zz L H v n sz cs) (G:ev f x=v) (hy:ev f y=.int k i) (hi:i<n)
  (J:∀a,At L H a ((cs.drop (i*sz)).take sz)→XP P ops C K pl (Q4 f d (.pointer (some a))) w) (S:YD ops f (Q6 ops i0)=true:=by rfl) :
  XP P ops C K ((i0,true)::pl) f w:=by
 obtain ⟨a,cap,h1,h2⟩:=h.at hi;refine Lg.p (λw'=>by rw[E];exact X6 (G.trans h1) hy (by omega) (by omega)) ?_ S;rw[E];refine J _ ?_;simpa using h2
theorem pii {x y:Operand}{t e bys:Nat}{z:Value}[Sl P t e 1 bys z] {L:LN}{li:LI}{v:Value}{H:Array Obj}{k:IntKind}{i:Nat}
  (E:Q6 ops i0=⟨d,.indexAddr t x y,ty,ps,af,gd⟩) (h:QO L H v li) (G:ev f x=v) (hy:ev f y=.int k i) (hi:i<li.length)
  (J:∀a,At L H a [.int .i64 li[i]]→XP P ops C K pl (Q4 f d (.pointer (some a))) w) (S:YD ops f (Q6 ops i0)=true:=by rfl) :
  XP P ops C K ((i0,true)::pl) f w:=by
 obtain ⟨a,cap,h1,h2⟩:=QO.at h hi;refine Lg.p (λw'=>by rw[E];exact X6 (G.trans h1) hy (by omega) (by omega)) ?_ S;rw[E];refine J _ ?_;simpa using h2
end
abbrev Ed:=Int×Int×Int
def Qz (e:Ed):LV:=[.int .i64 e.1,.int .i64 e.2.1,.int .i64 e.2.2]
abbrev qc (L:LN) (H:Array Obj) (v:Value) (es:List Ed):Prop:=Zz L H v es.length 3 (es.flatMap Qz)
theorem Kr {α:Type}(g:α→LV) (sz:Nat) (E:∀x,(g x).length=sz):∀(l:List α) (i:Nat) (h:i<l.length),((l.flatMap g).drop (i*sz)).take sz=g l[i]
 | x::l,0,_=>by simp[E]
 | x::l,i+1,h=>by
  have:=Kr g sz E l i (by simpa using h);simp only[List.flatMap_cons,List.getElem_cons_succ];rw[←this,Ms,NE,MX,List.drop_append,E];simp[Nat.add_sub_cancel_left,List.drop_eq_nil_of_le,E]
theorem YI {α:Type}(g:α→LV) (sz:Nat) (E:∀x,(g x).length=sz) (l:List α):(l.flatMap g).length=l.length*sz:=by
 induction l with
 | nil=>simp
 | cons x l ih=>simp[ih,E,Nat.add_mul,Nat.add_comm]
theorem JK (e:Ed):(Qz e).length=3:=rfl
structure QE where
 al:LI
 st:Int
 mr:LI
 ed:List Ed
structure Zi (L:LN) (H:Array Obj) (va vm ve:Value) (a:QE):Prop where
 al:QO L H va a.al
 mr:QO L H vm a.mr
 ed:qc L H ve a.ed
def Qod (L:LN) (H:Array Obj) (v:Value) (a:QE):Prop:=∃va vm ve,v=.agg #[va,.int .i64 a.st,vm,ve]∧Zi L H va vm ve a
theorem Zi.ext {L:LN}{w w':World}{va vm ve:Value}{a:QE}(h:Zi L w.heap va vm ve a) (hs:Step [] w w'):Zi L w'.heap va vm ve a:=⟨h.al.ext hs,h.mr.ext hs,h.ed.ext hs⟩
theorem Zi.st {L:LN}{w w':World}{va vm ve:Value}{a:QE}(h:Zi L w.heap va vm ve a) (hs:Step L w w'):Zi L w'.heap va vm ve a:=⟨h.al.st hs,h.mr.st hs,h.ed.st hs⟩
theorem Zi.up {L L':LN}{H:Array Obj}{va vm ve:Value}{a:QE}(h:Zi L H va vm ve a) (E:∀b∈L',b∈L∨H.size≤b):Zi L' H va vm ve a:=⟨h.al.up E,h.mr.up E,h.ed.up E⟩
section
variable {P:Program} {f:Fr} {w:World} {d:Option Nat} {ty:Nat} {ps:String} {af:Array Edge} {gd:Option (Nat×Bool)}
class Ik (P:Program) (t:Nat) (k:outParam IntKind):Prop where
 u:P.underlying t=some (.int k)
theorem YA {t E:Nat}{k k':IntKind}[h:Ik P t k] [h':Ik P E k'] {x:Operand}{n:Int}{G:IntKind}(hx:ev f x=.int G n) (J:inK k' n) :
  (execOp (ev f) ⟨d,.convert t E x,ty,ps,af,gd⟩).run P w=.ok (.value (.int k' n)) w:=by
 simp[execOp,hx,convert,run_underlying h.u,run_underlying h'.u,Conv.intToInt,Ve J]
theorem Qnb {x y:Operand}{a b:Int}{k:IntKind}{ts:Array Nat}(hx:ev f x=.int k a) (hy:ev f y=.int k b) :
  (execOp (ev f) ⟨d,.call ⟨.builtin .max,#[x,y],ts⟩,ty,ps,af,gd⟩).run P w=.ok (.value (.int k (max a b))) w:=by
 simp[execOp,resolve,invoke,builtin,Builtin.max_,Builtin.max2,hx,hy];split <;> omega
class Bk (P:Program) (t:Nat):Prop where
 u:P.underlying t=some .bool
class St (P:Program) (t:Nat):Prop where
 u:P.underlying t=some .string
theorem Qdb {t E:Nat}[h:Bk P t] {x y:Operand}{a b:Bool}(hx:ev f x=.bool a) (hy:ev f y=.bool b) :
  (execOp (ev f) ⟨d,.binOp .eql t x y E,ty,ps,af,gd⟩).run P w=.ok (.value (.bool (a == b))) w:=by
 have G:(eqGuard .eql t x y (.bool a) (.bool b)).run P w=.ok () w:=by simp[eqGuard]
 simp[execOp,hx,hy,G,run_eql_bool (P:=P) (w:=w) t a b h.u]
end
theorem Q9 {α:Type}{l:List α}{k:Nat}(h:k<l.length):l.drop k=l[k]::l.drop (k+1):=LQ h
theorem qc.at {L:LN}{H:Array Obj}{v:Value}{es:List Ed}(h:qc L H v es) {i:Nat}(hi:i<es.length) :
  ∃a cap,v=.slice (some a) es.length cap∧At L H (a.add (i*3)) (Qz es[i]):=by
 obtain ⟨a,cap,h1,h2⟩:=Zz.at h hi;rw[Kr Qz 3 JK es i hi] at h2;exact ⟨a,cap,h1,h2⟩
section
variable {P:Program} {ops:List Oper} {K:Fr→World→Prop} {f:Fr} {w:World} {d:Option Nat} {ty:Nat} {ps:String} {af:Array Edge} {gd:Option (Nat×Bool)} {l:List Oper} {C:World→Prop} {pl:List (Nat×Bool)} {i0:Nat}
theorem xie {x y:Operand}{t e bys:Nat}{z:Value}[Sl P t e 3 bys z] {L:LN}{es:List Ed}{v:Value}{k:IntKind}{i:Nat}
  (h:qc L w.heap v es) (E:ev f x=v) (hy:ev f y=.int k i) (hi:i<es.length)
  (G:∀a,At L w.heap a (Qz es[i])→XL P ops K l (Q4 f d (.pointer (some a))) w) (J:YD ops f ⟨d,.indexAddr t x y,ty,ps,af,gd⟩=true:=by rfl) :
  XL P ops K (⟨d,.indexAddr t x y,ty,ps,af,gd⟩::l) f w:=by
 obtain ⟨a,cap,h1,h2⟩:=qc.at h hi;refine xl J (xv (X6 (E.trans h1) hy (by omega) (by omega)) (G _ ?_));simpa using h2
theorem pie {x y:Operand}{t e bys:Nat}{z:Value}[Sl P t e 3 bys z] {L:LN}{es:List Ed}{v:Value}{H:Array Obj}{k:IntKind}{i:Nat}
  (E:Q6 ops i0=⟨d,.indexAddr t x y,ty,ps,af,gd⟩) (h:qc L H v es) (G:ev f x=v) (hy:ev f y=.int k i) (hi:i<es.length)
  (J:∀a,At L H a (Qz es[i])→XP P ops C K pl (Q4 f d (.pointer (some a))) w) (S:YD ops f (Q6 ops i0)=true:=by rfl) :
  XP P ops C K ((i0,true)::pl) f w:=by
 obtain ⟨a,cap,h1,h2⟩:=qc.at h hi;refine Lg.p (λw'=>by rw[E];exact X6 (G.trans h1) hy (by omega) (by omega)) ?_ S;rw[E];refine J _ ?_;simpa using h2
end
section
variable {P:Program} {f:Fr} {w:World} {d:Option Nat} {ty:Nat} {ps:String} {af:Array Edge} {gd:Option (Nat×Bool)}
theorem Qel {t E:Nat}{x y:Operand}{k k':IntKind}{a:Int}{n:Nat}(hx:ev f x=.int k a) (hy:ev f y=.int k' n) (G:n≤k.bits) :
  (execOp (ev f) ⟨d,.binOp .shr t x y E,ty,ps,af,gd⟩).run P w=.ok (.value (.int k (a / 2 ^ n))) w:=by
 refine JW hx hy ?_;have h1:¬((n:Int)<0):=by omega
 simp only[binOp,Op.shift,h1,if_false,Int.toNat_natCast,Nat.min_eq_left G,Sem.run_pure];rw[Int.fdiv_eq_ediv_of_nonneg _ (Int.le_of_lt (Int.pow_pos (by decide)))]
class S3 (P:Program) (t:Nat):Prop where
 u:∃f0 f1 f2,P.underlying t=some (.struct #[f0,f1,f2])∧f0.name ≠ "_" ∧ f1.name ≠ "_" ∧ f2.name ≠ "_" ∧ f0.offset=0∧f1.offset=1∧f2.offset=2 ∧
  P.underlying f0.type=some (.int .i64)∧P.underlying f1.type=some (.int .i64)∧P.underlying f2.type=some (.int .i64)
 s:P.stoodInHeld t=false
 g:P.eqGuardType P.depth t=false
theorem Qal {t:Nat}[h:S3 P t] (w:World) (p q:Ed):(Op.equal t (.agg (Qz p).toArray) (.agg (Qz q).toArray)).run P w=.ok (decide (p=q)) w:=by
 obtain ⟨a,b,c⟩:=p;obtain ⟨S,U,V⟩:=q;obtain ⟨f0,f1,f2,hu,n0,n1,n2,J,o1,o2,E,G,u2⟩:=h.u;have Y:∀e w,P.underlying e=some (.int .i64)→(isAgg e).run P w=.ok false w:=λe w he=>by simp[isAgg,run_underlying he]
 have hp:∀e (x y z:Int) (w:World),P.underlying e=some (.int .i64)→(part e #[.int .i64 x,.int .i64 y,.int .i64 z] 0).run P w=.ok (.int .i64 x) w:=λe x y z w he=>by simp[part,Y e w he]
 have hp1:∀e (x y z:Int) (w:World),P.underlying e=some (.int .i64)→(part e #[.int .i64 x,.int .i64 y,.int .i64 z] 1).run P w=.ok (.int .i64 y) w:=λe x y z w he=>by simp[part,Y e w he]
 have hp2:∀e (x y z:Int) (w:World),P.underlying e=some (.int .i64)→(part e #[.int .i64 x,.int .i64 y,.int .i64 z] 2).run P w=.ok (.int .i64 z) w:=λe x y z w he=>by simp[part,Y e w he]
 have heq:∀e (m:Nat) (x y:Int) (w:World),P.underlying e=some (.int .i64)→(Op.equalIn (m+1) e (.int .i64 x) (.int .i64 y)).run P w=.ok (x == y) w:=λe m x y w he=>by simp[Op.equalIn,run_underlying he]
 have key:∀m,(Op.equalIn (m+2) t (.agg (Qz (a,b,c)).toArray) (.agg (Qz (S,U,V)).toArray)).run P w=.ok (decide ((a,b,c)=(S,U,V))) w:=by
  intro m;simp only[Qz];unfold Op.equalIn;simp only[Sem.run_bind,run_underlying hu,Result.andThen_ok];by_cases e1:a=S
  ·subst e1;by_cases e2:b=U
   ·subst e2;by_cases e3:c=V
    ·subst e3;simp[h.s,n0,n1,n2,J,o1,o2,hp _ _ _ _ _ E,hp1 _ _ _ _ _ G,hp2 _ _ _ _ _ u2,heq _ _ _ _ _ E,heq _ _ _ _ _ G,heq _ _ _ _ _ u2]
    simp[h.s,n0,n1,n2,J,o1,o2,hp _ _ _ _ _ E,hp1 _ _ _ _ _ G,hp2 _ _ _ _ _ u2,heq _ _ _ _ _ E,heq _ _ _ _ _ G,heq _ _ _ _ _ u2,e3]
   simp[h.s,n0,n1,J,o1,hp _ _ _ _ _ E,hp1 _ _ _ _ _ G,heq _ _ _ _ _ E,heq _ _ _ _ _ G,e2]
  simp[h.s,n0,J,hp _ _ _ _ _ E,heq _ _ _ _ _ E,e1]
 exact key 9998
theorem Qar {t E:Nat}[h:S3 P t] {x y:Operand}{p q:Ed}(hx:ev f x=.agg (Qz p).toArray) (hy:ev f y=.agg (Qz q).toArray) :
  (execOp (ev f) ⟨d,.binOp .neq t x y E,ty,ps,af,gd⟩).run P w=.ok (.value (.bool (decide (¬p=q)))) w:=by
 have G:(eqGuard .neq t x y (.agg (Qz p).toArray) (.agg (Qz q).toArray)).run P w=.ok () w:=by simp[eqGuard,h.g]
 simp only[execOp,hx,hy,Sem.run_bind,G,Result.andThen_ok,binOp,Qal,Sem.run_pure];by_cases e:p=q <;> simp[e]
end
theorem Step.then1 {L:LN}{w0 w w':World}{b:Nat}(h:Step L w0 w) (k:Step [b] w w') (hb:w0.heap.size≤b):Step L w0 w':=h.then k (λc hc=>.inr (by simp at hc;omega))
section
variable {P:Program} {K:Fr→World→Prop} {f:Fr} {w:World} {d:Option Nat} {ty:Nat} {ps:String} {af:Array Edge} {gd:Option (Nat×Bool)}
theorem Qat {t E e sz bys:Nat}{z:Value}[h:Sl P t e sz bys z] {x y:Operand}{a:Option Addr}{n c:Nat}(hx:ev f x=.slice a n c) (hy:ev f y=nS) :
  (execOp (ev f) ⟨d,.binOp .eql t x y E,ty,ps,af,gd⟩).run P w=.ok (.value (.bool a.isNone)) w:=by
 have G:(eqGuard .eql t x y (.slice a n c) (nS)).run P w=.ok () w:=by simp[eqGuard]
 have key:∀m,(Op.equalIn (m+1) t (.slice a n c) (nS)).run P w=.ok a.isNone w:=by
  intro m;unfold Op.equalIn;cases a <;> simp[run_underlying h.u]
 have he:(Op.equal t (.slice a n c) (nS)).run P w=.ok a.isNone w:=key 9999;simp only[execOp,hx,hy,Sem.run_bind,G,Result.andThen_ok,binOp,he,Sem.run_pure]
theorem Qay {t e sz bys:Nat}{z:Value}[h:Sl P t e sz bys z]
  (E:∀b w',Step [] w w'→w.heap.size≤b→QX w'.heap b e []→K (Q4 f d (.slice (some ⟨b,0,none⟩) 0 0)) w'):XO P ⟨d,.buildSlice t 0 #[],ty,ps,af,gd⟩ f w K:=by
 obtain ⟨ie,G,S,U,_⟩:=Sl.info h;have J:(execOp (ev f) ⟨d,.buildSlice t 0 #[],ty,ps,af,gd⟩).run P w=.ok (.value (.slice (some ⟨w.heap.size,0,none⟩) 0 0)) (w.alloc (.cells #[] e)):=by
  simp[execOp,Instr.buildSlice,run_underlying h.u,sizeOf,typeInfo,G,Instr.fill,newRow];have e0:Array.map (λ_=>(default:Value)) (Array.range 0)=#[]:=by apply Array.ext';simp
  rw[e0]
 exact xv J (E _ _ (Step.alloc w _) (Lv _) (K6 w _))
end
abbrev Qn (e base:Nat) (w:World) (v:Value) (l:LI):Prop:=w.ownsRow base e 1 v l.length (l.map (.int .i64))
theorem Qn.ints {e base:Nat}{w:World}{v:Value}{l:LI}{L:LN}(h:Qn e base w v l) (E:l.length≤1099511627776) (G:∀b∈L,b<base):QO L w.heap v l :=
 QW h E (λb hb J=>by have:=(Qm h b hb).1;have:=G b J;omega)
theorem zC (l:LI):∀u∈l.map (Value.int .i64),u.oneCell'=true:=by
 intro u hu;obtain ⟨n,_,rfl⟩:=Lz.1 hu;rfl
section
variable {P:Program} {ops:List Oper} {K:Fr→World→Prop} {f:Fr} {w:World} {d:Option Nat} {ty:Nat} {ps:String} {af:Array Edge} {gd:Option (Nat×Bool)} {l:List Oper} {C:World→Prop} {pl:List (Nat×Bool)} {i0:Nat}
 {t e sz bys:Nat} {z:Value} {x y1 y2:Operand} {L:LN} {v:Value} {n:Nat} {cs:LV} {H:Array Obj} {k k':IntKind} {lo hi:Nat}
theorem QlN [h:Sl P t e sz bys z] (E:Q6 ops i0=⟨d,.slice t x (some y1) none none,ty,ps,af,gd⟩) (G:Zz L H v n sz cs) (hx:ev f x=v) (hl:ev f y1=.int k lo) (h1:lo≤n) (J:∀v',Zz L H v' (n - lo) sz (cs.drop (lo*sz))→XP P ops C K pl (Q4 f d v') w)
  (S:YD ops f (Q6 ops i0)=true:=by rfl):XP P ops C K ((i0,true)::pl) f w:=by
 obtain ⟨v',h2,h3⟩:=Qg1 (P:=P) (d:=d) (ty:=ty) (ps:=ps) (af:=af) (gd:=gd) (t:=t) G hx hl h1;exact Lg.p (λw'=>by rw[E];exact h3 w') (by rw[E];exact J v' h2) S
theorem QnT [h:Sl P t e sz bys z] (E:Zz L H v n sz cs) (hx:ev f x=v) (hl:ev f y1=.int k lo) (G:ev f y2=.int k' hi) (h1:lo≤hi) (h2:hi≤n) (J:∀v',Zz L H v' (hi - lo) sz ((cs.drop (lo*sz)).take ((hi - lo)*sz))→XL P ops K l (Q4 f d v') w)
  (S:YD ops f ⟨d,.slice t x (some y1) (some y2) none,ty,ps,af,gd⟩=true:=by rfl):XL P ops K (⟨d,.slice t x (some y1) (some y2) none,ty,ps,af,gd⟩::l) f w:=by
 obtain ⟨v',h3,h4⟩:=Qek (P:=P) (d:=d) (ty:=ty) (ps:=ps) (af:=af) (gd:=gd) (t:=t) E hx hl G h1 h2;exact xl S (xv (h4 w) (J v' h3))
theorem Qm3 [h:Sl P t e sz bys z] (E:Zz L H v n sz cs) (hx:ev f x=v) (G:ev f y2=.int k hi) (h1:hi≤n) (J:∀v',Zz L H v' hi sz (cs.take (hi*sz))→XL P ops K l (Q4 f d v') w)
  (S:YD ops f ⟨d,.slice t x none (some y2) none,ty,ps,af,gd⟩=true:=by rfl):XL P ops K (⟨d,.slice t x none (some y2) none,ty,ps,af,gd⟩::l) f w:=by
 obtain ⟨v',h2,h3⟩:=Qg2 (P:=P) (d:=d) (ty:=ty) (ps:=ps) (af:=af) (gd:=gd) (t:=t) E hx G h1;exact xl S (xv (h3 w) (J v' h2))
end
theorem QO.drop {L:LN}{H:Array Obj}{v:Value}{l:LI}{lo:Nat}(h:Zz L H v (l.length - lo) 1 ((l.map (Value.int .i64)).drop (lo*1))):QO L H v (l.drop lo):=by
 rw[Nat.mul_one,←List.map_drop] at h;have e:(l.drop lo).length=l.length - lo:=Mf;unfold QO;rw[e];exact h
theorem Qn.snoc {e base:Nat}{w:World}{v:Value}{l:LI}{n:Int}(h:w.ownsRow base e 1 v (l.length+1) (l.map (Value.int .i64)++[.int .i64 n])):Qn e base w v (l++[n]):=by
 unfold Qn;rw[Lk,LA];exact h
def Dj (u v:Value):Prop:=∀b∈ob u,b∉ob v
theorem Dj.symm {u v:Value}(h:Dj u v):Dj v u:=λb hb hu=>h b hu hb
theorem Dj.nil (v:Value):Dj (nS) v:=λb hb=>by simp[ob] at hb
theorem Dj.nil' (v:Value):Dj v (nS):=(Dj.nil v).symm
theorem Dj.grow {u v v':Value}{N:Nat}(h:Dj u v) (E:∀b∈ob v',b∈ob v∨N≤b) (hu:∀b∈ob u,b<N):Dj u v' :=
 λb hb G=>by rcases E b G with h1 | h1;exact h b hb h1;have:=hu b hb;omega
theorem QY {w:World}{base e sz n:Nat}{v:Value}{cs:LV}(h:w.ownsRow base e sz v n cs):∀b∈ob v,b<w.heap.size:=λb hb=>(Qm h b hb).2
theorem QU {w:World}{base e sz n:Nat}{v:Value}{cs:LV}(h:w.ownsRow base e sz v n cs) {b:Nat}(hb:b<base):b∉ob v:=λhm=>by have:=(Qm h b hm).1;omega
abbrev ZS (e base:Nat) (w:World) (v:Value) (l:List Ed):Prop:=w.ownsRow base e 3 v l.length (l.flatMap Qz)
theorem ZS.snoc {e base:Nat}{w:World}{v:Value}{l:List Ed}{n:Ed}(h:w.ownsRow base e 3 v (l.length+1) (l.flatMap Qz++Qz n)):ZS e base w v (l++[n]):=by
 unfold ZS;rw[Lk,LL];simpa using h
theorem ZS.eds {e base:Nat}{w:World}{v:Value}{l:List Ed}{L:LN}(h:ZS e base w v l) (E:l.length≤1099511627776) (G:∀b∈L,b<base):qc L w.heap v l :=
 QW h E (λb hb J=>by have:=(Qm h b hb).1;have:=G b J;omega)
def Xb (N:Nat) (H:Array Obj) (v:Value) (a:QE):Prop:=∃va vm ve,v=.agg #[va,.int .i64 a.st,vm,ve]∧∀L:LN,(∀b∈L,b<N)→Zi L H va vm ve a
theorem Xb.v {N:Nat}{H:Array Obj}{v:Value}{a:QE}(h:Xb N H v a) {L:LN}(E:∀b∈L,b<N):Qod L H v a:=let ⟨va,vm,ve,h1,h2⟩:=h;⟨va,vm,ve,h1,h2 L E⟩
theorem Xb.ext {N:Nat}{w w':World}{v:Value}{a:QE}(h:Xb N w.heap v a) (hs:Step [] w w'):Xb N w'.heap v a:=let ⟨va,vm,ve,h1,h2⟩:=h;⟨va,vm,ve,h1,λL E=>(h2 L E).ext hs⟩
theorem Xb.mono {N M:Nat}{H:Array Obj}{v:Value}{a:QE}(h:Xb N H v a) (E:M≤N):Xb M H v a:=let ⟨va,vm,ve,h1,h2⟩:=h;⟨va,vm,ve,h1,λL G=>h2 L (λb hb=>MC (G b hb) E)⟩
section
variable {P:Program} {K:Fr→World→Prop} {f:Fr} {w:World} {d:Option Nat} {ty:Nat} {ps:String} {af:Array Edge} {gd:Option (Nat×Bool)}
theorem Vg {t:Nat}[Jk P t] {x:Operand}{b T i:Nat}{l:LI}(h:QX w.heap b T (l.map (.int .i64))) (hx:ev f x=.pointer (some ⟨b,0+i*1,none⟩)) (hi:i<l.length) :
  (execOp (ev f) ⟨d,.load t x,ty,ps,af,gd⟩).run P w=.ok (.value (.int .i64 l[i])) w:=Qc h hx (by simp[hi])
theorem XK {t:Nat}[h1:Jk P t] {x y:Operand}{b T i:Nat}{l:LI}{u:Int}(E:QX w.heap b T (l.map (.int .i64))) (hx:ev f x=.pointer (some ⟨b,0+i*1,none⟩)) (hy:ev f y=.int .i64 u) (hi:i<l.length)
  (G:∀w',Step [b] w w'→QX w'.heap b T ((l.set i u).map (.int .i64))→K (Q4 f d undef) w'):XO P ⟨d,.store t x y,ty,ps,af,gd⟩ f w K:=by
 refine QH E hx hy (by simpa using hi) rfl λw' hs J=>G w' hs ?_;rw[Np];simpa using J
end
theorem V4 (n:Nat) (u:Value):(List.replicate n [u]).flatten=List.replicate n u:=by
 induction n with
 | zero=>rfl
 | succ n ih=>simp[List.replicate_succ,ih]
end Go.Lg
namespace Go.Proofs
open Go.Proofs.Tryz
open Go.Lg
instance:Sl prog 32 119 4 4 (.agg #[.int .u8 0,.int .u8 0,.int .u8 0,.int .u8 0]):=⟨underlying32,by kernel_rfl,O,by decide⟩
instance:Sl prog 37 3 1 8 (.int .i64 0):=⟨underlying37,by kernel_rfl,O,by decide⟩
instance:Sl prog 42 87 5 32 (.agg #[.string ByteArray.empty,.bool false,.bool false,.bool false,.int .i64 0]):=⟨underlying42,by kernel_rfl,O,by decide⟩
instance:Sl prog 43 66 5 96 (.agg #[.string ByteArray.empty,nS,.int .i64 0,nS,nS]):=⟨underlying43,by kernel_rfl,O,by decide⟩
instance:Sl prog 44 122 2 40 (.agg #[.string ByteArray.empty,nS]):=⟨underlying44,by kernel_rfl,O,by decide⟩
instance:Sl prog 45 127 3 48 (.agg #[.string ByteArray.empty,nS,.int .i64 0]):=⟨underlying45,by kernel_rfl,O,by decide⟩
instance:Sl prog 56 144 3 24 (.agg #[.int .i64 0,.int .i64 0,.int .i64 0]):=⟨underlying56,by kernel_rfl,O,by decide⟩
instance:Sl prog 67 58 4 80 (.agg #[nS,.int .i64 0,nS,nS]):=⟨underlying67,by kernel_rfl,O,by decide⟩
instance:Sl prog 73 5 1 1 (.int .u8 0):=⟨underlying73,by kernel_rfl,O,by decide⟩
instance:Sl prog 74 37 1 24 (nS):=⟨underlying74,by kernel_rfl,O,by decide⟩
instance:Sl prog 75 83 4 32 (.agg #[.int .i64 0,.int .i64 0,.int .i64 0,.int .i64 0]):=⟨underlying75,by kernel_rfl,O,by decide⟩
instance:Sl prog 120 124 2 16 (.agg #[.int .i64 0,.int .i64 0]):=⟨underlying120,by kernel_rfl,O,by decide⟩
instance:Sl prog 125 129 2 16 (.agg #[.int .i64 0,.int .i64 0]):=⟨underlying125,by kernel_rfl,O,by decide⟩
instance:Sl prog 166 320 4 32 (.agg #[.int .i64 0,.int .i64 0,.int .i64 0,.int .i64 0]):=⟨underlying166,by kernel_rfl,O,by decide⟩
instance:Sl prog 207 212 4 56 (.agg #[nS,nS,.bool false,.bool false]):=⟨underlying207,by kernel_rfl,O,by decide⟩
instance:Sl prog 232 231 3 40 (.agg #[.int .i64 0,.int .i64 0,nS]):=⟨underlying232,by kernel_rfl,O,by decide⟩
instance:Sl prog 241 225 1 8 (.map none):=⟨underlying241,by kernel_rfl,O,by decide⟩
instance:Sl prog 260 313 1 8 (.nilFunc):=⟨underlying260,by kernel_rfl,O,by decide⟩
instance:Sl prog 283 4 1 1 (.bool false):=⟨underlying283,by kernel_rfl,O,by decide⟩
instance:Sl prog 349 348 3 24 (.agg #[.int .i64 0,.int .i64 0,.int .i64 0]):=⟨underlying349,by kernel_rfl,O,by decide⟩
instance:Sl prog 371 56 1 24 (nS):=⟨underlying371,by kernel_rfl,O,by decide⟩
instance:Zd prog 28 0 0:=⟨by kernel_rfl⟩
instance:Zd prog 28 1 1:=⟨by kernel_rfl⟩
instance:Zd prog 28 2 2:=⟨by kernel_rfl⟩
instance:Zd prog 36 0 0:=⟨by kernel_rfl⟩
instance:Zd prog 36 1 5:=⟨by kernel_rfl⟩
instance:Zd prog 36 2 6:=⟨by kernel_rfl⟩
instance:Zd prog 36 3 9:=⟨by kernel_rfl⟩
instance:Zd prog 36 4 90:=⟨by kernel_rfl⟩
instance:Zd prog 36 5 91:=⟨by kernel_rfl⟩
instance:Zd prog 36 6 93:=⟨by kernel_rfl⟩
instance:Zd prog 36 7 147:=⟨by kernel_rfl⟩
instance:Zd prog 36 8 148:=⟨by kernel_rfl⟩
instance:Zd prog 36 9 151:=⟨by kernel_rfl⟩
instance:Zd prog 47 0 0:=⟨by kernel_rfl⟩
instance:Zd prog 47 1 1:=⟨by kernel_rfl⟩
instance:Zd prog 47 2 2:=⟨by kernel_rfl⟩
instance:Zd prog 47 3 3:=⟨by kernel_rfl⟩
instance:Zd prog 47 4 4:=⟨by kernel_rfl⟩
instance:Zd prog 58 0 0:=⟨by kernel_rfl⟩
instance:Zd prog 58 1 1:=⟨by kernel_rfl⟩
instance:Zd prog 58 2 2:=⟨by kernel_rfl⟩
instance:Zd prog 58 3 3:=⟨by kernel_rfl⟩
instance:Zd prog 66 0 0:=⟨by kernel_rfl⟩
instance:Zd prog 66 1 1:=⟨by kernel_rfl⟩
instance:Zd prog 77 0 0:=⟨by kernel_rfl⟩
instance:Zd prog 77 1 4:=⟨by kernel_rfl⟩
instance:Zd prog 77 2 5:=⟨by kernel_rfl⟩
instance:Zd prog 77 3 6:=⟨by kernel_rfl⟩
instance:Zd prog 77 4 7:=⟨by kernel_rfl⟩
instance:Zd prog 83 0 0:=⟨by kernel_rfl⟩
instance:Zd prog 87 0 0:=⟨by kernel_rfl⟩
instance:Zd prog 87 1 1:=⟨by kernel_rfl⟩
instance:Zd prog 87 2 2:=⟨by kernel_rfl⟩
instance:Zd prog 87 3 3:=⟨by kernel_rfl⟩
instance:Zd prog 87 4 4:=⟨by kernel_rfl⟩
instance:Zd prog 122 0 0:=⟨by kernel_rfl⟩
instance:Zd prog 122 1 1:=⟨by kernel_rfl⟩
instance:Zd prog 124 0 0:=⟨by kernel_rfl⟩
instance:Zd prog 124 1 1:=⟨by kernel_rfl⟩
instance:Zd prog 127 0 0:=⟨by kernel_rfl⟩
instance:Zd prog 127 1 1:=⟨by kernel_rfl⟩
instance:Zd prog 127 2 2:=⟨by kernel_rfl⟩
instance:Zd prog 129 0 0:=⟨by kernel_rfl⟩
instance:Zd prog 129 1 1:=⟨by kernel_rfl⟩
instance:Zd prog 144 0 0:=⟨by kernel_rfl⟩
instance:Zd prog 144 1 1:=⟨by kernel_rfl⟩
instance:Zd prog 144 2 2:=⟨by kernel_rfl⟩
instance:Zd prog 151 0 0:=⟨by kernel_rfl⟩
instance:Zd prog 151 1 1:=⟨by kernel_rfl⟩
instance:Zd prog 151 2 2:=⟨by kernel_rfl⟩
instance:Zd prog 154 0 0:=⟨by kernel_rfl⟩
instance:Zd prog 154 1 5:=⟨by kernel_rfl⟩
instance:Zd prog 154 2 9:=⟨by kernel_rfl⟩
instance:Zd prog 154 3 10:=⟨by kernel_rfl⟩
instance:Zd prog 154 4 14:=⟨by kernel_rfl⟩
instance:Zd prog 154 5 15:=⟨by kernel_rfl⟩
instance:Zd prog 154 6 18:=⟨by kernel_rfl⟩
instance:Zd prog 168 0 0:=⟨by kernel_rfl⟩
instance:Zd prog 168 1 1:=⟨by kernel_rfl⟩
instance:Zd prog 168 2 2:=⟨by kernel_rfl⟩
instance:Zd prog 170 0 0:=⟨by kernel_rfl⟩
instance:Zd prog 170 1 3:=⟨by kernel_rfl⟩
instance:Zd prog 170 2 4:=⟨by kernel_rfl⟩
instance:Zd prog 170 3 8:=⟨by kernel_rfl⟩
instance:Zd prog 212 0 0:=⟨by kernel_rfl⟩
instance:Zd prog 212 1 1:=⟨by kernel_rfl⟩
instance:Zd prog 212 2 2:=⟨by kernel_rfl⟩
instance:Zd prog 212 3 3:=⟨by kernel_rfl⟩
instance:Zd prog 231 0 0:=⟨by kernel_rfl⟩
instance:Zd prog 231 1 1:=⟨by kernel_rfl⟩
instance:Zd prog 231 2 2:=⟨by kernel_rfl⟩
instance:Zd prog 243 0 0:=⟨by kernel_rfl⟩
instance:Zd prog 243 1 1:=⟨by kernel_rfl⟩
instance:Zd prog 243 2 2:=⟨by kernel_rfl⟩
instance:Zd prog 251 0 0:=⟨by kernel_rfl⟩
instance:Zd prog 251 1 1:=⟨by kernel_rfl⟩
instance:Zd prog 290 0 0:=⟨by kernel_rfl⟩
instance:Zd prog 290 1 1:=⟨by kernel_rfl⟩
instance:Zd prog 290 2 2:=⟨by kernel_rfl⟩
instance:Zd prog 290 3 3:=⟨by kernel_rfl⟩
instance:Zd prog 290 4 4:=⟨by kernel_rfl⟩
instance:Zd prog 290 5 8:=⟨by kernel_rfl⟩
instance:Zd prog 292 0 0:=⟨by kernel_rfl⟩
instance:Zd prog 292 1 4:=⟨by kernel_rfl⟩
instance:Zd prog 300 0 0:=⟨by kernel_rfl⟩
instance:Zd prog 300 1 1:=⟨by kernel_rfl⟩
instance:Zd prog 300 2 2:=⟨by kernel_rfl⟩
instance:Zd prog 320 0 0:=⟨by kernel_rfl⟩
instance:Zd prog 324 0 0:=⟨by kernel_rfl⟩
instance:Zd prog 324 1 4:=⟨by kernel_rfl⟩
instance:Zd prog 324 2 5:=⟨by kernel_rfl⟩
instance:Zd prog 324 3 6:=⟨by kernel_rfl⟩
instance:Zd prog 348 0 0:=⟨by kernel_rfl⟩
instance:Zd prog 348 1 1:=⟨by kernel_rfl⟩
instance:Zd prog 348 2 2:=⟨by kernel_rfl⟩
instance:Jk prog 3:=⟨⟨_,underlying3,O⟩,by kernel_rfl⟩
instance:Jk prog 4:=⟨⟨_,underlying4,O⟩,by kernel_rfl⟩
instance:Jk prog 5:=⟨⟨_,underlying5,O⟩,by kernel_rfl⟩
instance:Jk prog 9:=⟨⟨_,underlying9,O⟩,by kernel_rfl⟩
instance:Jk prog 24:=⟨⟨_,underlying24,O⟩,by kernel_rfl⟩
instance:Jk prog 32:=⟨⟨_,underlying32,O⟩,by kernel_rfl⟩
instance:Jk prog 33:=⟨⟨_,underlying33,O⟩,by kernel_rfl⟩
instance:Jk prog 37:=⟨⟨_,underlying37,O⟩,by kernel_rfl⟩
instance:Jk prog 42:=⟨⟨_,underlying42,O⟩,by kernel_rfl⟩
instance:Jk prog 43:=⟨⟨_,underlying43,O⟩,by kernel_rfl⟩
instance:Jk prog 44:=⟨⟨_,underlying44,O⟩,by kernel_rfl⟩
instance:Jk prog 45:=⟨⟨_,underlying45,O⟩,by kernel_rfl⟩
instance:Jk prog 49:=⟨⟨_,underlying49,O⟩,by kernel_rfl⟩
instance:Jk prog 56:=⟨⟨_,underlying56,O⟩,by kernel_rfl⟩
instance:Jk prog 67:=⟨⟨_,underlying67,O⟩,by kernel_rfl⟩
instance:Jk prog 73:=⟨⟨_,underlying73,O⟩,by kernel_rfl⟩
instance:Jk prog 74:=⟨⟨_,underlying74,O⟩,by kernel_rfl⟩
instance:Jk prog 75:=⟨⟨_,underlying75,O⟩,by kernel_rfl⟩
instance:Jk prog 120:=⟨⟨_,underlying120,O⟩,by kernel_rfl⟩
instance:Jk prog 125:=⟨⟨_,underlying125,O⟩,by kernel_rfl⟩
instance:Jk prog 147:=⟨⟨_,underlying147,O⟩,by kernel_rfl⟩
instance:Jk prog 152:=⟨⟨_,underlying152,O⟩,by kernel_rfl⟩
instance:Jk prog 166:=⟨⟨_,underlying166,O⟩,by kernel_rfl⟩
instance:Jk prog 207:=⟨⟨_,underlying207,O⟩,by kernel_rfl⟩
instance:Jk prog 225:=⟨⟨_,underlying225,O⟩,by kernel_rfl⟩
instance:Jk prog 241:=⟨⟨_,underlying241,O⟩,by kernel_rfl⟩
instance:Jk prog 249:=⟨⟨_,underlying249,O⟩,by kernel_rfl⟩
instance:Jk prog 267:=⟨⟨_,underlying267,O⟩,by kernel_rfl⟩
instance:Jk prog 283:=⟨⟨_,underlying283,O⟩,by kernel_rfl⟩
instance:Jk prog 313:=⟨⟨_,underlying313,O⟩,by kernel_rfl⟩
instance:Jk prog 322:=⟨⟨_,underlying322,O⟩,by kernel_rfl⟩
instance:Jk prog 349:=⟨⟨_,underlying349,O⟩,by kernel_rfl⟩
instance:Ag prog 23 5:=⟨⟨_,underlying23,O⟩,by kernel_rfl⟩
instance:Ag prog 28 27:=⟨⟨_,underlying28,O⟩,by kernel_rfl⟩
instance:Ag prog 36 152:=⟨⟨_,underlying36,O⟩,by kernel_rfl⟩
instance:Ag prog 47 5:=⟨⟨_,underlying47,O⟩,by kernel_rfl⟩
instance:Ag prog 58 4:=⟨⟨_,underlying58,O⟩,by kernel_rfl⟩
instance:Ag prog 66 5:=⟨⟨_,underlying66,O⟩,by kernel_rfl⟩
instance:Ag prog 77 8:=⟨⟨_,underlying77,O⟩,by kernel_rfl⟩
instance:Ag prog 83 4:=⟨⟨_,underlying83,O⟩,by kernel_rfl⟩
instance:Ag prog 87 5:=⟨⟨_,underlying87,O⟩,by kernel_rfl⟩
instance:Ag prog 119 4:=⟨⟨_,underlying119,O⟩,by kernel_rfl⟩
instance:Ag prog 122 2:=⟨⟨_,underlying122,O⟩,by kernel_rfl⟩
instance:Ag prog 124 2:=⟨⟨_,underlying124,O⟩,by kernel_rfl⟩
instance:Ag prog 127 3:=⟨⟨_,underlying127,O⟩,by kernel_rfl⟩
instance:Ag prog 129 2:=⟨⟨_,underlying129,O⟩,by kernel_rfl⟩
instance:Ag prog 144 3:=⟨⟨_,underlying144,O⟩,by kernel_rfl⟩
instance:Ag prog 151 3:=⟨⟨_,underlying151,O⟩,by kernel_rfl⟩
instance:Ag prog 170 9:=⟨⟨_,underlying170,O⟩,by kernel_rfl⟩
instance:Ag prog 212 4:=⟨⟨_,underlying212,O⟩,by kernel_rfl⟩
instance:Ag prog 227 2:=⟨⟨_,underlying227,O⟩,by kernel_rfl⟩
instance:Ag prog 231 3:=⟨⟨_,underlying231,O⟩,by kernel_rfl⟩
instance:Ag prog 243 3:=⟨⟨_,underlying243,O⟩,by kernel_rfl⟩
instance:Ag prog 292 5:=⟨⟨_,underlying292,O⟩,by kernel_rfl⟩
instance:Ag prog 320 4:=⟨⟨_,underlying320,O⟩,by kernel_rfl⟩
instance:Ze prog 3 (.int .i64 0):=⟨by kernel_rfl⟩
instance:Ze prog 37 (nS):=⟨by kernel_rfl⟩
instance:Ze prog 47 (.agg #[nS,nS,nS,nS,nS]):=⟨by kernel_rfl⟩
instance:Ze prog 49 (.int .i64 0):=⟨by kernel_rfl⟩
instance:Ze prog 58 (.agg #[nS,.int .i64 0,nS,nS]):=⟨by kernel_rfl⟩
instance:Ze prog 66 (.agg #[.string ByteArray.empty,nS,.int .i64 0,nS,nS]):=⟨by kernel_rfl⟩
instance:Ze prog 77 (.agg #[nS,.int .i64 0,nS,nS,nS,nS,nS,nS]):=⟨by kernel_rfl⟩
instance:Ze prog 83 (.agg #[.int .i64 0,.int .i64 0,.int .i64 0,.int .i64 0]):=⟨by kernel_rfl⟩
instance:Ze prog 87 (.agg #[.string ByteArray.empty,.bool false,.bool false,.bool false,.int .i64 0]):=⟨by kernel_rfl⟩
instance:Ze prog 119 (.agg #[.int .u8 0,.int .u8 0,.int .u8 0,.int .u8 0]):=⟨by kernel_rfl⟩
instance:Ze prog 122 (.agg #[.string ByteArray.empty,nS]):=⟨by kernel_rfl⟩
instance:Ze prog 124 (.agg #[.int .i64 0,.int .i64 0]):=⟨by kernel_rfl⟩
instance:Ze prog 127 (.agg #[.string ByteArray.empty,nS,.int .i64 0]):=⟨by kernel_rfl⟩
instance:Ze prog 129 (.agg #[.int .i64 0,.int .i64 0]):=⟨by kernel_rfl⟩
instance:Ze prog 144 (.agg #[.int .i64 0,.int .i64 0,.int .i64 0]):=⟨by kernel_rfl⟩
instance:Ze prog 151 (.agg #[nS,nS,nS]):=⟨by kernel_rfl⟩
instance:Ze prog 170 (.agg #[nS,nS,nS,.int .i64 0,nS,.int .i64 0,nS,nS,nS]):=⟨by kernel_rfl⟩
instance:Ze prog 227 (.agg #[.int .i64 0,.int .i64 0]):=⟨by kernel_rfl⟩
instance:Ze prog 231 (.agg #[.int .i64 0,.int .i64 0,nS]):=⟨by kernel_rfl⟩
instance:Ze prog 243 (.agg #[nS,nS,nS]):=⟨by kernel_rfl⟩
instance:Ze prog 251 (.agg #[.pointer none,nS]):=⟨by kernel_rfl⟩
instance:Ze prog 283 (nS):=⟨by kernel_rfl⟩
instance:Ze prog 292 (.agg #[nS,.int .i64 0,nS,nS,nS]):=⟨by kernel_rfl⟩
instance:Ze prog 320 (.agg #[.int .i64 0,.int .i64 0,.int .i64 0,.int .i64 0]):=⟨by kernel_rfl⟩
instance:Ze prog 349 (nS):=⟨by kernel_rfl⟩
instance:Bs prog 47 [nS,nS,nS,nS,nS] [0,1,2,3,4]:=⟨by kernel_rfl,by decide⟩
instance:Bs prog 58 [nS,.int .i64 0,nS,nS] [0,1,2,3]:=⟨by kernel_rfl,by decide⟩
instance:Bs prog 83 [.int .i64 0,.int .i64 0,.int .i64 0,.int .i64 0] [0,1,2,3]:=⟨by kernel_rfl,by decide⟩
instance:Bs prog 87 [.string ByteArray.empty,.bool false,.bool false,.bool false,.int .i64 0] [0,1,2,3,4]:=⟨by kernel_rfl,by decide⟩
instance:Bs prog 122 [.string ByteArray.empty,nS] [0,1]:=⟨by kernel_rfl,by decide⟩
instance:Bs prog 124 [.int .i64 0,.int .i64 0] [0,1]:=⟨by kernel_rfl,by decide⟩
instance:Bs prog 127 [.string ByteArray.empty,nS,.int .i64 0] [0,1,2]:=⟨by kernel_rfl,by decide⟩
instance:Bs prog 129 [.int .i64 0,.int .i64 0] [0,1]:=⟨by kernel_rfl,by decide⟩
instance:Bs prog 144 [.int .i64 0,.int .i64 0,.int .i64 0] [0,1,2]:=⟨by kernel_rfl,by decide⟩
instance:Bs prog 151 [nS,nS,nS] [0,1,2]:=⟨by kernel_rfl,by decide⟩
instance:Bs prog 227 [.int .i64 0,.int .i64 0] [0,1]:=⟨by kernel_rfl,by decide⟩
instance:Bs prog 231 [.int .i64 0,.int .i64 0,nS] [0,1,2]:=⟨by kernel_rfl,by decide⟩
instance:Bs prog 243 [nS,nS,nS] [0,1,2]:=⟨by kernel_rfl,by decide⟩
instance:Bs prog 294 [nS,nS] [0,1]:=⟨by kernel_rfl,by decide⟩
instance:Bs prog 300 [nS,nS,.map none] [0,1,2]:=⟨by kernel_rfl,by decide⟩
instance:Bs prog 320 [.int .i64 0,.int .i64 0,.int .i64 0,.int .i64 0] [0,1,2,3]:=⟨by kernel_rfl,by decide⟩
instance:Bs prog 348 [.int .i64 0,.int .i64 0,.int .i64 0] [0,1,2]:=⟨by kernel_rfl,by decide⟩
instance:Ik prog 3 .i64:=⟨underlying3⟩
instance:Bk prog 4:=⟨underlying4⟩
instance:Ik prog 5 .u8:=⟨underlying5⟩
instance:St prog 9:=⟨underlying9⟩
instance:Ik prog 21 .i32:=⟨underlying21⟩
instance:Ik prog 33 .i8:=⟨underlying33⟩
instance:Ik prog 269 .u64:=⟨underlying269⟩
instance:S3 prog 144:=⟨⟨_,_,_,underlying144,by decide,by decide,by decide,O,O,O,underlying3,underlying3,underlying3⟩,by kernel_rfl,by kernel_rfl⟩
instance:Mp prog 152 9 3 (.int .i64 0):=⟨underlying152,by kernel_rfl⟩
instance:Key prog 9 Jp:=Qkc underlying9
instance:Mp prog 192 9 4 (.bool false):=⟨underlying192,by kernel_rfl⟩
instance:Mp prog 214 3 213 (.nilFunc):=⟨underlying214,by kernel_rfl⟩
instance:Key prog 3 KH:=Qkd underlying3
instance:Mp prog 225 227 3 (.int .i64 0):=⟨underlying225,by kernel_rfl⟩
instance:Key prog 227 Zy:=QhF underlying227 underlying3 (by kernel_rfl)
instance:Mp prog 233 227 4 (.bool false):=⟨underlying233,by kernel_rfl⟩
instance:Mp prog 302 3 3 (.int .i64 0):=⟨underlying302,by kernel_rfl⟩
instance:Mp prog 322 3 37 (nS):=⟨underlying322,by kernel_rfl⟩
instance:Fu prog 13 Tryz.f13:=Zo func13
instance:Fu prog 14 Tryz.f14:=Zo func14
instance:Fu prog 25 Tryz.f25:=Zo func25
instance:Fu prog 27 Tryz.f27:=Zo func27
instance:Fu prog 28 Tryz.f28:=Zo func28
instance:Fu prog 29 Tryz.f29:=Zo func29
instance:Fu prog 30 Tryz.f30:=Zo func30
instance:Fu prog 32 Tryz.f32:=Zo func32
instance:Fu prog 37 Tryz.f37:=Zo func37
instance:Fu prog 43 Tryz.f43:=Zo func43
instance:Fu prog 44 Tryz.f44:=Zo func44
instance:Fu prog 45 Tryz.f45:=Zo func45
instance:Fu prog 46 Tryz.f46:=Zo func46
instance:Fu prog 47 Tryz.f47:=Zo func47
instance:Fu prog 48 Tryz.f48:=Zo func48
instance:Fu prog 51 Tryz.f51:=Zo func51
instance:Fu prog 52 Tryz.f52:=Zo func52
instance:Fu prog 53 Tryz.f53:=Zo func53
instance:Fu prog 54 Tryz.f54:=Zo func54
instance:Fu prog 55 Tryz.f55:=Zo func55
instance:Fu prog 56 Tryz.f56:=Zo func56
instance:Fu prog 57 Tryz.f57:=Zo func57
instance:Fu prog 58 Tryz.f58:=Zo func58
instance:Fu prog 59 Tryz.f59:=Zo func59
instance:Fu prog 64 Tryz.f64:=Zo func64
instance:Fu prog 66 Tryz.f66:=Zo func66
instance:Fu prog 68 Tryz.f68:=Zo func68
instance:Fu prog 69 Tryz.f69:=Zo func69
instance:Fu prog 70 Tryz.f70:=Zo func70
instance:Fu prog 71 Tryz.f71:=Zo func71
instance:Fu prog 72 Tryz.f72:=Zo func72
instance:Fu prog 73 Tryz.f73:=Zo func73
instance:Fu prog 74 Tryz.f74:=Zo func74
instance:Fu prog 75 Tryz.f75:=Zo func75
instance:Fu prog 76 Tryz.f76:=Zo func76
instance:Fu prog 77 Tryz.f77:=Zo func77
instance:Fu prog 78 Tryz.f78:=Zo func78
instance:Fu prog 79 Tryz.f79:=Zo func79
instance:Fu prog 80 Tryz.f80:=Zo func80
instance:Fu prog 84 Tryz.f84:=Zo func84
instance:Fu prog 94 Tryz.f94:=Zo func94
instance:Fu prog 95 Tryz.f95:=Zo func95
instance:Fu prog 96 Tryz.f96:=Zo func96
instance:Fu prog 97 Tryz.f97:=Zo func97
instance:Fu prog 98 Tryz.f98:=Zo func98
instance:Fu prog 101 Tryz.f101:=Zo func101
instance:Fu prog 104 Tryz.f104:=Zo func104
instance:Fu prog 105 Tryz.f105:=Zo func105
instance:Fu prog 106 Tryz.f106:=Zo func106
instance:Fu prog 107 Tryz.f107:=Zo func107
instance:Fu prog 109 Tryz.f109:=Zo func109
instance:Fu prog 114 Tryz.f114:=Zo func114
instance:Fu prog 115 Tryz.f115:=Zo func115
instance:Fu prog 116 Tryz.f116:=Zo func116
instance:Fu prog 117 Tryz.f117:=Zo func117
instance:Fu prog 118 Tryz.f118:=Zo func118
instance:Fu prog 119 Tryz.f119:=Zo func119
instance:Fu prog 120 Tryz.f120:=Zo func120
instance:Fu prog 121 Tryz.f121:=Zo func121
instance:Fu prog 122 Tryz.f122:=Zo func122
instance:Fu prog 123 Tryz.f123:=Zo func123
instance:Fu prog 124 Tryz.f124:=Zo func124
instance:Fu prog 125 Tryz.f125:=Zo func125
instance:Fu prog 129 Tryz.f129:=Zo func129
instance:Fu prog 130 Tryz.f130:=Zo func130
instance:Fu prog 131 Tryz.f131:=Zo func131
instance:Fu prog 132 Tryz.f132:=Zo func132
instance:Fu prog 133 Tryz.f133:=Zo func133
instance:Fu prog 135 Tryz.f135:=Zo func135
instance:Fu prog 139 Tryz.f139:=Zo func139
instance:Fu prog 140 Tryz.f140:=Zo func140
instance:Fu prog 141 Tryz.f141:=Zo func141
instance:Fu prog 142 Tryz.f142:=Zo func142
instance:Fu prog 143 Tryz.f143:=Zo func143
instance:Fu prog 144 Tryz.f144:=Zo func144
instance:Fu prog 145 Tryz.f145:=Zo func145
instance:Fu prog 146 Tryz.f146:=Zo func146
instance:Fu prog 147 Tryz.f147:=Zo func147
instance:Fu prog 148 Tryz.f148:=Zo func148
instance:Fu prog 149 Tryz.f149:=Zo func149
instance:Fu prog 150 Tryz.f150:=Zo func150
instance:Fu prog 151 Tryz.f151:=Zo func151
instance:Fu prog 152 Tryz.f152:=Zo func152
instance:Fu prog 153 Tryz.f153:=Zo func153
instance:Fu prog 154 Tryz.f154:=Zo func154
instance:Fu prog 155 Tryz.f155:=Zo func155
instance:Fu prog 156 Tryz.f156:=Zo func156
instance:Fu prog 157 Tryz.f157:=Zo func157
instance:Fu prog 158 Tryz.f158:=Zo func158
instance:Fu prog 159 Tryz.f159:=Zo func159
instance:Fu prog 160 Tryz.f160:=Zo func160
instance:Fu prog 161 Tryz.f161:=Zo func161
instance:Fu prog 162 Tryz.f162:=Zo func162
instance:Fu prog 163 Tryz.f163:=Zo func163
instance:Fu prog 164 Tryz.f164:=Zo func164
instance:Fu prog 165 Tryz.f165:=Zo func165
instance:Fu prog 166 Tryz.f166:=Zo func166
instance:Fu prog 167 Tryz.f167:=Zo func167
instance:Fu prog 168 Tryz.f168:=Zo func168
instance:Fu prog 169 Tryz.f169:=Zo func169
instance:Fu prog 170 Tryz.f170:=Zo func170
instance:Fu prog 171 Tryz.f171:=Zo func171
instance:Fu prog 172 Tryz.f172:=Zo func172
instance:Fu prog 173 Tryz.f173:=Zo func173
instance:Fu prog 174 Tryz.f174:=Zo func174
instance:Fu prog 178 Tryz.f178:=Zo func178
instance:Fu prog 179 Tryz.f179:=Zo func179
instance:Fu prog 180 Tryz.f180:=Zo func180
instance:Fu prog 181 Tryz.f181:=Zo func181
instance:Fu prog 182 Tryz.f182:=Zo func182
instance:Fu prog 183 Tryz.f183:=Zo func183
instance:Fu prog 184 Tryz.f184:=Zo func184
instance:Fu prog 185 Tryz.f185:=Zo func185
instance:Fu prog 186 Tryz.f186:=Zo func186
instance:Fu prog 187 Tryz.f187:=Zo func187
instance:Fu prog 188 Tryz.f188:=Zo func188
instance:Fu prog 189 Tryz.f189:=Zo func189
instance:Fu prog 190 Tryz.f190:=Zo func190
instance:Fu prog 191 Tryz.f191:=Zo func191
instance:Fu prog 192 Tryz.f192:=Zo func192
instance:Fu prog 193 Tryz.f193:=Zo func193
instance:Fu prog 194 Tryz.f194:=Zo func194
instance:Fu prog 195 Tryz.f195:=Zo func195
instance:Fu prog 200 Tryz.f200:=Zo func200
instance:Fu prog 201 Tryz.f201:=Zo func201
instance:Fu prog 202 Tryz.f202:=Zo func202
instance:Fu prog 203 Tryz.f203:=Zo func203
instance:Fu prog 204 Tryz.f204:=Zo func204
instance:Fu prog 206 Tryz.f206:=Zo func206
instance:Fu prog 207 Tryz.f207:=Zo func207
instance:Fu prog 208 Tryz.f208:=Zo func208
instance:Fu prog 209 Tryz.f209:=Zo func209
instance:Fu prog 210 Tryz.f210:=Zo func210
instance:Fu prog 211 Tryz.f211:=Zo func211
instance:Fu prog 212 Tryz.f212:=Zo func212
instance:Fu prog 213 Tryz.f213:=Zo func213
instance:Fu prog 214 Tryz.f214:=Zo func214
instance:Fu prog 215 Tryz.f215:=Zo func215
instance:Fu prog 217 Tryz.f217:=Zo func217
instance:Fu prog 218 Tryz.f218:=Zo func218
instance:Fu prog 219 Tryz.f219:=Zo func219
instance:Fu prog 220 Tryz.f220:=Zo func220
instance:Fu prog 239 Tryz.f239:=Zo func239
instance:Fu prog 240 Tryz.f240:=Zo func240
instance:Fu prog 241 Tryz.f241:=Zo func241
instance:Fu prog 242 Tryz.f242:=Zo func242
instance:Fu prog 243 Tryz.f243:=Zo func243
instance:Fu prog 253 Tryz.f253:=Zo func253
instance:Fu prog 254 Tryz.f254:=Zo func254
instance:Fu prog 255 Tryz.f255:=Zo func255
instance:Fu prog 256 Tryz.f256:=Zo func256
instance:Fu prog 259 Tryz.f259:=Zo func259
instance:Fu prog 260 Tryz.f260:=Zo func260
instance:Fu prog 261 Tryz.f261:=Zo func261
instance:Fu prog 262 Tryz.f262:=Zo func262
instance:Fu prog 263 Tryz.f263:=Zo func263
instance:Fu prog 264 Tryz.f264:=Zo func264
instance:Fu prog 265 Tryz.f265:=Zo func265
instance:Fu prog 275 Tryz.f275:=Zo func275
instance:Fu prog 276 Tryz.f276:=Zo func276
instance:Fu prog 287 Tryz.f287:=Zo func287
theorem mixed:prog.follows .mixedOrders=true:=by kernel_rfl
end Go.Proofs
namespace Go.Proofs.YtdffckgdcegpaaaGreatDoor
open Go.Lg
def nxt (es:List Ed) (s e:Int):Int:=match es with
 | []=>-1
 | x::es=>if x.1=s∧x.2.1=e then x.2.2 else nxt es s e
abbrev ZT (l:LI):Prop:=l.Pairwise (·<·)
def zP:Option Int→Int→Bool
 | none,_=>false
 | some b,a=>decide (a≤b)
def Kt (n:Int):Option Int→LI→Int
 | _,[]=>0
 | pr,a::l=>if a<0∨n≤a then 2 else if zP pr a=true then 5 else Kt n (some a) l
def pv {α:Type}(l:List α) (k:Nat):Option α:=if k=0 then none else l[k - 1]?
theorem Kn {α:Type}{l:List α}{k:Nat}(h:k<l.length):pv l (k+1)=some l[k]:=by simp[pv,h]
def edO:Option Ed→Ed→Bool
 | none,_=>false
 | some y,a=>decide (a.1<y.1∨(a.1=y.1∧a.2.1≤y.2.1))
def ckE (al:LI) (st:Int):Option Ed→List Ed→Int
 | _,[]=>0
 | pr,a::l=>if a.1<0∨st≤a.1∨a.2.2<0∨st≤a.2.2 then 2 else if a.2.1∉al then 9 else if edO pr a=true then 5 else ckE al st (some a) l
def XW (a:QE):Int :=
 if Kt 32 none a.al≠0 then Kt 32 none a.al else if a.st<0 then 2 else if 4096<a.st then 3 else if Kt a.st none a.mr≠0 then Kt a.st none a.mr else ckE a.al a.st none a.ed
def Jb:LI→LI→Bool
 | [],_=>false
 | _::_,[]=>true
 | a::_,b::_=>decide (a≤b)
def tl (c:Bool) (l:LI):LI:=bif c then l.tail else l
def hx (a b:LI):Int:=bif Jb b a then b.headD 0 else a.headD 0
def y7 (keep:Bool→Bool→Bool):Nat→LI→LI→LI
 | 0,_,_=>[]
 | n+1,a,b=>if a=[]∧b=[] then [] else (bif keep (Jb a b) (Jb b a) then [hx a b] else [])++y7 keep n (tl (Jb a b) a) (tl (Jb b a) b)
def mrg (keep:Bool→Bool→Bool) (a b:LI):LI:=y7 keep (a.length+b.length) a b
theorem zV {a b:LI}(h:¬(a=[]∧b=[])):(tl (Jb a b) a).length+(tl (Jb b a) b).length<a.length+b.length:=by
 cases a with
 | nil=>cases b with
  | nil=>simp at h
  | cons y b=>simp[Jb,tl]
 | cons x a=>cases b with
  | nil=>simp[Jb,tl]
  | cons y b =>
   simp only[Jb,tl];by_cases h1:x≤y <;> by_cases h2:y≤x <;> simp[h1,h2] <;> omega
theorem jz (keep:Bool→Bool→Bool):∀(n:Nat) (a b:LI),a.length+b.length≤n→y7 keep n a b=mrg keep a b:=by
 have key:∀(n m:Nat) (a b:LI),a.length+b.length≤n→a.length+b.length≤m→y7 keep n a b=y7 keep m a b:=by
  intro n;induction n with
  | zero =>
   intro m a b h1 _;have ha:a=[]:=Ln (by omega);have hb:b=[]:=Ln (by omega);subst ha hb;cases m <;> simp[y7]
  | succ n ih =>
   intro m a b h1 h2;by_cases h:a=[]∧b=[]
   ·obtain ⟨rfl,rfl⟩:=h;cases m <;> simp[y7]
   have E:=zV h;cases m with
   | zero=>omega
   | succ m=>rw[y7,y7,if_neg h,if_neg h,ih m _ _ (by omega) (by omega)]
 intro n a b h;exact key n _ a b h (Lv _)
theorem Kq (keep:Bool→Bool→Bool):mrg keep [] []=[]:=rfl
theorem J0 (keep:Bool→Bool→Bool) {a b:LI}(h:¬(a=[]∧b=[])) :
  mrg keep a b=(bif keep (Jb a b) (Jb b a) then [hx a b] else [])++mrg keep (tl (Jb a b) a) (tl (Jb b a) b):=by
 have E:=zV h;rw[←jz keep (a.length+b.length - 1+1) a b (by omega),y7,if_neg h,jz keep _ _ _ (by omega)]
theorem Qdi (keep:Bool→Bool→Bool):∀(n:Nat) (a b:LI),a.length+b.length≤n→(mrg keep a b).length≤a.length+b.length:=by
 intro n;induction n with
 | zero =>
  intro a b h;have ha:a=[]:=Ln (by omega);have hb:b=[]:=Ln (by omega);subst ha hb;simp[Kq]
 | succ n ih =>
  intro a b E;by_cases h:a=[]∧b=[]
  ·obtain ⟨rfl,rfl⟩:=h;simp[Kq]
  have G:=zV h;rw[J0 keep h];have:=ih (tl (Jb a b) a) (tl (Jb b a) b) (by omega);cases keep (Jb a b) (Jb b a) <;> simp <;> omega
theorem X9 (keep:Bool→Bool→Bool) (a b:LI):(mrg keep a b).length≤a.length+b.length:=Qdi keep _ a b (Lv _)
theorem yr {α:Type}(q:α→Bool) (es:List α) (lo hi:Nat) (h1:lo≤hi) (h2:hi≤es.length) (ha:∀m (hm:m<es.length),m<lo→q es[m]=false) (hb:∀m (hm:m<es.length),lo≤m→m<hi→q es[m]=true)
  (hc:∀m (hm:m<es.length),hi≤m→q es[m]=false):(es.drop lo).take (hi - lo)=es.filter q:=by
 have e1:es=es.take lo++((es.drop lo).take (hi - lo)++es.drop hi):=by
  conv=>lhs;rw[←MT lo es]
  congr 1;conv=>lhs;rw[←MT (hi - lo) (es.drop lo)]
  rw[List.drop_drop];congr 2;omega
 have f1:(es.take lo).filter q=[]:=by
  rw[M6];intro a E;obtain ⟨m,hm,rfl⟩:=LO E;rw[LF] at hm;rw[List.getElem_take,ha m (by omega) (by omega)];simp
 have f3:(es.drop hi).filter q=[]:=by
  rw[M6];intro a E;obtain ⟨m,hm,rfl⟩:=LO E;rw[Mf] at hm;rw[List.getElem_drop,hc (hi+m) (by omega) (by omega)];simp
 have f2:((es.drop lo).take (hi - lo)).filter q=(es.drop lo).take (hi - lo):=by
  rw[List.filter_eq_self];intro a E;obtain ⟨m,hm,rfl⟩:=LO E;rw[LF,Mf] at hm;rw[List.getElem_take,List.getElem_drop];exact hb (lo+m) (by omega) (by omega) (by omega)
 conv=>rhs;rw[e1]
 rw[Me,Me,f1,f2,f3];simp
def Zv (es:List Ed) (s:Int):List Ed:=es.filter λe=>decide (e.1=s)
open Go.Proofs.Tryz
theorem QhT {L:LN}{w:World}{v:Value}{l:LI}(h:QO L w.heap v l) (n:Int) :
  QM prog 132 [v,.int .i64 n] w λr w'=>w'=w∧∃i:Int,r=.int .i64 i∧(0≤i↔n∈l):=by
 have S:=h.le;refine QM.of_W func132 O ntmps132 results132 (by simp) ?_;refine Qd<|Qf<|Qg<|Qd<|Qb<|x (Qw h O)<|Qb<|xe<|Qh<|QC (α:=Nat) [(4,5),(8,18)] (λk=>[(8,.int .i64 k)]) (λk w'=>w'=w∧k≤l.length∧(n∈l↔n∈l.drop k)) (λk=>l.length - k) (by rfl) 0 Lb ⟨O,Lm _,by simp⟩ ?_;rintro k g U ⟨rfl,hk,hm⟩;refine Qd<|x (QD O O)<|xe<|Qg<|QI O (λH=>?_) (λH=>?_)
 ·refine Qy<|Qd<|Qf<|Qs ⟨[.int .i64 (-1)],Lb,O,-1,O,?_⟩;rw[Lr (by omega)] at hm;simp[hm]
 have G:k<l.length:=by omega
 have hd:=Q9 G;refine Qj<|Qg<|Qh<|Qd<|Qb<|Qf<|Qd<|Qb<|Qb<|Qb<|xii h O O G λV J=>x (Qv J O)<|x (Zf O O)<|xe<|Zc rfl (λE=>?_) (λE=>?_)
 ·refine Qd<|Qb<|Qf<|Qs ⟨[.int .i64 k],Lb,O,k,O,?_⟩;have:n∈l:=by rw[hm,hd,E];exact Lh
  simp[this]
 refine Qj<|Qx<|QN O O<|Qb<|xe<|⟨k+1,by omega,Lb,O,by omega,?_⟩;rw[hm,hd,Li];exact ⟨λh=>h.resolve_left E,.inr⟩
theorem XR {L:LN}{w:World}{v:Value}{l:LI}(h:QO L w.heap v l) (n:Int) :
  QM prog 57 [v,.int .i64 n] w λr w'=>r=.bool (decide (n∈l))∧w'=w:=by
 refine QM.of_W func57 O ntmps57 results57 (by simp) ?_;refine Qd<|Qf<|Qd<|Qb<|Qb<|xl O<|xf<|(QhT h n).mono ?_;rintro E G ⟨rfl,i,rfl,hi⟩;refine x (Yg O O)<|Qf<|Qs ⟨[.bool (decide (0≤i))],Lb,?_,O⟩;simp[tup,hi]
theorem UU {L L':LN}{w:World}{v v':Value}{l l':LI}(h:QO L w.heap v l) (h':QO L' w.heap v' l') :
  QM prog 64 [v,v'] w λr w'=>r=.bool (decide (l=l'))∧Step [] w w':=by
 have ha:=h.le;refine QM.of_W func64 O ntmps64 results64 (by simp) ?_;refine Qd<|Qf<|Qg<|Qd<|Qb<|x (Qw h O)<|Qb<|x (Qw h' O)<|x (Zj O O)<|xe<|Zc rfl (λG=>?_) (λG=>?_)
 ·refine Qd<|Qf<|Qs ⟨[.bool false],Lb,?_,Step.refl _ _⟩;have:l≠l':=λe=>G (by rw[e]);simp[tup,this]
 have hb:l.length=l'.length:=by omega
 refine Qj<|Qg<|Qd<|Qb<|x (Qw h O)<|Qb<|xe<|Qh<|QC (α:=Nat) [(4,5),(13,25)] (λk=>[(13,.int .i64 k)]) (λk w'=>Step [] w w'∧k≤l.length∧(l=l'↔l.drop k=l'.drop k)) (λk=>l.length - k) (by rfl) 0 Lb ⟨Step.refl _ _,Lm _,by simp⟩ ?_;rintro k g H ⟨hs,hk,hm⟩
 replace h:=h.ext hs
 replace h':=h'.ext hs;refine Qd<|x (QD O O)<|xe<|Qg<|QI O (λV=>?_) (λV=>?_)
 ·refine Qy<|Qd<|Qf<|Qs ⟨[.bool true],Lb,?_,hs⟩;rw[Lr (by omega),Lr (by omega)] at hm;simp[tup,hm]
 have J:k<l.length:=by omega
 have S:k<l'.length:=by omega
 refine Qj<|Qg<|Qh<|Qd<|Qb<|Qf<|Qg<|QV (Step [] H) [(0,true),(1,true),(2,true),(3,true),(4,true),(5,true),(6,true),(7,true),(8,true)] mixed (by rfl) (by kernel_rfl) (Step.drew _ _) ?_;refine p (λ_=>Ql)<|p (λ_=>Ql)<|pii O h O O J λhe Y=>pq (λ_ hc=>Qv (Y.ext hc) O) <|
  p (λ_=>Ql)<|p (λ_=>Ql)<|pii O h' O O S λhf Z=>pq (λ_ hc=>Qv (Z.ext hc) O)<|p (λ_=>Zj O O)<|pe ?_
 have U:=hs.trans (Step.drew [] H);refine Zc rfl (λE=>?_) (λE=>?_)
 ·refine Qd<|Qf<|Qs ⟨[.bool false],Lb,?_,U⟩;have:l≠l':=λe=>E (by simp[e]);simp[tup,this]
 refine Qj<|Qx<|QN O O<|Qb<|xe<|⟨k+1,by omega,Lb,U,by omega,?_⟩;have e:l[k]=l'[k]:=Lt.1 E;rw[hm,Q9 J,Q9 S,e];exact ⟨λh=>(List.cons.inj h).2,λh=>by rw[h]⟩
theorem Qf4 {L L':LN}{w:World}{v v':Value}{l l':List Ed}(h:qc L w.heap v l) (h':qc L' w.heap v' l') :
  QM prog 68 [v,v'] w λr w'=>r=.bool (decide (l=l'))∧Step [] w w':=by
 have ha:=h.le;refine QM.of_W func68 O ntmps68 results68 (by simp) ?_;refine Qd<|Qf<|Qg<|Qd<|Qb<|x (Qw h O)<|Qb<|x (Qw h' O)<|x (Zj O O)<|xe<|Zc rfl (λG=>?_) (λG=>?_)
 ·refine Qd<|Qf<|Qs ⟨[.bool false],Lb,?_,Step.refl _ _⟩;have:l≠l':=λe=>G (by rw[e]);simp[tup,this]
 have hb:l.length=l'.length:=by omega
 refine Qj<|Qg<|Qd<|Qb<|x (Qw h O)<|Qb<|xe<|Qh<|QC (α:=Nat) [(4,5),(13,25)] (λk=>[(13,.int .i64 k)]) (λk w'=>Step [] w w'∧k≤l.length∧(l=l'↔l.drop k=l'.drop k)) (λk=>l.length - k) (by rfl) 0 Lb ⟨Step.refl _ _,Lm _,by simp⟩ ?_;rintro k g H ⟨hs,hk,hm⟩
 replace h:=h.ext hs
 replace h':=h'.ext hs;refine Qd<|x (QD O O)<|xe<|Qg<|QI O (λV=>?_) (λV=>?_)
 ·refine Qy<|Qd<|Qf<|Qs ⟨[.bool true],Lb,?_,hs⟩;rw[Lr (by omega),Lr (by omega)] at hm;simp[tup,hm]
 have J:k<l.length:=by omega
 have S:k<l'.length:=by omega
 refine Qj<|Qg<|Qh<|Qd<|Qb<|Qf<|Qg<|QV (Step [] H) [(0,true),(1,true),(2,true),(3,true),(4,true),(5,true),(6,true),(7,true),(8,true)] mixed (by rfl) (by kernel_rfl) (Step.drew _ _) ?_;refine p (λ_=>Ql)<|p (λ_=>Ql)<|pie O h O O J λhe Y=>pq (λ_ hc=>QQ (Y.ext hc) O O) <|
  p (λ_=>Ql)<|p (λ_=>Ql)<|pie O h' O O S λhf Z=>pq (λ_ hc=>QQ (Z.ext hc) O O)<|p (λ_=>Qar O O)<|pe ?_
 have U:=hs.trans (Step.drew [] H);refine Zc rfl (λE=>?_) (λE=>?_)
 ·refine Qd<|Qf<|Qs ⟨[.bool false],Lb,?_,U⟩;have:l≠l':=λe=>E (by simp[e]);simp[tup,this]
 refine Qj<|Qx<|QN O O<|Qb<|xe<|⟨k+1,by omega,Lb,U,by omega,?_⟩;have e:l[k]=l'[k]:=Lt.1 E;rw[hm,Q9 J,Q9 S,e];exact ⟨λh=>(List.cons.inj h).2,λh=>by rw[h]⟩
theorem QhQ {w:World}(n:Int):QM prog 161 [.int .i64 n] w λr w'=>r=.bool false∧w'=w:=by
 refine QM.of_W func161 O ntmps161 results161 (by simp) ?_;refine Qd<|Qf<|Qd<|Qb<|Qb<|x (Zj O O)<|Qf ?_;exact Qs ⟨[.bool (decide (¬n=n))],Lb,by simp[tup],rfl⟩
theorem QfV {w:World}(n:Int):QM prog 219 [.int .i64 n] w λr w'=>r=.bool false∧w'=w:=by
 refine QM.of_W func219 O ntmps219 results219 (by simp) ?_;refine Qd<|Qf<|Qd<|Qb<|Qb<|x (Zj O O)<|Qf ?_;exact Qs ⟨[.bool (decide (¬n=n))],Lb,by simp[tup],rfl⟩
theorem Qj8 {w:World}(m n:Int):QM prog 160 [.int .i64 m,.int .i64 n] w λr w'=>r=.bool (decide (m<n))∧w'=w:=by
 refine QM.of_W func160 O ntmps160 results160 (by simp) ?_;refine Qd<|Qf<|Qd<|Qb<|xl O<|xf<|(QfV m).mono ?_;rintro E G ⟨rfl,rfl⟩;refine Qb<|xs O<|xs O<|xs O<|x (Qp O)<|Qb<|Qb<|Qb<|x (QD O O)<|x (Qp O)<|Qf ?_;exact Qs ⟨[.bool (decide (m<n))],Lb,O,O⟩
theorem ZT.get {l:LI}(h:ZT l) {i j:Nat}(hj:j<l.length) (E:i<j):l[i]<l[j]:=Nv.1 h i j (by omega) hj E
theorem yG {L:LN}{w:World}{v:Value}{l:LI}(h:QO L w.heap v l) (hi:ZT l) (n:Int) :
  QM prog 84 [v,.int .i64 n] w λr w'=>w'=w∧∃i:Int,r=.tuple #[.int .i64 i,.bool (decide (n∈l))]:=by
 have hs:=h.le;refine QM.of_W func84 O ntmps84 results84 (by simp) ?_;refine Qd<|x Qe<|Qf<|Qd<|Qb<|x (Qw h O)<|Qf<|Qd<|Qb<|x Qe<|Qf<|Qg<|Qh<|QC (α:=Nat×Nat) [(7,9),(13,30)] (λz=>[(7,.int .i64 z.1),(8,.int .i64 z.2)])
  (λz w'=>w'=w∧z.1≤z.2∧z.2≤l.length∧(∀m (hm:m<l.length),m<z.1→l[m]<n)∧(∀m (hm:m<l.length),z.2≤m→n≤l[m])) (λz=>z.2 - z.1) (by rfl) (0,l.length) ⟨O,O,La⟩
  ⟨O,Lm _,Lv _,λm _ J=>absurd J (Nat.not_lt_zero m),λm h1 J=>absurd h1 (by simp only[] at J;omega)⟩ ?_
 rintro ⟨i,j⟩ g w1 ⟨rfl,ha,hj,E,S⟩;simp only[] at ha hj E S;refine Qg<|Qd<|Qb<|Qb<|x (QD O O)<|xe<|QI rfl (λhb=>?_) (λhb=>?_)
 ·have e:i=j:=by omega
  subst e;refine Qy<|Q0 (α:=Bool) [(4,5),(31,53)] (λz=>[(4,.int .i64 i),(5,.bool z)]) (λz w'=>w'=w1∧z=decide (n∈l)) (by rfl) ?_ ?_
  ·refine Qx<|Qb<|Qb<|Qb<|xb (QD O O) (λhc=>?_) (λhc=>?_)
   ·have G:i<l.length:=by omega
    refine Qb<|Qb<|Qb<|xii h O O G λht he=>x (Qv he O)<|Qb<|xb (Zf O O) (λU=>?_) (λU=>?_)
    ·refine Qb<|xs O<|xs O<|xs O<|xs O<|xs O<|xs O<|xs O<|xs O<|xs O<|x (Qp O)<|x (Qp O)<|x Qe<|Qf ?_;have:n∈l:=by rw[←U];exact Lj G
     exact ⟨true,⟨O,O,La⟩,O,by simp[this]⟩
    refine Qb<|Qb<|Qb<|xii h O O G λhu hf=>x (Qv hf O)<|xl O<|xf<|(QhQ _).mono ?_;rintro r3 w3 ⟨rfl,rfl⟩;refine Qb<|xs O<|xs O<|x (Qp O)<|x (Qp O)<|x (Qp O)<|x Qe<|Qf<|⟨false,⟨O,O,La⟩,O,?_⟩;have:n∉l:=by
     intro hm;obtain ⟨m,H,V⟩:=LO hm;by_cases hg:m<i
     ·have:=E m H hg;omega
     by_cases hk:m=i
     ·subst hk;exact U V
     have:=ZT.get hi H (show i<m by omega);have:=S i G (Lv _);omega
    simp[this]
   refine Qb<|xs O<|xs O<|xs O<|xs O<|xs O<|xs O<|xs O<|xs O<|xs O<|xs O<|xs O<|xs O<|xs O<|xs O<|xs O<|xs O<|xs O <|
    x (Qp rfl)<|x Qe<|Qf<|⟨false,⟨O,O,La⟩,O,?_⟩
   have:n∉l:=by
    intro hm;obtain ⟨m,H,V⟩:=LO hm;have:=E m H (by omega);omega
   simp[this]
  rintro z g w7 ⟨rfl,rfl⟩;exact Qs ⟨[.int .i64 i,.bool (decide (n∈l))],⟨O,O,La⟩,O,i,O⟩
 have hv:i<j:=by omega
 refine Qj<|Qh<|Qd<|Qb<|Qb<|QN O O<|x (YA O (by exact ⟨by omega,by omega⟩))<|x (Qel (n:=1) O O (by decide))<|x (YA O (by exact ⟨by omega,by omega⟩))<|Qf ?_;have hh:(((i:Int)+(j:Int)) / 2 ^ 1)=(((i+j) / 2:Nat):Int):=by omega
 rw[hh];generalize hq:(i+j) / 2=q;have hl:i≤q:=by omega
 have hn:q<j:=by omega
 have Y:q<l.length:=by omega
 refine Qd<|Qb<|Qb<|xii h O O Y λhw ho=>x (Qv ho O)<|Qb<|xl O<|xf<|(Qj8 _ _).mono ?_;rintro r8 w8 ⟨rfl,rfl⟩;refine xe<|QI rfl (λZ=>?_) (λZ=>?_)
 ·refine Qx<|Qb<|Qf<|⟨(i,q),by simp only[];omega,⟨O,O,La⟩,O,hl,by omega,E,λm hm hp=>?_⟩;by_cases e:q=m
  ·subst e;omega
  have:=ZT.get hi hm (show q<m by simp only[] at hp;omega);omega
 refine Qx<|Qb<|QN O O<|Qf<|⟨(q+1,j),by simp only[];omega,⟨O,O,La⟩,O,hn,hj,λm hm hr=>?_,S⟩;by_cases e:m=q
 ·subst e;exact Z
 have:=ZT.get hi Y (show m<q by simp only[] at hr;omega);omega
theorem ZX {L:LN}{w:World}{v:Value}{l:LI}(h:QO L w.heap v l) (hi:ZT l) (n:Int) :
  QM prog 195 [v,.int .i64 n] w λr w'=>r=.bool (decide (n∈l))∧w'=w:=by
 refine QM.of_W func195 O ntmps195 results195 (by simp) ?_;refine Qd<|Qf<|Qd<|Qb<|Qb<|xl O<|xf<|(yG h hi n).mono ?_;rintro E G ⟨rfl,i,rfl⟩;refine Qb<|x (Qk O O)<|x (Qk O O)<|x Qe<|Qf<|Qd<|Qb<|Qf ?_;exact Qs ⟨[.bool (decide (n∈l))],Lb,O,O⟩
theorem qu {L:LN}{w:World}{v:Value}{l:LI}(h:QO L w.heap v l) (n:Int) :
  QM prog 211 [v,.int .i64 n] w λr w'=>r=.int .i64 (Kt n none l)∧w'=w:=by
 have hc:=h.le;refine QM.of_W func211 O ntmps211 results211 (by simp) ?_;refine Qd<|Qf<|Qg<|Qd<|Qb<|x (Qw h O)<|Qb<|xe<|Qh<|QC (α:=Nat) [(4,6),(9,34)] (λk=>[(9,.int .i64 k)]) (λk w'=>w'=w∧k≤l.length∧Kt n (pv l k) (l.drop k)=Kt n none l) (λk=>l.length - k) (by rfl) 0 Lb ⟨O,Lm _,O⟩ ?_;rintro k g U ⟨rfl,hk,hm⟩;refine Qd<|x (QD O O)<|xe<|Qg<|QI O (λV=>?_) (λV=>?_)
 ·refine Qy<|Qd<|Qf<|Qs ⟨[.int .i64 0],Lb,?_,O⟩;rw[←hm,Lr (by omega)];rfl
 have E:k<l.length:=by omega
 have hd:=Q9 E;rw[hd,Kt] at hm;refine Qj<|Qg<|Qh<|Qd<|Qb<|xii h O O E λhe Y=>x (Qv Y O)<|x Qe<|Qf<|Qh<|Q0 (α:=Bool) [(14,21)] (λz=>[(14,.bool z)]) (λz w'=>w'=U∧z=decide (l[k]<0∨n≤l[k])) (by rfl) ?_ ?_
 ·refine Qx<|Qb<|xb (QD O O) (λG=>?_) (λG=>?_)
  ·refine Qb<|xs O<|xs O<|xs O<|x (Qp O)<|Qf ?_;exact ⟨true,Lb,O,by simp[G]⟩
  refine Qb<|Qb<|Qb<|x (Yg O O)<|x (Qp O)<|Qf ?_;exact ⟨_,Lb,O,by simp[G]⟩
 rintro z g Z ⟨rfl,rfl⟩;refine Zc rfl (λH=>?_) (λH=>?_)
 ·refine Qd<|Qf<|Qs ⟨[.int .i64 2],Lb,?_,O⟩;rw[←hm,if_pos H];rfl
 rw[if_neg H] at hm;refine Q0 (α:=Bool) [(22,33)] (λz=>[(22,.bool z)]) (λz w'=>w'=Z∧z=zP (pv l k) l[k]) (by rfl) ?_ ?_
 ·refine Qx<|Qb<|xb (ZL O O) (λha=>?_) (λha=>?_)
  ·have hk1:((k:Int) - 1)=((k - 1:Nat):Int):=by omega
   refine Qb<|Qb<|Qb<|Qb<|x (JF O O ⟨by omega,by omega⟩)<|xii (i:=k - 1) h O (by show Value.int _ ((k:Int) - 1)=_;rw[hk1]) (by omega) λhf hb=>x (Qv hb rfl)<|x (JH rfl rfl)<|x (Qp rfl)<|Qf<|⟨_,⟨rfl,La⟩,rfl,?_⟩;have:pv l k=some l[k - 1]:=by
    have J:k≠0:=by omega
    simp[pv,J,show k - 1<l.length by omega]
   rw[this];rfl
  refine Qb<|xs O<|xs O<|xs O<|xs O<|xs O<|xs O<|xs O<|x (Qp O)<|Qf ?_;have J:k=0:=by omega
  exact ⟨false,Lb,O,by simp[pv,J,zP]⟩
 rintro z g w3 ⟨rfl,rfl⟩;refine Q8 rfl (λS=>?_) (λS=>?_)
 ·refine Qd<|Qf<|Qs ⟨[.int .i64 5],Lb,?_,O⟩;rw[←hm,if_pos S];rfl
 rw[if_neg (by simp[S])] at hm;refine Qj<|Qx<|QN O O<|Qb<|xe ?_;exact ⟨k+1,by omega,Lb,O,by omega,by rw[Kn E];exact hm⟩
theorem jb {L:LN}{w:World}{va vm ve:Value}{a:QE}(h:Zi L w.heap va vm ve a) :
  QM prog 212 [.agg #[va,.int .i64 a.st,vm,ve]] w λr w'=>r=.int .i64 (ckE a.al a.st none a.ed)∧Step [] w w':=by
 obtain ⟨J,_,G⟩:=h;have h3:=G.le;refine QM.of_W func212 O ntmps212 results212 (by simp) ?_;refine Qd<|xl O<|QS (us:=[va,.int .i64 a.st,vm,ve]) O λb1 w1 Z h4 H=>Qf ?_
 replace J:=J.ext Z
 replace G:=G.ext Z;refine Qg<|Qd<|x (Qa O)<|x (Qc H O O)<|x (Qw G O)<|Qb<|xe<|Qh<|QC (α:=Nat) [(2,5),(9,71)] (λk=>[(9,.int .i64 k)]) (λk w'=>Step [] w1 w'∧k≤a.ed.length∧ckE a.al a.st (pv a.ed k) (a.ed.drop k)=ckE a.al a.st none a.ed) (λk=>a.ed.length - k) (by rfl) 0 Lb
  ⟨Step.refl _ _,Lm _,O⟩ ?_
 rintro k g w2 ⟨S,hk,hm⟩
 replace J:=J.ext S
 replace G:=G.ext S
 replace H:=H.ext S;refine Qd<|x (QD O O)<|xe<|Qg<|QI O (λhr=>?_) (λhr=>?_)
 ·refine Qy<|Qd<|Qf<|Qs ⟨[.int .i64 0],Lb,?_,Z.trans S⟩;rw[←hm,Lr (by omega)];rfl
 have ha:k<a.ed.length:=by omega
 have hd:=Q9 ha;rw[hd,ckE] at hm;refine Qj<|Qg<|Qh<|Qd<|Qb<|xie G O O ha λh5 hs=>x (QQ hs O O)<|xl O<|Qu (us:=[.int .i64 0,.int .i64 0,.int .i64 0]) O λb4 w3 ht hu E=>x Qe <|
  xl rfl<|Qq E O O O O ⟨O,O,O,La⟩ λw4 hv E=>xe ?_
 have U:=ht.then1 hv hu
 replace J:=J.ext U
 replace G:=G.ext U
 replace H:=H.ext U;have V:=(Z.trans S).trans U;refine Qg<|Qh<|Q0 (α:=Bool) [(14,36)] (λz=>[(14,.bool z)]) (λz w'=>w'=w4∧z=decide (a.ed[k].1<0∨a.st≤a.ed[k].1∨a.ed[k].2.2<0∨a.st≤a.ed[k].2.2)) (by rfl) ?_ ?_
 ·refine Qx<|x (Qa O)<|x (Qc E O O)<|xb (QD O O) (λhb=>?_) (λhb=>?_)
  ·refine Qb<|xs O<|xs O<|xs O<|xs O<|xs O<|x (Qp O)<|Qb<|xs O<|xs O<|xs O<|x (Qp O)<|Qb<|xs O<|xs O<|xs O<|xs O<|xs O<|x (Qp O)<|Qf ?_;exact ⟨true,Lb,O,by simp[hb]⟩
  refine Qb<|x (Qa O)<|x (Qc E O O)<|x (Qa O)<|x (Qc H O O)<|xb (Yg O O) (λhc=>?_) (λhc=>?_)
  ·refine x (Qp O)<|Qb<|xs O<|xs O<|xs O<|x (Qp O)<|Qb<|xs O<|xs O<|xs O<|xs O<|xs O<|x (Qp O)<|Qf ?_;exact ⟨true,Lb,O,by simp[hc]⟩
  refine x (Qp O)<|Qb<|x (Qa O)<|x (Qc E O O)<|xb (QD O O) (λhe=>?_) (λhe=>?_)
  ·refine x (Qp O)<|Qb<|xs O<|xs O<|xs O<|xs O<|xs O<|x (Qp O)<|Qf ?_;exact ⟨true,Lb,O,by simp[he]⟩
  refine x (Qp O)<|Qb<|x (Qa O)<|x (Qc E O O)<|x (Qa O)<|x (Qc H O O)<|x (Yg O O)<|x (Qp O)<|Qf ?_;exact ⟨_,Lb,O,by simp[hb,hc,he]⟩
 rintro z g w5 ⟨rfl,rfl⟩;refine Zc rfl (λhf=>?_) (λhf=>?_)
 ·refine Qd<|Qf<|Qs ⟨[.int .i64 2],Lb,?_,V⟩;rw[←hm,if_pos hf];rfl
 rw[if_neg hf] at hm;refine Qd<|x (Qa O)<|x (Qc H O O)<|x (Qa O)<|x (Qc E O O)<|xl O<|xf<|(XR J _).mono ?_;rintro r4 w6 ⟨rfl,rfl⟩;refine x (Zh O)<|Qf<|Q8 O (λhg=>?_) (λhg=>?_)
 ·have hn:a.ed[k].2.1∉a.al:=by simpa using hg
  refine Qd<|Qf<|Qs ⟨[.int .i64 9],Lb,?_,V⟩;rw[←hm,if_pos hn];rfl
 have hn:¬(a.ed[k].2.1∉a.al):=by simpa using hg
 rw[if_neg hn] at hm;refine Qj<|Qg<|Qd<|Qb<|x (Zf O O)<|xe<|Zc rfl (λhw=>?_) (λhw=>?_)
 ·have h0:k=0:=by omega
  rw[if_neg (by simp[pv,h0,edO])] at hm;refine Qy<|Qx<|QN O O<|Qb<|xe ?_;exact ⟨k+1,by omega,Lb,S.trans U,by omega,by rw[Kn ha];exact hm⟩
 have h0:k≠0:=by omega
 have hk1:((k:Int) - 1)=((k - 1:Nat):Int):=by omega
 have hq:k - 1<a.ed.length:=by omega
 refine Qj<|Qd<|x (Qa O)<|x (Qc H O O)<|Qb<|x (JF O O ⟨by omega,by omega⟩)<|xie (i:=k - 1) G O (by show Value.int _ ((k:Int) - 1)=_;rw[hk1]) hq λh6 hy =>
  x (QQ hy O O)<|xl O<|Qu (us:=[.int .i64 0,.int .i64 0,.int .i64 0]) O λb5 w7 hz h1 Y=>xl O<|Qq Y O O O O ⟨O,O,O,La⟩ λw8 h2 Y=>xe ?_
 have hh:=hz.then1 h2 h1
 replace E:=E.ext hh
 replace V:=V.trans hh;have hp:pv a.ed k=some a.ed[k - 1]:=by simp[pv,h0,hq]
 rw[hp] at hm;refine Q0 (α:=Bool) [(52,70)] (λz=>[(70,.bool z)]) (λz w'=>w'=w8∧z=edO (some a.ed[k - 1]) a.ed[k]) (by rfl) ?_ ?_
 ·refine Qx<|x (Qa O)<|x (Qc E O O)<|x (Qa O)<|x (Qc Y O O)<|xb (QD O O) (λhj=>?_) (λhj=>?_)
  ·refine Qb<|xs O<|xs O<|xs O<|xs O<|xs O<|xs O<|xs O<|xs O<|xs O<|xs O<|xs O<|xs O<|x (Qp O)<|xe ?_;exact ⟨true,Lb,O,by simp[edO,hj]⟩
  refine Qb<|x (Qa O)<|x (Qc E O O)<|x (Qa O)<|x (Qc Y O O)<|xb (Zf O O) (λhl=>?_) (λhl=>?_)
  ·refine Qb<|x (Qa O)<|x (Qc E O O)<|x (Qa O)<|x (Qc Y O O)<|x (JH O O)<|x (Qp O)<|x (Qp O)<|xe ?_;exact ⟨_,Lb,O,by simp[edO,hl]⟩
  refine Qb<|xs O<|xs O<|xs O<|xs O<|xs O<|x (Qp O)<|x (Qp O)<|xe ?_;exact ⟨false,Lb,O,by simp[edO,hl,hj]⟩
 rintro z g w9 ⟨rfl,rfl⟩;refine Q8 rfl (λho=>?_) (λho=>?_)
 ·refine Qd<|Qf<|Qs ⟨[.int .i64 5],Lb,?_,V⟩;rw[←hm,if_pos ho];rfl
 rw[if_neg (by simp[ho])] at hm;refine Qj<|Qx<|QN O O<|Qb<|xe ?_;exact ⟨k+1,by omega,Lb,(S.trans U).trans hh,by omega,by rw[Kn ha];exact hm⟩
theorem Xk {L:LN}{w:World}{va vm ve:Value}{a:QE}(h:Zi L w.heap va vm ve a) :
  QM prog 153 [.agg #[va,.int .i64 a.st,vm,ve]] w λr w'=>r=.int .i64 (XW a)∧Step [] w w':=by
 refine QM.of_W func153 O ntmps153 results153 (by simp) ?_;refine Qd<|xl O<|QS (us:=[va,.int .i64 a.st,vm,ve]) O λb1 Y E Z G=>Qf ?_
 replace h:=h.ext E;refine Qg<|Qd<|x (Qa O)<|x (Qc G O O)<|xl O<|xf<|(qu h.al 32).mono ?_;rintro r2 w2 ⟨rfl,rfl⟩;refine Qf<|Qd<|Qb<|x (Zj O O)<|xe<|Zc rfl (λH=>?_) (λH=>?_)
 ·refine Qd<|Qb<|Qf<|Qs ⟨[.int .i64 (Kt 32 none a.al)],Lb,?_,E⟩;rw[XW,if_pos H];rfl
 refine Qj<|Qg<|Qh<|Qd<|x (Qa O)<|x (Qc G O O)<|x (QD O O)<|Qf<|Zc O (λJ=>?_) (λJ=>?_)
 ·refine Qd<|Qf<|Qs ⟨[.int .i64 2],Lb,?_,E⟩;rw[XW,if_neg H,if_pos J];rfl
 refine Qd<|x (Qa O)<|x (Qc G O O)<|x (ZL O O)<|Qf<|Zc O (λS=>?_) (λS=>?_)
 ·refine Qd<|Qf<|Qs ⟨[.int .i64 3],Lb,?_,E⟩;rw[XW,if_neg H,if_neg J,if_pos S];rfl
 refine Qj<|Qg<|Qd<|x (Qa O)<|x (Qc G O O)<|x (Qa O)<|x (Qc G O O)<|xl O<|xf<|(qu h.mr a.st).mono ?_;rintro r3 w3 ⟨rfl,rfl⟩;refine Qf<|Qd<|Qb<|x (Zj O O)<|xe<|Zc rfl (λU=>?_) (λU=>?_)
 ·refine Qd<|Qb<|Qf<|Qs ⟨[.int .i64 (Kt a.st none a.mr)],Lb,?_,E⟩;rw[XW,if_neg H,if_neg J,if_neg S,if_pos U];rfl
 refine Qj<|Qd<|x (Qo G O O)<|xl O<|xf<|(jb h).mono ?_;rintro r4 w4 ⟨rfl,V⟩;refine Qf<|Qs ⟨[.int .i64 (ckE a.al a.st none a.ed)],Lb,?_,E.trans V⟩;rw[XW,if_neg H,if_neg J,if_neg S,if_neg U];rfl
theorem Zk {L:LN}{w:World}{v:Value}{l:LI}(h:QO L w.heap v l) :
  QM prog 66 [v] w λr w'=>Step [] w w'∧Qn 3 w.heap.size w' r l:=by
 have Y:=h.le;refine QM.of_W func66 O ntmps66 results66 (by simp) ?_;refine Qd<|Qf ?_;obtain ⟨ao,cap,E⟩:=h.shape;refine Qg<|Qd<|Qb<|x (Qat (show ev _ _=_ from E) O)<|xe<|Q8 rfl (λh4=>?_) (λh4=>?_)
 ·refine Qd<|Qf<|Qs ⟨[nS],Lb,Step.refl _ _,?_⟩;rcases h.2.2 with ⟨h1,h2⟩ | ⟨a,c,h1,_⟩
  ·have:l=[]:=Ln h2;subst this;exact QR _ _ _ _
  rw[h1] at E;cases E;cases h4
 rcases h.2.2 with ⟨h1,h2⟩ | ⟨a,c,h1,h2,h3⟩
 ·rw[h1] at E;injection E with e1;subst e1;cases h4
 refine Qj<|Qd<|xl O<|Qay λZ w1 G H J=>Qb<|xl O<|QZ (base:=w.heap.size) (J.own (n:=0) (sz:=1) O (by omega) H) O (show ev _ _=_ from h1) (by simp) (h3.ext G) (zC l) (by omega) (by have:=J.lt;omega) λS w2 U V ha=>Qf<|Qs ⟨[S],Lb,G.then1 V H,?_⟩;simpa[tup] using U
theorem zE {g:Nat}{fn:Func}[Fu prog g fn] {keep:Bool→Bool→Bool}(hk:∀(p q:Bool) (w:World),QM prog g [.bool p,.bool q] w λr w'=>r=.bool (keep p q)∧w'=w)
  {L L':LN} {w:World} {va vb:Value} {a b:LI} (ha:QO L w.heap va a) (hb:QO L' w.heap vb b) (hD:a.length+b.length≤1099511627776) :
  QM prog 166 [va,vb,.func (.func g) #[] #[]] w λr w'=>Step [] w w'∧Qn 3 w.heap.size w' r (mrg keep a b):=by
 refine QM.of_W func166 O ntmps166 results166 (by simp) ?_;refine Qd<|Qf<|Qd<|Qf<|Qg<|Qh<|QC (α:=(LI×Value)×(LI×Value)×(LI×Value)) [(0,1),(7,72)] (λz=>[(0,z.1.2),(1,z.2.1.2),(7,z.2.2.2)])
  (λz w'=>QO L w.heap z.1.2 z.1.1∧QO L' w.heap z.2.1.2 z.2.1.1∧Qn 3 w.heap.size w' z.2.2.2 z.2.2.1∧Step [] w w'∧z.2.2.1++mrg keep z.1.1 z.2.1.1=mrg keep a b∧z.2.2.1.length+z.1.1.length+z.2.1.1.length≤1099511627776)
  (λz=>z.1.1.length+z.2.1.1.length) (by rfl) ((a,va),(b,vb),([],nS)) ⟨O,O,O,La⟩ ⟨ha,hb,QR _ _ _ _,Step.refl _ _,O,by simp;omega⟩ ?_
 clear ha hb;rintro ⟨⟨a1,hy⟩,⟨b1,hz⟩,⟨o,vo⟩⟩ g1 w1 ⟨ha,hb,E,hs,hm,hl⟩;simp only[] at ha hb E hs hm hl;refine Qg<|Q0 (α:=Bool) [(11,18)] (λz=>[(18,.bool z)]) (λz w'=>w'=w1∧z=decide (¬(a1=[]∧b1=[]))) (by rfl) ?_ ?_
 ·refine Qx<|Qb<|x (Qw ha O)<|xb (ZL O O) (λhf=>?_) (λhf=>?_)
  ·refine Qb<|xs O<|xs O<|xs O<|x (Qp O)<|xe ?_;have:a1≠[]:=by intro e;subst e;simp at hf
   exact ⟨true,Lb,O,by simp[this]⟩
  refine Qb<|Qb<|x (Qw hb O)<|x (ZL O O)<|x (Qp O)<|xe ?_;have:a1=[]:=Ln (by omega);refine ⟨_,Lb,O,?_⟩;cases b1 <;> simp[this]
 rintro z g2 w2 ⟨rfl,rfl⟩;refine QI rfl (λU=>?_) (λU=>?_)
 ·refine Qy<|Qd<|Qb<|Qf<|Qs ⟨[vo],Lb,hs,?_⟩;obtain ⟨rfl,rfl⟩:=Lt.1 U;rw[Kq,LU] at hm;rw[←hm];exact E
 refine Qj ?_;rw[J0 keep U] at hm;have hg:=zV U;have hE:=ha.le;have hF:=hb.le;refine Qh<|Q0 (α:=Bool) [(8,8),(19,35)] (λz=>[(8,.bool z)]) (λz w'=>Step [] w2 w'∧z=Jb a1 b1) (by rfl) ?_ ?_
 ·refine QV (Step [] w2) [(0,true),(1,true),(2,true),(3,true),(4,true),(5,true),(6,true),(7,true),(8,true),(9,true),(10,true),(11,true),(12,true),(13,true),(14,true),(15,true),(16,true),(17,true)] mixed (by rfl) (by kernel_rfl) (Step.drew _ _) ?_;refine p (λ_=>Ql)<|p (λ_=>Qw ha O)<|pb (λ_=>ZL O O) (λhh=>?_) (λhh=>?_)
  ·refine p (λ_=>Ql)<|p (λ_=>Ql)<|p (λ_=>Qw hb O)<|pb (λ_=>Zf O O) (λh0=>?_) (λh0=>?_)
   ·refine p (λ_=>Ql)<|ps<|ps<|ps<|ps<|ps<|ps<|ps<|p (λ_=>Qp O)<|p (λ_=>Qp O)<|p (λ_=>Qe)<|pe ?_;refine ⟨true,Lb,Step.drew _ _,?_⟩;have:b1=[]:=Ln (by omega);subst this;cases a1 with
    | nil=>simp at hh
    | cons y a1=>rfl
   have G:0<a1.length:=by omega
   have H:0<b1.length:=by omega
   refine p (λ_=>Ql)<|p (λ_=>Ql)<|pii O (i:=0) (ha.ext hs) O O G λhG h1=>pq (λ_ hc=>Qv (h1.ext hc) O) <|
    p (λ_=>Ql)<|pii O (i:=0) (hb.ext hs) O O H λhH h2=>pq (λ_ hc=>Qv (h2.ext hc) O)<|p (λ_=>JH O O) <|
    p (λ_=>Qp O)<|p (λ_=>Qp O)<|p (λ_=>Qe)<|pe ?_
   refine ⟨_,Lb,Step.drew _ _,?_⟩;cases a1 with
   | nil=>simp at G
   | cons y a1=>cases b1 with
    | nil=>simp at H
    | cons z b1=>rfl
  refine p (λ_=>Ql)<|ps<|ps<|ps<|ps<|ps<|ps<|ps<|ps<|ps<|ps<|ps<|ps<|p (λ_=>Qp O)<|p (λ_=>Qe)<|pe ?_;refine ⟨false,Lb,Step.drew _ _,?_⟩;have:a1=[]:=Ln (by omega);subst this;rfl
 rintro z g3 w3 ⟨hj,rfl⟩
 replace E:=Qt E hj
 replace hs:=hs.trans hj;refine Q0 (α:=Bool) [(9,9),(36,52)] (λz=>[(9,.bool z)]) (λz w'=>Step [] w3 w'∧z=Jb b1 a1) (by rfl) ?_ ?_
 ·refine QV (Step [] w3) [(0,true),(1,true),(2,true),(3,true),(4,true),(5,true),(6,true),(7,true),(8,true),(9,true),(10,true),(11,true),(12,true),(13,true),(14,true),(15,true),(16,true),(17,true)] mixed (by rfl) (by kernel_rfl) (Step.drew _ _) ?_;refine p (λ_=>Ql)<|p (λ_=>Qw hb O)<|pb (λ_=>ZL O O) (λhn=>?_) (λhn=>?_)
  ·refine p (λ_=>Ql)<|p (λ_=>Ql)<|p (λ_=>Qw ha O)<|pb (λ_=>Zf O O) (λh3=>?_) (λh3=>?_)
   ·refine p (λ_=>Ql)<|ps<|ps<|ps<|ps<|ps<|ps<|ps<|p (λ_=>Qp O)<|p (λ_=>Qp O)<|p (λ_=>Qe)<|pe ?_;refine ⟨true,Lb,Step.drew _ _,?_⟩;have:a1=[]:=Ln (by omega);subst this;cases b1 with
    | nil=>simp at hn
    | cons y b1=>rfl
   have G:0<a1.length:=by omega
   have H:0<b1.length:=by omega
   refine p (λ_=>Ql)<|p (λ_=>Ql)<|pii O (i:=0) (hb.ext hs) O O H λhI h4=>pq (λ_ hc=>Qv (h4.ext hc) O) <|
    p (λ_=>Ql)<|pii O (i:=0) (ha.ext hs) O O G λhJ h5=>pq (λ_ hc=>Qv (h5.ext hc) O)<|p (λ_=>JH O O) <|
    p (λ_=>Qp O)<|p (λ_=>Qp O)<|p (λ_=>Qe)<|pe ?_
   refine ⟨_,Lb,Step.drew _ _,?_⟩;cases a1 with
   | nil=>simp at G
   | cons y a1=>cases b1 with
    | nil=>simp at H
    | cons z b1=>rfl
  refine p (λ_=>Ql)<|ps<|ps<|ps<|ps<|ps<|ps<|ps<|ps<|ps<|ps<|ps<|ps<|p (λ_=>Qp O)<|p (λ_=>Qe)<|pe ?_;refine ⟨false,Lb,Step.drew _ _,?_⟩;have:b1=[]:=Ln (by omega);subst this;rfl
 rintro z g4 w4 ⟨hp,rfl⟩
 replace E:=Qt E hp
 replace hs:=hs.trans hp;refine Qd<|Qf<|Q0 (α:=Value) [(0,0),(10,10),(53,58)] (λz=>[(0,z),(10,.int .i64 (bif Jb a1 b1 then a1.headD 0 else 0))]) (λz w'=>Step [] w4 w'∧QO L w.heap z (tl (Jb a1 b1) a1)) (by rfl) ?_ ?_
 ·refine Qd<|Qb<|xe<|Q8 O (λJ=>?_) (λJ=>?_)
  ·have G:0<a1.length:=by cases a1 with | nil=>simp[Jb] at J | cons y a1=>simp
   refine QV (Step [] w4) [(0,true),(1,true),(2,true),(3,true),(4,true),(5,true),(6,true)] mixed (by rfl) (by kernel_rfl) (Step.drew _ _) ?_;refine p (λ_=>Ql)<|pii O (i:=0) (ha.ext hs) O O G λh6 V=>pq (λ_ hc=>Qv (V.ext hc) O)<|p (λ_=>Ql) <|
    QlN rfl (lo:=1) ha O O G λv' hv'=>p (λ_=>Qe)<|p (λ_=>Qe)<|pe ?_
   have Y:=QO.drop hv';refine ⟨v',⟨O,?_,La⟩,Step.drew _ _,?_⟩
   ·show Value.int .i64 a1[0]=_;rw[J];cases a1 with | nil=>simp at G | cons y a1=>rfl
   rw[J];simpa[tl] using Y
  refine Qj<|⟨hy,⟨O,by show _=_;rw[J];rfl,La⟩,Step.refl _ _,?_⟩;rw[J];exact ha
 rintro hq g5 w5 ⟨hr,ht⟩
 replace E:=Qt E hr
 replace hs:=hs.trans hr;refine Q0 (α:=Value) [(1,1),(10,10),(59,64)] (λz=>[(1,z),(10,.int .i64 (bif Jb b1 a1 then b1.headD 0 else bif Jb a1 b1 then a1.headD 0 else 0))]) (λz w'=>Step [] w5 w'∧QO L' w.heap z (tl (Jb b1 a1) b1)) (by rfl) ?_ ?_
 ·refine Qd<|Qb<|xe<|Q8 O (λS=>?_) (λS=>?_)
  ·have H:0<b1.length:=by cases b1 with | nil=>simp[Jb] at S | cons y b1=>simp
   refine QV (Step [] w5) [(0,true),(1,true),(2,true),(3,true),(4,true),(5,true),(6,true)] mixed (by rfl) (by kernel_rfl) (Step.drew _ _) ?_;refine p (λ_=>Ql)<|pii O (i:=0) (hb.ext hs) O O H λh6 V=>pq (λ_ hc=>Qv (V.ext hc) O)<|p (λ_=>Ql) <|
    QlN rfl (lo:=1) hb O O H λv' hv'=>p (λ_=>Qe)<|p (λ_=>Qe)<|pe ?_
   have Y:=QO.drop hv';refine ⟨v',⟨O,?_,La⟩,Step.drew _ _,?_⟩
   ·show Value.int .i64 b1[0]=_;rw[S];cases b1 with | nil=>simp at H | cons y b1=>rfl
   rw[S];simpa[tl] using Y
  refine Qj<|⟨hz,⟨O,by show _=_;rw[S];rfl,La⟩,Step.refl _ _,?_⟩;rw[S];exact hb
 rintro hu g6 w6 ⟨hv,hw⟩
 replace E:=Qt E hv
 replace hs:=hs.trans hv;have h7:(bif Jb b1 a1 then b1.headD 0 else bif Jb a1 b1 then a1.headD 0 else 0)=hx a1 b1:=by
  unfold hx;cases e:Jb b1 a1 with
  | true=>rfl
  | false =>
   cases e2:Jb a1 b1 with
   | true=>rfl
   | false=>rw[e,e2] at hg;simp[tl] at hg
 refine Qd<|Qb<|Qb<|Qb<|xl O<|xc (first:=[]) (capt:=[]) O<|(hk _ _ _).mono ?_;rintro r7 w7 ⟨rfl,rfl⟩;refine xe<|Q8 rfl (λZ=>?_) (λZ=>?_)
 ·refine Qx ?_;rw[Z,cond_true] at hm;refine Qb<|Qb<|xl O<|QL (us:=[[.int .i64 (hx a1 b1)]]) O O (by decide) (by simp) ⟨by rw[←h7];rfl,O,La⟩ λhK w8 he hL h8 =>
   xl rfl<|QZ (news:=[.int .i64 (hx a1 b1)]) (L:=[]) (Qt E he) O O O (h8.at (by simp)) (by simp[Value.oneCell']) (by omega) (by have:=hs.size;have:=he.size;omega) λv9 w9 h9 hC hM=>Qf ?_
  have hge:=Qm E;refine ⟨((tl (Jb a1 b1) a1,hq),(tl (Jb b1 a1) b1,hu),(o++[hx a1 b1],v9)),by simp only[];omega,⟨O,O,O,La⟩,ht,hw,?_,(hs.trans he).then hC (λb hb=>.inr (hge b hb).1),by rw[LB];exact hm,by simp only[List.length_append,List.length_singleton];omega⟩;exact Qn.snoc h9
 rw[Z,cond_false,Mo] at hm;refine Qj ?_;exact ⟨((tl (Jb a1 b1) a1,hq),(tl (Jb b1 a1) b1,hu),(o,vo)),by simp only[];omega,⟨O,O,O,La⟩,ht,hw,E,hs,hm,by simp only[];omega⟩
theorem QmF (p q:Bool) (w:World):QM prog 275 [.bool p,.bool q] w λr w'=>r=.bool (p && q)∧w'=w:=by
 refine QM.of_W func275 O ntmps275 results275 (by simp) ?_;refine Qd<|Qf<|Qd ?_;cases p
 ·refine Qb<|Qb<|xs O<|x (Qp O)<|Qf ?_;exact Qs ⟨[.bool false],Lb,O,O⟩
 refine Qb<|Qb<|Qb<|x (Qp O)<|Qf ?_;exact Qs ⟨[.bool q],Lb,O,O⟩
theorem Qnk (p q:Bool) (w:World):QM prog 167 [.bool p,.bool q] w λr w'=>r=.bool (p || q)∧w'=w:=by
 refine QM.of_W func167 O ntmps167 results167 (by simp) ?_;refine Qd<|Qf<|Qd ?_;cases p
 ·refine Qb<|Qb<|Qb<|x (Qp O)<|Qf ?_;exact Qs ⟨[.bool q],Lb,O,O⟩
 refine Qb<|Qb<|xs O<|x (Qp O)<|Qf ?_;exact Qs ⟨[.bool true],Lb,O,O⟩
theorem Qht (p q:Bool) (w:World):QM prog 185 [.bool p,.bool q] w λr w'=>r=.bool (p && !q)∧w'=w:=by
 refine QM.of_W func185 O ntmps185 results185 (by simp) ?_;refine Qd<|Qf<|Qd ?_;cases p
 ·refine Qb<|Qb<|xs O<|xs O<|x (Qp O)<|Qf ?_;exact Qs ⟨[.bool false],Lb,O,O⟩
 refine Qb<|Qb<|Qb<|x (Zh O)<|x (Qp O)<|Qf ?_;exact Qs ⟨[.bool (!q)],Lb,O,O⟩
theorem Je {L L':LN}{w:World}{va vb:Value}{a b:LI}(ha:QO L w.heap va a) (hb:QO L' w.heap vb b) (E:a.length+b.length≤1099511627776) :
  QM prog 240 [va,vb] w λr w'=>Step [] w w'∧Qn 3 w.heap.size w' r (mrg (· && ·) a b):=by
 refine QM.of_W func240 O ntmps240 results240 (by simp) ?_;refine Qd<|Qf<|Qd<|Qb<|Qb<|xl O<|xf<|(zE QmF ha hb E).mono ?_;rintro G J ⟨hs,H⟩;refine Qf ?_;exact Qs ⟨[G],Lb,hs,H⟩
theorem K7 {L L':LN}{w:World}{va vb:Value}{a b:LI}(ha:QO L w.heap va a) (hb:QO L' w.heap vb b) (E:a.length+b.length≤1099511627776) :
  QM prog 96 [va,vb] w λr w'=>Step [] w w'∧Qn 3 w.heap.size w' r (mrg (· || ·) a b):=by
 refine QM.of_W func96 O ntmps96 results96 (by simp) ?_;refine Qd<|Qf<|Qd<|Qb<|Qb<|xl O<|xf<|(zE Qnk ha hb E).mono ?_;rintro G J ⟨hs,H⟩;refine Qf ?_;exact Qs ⟨[G],Lb,hs,H⟩
theorem QcN {L L':LN}{w:World}{va vb:Value}{a b:LI}(ha:QO L w.heap va a) (hb:QO L' w.heap vb b) (E:a.length+b.length≤1099511627776) :
  QM prog 118 [va,vb] w λr w'=>Step [] w w'∧Qn 3 w.heap.size w' r (mrg (λp q=>p && !q) a b):=by
 refine QM.of_W func118 O ntmps118 results118 (by simp) ?_;refine Qd<|Qf<|Qd<|Qb<|Qb<|xl O<|xf<|(zE Qht ha hb E).mono ?_;rintro G J ⟨hs,H⟩;refine Qf ?_;exact Qs ⟨[G],Lb,hs,H⟩
theorem U5 {L L':LN}{w:World}{va vb:Value}{a b:LI}(ha:QO L w.heap va a) (hb:QO L' w.heap vb b) (E:a.length+b.length≤1099511627776) :
  QM prog 165 [va,vb] w λr w'=>Step [] w w'∧r=.bool (decide (mrg (λp q=>p && !q) a b=[])):=by
 refine QM.of_W func165 O ntmps165 results165 (by simp) ?_;refine Qd<|Qf<|Qd<|Qb<|Qb<|xl O<|xf<|(QcN ha hb E).mono ?_;rintro H J ⟨hs,G⟩;have hm:=X9 (λp q=>p && !q) a b;have hi:=Qn.ints (L:=[]) G (by omega) (by simp);refine x (Qw hi O)<|x (Zf O O)<|Qf<|Qs ⟨[.bool (decide (((mrg (λp q=>p && !q) a b).length:Int)=0))],Lb,hs,?_⟩;simp[tup]
theorem QiR {g:Nat}{fn:Func}[Fu prog g fn] (hk:∀(e:Ed) (s:Int) (w:World),0≤e.1→e.1≤1099511627776→0≤s→s≤1099511627776→QM prog g [.agg (Qz e).toArray,.int .i64 s] w λr w'=>r=.int .i64 (e.1 - s)∧Step [] w w')
  {L:LN} {w:World} {v:Value} {es:List Ed} (h:qc L w.heap v es) (hi:es.Pairwise (λa b=>a.1≤b.1)) (hb:∀e∈es,0≤e.1∧e.1≤1099511627776) (s:Int) (V:0≤s) (Y:s≤1099511627776) :
  QM prog 154 [v,.int .i64 s,.func (.func g) #[] #[]] w λr w'=>Step [] w w'∧∃(i:Nat) (b:Bool),r=.tuple #[.int .i64 i,.bool b]∧i≤es.length ∧
   (∀m (hm:m<es.length),m<i→es[m].1<s)∧(∀m (hm:m<es.length),i≤m→s≤es[m].1):=by
 have hy:=h.le;have Z:∀{i j:Nat} (hj:j<es.length) (G:i<j),es[i].1≤es[j].1:=λ{i j} hj G=>Nv.1 hi i j (by omega) hj G;have ha:∀m (hm:m<es.length),0≤es[m].1∧es[m].1≤1099511627776:=λm hm=>hb _ (Lj hm);refine QM.of_W func154 O ntmps154 results154 (by simp) ?_
 refine Qd<|x Qe<|Qf<|Qd<|Qb<|x (Qw h O)<|Qf<|Qd<|Qb<|x Qe<|Qf<|Qg<|Qh<|QC (α:=Nat×Nat) [(9,11),(15,34)] (λz=>[(9,.int .i64 z.1),(10,.int .i64 z.2)])
  (λz w'=>Step [] w w'∧z.1≤z.2∧z.2≤es.length∧(∀m (hm:m<es.length),m<z.1→es[m].1<s)∧(∀m (hm:m<es.length),z.2≤m→s≤es[m].1)) (λz=>z.2 - z.1) (by rfl) (0,es.length) ⟨O,O,La⟩
  ⟨Step.refl _ _,Lm _,Lv _,λm _ H=>absurd H (Nat.not_lt_zero m),λm h1 H=>absurd h1 (by simp only[] at H;omega)⟩ ?_
 rintro ⟨i,j⟩ g1 w1 ⟨E,G,hj,J,S⟩;simp only[] at G hj J S;refine Qg<|Qd<|Qb<|Qb<|x (QD O O)<|xe<|QI rfl (λhg=>?_) (λhg=>?_)
 ·have e:i=j:=by omega
  subst e;refine Qy<|Q0 (α:=Bool) [(6,7),(35,48)] (λz=>[(6,.int .i64 i),(7,.bool z)]) (λz w'=>Step [] w1 w') (by rfl) ?_ ?_
  ·refine Qx<|Qb<|Qb<|Qb<|xb (QD O O) (λhl=>?_) (λhl=>?_)
   ·have hc:i<es.length:=by omega
    have hq:=ha i hc;refine Qb<|Qb<|Qb<|Qb<|xie (h.ext E) O O hc λhz hn=>x (QQ hn O O)<|Qb<|xl O<|xc (first:=[]) (capt:=[]) O<|(hk es[i] s _ hq.1 hq.2 V Y).mono ?_;rintro r2 w2 ⟨rfl,ho⟩;refine x (Zf O O)<|x (Qp O)<|x Qe<|Qf ?_;exact ⟨_,⟨O,O,La⟩,ho⟩
   refine Qb<|xs O<|xs O<|xs O<|xs O<|xs O<|xs O<|xs O<|xs O<|x (Qp O)<|x Qe<|Qf ?_;exact ⟨false,⟨O,O,La⟩,Step.refl _ _⟩
  rintro z g3 w3 hp;exact Qs ⟨[.int .i64 i,.bool z],⟨O,O,La⟩,E.trans hp,i,z,O,hj,J,S⟩
 have h2:i<j:=by omega
 refine Qj<|Qh<|Qd<|Qb<|Qb<|QN O O<|x (YA O (by exact ⟨by omega,by omega⟩))<|x (Qel (n:=1) O O (by decide))<|x (YA O (by exact ⟨by omega,by omega⟩))<|Qf ?_;have hh:(((i:Int)+(j:Int)) / 2 ^ 1)=(((i+j) / 2:Nat):Int):=by omega
 rw[hh];generalize hq:(i+j) / 2=q;have hr:i≤q:=by omega
 have hs:q<j:=by omega
 have U:q<es.length:=by omega
 have he:=ha q U;refine Qd<|Qb<|Qb<|Qb<|xie (h.ext E) O O U λh3 ht=>x (QQ ht O O)<|Qb<|xl O<|xc (first:=[]) (capt:=[]) O<|(hk es[q] s _ he.1 he.2 V Y).mono ?_;rintro r4 w4 ⟨rfl,hf⟩;refine x (QD O O)<|xe<|QI rfl (λhu=>?_) (λhu=>?_)
 ·refine Qx<|Qb<|Qf<|⟨(i,q),by simp only[];omega,⟨O,O,La⟩,E.trans hf,hr,by omega,J,λm hm hv=>?_⟩;by_cases e:q=m
  ·subst e;omega
  have:=Z hm (show q<m by simp only[] at hv;omega);omega
 refine Qx<|Qb<|QN O O<|Qf<|⟨(q+1,j),by simp only[];omega,⟨O,O,La⟩,E.trans hf,hs,hj,λm hm hw=>?_,S⟩;by_cases e:m=q
 ·subst e;omega
 have:=Z U (show m<q by simp only[] at hw;omega);omega
theorem QjJ (e:Ed) (s:Int) (w:World) (H:0≤e.1) (h1:e.1≤1099511627776) (h2:0≤s) (h3:s≤1099511627776) :
  QM prog 155 [.agg (Qz e).toArray,.int .i64 s] w λr w'=>r=.int .i64 (e.1 - s)∧Step [] w w':=by
 refine QM.of_W func155 O ntmps155 results155 (by simp) ?_;refine Qd<|xl O<|QS (us:=Qz e) O λb2 J E S G=>Qf<|Qd<|x (Qa O)<|x (Qc G O O)<|Qb<|x (JF O O ⟨by omega,by omega⟩)<|Qf ?_;exact Qs ⟨[.int .i64 (e.1 - s)],Lb,O,E⟩
theorem QjI (e:Ed) (s:Int) (w:World) (H:0≤e.1) (h1:e.1≤1099511627776) (h2:0≤s) (h3:s≤1099511627776) :
  QM prog 156 [.agg (Qz e).toArray,.int .i64 s] w λr w'=>r=.int .i64 (e.1 - s)∧Step [] w w':=by
 refine QM.of_W func156 O ntmps156 results156 (by simp) ?_;refine Qd<|xl O<|QS (us:=Qz e) O λb2 J E S G=>Qf<|Qd<|x (Qa O)<|x (Qc G O O)<|Qb<|x (JF O O ⟨by omega,by omega⟩)<|Qf ?_;exact Qs ⟨[.int .i64 (e.1 - s)],Lb,O,E⟩
theorem Qdd {L:LN}{w:World}{va vm ve:Value}{st:Int}{es:List Ed}(h:qc L w.heap ve es) (hi:es.Pairwise (λa b=>a.1≤b.1)) (hb:∀e∈es,0≤e.1∧e.1≤1099511627776) (s:Int) (ha:0≤s) (hl:s<1099511627776) :
  QM prog 77 [.agg #[va,.int .i64 st,vm,ve],.int .i64 s] w λr w'=>Step [] w w'∧qc L w'.heap r (Zv es s):=by
 refine QM.of_W func77 O ntmps77 results77 (by simp) ?_;refine Qd<|xl O<|QS (us:=[va,.int .i64 st,vm,ve]) O λb2 w1 S hn E=>Qf ?_
 replace h:=h.ext S;refine Qd<|x (Qa O)<|x (Qc E O O)<|Qb<|xl O<|xf<|(QiR QjJ h hi hb s ha (by omega)).mono ?_;rintro r2 w2 ⟨H,lo,b,rfl,ho,U,he⟩
 replace h:=h.ext H
 replace E:=E.ext H;refine Qb<|x (Qk O O)<|x (Qk O O)<|x Qe<|Qf<|Qd<|x (Qa O)<|x (Qc E O O)<|Qb<|QN O O<|xl O<|xf<|(QiR QjI h hi hb (s+1) (by omega) (by omega)).mono ?_;rintro r3 w3 ⟨J,G,b',rfl,V,hf,Y⟩
 replace h:=h.ext J
 replace E:=E.ext J;refine Qb<|x (Qk O O)<|x (Qk O O)<|x Qe<|Qf ?_;have Z:lo≤G:=by
  rcases Nz G lo with hg | hge
  ·have h1:=U G (by omega) hg;have h2:=Y G (by omega) (Lv _);omega
  exact hge
 refine Qd<|x (Qa O)<|x (Qc E O O)<|Qb<|Qb<|QnT h O O O Z V λv' hv'=>Qf<|Qs ⟨[v'],Lb,(S.trans H).trans J,?_⟩;have hc:=yr (λe:Ed=>decide (e.1=s)) es lo G Z V (λm hm hh=>by have:=U m hm hh;simp;omega) (λm hm h1 h2=>by have:=he m hm h1;have:=hf m hm h2;simp;omega) (λm hm h1=>by have:=Y m hm h1;simp;omega)
 have hj:(Zv es s).length=G - lo:=by unfold Zv;rw[←hc,LF,Mf];omega
 show Zz L w3.heap v' (Zv es s).length 3 _;rw[hj];have e1:(Zv es s).flatMap Qz=((es.flatMap Qz).drop (lo*3)).take ((G - lo)*3):=by
  unfold Zv;rw[←hc];have key:∀(l:List Ed) (k:Nat),(l.flatMap Qz).drop (k*3)=(l.drop k).flatMap Qz:=by
   intro l;induction l with
   | nil=>intro k;simp
   | cons a l ih=>intro k;cases k with
    | zero=>simp
    | succ k=>simp only[List.flatMap_cons,List.drop_succ_cons,Nat.add_mul,Nat.one_mul];rw[MX,←List.drop_drop,show (Qz a++l.flatMap Qz).drop 3=l.flatMap Qz from rfl,ih]
  have hk:∀(l:List Ed) (k:Nat),(l.flatMap Qz).take (k*3)=(l.take k).flatMap Qz:=by
   intro l;induction l with
   | nil=>intro k;simp
   | cons a l ih=>intro k;cases k with
    | zero=>simp
    | succ k =>
     simp only[List.flatMap_cons,List.take_succ_cons,Nat.add_mul,Nat.one_mul];rw[NC,JK,←ih,Lq (by simp[JK])];simp
  rw[key,hk]
 rw[e1];exact hv'
structure QK (a:QE):Prop where
 al:∀e∈a.al,0≤e∧e<32
 ali:ZT a.al
 st0:0≤a.st
 st1:a.st≤4096
 mr:∀s∈a.mr,0≤s∧s<a.st
 mri:ZT a.mr
 ed:∀e∈a.ed,0≤e.1∧e.1<a.st∧e.2.1∈a.al∧0≤e.2.2∧e.2.2<a.st
 edi:a.ed.Pairwise λx y=>x.1<y.1∨(x.1=y.1∧x.2.1<y.2.1)
theorem YZ (n:Int):∀(l:LI) (pr:Option Int),Kt n pr l=0↔(∀x∈l,0≤x∧x<n)∧ZT l∧∀y,pr=some y→∀x∈l,y<x
 | [],pr=>by simp[Kt]
 | a::l,pr=>by
  have ih:=YZ n l (some a);rw[Kt];by_cases h1:a<0∨n≤a
  ·rw[if_pos h1];simp only[List.forall_mem_cons];constructor
   ·intro h;cases h
   rintro ⟨⟨h,_⟩,_⟩;omega
  rw[if_neg h1];by_cases h2:zP pr a=true
  ·rw[if_pos h2];constructor
   ·intro h;cases h
   rintro ⟨_,_,h⟩;cases pr with
   | none=>simp[zP] at h2
   | some y=>simp[zP] at h2;have:=h y O a Lh;omega
  rw[if_neg h2,ih];simp only[List.forall_mem_cons,List.pairwise_cons];constructor
  ·rintro ⟨h3,h4,h5⟩;refine ⟨⟨by omega,h3⟩,⟨λb hb=>h5 a O b hb,h4⟩,?_⟩;rintro y rfl;simp[zP] at h2;exact ⟨h2,λz E=>by have:=h5 a O z E;omega⟩
  rintro ⟨⟨_,h3⟩,⟨h4,h5⟩,_⟩;exact ⟨h3,h5,λy hy z E=>by cases hy;exact h4 z E⟩
theorem Qct (al:LI) (st:Int):∀(l:List Ed) (pr:Option Ed),ckE al st pr l=0↔(∀e∈l,0≤e.1∧e.1<st∧e.2.1∈al∧0≤e.2.2∧e.2.2<st)∧(l.Pairwise λx y=>x.1<y.1∨(x.1=y.1∧x.2.1<y.2.1)) ∧
  ∀y,pr=some y→∀e∈l,y.1<e.1∨(y.1=e.1∧y.2.1<e.2.1)
 | [],pr=>by simp[ckE]
 | a::l,pr=>by
  have ih:=Qct al st l (some a);rw[ckE];by_cases h1:a.1<0∨st≤a.1∨a.2.2<0∨st≤a.2.2
  ·rw[if_pos h1];simp only[List.forall_mem_cons];constructor
   ·intro h;cases h
   rintro ⟨⟨h,_⟩,_⟩;omega
  rw[if_neg h1];by_cases h2:a.2.1∉al
  ·rw[if_pos h2];constructor
   ·intro h;cases h
   rintro ⟨h,_⟩;exact absurd (h a Lh).2.2.1 h2
  rw[if_neg h2];by_cases h3:edO pr a=true
  ·rw[if_pos h3];constructor
   ·intro h;cases h
   rintro ⟨_,_,h⟩;cases pr with
   | none=>simp[edO] at h3
   | some y=>simp[edO] at h3;have:=h y O a Lh;omega
  rw[if_neg h3,ih];simp only[List.forall_mem_cons,List.pairwise_cons];have H:a.2.1∈al:=Lt.1 h2;constructor
  ·rintro ⟨h4,h5,E⟩;refine ⟨⟨⟨by omega,by omega,H,by omega,by omega⟩,h4⟩,⟨λb hb=>E a O b hb,h5⟩,?_⟩;rintro y rfl;simp[edO] at h3;have J:y.1<a.1∨y.1=a.1∧y.2.1<a.2.1:=by omega
   exact ⟨J,λz G=>by have:=E a O z G;omega⟩
  rintro ⟨⟨_,h4⟩,⟨h5,E⟩,_⟩;exact ⟨h4,E,λy hy z G=>by cases hy;exact h5 z G⟩
theorem Zp (a:QE):XW a=0↔QK a:=by
 unfold XW;by_cases h1:Kt 32 none a.al≠0
 ·rw[if_pos h1];exact ⟨λh=>absurd h h1,λh=>absurd ((YZ 32 a.al none).2 ⟨h.al,h.ali,λ_ h=>by cases h⟩) h1⟩
 rw[if_neg h1];have E:=(YZ 32 a.al none).1 (Lt.1 h1);by_cases h2:a.st<0
 ·rw[if_pos h2];exact ⟨λh=>(by cases h),λh=>(by have:=h.st0;omega)⟩
 rw[if_neg h2];by_cases h3:4096<a.st
 ·rw[if_pos h3];exact ⟨λh=>(by cases h),λh=>(by have:=h.st1;omega)⟩
 rw[if_neg h3];by_cases h4:Kt a.st none a.mr≠0
 ·rw[if_pos h4];exact ⟨λh=>absurd h h4,λh=>absurd ((YZ a.st a.mr none).2 ⟨h.mr,h.mri,λ_ h=>by cases h⟩) h4⟩
 rw[if_neg h4,Qct];have G:=(YZ a.st a.mr none).1 (Lt.1 h4);exact ⟨λh=>⟨E.1,E.2.1,by omega,by omega,G.1,G.2.1,h.1,h.2.1⟩,λh=>⟨h.ed,h.edi,λ_ h=>by cases h⟩⟩
theorem Jq:∀(l:LI) (a n:Int),ZT l→(∀x∈l,a≤x∧x<n)→(l.length:Int)≤max 0 (n - a)
 | [],a,n,_,_=>by simp;omega
 | x::l,a,n,h1,h2=>by
  simp only[List.pairwise_cons,List.forall_mem_cons] at h1 h2;have:=Jq l (x+1) n h1.2 (λy hy=>⟨by have:=h1.1 y hy;omega,(h2.2 y hy).2⟩);simp only[List.length_cons];omega
theorem QK.al_le {a:QE}(h:QK a):a.al.length≤32:=by have:=Jq a.al 0 32 h.ali h.al;omega
theorem QK.mr_le {a:QE}(h:QK a):a.mr.length≤4096:=by have:=Jq a.mr 0 a.st h.mri h.mr;have:=h.st1;omega
theorem QK.eds {a:QE}(h:QK a):a.ed.Pairwise λx y=>x.1≤y.1:=h.edi.imp λh=>by omega
structure Cs where
 ord:LI
 num:LI
 mk':LI
 ed:List Ed
def Zm (l:LI) (k:Int):Int:=l.getD k.toNat 0
def Zb (i:Nat) (c:Cs) (e:Ed):Cs :=
 if Zm c.num e.2.2<0 then ⟨c.ord++[e.2.2],c.num.set e.2.2.toNat c.ord.length,c.mk',c.ed++[((i:Int),e.2.1,(c.ord.length:Int))]⟩
 else ⟨c.ord,c.num,c.mk',c.ed++[((i:Int),e.2.1,Zm c.num e.2.2)]⟩
def Zx (a:QE) (i:Nat) (c:Cs):Cs:=if Zm c.ord i∈a.mr then ⟨c.ord,c.num,c.mk'++[(i:Int)],c.ed⟩ else c
def Vx (a:QE) (i:Nat) (c:Cs):Cs:=(Zv a.ed (Zm c.ord i)).foldl (Zb i) (Zx a i c)
def Yu (a:QE):Nat→Nat→Cs→Cs
 | 0,_,c=>c
 | f+1,i,c=>if i<c.ord.length then Yu a f (i+1) (Vx a i c) else c
def ZH (a:QE):Cs:=⟨[0],(List.replicate a.st.toNat (-1)).set 0 0,[],[]⟩
def Zt (a:QE):QE:=if a.st=0 then ⟨a.al,0,[],[]⟩ else
 let c:=Yu a a.st.toNat 0 (ZH a);⟨a.al,c.ord.length,c.mk',c.ed⟩
def neg (l:LI):Nat:=(l.filter (·<0)).length
theorem V7:∀(l:LI) (k:Nat) (v:Int) (h:k<l.length),l[k]<0→0≤v→neg (l.set k v)+1=neg l
 | a::l,0,v,_,h1,h2=>by
  have E:a<0:=h1;simp[neg,E,show ¬v<0 by omega]
 | a::l,k+1,v,h,h1,h2=>by
  have ih:=V7 l k v (by simpa using h) h1 h2;unfold neg at *;simp only[List.set_cons_succ,List.filter_cons];split
  ·simp only[List.length_cons];omega
  exact ih
structure VT (st:Int) (c:Cs):Prop where
 nl:c.num.length=st.toNat
 sum:c.ord.length+neg c.num=st.toNat
 ord:∀s∈c.ord,0≤s∧s<st
 num:∀v∈c.num,v<c.ord.length
 el:c.ed.length≤1000000000
theorem VT.le {st:Int}{c:Cs}(h:VT st c):c.ord.length≤st.toNat:=by have:=h.sum;omega
theorem Ug {l:LI}{k:Int}(h:k.toNat<l.length):Zm l k=l[k.toNat]:=by unfold Zm;simp[List.getD,h]
theorem Qbn {st:Int}{c:Cs}{i:Nat}{e:Ed}(h:VT st c) (H:0≤e.2.2) (h1:e.2.2<st) (hl:c.ed.length+1≤1000000000):VT st (Zb i c e):=by
 have hk:e.2.2.toNat<c.num.length:=by rw[h.nl];omega
 unfold Zb;split
 ·rename_i G;rw[Ug hk] at G;refine ⟨by simp[h.nl],?_,?_,?_,by simpa using hl⟩
  ·have:=V7 c.num e.2.2.toNat c.ord.length hk G (by omega);have:=h.sum;simp only[List.length_append,List.length_singleton];omega
  ·intro s hs;simp only[List.mem_append,List.mem_singleton] at hs;rcases hs with hs | rfl
   ·exact h.ord s hs
   exact ⟨H,h1⟩
  intro v E;simp only[List.length_append,List.length_singleton];rcases Nb E with E | rfl
  ·have:=h.num v E;omega
  omega
 exact ⟨h.nl,h.sum,h.ord,h.num,by simpa using hl⟩
theorem Qbp (i:Nat) (c:Cs) (e:Ed):(Zb i c e).ed.length=c.ed.length+1:=by unfold Zb;split <;> simp
theorem Qhv {a:QE}{st:Int}{c:Cs}{i:Nat}(h:VT st c):VT st (Zx a i c):=by
 unfold Zx;split
 ·exact ⟨h.nl,h.sum,h.ord,h.num,h.el⟩
 exact h
theorem Ya {es:List Ed}{s:Int}{e:Ed}(h:e∈Zv es s):e∈es∧e.1=s:=by unfold Zv at h;simpa using h
theorem Qfb {a:QE}(J:0<a.st):VT a.st (ZH a):=by
 have G:0<a.st.toNat:=by omega
 refine ⟨by simp[ZH],?_,?_,?_,by simp[ZH]⟩
 ·have H:0<(List.replicate a.st.toNat (-1:Int)).length:=by simpa using G
  have h1:=V7 (List.replicate a.st.toNat (-1)) 0 0 H (by simp) (Ni _);have h2:neg (List.replicate a.st.toNat (-1))=a.st.toNat:=by
   unfold neg;rw[List.filter_eq_self.2 (by intro b hb;have:=Nh hb;subst this;rfl)];simp
  simp only[ZH,List.length_singleton];omega
 ·intro s hs;simp[ZH] at hs;subst hs;omega
 intro v E;simp only[ZH,List.length_singleton] at *;rcases Nb E with E | rfl
 ·have:=Nh E;omega
 omega
theorem j4 {a:QE}{f i:Nat}{c:Cs}(h:¬i<c.ord.length):Yu a f i c=c:=by
 cases f with
 | zero=>rfl
 | succ f=>rw[Yu,if_neg h]
theorem QK.ed_le {a:QE}(h:QK a):a.ed.length≤131072:=by
 have h1:ZT (a.ed.map λe=>e.1*32+e.2.1):=by
  refine Mm.2 (List.Pairwise.imp_of_mem ?_ h.edi);intro x y hx hy G;have h2:=h.al _ (h.ed x hx).2.2.1;have h3:=h.al _ (h.ed y hy).2.2.1;omega
 have h2:=Jq _ 0 131072 h1 (by
  intro v E;obtain ⟨e,he,rfl⟩:=Lz.1 E;have h3:=h.ed e he;have h4:=h.al _ h3.2.2.1;have:=h.st1;omega)
 simp only[List.length_map] at h2;omega
theorem JX (es:List Ed) (s:Int):(Zv es s).length≤es.length:=Mj _ _
structure Kz (b3 b22:Nat) (r3:Value) (wS:World) (c:Cs) (vo vk ve:Value) (w:World):Prop where
 st:Step [b3,b22] wS w
 B3:QX w.heap b3 58 [r3,.int .i64 0,vk,ve]
 B22:QX w.heap b22 3 (c.num.map (Value.int .i64))
 o:Qn 3 wS.heap.size w vo c.ord
 k:Qn 3 wS.heap.size w vk c.mk'
 e:ZS 144 wS.heap.size w ve c.ed
 d1:Dj vo vk
 d2:Dj vo ve
 d3:Dj vk ve
theorem Kz.ext {b3 b22:Nat}{r3:Value}{wS:World}{c:Cs}{vo vk ve:Value}{w w':World}(h:Kz b3 b22 r3 wS c vo vk ve w) (hs:Step [] w w'):Kz b3 b22 r3 wS c vo vk ve w' :=
 ⟨h.st.trans hs,h.B3.ext hs,h.B22.ext hs,Qt h.o hs,Qt h.k hs,Qt h.e hs,h.d1,h.d2,h.d3⟩
section
variable {b3 b22:Nat} {r3:Value} {wS:World} {c:Cs} {vo vk ve:Value} {w w' w'':World}
theorem Kz.setK (h:Kz b3 b22 r3 wS c vo vk ve w) (V:b3<wS.heap.size) (S:b22<wS.heap.size) (ne:b3≠b22) {G:Value}{m:LI}(hs:Step (ob vk) w w') (H:Qn 3 wS.heap.size w' G m)
  (J:∀b∈ob G,b∈ob vk∨w.heap.size≤b) (E:Step [b3] w' w'') (U:QX w''.heap b3 58 [r3,.int .i64 0,G,ve]):Kz b3 b22 r3 wS ⟨c.ord,c.num,m,c.ed⟩ vo G ve w'':=by
 have hge:=Qm h.k;refine ⟨(h.st.then hs (λb hb=>.inr (hge b hb).1)).then E (λb hb=>.inl (by simp at hb;simp[hb])),U,(h.B22.step hs (QU h.k S)).step E (by simp;omega),
  Qi (Qi h.o hs h.d1) E (λb hb=>by have:=(Qm h.o b hb).1;simp;omega),Qi H E (λb hb=>by have:=(Qm H b hb).1;simp;omega),
  Qi (Qi h.e hs h.d3.symm) E (λb hb=>by have:=(Qm h.e b hb).1;simp;omega),h.d1.grow J (QY h.o),h.d2,(h.d3.symm.grow J (QY h.e)).symm⟩
theorem Kz.setE (h:Kz b3 b22 r3 wS c vo vk ve w) (V:b3<wS.heap.size) (S:b22<wS.heap.size) (ne:b3≠b22) {G:Value}{m:List Ed}(hs:Step (ob ve) w w') (H:ZS 144 wS.heap.size w' G m)
  (J:∀b∈ob G,b∈ob ve∨w.heap.size≤b) (E:Step [b3] w' w'') (U:QX w''.heap b3 58 [r3,.int .i64 0,vk,G]):Kz b3 b22 r3 wS ⟨c.ord,c.num,c.mk',m⟩ vo vk G w'':=by
 have hge:=Qm h.e;refine ⟨(h.st.then hs (λb hb=>.inr (hge b hb).1)).then E (λb hb=>.inl (by simp at hb;simp[hb])),U,(h.B22.step hs (QU h.e S)).step E (by simp;omega),
  Qi (Qi h.o hs h.d2) E (λb hb=>by have:=(Qm h.o b hb).1;simp;omega),Qi (Qi h.k hs h.d3) E (λb hb=>by have:=(Qm h.k b hb).1;simp;omega),
  Qi H E (λb hb=>by have:=(Qm H b hb).1;simp;omega),h.d1,h.d2.grow J (QY h.o),h.d3.grow J (QY h.k)⟩
theorem Kz.setN (h:Kz b3 b22 r3 wS c vo vk ve w) (H:b22<wS.heap.size) (ne:b3≠b22) {m:LI}(E:Step [b22] w w') (G:QX w'.heap b22 3 (m.map (Value.int .i64))):Kz b3 b22 r3 wS ⟨c.ord,m,c.mk',c.ed⟩ vo vk ve w' :=
 ⟨h.st.then E (λb hb=>.inl (by simp at hb;simp[hb])),h.B3.step E (by simp;omega),G,Qi h.o E (λb hb=>by have:=(Qm h.o b hb).1;simp;omega),
  Qi h.k E (λb hb=>by have:=(Qm h.k b hb).1;simp;omega),Qi h.e E (λb hb=>by have:=(Qm h.e b hb).1;simp;omega),h.d1,h.d2,h.d3⟩
theorem Kz.setO (h:Kz b3 b22 r3 wS c vo vk ve w) (H:b3<wS.heap.size) (J:b22<wS.heap.size) {E:Value}{m:LI}(hs:Step (ob vo) w w') (S:Qn 3 wS.heap.size w' E m)
  (G:∀b∈ob E,b∈ob vo∨w.heap.size≤b):Kz b3 b22 r3 wS ⟨m,c.num,c.mk',c.ed⟩ E vk ve w' :=
 ⟨h.st.then hs (λb hb=>.inr (Qm h.o b hb).1),h.B3.step hs (QU h.o H),h.B22.step hs (QU h.o J),S,Qi h.k hs h.d1.symm,Qi h.e hs h.d2.symm,
  (h.d1.symm.grow G (QY h.k)).symm,(h.d2.symm.grow G (QY h.e)).symm,h.d3⟩
end
def Z8 (c:Cs) (e:Ed):Cs:=if Zm c.num e.2.2<0 then ⟨c.ord++[e.2.2],c.num.set e.2.2.toNat c.ord.length,c.mk',c.ed⟩ else c
theorem Qey (c:Cs) (e:Ed):(Z8 c e).num.length=c.num.length:=by unfold Z8;split <;> simp
theorem zm {i:Nat}{c:Cs}{e:Ed}(h:e.2.2.toNat<c.num.length):Zb i c e=⟨(Z8 c e).ord,(Z8 c e).num,(Z8 c e).mk',(Z8 c e).ed++[((i:Int),e.2.1,Zm (Z8 c e).num e.2.2)]⟩:=by
 unfold Zb Z8;split
 ·simp[Zm,List.getD,h]
 rfl
set_option maxHeartbeats 1000000 in
theorem Uv {L:LN}{w:World}{va vm ve:Value}{a:QE}(h:Zi L w.heap va vm ve a) (V:QK a) :
  QM prog 194 [.agg #[va,.int .i64 a.st,vm,ve]] w λr w'=>Step [] w w'∧Xb w.heap.size w'.heap r (Zt a):=by
 have hst0:=V.st0;have hst1:=V.st1;refine QM.of_W func194 O ntmps194 results194 (by simp) ?_;refine Qd<|xl O<|QS (us:=[va,.int .i64 a.st,vm,ve]) O λb1 w1 hK hb1 hp=>xl O<|Qu (us:=[nS,.int .i64 0,nS,nS]) O λb2 w2 Y hb2 hr=>xe ?_;have hz1:=hK.size;have hz2:=Y.size;have hl1:=hp.lt;have hl2:=hr.lt
 refine Qd<|x (Qa O)<|x (Qc (hp.ext Y) O O)<|xl O<|xf<|(Zk ((h.al.ext hK).ext Y)).mono ?_;rintro r3 w3 ⟨Z,H⟩;have hz3:=Z.size;refine x (QG ⟨(Qn.ints (L:=[]) H h.al.le (by simp)).cells,La⟩)<|xl rfl<|Qu (us:=[nS,.int .i64 0,nS,nS]) rfl λb3 w4 kt ku ht =>
  xl rfl<|Qq (us:=[r3,.int .i64 0,nS,nS]) ht O O O O ⟨(Qn.ints (L:=[]) H h.al.le (by simp)).one,rfl,rfl,rfl,La⟩ λw5 kv ht=>xe ?_
 have G:Step [] w3 w5:=kt.then1 kv ku;have hz5:=G.size;have hl3:=ht.lt;have gr:Step [] w w5:=((hK.trans Y).trans Z).trans G;refine Qg<|Qd<|x (Qa O)<|x (Qc (((hp.ext Y).ext Z).ext G) O O)<|x (Zf O O)<|xe<|Zc rfl (λhL=>?_) (λhL=>?_)
 ·refine Qd<|x (Qo ht O O)<|xl O<|Qq (us:=[r3,.int .i64 0,nS,nS]) ((hr.ext Z).ext G) O O O O ⟨(Qn.ints (L:=[]) H h.al.le (by simp)).one,rfl,rfl,rfl,La⟩ λw6 gs hr=>xe ?_;refine Qs ⟨[.agg #[r3,.int .i64 0,nS,nS]],⟨⟨_,O,QF O (hr.at (L:=[]) (by simp)).cells⟩,La⟩,gr.then1 gs (by omega),?_⟩;have kw:=Qi (Qt H G) gs (λb hb=>by have:=(Qm H b hb).1;simp;omega);unfold Zt;rw[if_pos hL]
  exact ⟨r3,_,_,O,λL' hv=>⟨Qn.ints kw h.al.le (λb hb=>by have:=hv b hb;omega),Zz.nil _ _ _,Zz.nil _ _ _⟩⟩
 have kx:0<a.st:=by omega
 obtain ⟨n,hn⟩:∃n:Nat,a.st=n:=⟨a.st.toNat,by omega⟩;have kz:a.st.toNat=n:=by omega
 refine Qj<|Qd<|x (Qa O)<|x (Qc (((hp.ext Y).ext Z).ext G) O O)<|xl O<|YG (n:=n) (congrArg (Value.int .i64) hn) (congrArg (Value.int .i64) hn) (by omega) λb22 w7 hh hb22 hM=>Qf ?_;have hz7:=hh.size;have hl22:=hM.lt;have k0:=gr.trans hh
 rw[show (List.replicate n (Value.int .i64 0).cells.toList).flatten=((List.replicate n 0).map (Value.int .i64)) by rw[show (Value.int .i64 0).cells.toList=[Value.int .i64 0] from rfl,V4,NH]] at hM;have k4:Step [] w3 w7:=G.trans hh;refine Qg<|Qd<|Qb<|x (jv O)<|Qb<|xe ?_
 refine Qh<|QC (α:=Nat) [(5,5),(25,31)] (λk=>[(25,.int .i64 k)]) (λk w'=>Step [b22] w7 w'∧k≤n∧QX w'.heap b22 3 ((List.replicate k (-1)++List.replicate (n - k) 0).map (Value.int .i64))) (λk=>n - k) (by rfl) 0 Lb
  ⟨Step.refl _ _,Lm _,by simpa using hM⟩ ?_
 rintro k g w8 ⟨hN,hk,hO⟩;refine Qd<|x (QD O O)<|xe<|Qg<|QI O (λk5=>?_) (λk5=>?_)
 rotate_left
 ·have S:k<n:=by omega
  refine Qj<|Qg<|Qh<|Qd<|Qb<|Qf<|Qx<|Qb<|Qb<|x (QP O O S)<|xl O<|XK hO O O (by simp;omega) λw9 h6 gt=>xe ?_;refine Qx<|QN O O<|Qb<|xe<|⟨k+1,by omega,Lb,hN.trans' h6,by omega,?_⟩;have e:(List.replicate k (-1:Int)++List.replicate (n - k) 0).set k (-1)=List.replicate (k+1) (-1)++List.replicate (n - (k+1)) 0:=by
   rw[Nu _ _ (by simp)];obtain ⟨m,hm⟩:∃m,n - k=m+1:=⟨n - k - 1,by omega⟩;rw[hm,show n - (k+1)=m by omega,List.replicate_succ,List.replicate_succ' (n:=k)];simp
  rw[e] at gt;exact gt
 have k6:n=k:=by omega
 subst k6;simp only[Nat.sub_self,List.replicate_zero,List.append_nil] at hO;refine Qy<|Qd<|Qb<|x (QP (i:=0) O O (by omega))<|xl O<|XK (i:=0) hO O O (by simp;omega) λwS h6 k7=>xe ?_;have hzS:w8.heap.size≤wS.heap.size:=h6.size;have hz8:=hN.size;have hw:Step [b22] w7 wS:=hN.trans' h6;have hy:Step [] w wS:=k0.then1 hw (by omega)
 have hA:Zi [b3,b22] wS.heap va vm ve a:=(h.up (λb hb=>.inr (by simp at hb;omega))).ext hy;have gu:QX wS.heap b1 58 [va,.int .i64 a.st,vm,ve]:=((((hp.ext Y).ext Z).ext G).ext hh).step hw (by simp;omega);have k8:QX wS.heap b2 58 [nS,.int .i64 0,nS,nS]:=(((hr.ext Z).ext G).ext hh).step hw (by simp;omega)
 have k9:QX wS.heap b3 58 [r3,.int .i64 0,nS,nS]:=(ht.ext hh).step hw (by simp;omega);have ma:Qn 3 w2.heap.size wS r3 a.al:=Qi (Qt H k4) hw (λb hb=>by have:=QY H b hb;simp;omega);have mc:∀b∈ob r3,b<w3.heap.size:=QY H;have hz:b3<wS.heap.size:=by omega
 have h0:b22<wS.heap.size:=by omega
 have hP:b3≠b22:=by omega
 refine Qd<|xl O<|QL (us:=[[.int .i64 0]]) O O (by decide) (by simp) ⟨rfl,rfl,La⟩ λgv mf hQ hb34 mg=>Qf ?_;have mh:Qn 3 wS.heap.size mf (.slice (some ⟨gv,0,none⟩) 1 1) [0]:=mg.own (n:=1) (sz:=1) O (by omega) (by omega);refine Qg<|Qd<|Qf ?_;have hedle:=V.ed_le;have mj:∀e∈a.ed,0≤e.1∧e.1≤1099511627776:=λe he=>by have:=V.ed e he;omega
 refine Qh<|QC (α:=Nat×Cs×Value×Value×Value) [(6,9),(11,11),(35,100)] (λz=>[(6,z.2.2.1),(7,.int .i64 z.1)])
  (λz w'=>Kz b3 b22 r3 wS z.2.1 z.2.2.1 z.2.2.2.1 z.2.2.2.2 w'∧z.1≤z.2.1.ord.length∧VT a.st z.2.1∧z.2.1.mk'.length≤z.1∧z.2.1.ed.length≤z.1*131072∧Yu a (a.st.toNat - z.1) z.1 z.2.1=Yu a a.st.toNat 0 (ZH a))
  (λz=>a.st.toNat - z.1) (by rfl) (0,ZH a,.slice (some ⟨gv,0,none⟩) 1 1,nS,nS) ⟨O,O,La⟩
  ⟨⟨hQ.any,k9.ext hQ,by show QX _ _ _ (List.map _ ((List.replicate a.st.toNat (-1)).set 0 0));rw[kz];exact k7.ext hQ,mh,QR _ _ _ _,QR _ _ _ _,Dj.nil' _,Dj.nil' _,Dj.nil' _⟩,Lm _,Qfb kx,Lm _,Lm _,O⟩ ?_
 rintro ⟨i,c,vo,vk,J⟩ g2 gx ⟨E,hi,hc,mo,mq,hR⟩;simp only[] at E hi hc mo mq hR;have hcle:=hc.le;have hS:=Qn.ints (L:=[]) E.o (by omega) (by simp);have ms:=hA.st E.st;have mt:=gu.step E.st (by simp;omega);refine Qg<|Qd<|Qb<|Qb<|x (Qw hS O)<|x (QD O O)<|xe<|QI rfl (λmu=>?_) (λmu=>?_)
 ·have mv:c=Yu a a.st.toNat 0 (ZH a):=by rw[←hR,j4 (by omega)]
  refine Qy<|Qd<|Qb<|x (Qw hS O)<|x (Qa O)<|xl O<|QH E.B3 O O (by simp) rfl λmw h7 my=>xe ?_;refine Qd ?_;have mz:=Qn.ints (L:=[]) E.k (by omega) (by simp);have m0:=ZS.eds (L:=[]) E.e (by have:=hc.el;omega) (by simp);have m2:=Qn.ints (L:=[]) H h.al.le (by simp)
  refine x (Qo my O O)<|xl O<|Qq (us:=[r3,.int .i64 c.ord.length,vk,J]) (((k8.step E.st (by simp;omega))).step h7 (by simp;omega)) O O O O ⟨m2.one,O,mz.one,m0.one,La⟩ λm3 h8 m4=>xe ?_;have gy:Step [b3,b22] wS mw:=E.st.then h7 (λb hb=>.inl (by simp at hb;simp[hb]));have m5:Step [] w m3:=(hy.then gy (λb hb=>.inr (by simp at hb;omega))).then1 h8 (by omega)
  refine Qs ⟨[.agg #[r3,.int .i64 c.ord.length,vk,J]],⟨⟨_,O,QF O (m4.at (L:=[]) (by simp)).cells⟩,La⟩,m5,?_⟩;unfold Zt;rw[if_neg hL];simp only[];rw[←mv];have hNge:w.heap.size≤wS.heap.size:=hy.size;have k1:=Qi (Qi E.k h7 (λb hb=>by have:=(Qm E.k b hb).1;simp;omega)) h8 (λb hb=>by have:=(Qm E.k b hb).1;simp;omega)
  have k2:=Qi (Qi E.e h7 (λb hb=>by have:=(Qm E.e b hb).1;simp;omega)) h8 (λb hb=>by have:=(Qm E.e b hb).1;simp;omega);have k3:=Qi (Qi ma gy (λb hb=>by have:=mc b hb;simp;omega)) h8 (λb hb=>by have:=(Qm H b hb).1;simp;omega)
  exact ⟨r3,vk,J,O,λL' hv=>⟨Qn.ints k3 h.al.le (λb hb=>by have:=hv b hb;omega),Qn.ints k1 (by show c.mk'.length≤_;omega) (λb hb=>by have:=hv b hb;omega),ZS.eds k2 (by show c.ed.length≤_;have:=hc.el;omega) (λb hb=>by have:=hv b hb;omega)⟩⟩
 have S:i<c.ord.length:=by omega
 refine Qj<|Qg<|Qh<|Q0 (α:=Value) [(8,9),(41,57)] (λz=>[]) (λz w'=>Kz b3 b22 r3 wS (Zx a i c) vo z J w') (by rfl) ?_ ?_
 ·refine Qg<|QV (Step [] gx) [(0,true),(1,true),(2,true),(3,true),(4,true),(5,true),(6,false),(7,true),(8,true),(9,true),(10,true),(11,true)] mixed (by rfl) (by kernel_rfl) (Step.drew _ _) ?_;refine p (λ_=>Qa O)<|pq (λ_ hc=>Qc (mt.ext hc) O O)<|p (λ_=>Ql)<|p (λ_=>Ql)<|pii O hS O O S λa46 m6 =>
   pq (λ_ hc=>Qv (m6.ext hc) O)<|pk<|xf<|(yG (ms.mr.ext (Step.drew _ _)) V.mri _).mono ?_
  rintro r14 w14 ⟨rfl,j14,rfl⟩;refine ⟨Step.drew _ _,?_⟩;refine p (λ_=>Ql)<|p (λ_=>Qk O O)<|p (λ_=>Qk O O)<|p (λ_=>Qe)<|p (λ_=>Qe)<|pe ?_;have hT:=E.ext (Step.drew [] gx);refine Qd<|Qb<|xe ?_;have h9:Zm c.ord i=c.ord[i]:=Ug (by simpa using S);refine QI O (λhU=>?_) (λhU=>?_)
  ·refine Qj<|⟨vk,La,?_⟩;unfold Zx;rw[h9,if_neg hU];exact hT
  refine Qx<|x (Qa O)<|x (Qc hT.B3 O O)<|Qb<|xl O<|QL (us:=[[.int .i64 i]]) O O (by decide) (by simp) ⟨rfl,rfl,La⟩ λb55 w15 m7 hb55 m8=>?_;have h2:=hT.ext m7;refine xl O<|QZ (news:=[.int .i64 i]) (L:=[]) h2.k O O O (m8.at (by simp)) (by simp[Value.oneCell']) (by omega) h2.st.size λgz m9 pa g0 pc=>?_;have g1:Qn 3 wS.heap.size m9 gz (c.mk'++[(i:Int)]):=Qn.snoc pa
  refine x (Qa O)<|xl O<|QH (h2.B3.step g0 (QU h2.k hz)) O O (by simp) (Qn.ints (L:=[]) g1 (by simp;omega) (by simp)).one λw17 pd pf=>xe ?_;refine ⟨gz,La,?_⟩;unfold Zx;rw[h9,if_pos hU];exact h2.setK hz h0 hP g0 g1 pc pd pf
 rintro hV g3 hj ha;have pg:VT a.st (Zx a i c):=Qhv hc;have hW:(Zx a i c).ord=c.ord:=by unfold Zx;split <;> rfl
 have ph:(Zx a i c).ed=c.ed:=by unfold Zx;split <;> rfl
 have pj:(Zx a i c).mk'.length≤i+1:=by
  unfold Zx;split
  ·simp only[List.length_append,List.length_singleton];omega
  omega
 have g6:QO [] hj.heap vo (Zx a i c).ord:=Qn.ints (L:=[]) ha.o (by rw[hW];omega) (by simp);rw[hW] at g6;have pn:Step [] w hj:=hy.then ha.st (λb hb=>.inr (by simp at hb;omega));have hNw:=hy.size;have pp:Zi (b3::b22::(ob vo++ob J)) hj.heap va vm ve a:=(h.up (λb hb=>.inr (by
  simp only[List.mem_cons,List.mem_append] at hb;rcases hb with rfl | rfl | hb | hb
  ·omega
  ·omega
  ·have:=(Qm ha.o b hb).1;omega
  have:=(Qm ha.e b hb).1;omega))).ext pn
 have pt:=gu.step ha.st (by simp;omega);have hs:=hc.ord c.ord[i] (Lj S);refine Qg<|QV (Step [] hj) [(0,true),(1,true),(2,true),(3,true),(4,true),(7,true),(5,false),(6,true)] mixed (by rfl) (by kernel_rfl) (Step.drew _ _) ?_;refine pq (λ_ hc=>Qo (pt.ext hc) O O)<|p (λ_=>Ql)<|p (λ_=>Ql)<|pii O g6 O O S λa61 pu =>
  pq (λ_ hc=>Qv (pu.ext hc) O)<|p (λ_=>Ql)<|pk<|xf<|(Qdd (pp.ed.ext (Step.drew _ _)) V.eds mj c.ord[i] hs.1 (by omega)).mono ?_
 rintro r19 ho ⟨pw,g7⟩;have hX:Step [] hj ho:=(Step.drew [] hj).trans pw;refine ⟨hX,?_⟩;refine p (λ_=>Qw g7 O)<|pe ?_;have pz:=ha.ext hX;have h9:Zm c.ord i=c.ord[i]:=Ug (by simpa using S);have hol:=JX a.ed c.ord[i];have p0:Vx a i c=(Zv a.ed c.ord[i]).foldl (Zb i) (Zx a i c):=by unfold Vx;rw[h9]
 generalize p1:Zv a.ed c.ord[i]=os at *;have p2:∀e∈os,0≤e.2.2∧e.2.2<a.st:=λe he=>by rw[←p1] at he;have:=V.ed e (Ya he).1;omega
 refine Qh<|QC (α:=Nat×Cs×Value×Value) [(6,6),(11,11),(65,100)] (λz=>[(6,z.2.2.1),(65,.int .i64 z.1)])
  (λz w'=>Kz b3 b22 r3 wS z.2.1 z.2.2.1 hV z.2.2.2 w'∧Step (b3::b22::(ob vo++ob J)) ho w'∧(∀b∈ob z.2.2.1,b∈ob vo∨ho.heap.size≤b)∧(∀b∈ob z.2.2.2,b∈ob J∨ho.heap.size≤b)∧z.1≤os.length∧VT a.st z.2.1∧z.2.1.mk'=(Zx a i c).mk'∧z.2.1.ed.length=c.ed.length+z.1∧c.ord.length≤z.2.1.ord.length∧(os.drop z.1).foldl (Zb i) z.2.1=Vx a i c)
  (λz=>os.length - z.1) (by rfl) (0,Zx a i c,vo,J) ⟨O,O,La⟩
  ⟨pz,Step.refl _ _,λ_ hb=>.inl hb,λ_ hb=>.inl hb,Lm _,pg,O,by simp[ph],by simp[hW],by rw[p0];rfl⟩ ?_
 rintro ⟨k,d,g8,hB⟩ g4 p3 ⟨hf,hC,hD,hY,p4,U,hZ,ga,p5,h3⟩;simp only[] at hf hC hD hY p4 U hZ ga p5 h3;refine Qd<|x (QD O O)<|xe<|Qg<|QI O (λp6=>?_) (λp6=>?_)
 ·rw[Lr (by omega),MF] at h3;subst h3;refine Qy<|Qx<|Qb<|QN O O<|Qf ?_;have p7:=U.le;refine ⟨(i+1,Vx a i c,g8,hV,hB),by simp only[];omega,⟨O,O,La⟩,hf,by simp only[];omega,U,by simp only[];rw[hZ];exact pj,by simp only[];omega,?_⟩;simp only[];rw[←hR];obtain ⟨m,hm⟩:∃m,a.st.toNat - i=m+1:=⟨a.st.toNat - i - 1,by omega⟩
  rw[hm,Yu,if_pos S,show a.st.toNat - (i+1)=m by omega]
 have gc:k<os.length:=by omega
 have p8:=Q9 gc;rw[p8,Ls] at h3;have g9:=p2 os[k] (Lj gc);have p9:=g7.st hC;have p7:=U.le;have hz19:=hX.size;have hzS4:=hC.size;have hz18:=ha.st.size;have hI4z:=hf.st.size;have qa:=Qn.ints (L:=[]) hf.o (by omega) (by simp);obtain ⟨q,hq⟩:∃q:Nat,os[k].2.2=q:=⟨os[k].2.2.toNat,by omega⟩;have ge:os[k].2.2.toNat=q:=by omega
 have gg:q<n:=by omega
 have gh:q<d.num.length:=by rw[U.nl];omega
 have ka:Zm d.num os[k].2.2=d.num[q]:=by rw[Ug (by omega)];simp only[ge]
 have qe:=QY hf.e;have qf:=QY hf.o;refine Qj<|Qg<|Qh<|Qd<|xie p9 O O gc λa67 ql=>x (QQ ql O O)<|xl O<|Qu (us:=[.int .i64 0,.int .i64 0,.int .i64 0]) O λkb w21 qm q0 hg=>xl O<|Qq (us:=Qz os[k]) hg O O O O ⟨O,O,O,La⟩ λq1 q2 hg=>xe ?_;have gi:Step [] p3 q1:=qm.then1 q2 q0;have hE:=hf.ext gi;have hz22:=gi.size;have hl11:=hg.lt;have G:=hC.trans gi
 refine Q0 (α:=Value) [(6,6),(69,85)] (λz=>[(6,z)]) (λz w'=>Kz b3 b22 r3 wS (Z8 d os[k]) z hV hB w'∧Step (b3::b22::(ob vo++ob J)) ho w'∧(∀b∈ob z,b∈ob vo∨ho.heap.size≤b)∧QX w'.heap kb 144 (Qz os[k])) (by rfl) ?_ ?_
 ·refine Qd<|Qb<|x (Qa O)<|x (Qc hg O O)<|x (QP O (congrArg (Value.int .i64) hq) gg)<|x (Vg hE.B22 O gh)<|x (QD O O)<|xe<|QI O (λgj=>?_) (λgj=>?_)
  ·refine Qj<|⟨g8,Lb,?_,G,hD,hg⟩;unfold Z8;rw[ka,if_neg gj];exact hE
  refine Qd<|Qb<|x (Qa O)<|x (Qc hg O O)<|Qb<|x (Qw qa O)<|x (QP O (congrArg (Value.int .i64) hq) gg)<|xl O<|XK hE.B22 O O gh λw23 hF q3=>xe ?_;have q4:=hE.setN h0 hP hF q3;have kc:=hg.step hF (by simp;omega);refine Qx<|Qb<|x (Qa O)<|x (Qc kc O O)<|xl O<|QL (us:=[[.int .i64 os[k].2.2]]) O O (by decide) (by simp) ⟨rfl,rfl,La⟩ λb84 w24 hG hb84 q5=>?_
  have gk:=q4.ext hG;refine xl O<|QZ (news:=[.int .i64 os[k].2.2]) (L:=[]) gk.o O O O (q5.at (by simp)) (by simp[Value.oneCell']) (by show d.ord.length+1≤_;omega) gk.st.size λke j1 j2 gl kf=>Qf ?_;have za:Qn 3 wS.heap.size j1 ke (d.ord++[os[k].2.2]):=Qn.snoc j2;have hz23:=hF.size;have hz24:=hG.size
  refine ⟨ke,Lb,?_,?_,?_,(kc.ext hG).step gl (λhb=>by have:=qf _ hb;omega)⟩
  ·unfold Z8;rw[ka,if_pos gj,ge];exact gk.setO hz h0 gl za kf
  ·refine ((G.then hF (λb hb=>.inl ?_)).trans hG).then gl (λb hb=>?_)
   ·simp at hb;simp[hb]
   rcases hD b hb with h1 | h1
   ·exact .inl (by simp[h1])
   exact .inr h1
  intro b hb;rcases kf b hb with h1 | h1
  ·exact hD b h1
  exact .inr (by omega)
 rintro zb g5 gm ⟨h4,kg,z0,kh⟩;have gn:Zb i d os[k]=⟨(Z8 d os[k]).ord,(Z8 d os[k]).num,(Z8 d os[k]).mk',(Z8 d os[k]).ed++[((i:Int),os[k].2.1,Zm (Z8 d os[k]).num os[k].2.2)]⟩:=zm (by omega);have z1:q<(Z8 d os[k]).num.length:=by rw[Qey];exact gh
 have z2:Zm (Z8 d os[k]).num os[k].2.2=(Z8 d os[k]).num[q]:=by rw[Ug (by omega)];simp only[ge]
 have ki:=QU h4.e hz;have z3:=QU h4.e h0;have kj:kb∉ob hB:=λhb=>by have:=qe _ hb;omega
 have kk:(Z8 d os[k]).ed=d.ed:=by unfold Z8;split <;> rfl
 have z4:VT a.st (Zb i d os[k]):=Qbn U g9.1 g9.2 (by rw[ga];omega);refine QV (Step (ob hB) gm) [(0,true),(1,true),(2,true),(3,true),(4,true),(5,true),(6,true),(7,true),(8,true),(9,true),(10,true),(11,false),(12,false),(13,true),(14,false)] mixed (by rfl) (by kernel_rfl) (Step.drew _ _) ?_
 refine p (λ_=>Qa O)<|pq (λ_ hc=>Qc (h4.B3.step hc ki) O O)<|p (λ_=>Ql)<|p (λ_=>Qa O)<|pq (λ_ hc=>Qc (kh.step hc kj) O O) <|
  p (λ_=>Ql)<|p (λ_=>Qa O)<|pq (λ_ hc=>Qc (kh.step hc kj) O O)<|p (λ_=>QP O (congrArg (Value.int .i64) hq) gg) <|
  pq (λ_ hc=>Vg (h4.B22.step hc z3) O z1)<|p (λ_=>QG ⟨O,O,O,La⟩)<|pk<|QL (us:=[Qz ((i:Int),os[k].2.1,(Z8 d os[k]).num[q])]) O O (by decide) (by exact (by decide:1*3≤1000000)) ⟨O,O,La⟩ λb97 z5 z6 hb97 z9=>?_
 have h5:Step [] gm z5:=(Step.drew [] gm).trans z6;refine ⟨h5.any,?_⟩;have hH:=h4.ext h5;refine pk<|QZ (news:=Qz ((i:Int),os[k].2.1,(Z8 d os[k]).num[q])) (L:=[]) hH.e O O O (z9.at (by simp)) (λu hu=>by simp only[Qz,List.mem_cons,List.not_mem_nil,or_false] at hu;rcases hu with rfl | rfl | rfl <;> rfl) (by rw[kk];have:=U.el;omega) hH.st.size λkn w28 ho28 hJ ko=>?_
 refine ⟨h5.any.trans' hJ,?_⟩;have kq:ZS 144 wS.heap.size w28 kn ((Z8 d os[k]).ed++[((i:Int),os[k].2.1,(Z8 d os[k]).num[q])]):=ZS.snoc ho28;refine p (λ_=>Qa O)<|pkl (hl:=by kernel_rfl)<|QH (hH.B3.step hJ ki) O O (by simp) (ZS.eds (L:=[]) kq (by simp[kk];have:=U.el;omega) (by simp)).one λw29 kr hB29=>pe ?_;have gq:=hH.setE hz h0 hP hJ kq ko kr hB29
 rw[←z2] at gq;rw[←gn] at gq;refine Qx<|QN O O<|Qb<|xe ?_;have hz26:=kg.size;have hz27:=h5.size;refine ⟨(k+1,Zb i d os[k],zb,kn),by simp only[];omega,⟨O,O,La⟩,gq,?_,z0,?_,by simp only[];omega,z4,?_,?_,?_,h3⟩
 ·refine (((kg.trans h5)).then hJ (λb hb=>?_)).then kr (λb hb=>.inl (by simp at hb;simp[hb]));rcases hY b hb with h1 | h1
  ·exact .inl (by simp[h1])
  exact .inr h1
 ·intro b hb;rcases ko b hb with h1 | h1
  ·exact hY b h1
  exact .inr (by omega)
 ·simp only[];rw[←hZ,gn];simp only[];unfold Z8;split <;> rfl
 ·simp only[];rw[Qbp,ga];omega
 simp only[];rw[gn];simp only[];unfold Z8;split
 ·simp only[List.length_append];omega
 omega
end Go.Proofs.YtdffckgdcegpaaaGreatDoor
namespace Go.Proofs
open Go.Proofs.Tryz
open Go.Shelf
def Tryz.lays169_ren:Go.Shelf.Ren:=⟨λ| 169=>147 | n=>n,λ| 70=>249 | 9=>9 | 0=>0 | 72=>251 | 37=>73 | 127=>311 | 3=>3 | 5=>5 | n=>n,λ| n=>n⟩
theorem Tryz.lays169:Go.Proofs.Lays.n169 prog Tryz.lays169_ren:={
 mixed:=by kernel_rfl
 f169:=func147.trans (congrArg some (by kernel_rfl))
 t0:=underlying0
 a0:=Tryz.isAgg0
 z0:=Tryz.sizeOf0
 v0:=Tryz.zeroValue0
 t3:=underlying3
 a3:=Tryz.isAgg3
 z3:=Tryz.sizeOf3
 v3:=Tryz.zeroValue3
 t9:=underlying9
 a9:=Tryz.isAgg9
 z9:=Tryz.sizeOf9
 v9:=Tryz.zeroValue9
 t37:=underlying73
 a37:=Tryz.isAgg73
 z37:=Tryz.sizeOf73
 v37:=Tryz.zeroValue73
 t70:=underlying249
 a70:=Tryz.isAgg249
 z70:=Tryz.sizeOf249
 v70:=Tryz.zeroValue249
 t72:=underlying251
 a72:=Tryz.isAgg251
 z72:=Tryz.sizeOf251
 v72:=Tryz.zeroValue251
 t127:=underlying311
 a127:=Tryz.isAgg311
 z127:=Tryz.sizeOf311
 v127:=Tryz.zeroValue311 }
theorem Tryz.Builder_Extra_169:Builder.Extra prog Tryz.lays169_ren:={
 sizeBuilder:=by kernel_rfl
 liesBuilder:=by kernel_rfl
 t5:=underlying5
 a5:=Tryz.isAgg5
 z5:=Tryz.sizeOf5
 v5:=Tryz.zeroValue5
 infoByte:=by kernel_rfl
 cellsByte:=by kernel_rfl
 sizeByte:=by kernel_rfl
 neB5:=by decide }
open Go.RowKit in
open Go.RowKit in
open Go.RowKit in
theorem Tryz.Builder_String_any (B b:Nat) (l:List UInt8) (w:World) (h:Lib.IsBuilder 251 5 B b (Lib.byteCells l) w) (E:B≤w.heap.size) :
  Calls prog 147 #[.pointer (some ⟨b,0,none⟩)] w λe w'=>e=.returned (.string ⟨l.toArray⟩)∧Below B w w':=Any.Builder_String_any Tryz.lays169 Tryz.Builder_Extra_169 B b l w h E
def Tryz.laysM171_ren:Go.Shelf.Ren:=⟨λ| 171=>146 | 243=>205 | 246=>258 | 283=>283 | 284=>284 | 285=>285 | 286=>286 | 129=>230 | 317=>309 | 318=>310 | 319=>311 | 320=>312 | 337=>320 | 338=>321 | n=>n,λ| 3=>3 | 9=>9 | 2=>2 | 4=>4 | 171=>391 | 0=>0 | 53=>340 | 37=>73 | 5=>5 | 173=>393 | 212=>410 | 51=>338 | 20=>20 | 213=>411 | 46=>269 | 232=>419 | 233=>420 | n=>n,λ| 17=>0 | 18=>1 | 19=>2 | n=>n⟩
theorem Tryz.laysM171:Go.Proofs.LaysM.n171 prog Tryz.laysM171_ren:={
 mixed:=by kernel_rfl
 f129:=func230.trans (congrArg some (by kernel_rfl))
 f171:=func146.trans (congrArg some (by kernel_rfl))
 f243:=func205.trans (congrArg some (by kernel_rfl))
 f246:=func258.trans (congrArg some (by kernel_rfl))
 f283:=func283.trans (congrArg some (by kernel_rfl))
 f284:=func284.trans (congrArg some (by kernel_rfl))
 f285:=func285.trans (congrArg some (by kernel_rfl))
 f286:=func286.trans (congrArg some (by kernel_rfl))
 f317:=func309.trans (congrArg some (by kernel_rfl))
 f318:=func310.trans (congrArg some (by kernel_rfl))
 f319:=func311.trans (congrArg some (by kernel_rfl))
 f320:=func312.trans (congrArg some (by kernel_rfl))
 f337:=func320.trans (congrArg some (by kernel_rfl))
 f338:=func321.trans (congrArg some (by kernel_rfl))
 t0:=underlying0
 a0:=Tryz.isAgg0
 z0:=Tryz.sizeOf0
 v0:=Tryz.zeroValue0
 t2:=underlying2
 a2:=Tryz.isAgg2
 z2:=Tryz.sizeOf2
 v2:=Tryz.zeroValue2
 t3:=underlying3
 a3:=Tryz.isAgg3
 z3:=Tryz.sizeOf3
 v3:=Tryz.zeroValue3
 t4:=underlying4
 a4:=Tryz.isAgg4
 z4:=Tryz.sizeOf4
 v4:=Tryz.zeroValue4
 t5:=underlying5
 a5:=Tryz.isAgg5
 z5:=Tryz.sizeOf5
 v5:=Tryz.zeroValue5
 t9:=underlying9
 a9:=Tryz.isAgg9
 z9:=Tryz.sizeOf9
 v9:=Tryz.zeroValue9
 t20:=underlying20
 a20:=Tryz.isAgg20
 z20:=Tryz.sizeOf20
 v20:=Tryz.zeroValue20
 t37:=underlying73
 a37:=Tryz.isAgg73
 z37:=Tryz.sizeOf73
 v37:=Tryz.zeroValue73
 t46:=underlying269
 a46:=Tryz.isAgg269
 z46:=Tryz.sizeOf269
 v46:=Tryz.zeroValue269
 t51:=underlying338
 a51:=Tryz.isAgg338
 z51:=Tryz.sizeOf338
 v51:=Tryz.zeroValue338
 t53:=underlying340
 a53:=Tryz.isAgg340
 z53:=Tryz.sizeOf340
 v53:=Tryz.zeroValue340
 t171:=underlying391
 a171:=Tryz.isAgg391
 z171:=Tryz.sizeOf391
 v171:=Tryz.zeroValue391
 t173:=underlying393
 a173:=Tryz.isAgg393
 z173:=Tryz.sizeOf393
 v173:=Tryz.zeroValue393
 t212:=underlying410
 a212:=Tryz.isAgg410
 z212:=Tryz.sizeOf410
 v212:=Tryz.zeroValue410
 t213:=underlying411
 a213:=Tryz.isAgg411
 z213:=Tryz.sizeOf411
 t232:=underlying419
 a232:=Tryz.isAgg419
 z232:=Tryz.sizeOf419
 v232:=Tryz.zeroValue419
 t233:=underlying420
 a233:=Tryz.isAgg420
 z233:=Tryz.sizeOf420
 v233:=Tryz.zeroValue420
 g17:=by kernel_rfl
 g18:=by kernel_rfl
 g19:=by kernel_rfl
 i0:=by kernel_rfl
 i2:=by kernel_rfl
 i3:=by kernel_rfl
 i4:=by kernel_rfl
 i5:=by kernel_rfl
 i9:=by kernel_rfl
 i20:=by kernel_rfl
 i37:=by kernel_rfl
 i46:=by kernel_rfl
 i51:=by kernel_rfl
 i53:=by kernel_rfl
 i171:=by kernel_rfl
 i173:=by kernel_rfl
 i212:=by kernel_rfl
 i232:=by kernel_rfl
 i233:=by kernel_rfl
 m17:=by kernel_rfl
 m18:=by kernel_rfl
 m19:=by kernel_rfl }
open Go.RowKit Go.Sort Go.Lib in
theorem Tryz.strconv_Itoa (n:Int) (E:-9223372036854775808≤n) (h1:n≤9223372036854775807) (w:World) (G:Lib.TabIs prog w "internal/strconv.uint64pow10" .u64 Lib.pow10Tab) :
  Calls prog 146 #[.int .i64 n] w λe w'=>e=.returned (.string ⟨(Lib.itoa n).toArray⟩)∧∃k os,w'=grow (w.drewN k) os:=Any.strconv_Itoa Tryz.laysM171 n E h1 w G
def Tryz.lays171_ren:Go.Shelf.Ren:=⟨λ| 171=>146 | 243=>205 | 246=>258 | 283=>283 | 284=>284 | 285=>285 | 286=>286 | 129=>230 | 317=>309 | 318=>310 | 319=>311 | 320=>312 | 337=>320 | 338=>321 | n=>n,λ| 3=>3 | 9=>9 | 2=>2 | 4=>4 | 171=>391 | 0=>0 | 53=>340 | 37=>73 | 5=>5 | 173=>393 | 212=>410 | 51=>338 | 20=>20 | 213=>411 | 46=>269 | 232=>419 | 233=>420 | n=>n,λ| 17=>0 | 18=>1 | 19=>2 | n=>n⟩
theorem Tryz.lays171:Go.Proofs.Lays.n171 prog Tryz.lays171_ren:={
 mixed:=by kernel_rfl
 f129:=func230.trans (congrArg some (by kernel_rfl))
 f171:=func146.trans (congrArg some (by kernel_rfl))
 f243:=func205.trans (congrArg some (by kernel_rfl))
 f246:=func258.trans (congrArg some (by kernel_rfl))
 f283:=func283.trans (congrArg some (by kernel_rfl))
 f284:=func284.trans (congrArg some (by kernel_rfl))
 f285:=func285.trans (congrArg some (by kernel_rfl))
 f286:=func286.trans (congrArg some (by kernel_rfl))
 f317:=func309.trans (congrArg some (by kernel_rfl))
 f318:=func310.trans (congrArg some (by kernel_rfl))
 f319:=func311.trans (congrArg some (by kernel_rfl))
 f320:=func312.trans (congrArg some (by kernel_rfl))
 f337:=func320.trans (congrArg some (by kernel_rfl))
 f338:=func321.trans (congrArg some (by kernel_rfl))
 t0:=underlying0
 a0:=Tryz.isAgg0
 z0:=Tryz.sizeOf0
 v0:=Tryz.zeroValue0
 t2:=underlying2
 a2:=Tryz.isAgg2
 z2:=Tryz.sizeOf2
 v2:=Tryz.zeroValue2
 t3:=underlying3
 a3:=Tryz.isAgg3
 z3:=Tryz.sizeOf3
 v3:=Tryz.zeroValue3
 t4:=underlying4
 a4:=Tryz.isAgg4
 z4:=Tryz.sizeOf4
 v4:=Tryz.zeroValue4
 t5:=underlying5
 a5:=Tryz.isAgg5
 z5:=Tryz.sizeOf5
 v5:=Tryz.zeroValue5
 t9:=underlying9
 a9:=Tryz.isAgg9
 z9:=Tryz.sizeOf9
 v9:=Tryz.zeroValue9
 t20:=underlying20
 a20:=Tryz.isAgg20
 z20:=Tryz.sizeOf20
 v20:=Tryz.zeroValue20
 t37:=underlying73
 a37:=Tryz.isAgg73
 z37:=Tryz.sizeOf73
 v37:=Tryz.zeroValue73
 t46:=underlying269
 a46:=Tryz.isAgg269
 z46:=Tryz.sizeOf269
 v46:=Tryz.zeroValue269
 t51:=underlying338
 a51:=Tryz.isAgg338
 z51:=Tryz.sizeOf338
 v51:=Tryz.zeroValue338
 t53:=underlying340
 a53:=Tryz.isAgg340
 z53:=Tryz.sizeOf340
 v53:=Tryz.zeroValue340
 t171:=underlying391
 a171:=Tryz.isAgg391
 z171:=Tryz.sizeOf391
 v171:=Tryz.zeroValue391
 t173:=underlying393
 a173:=Tryz.isAgg393
 z173:=Tryz.sizeOf393
 v173:=Tryz.zeroValue393
 t212:=underlying410
 a212:=Tryz.isAgg410
 z212:=Tryz.sizeOf410
 v212:=Tryz.zeroValue410
 t213:=underlying411
 a213:=Tryz.isAgg411
 z213:=Tryz.sizeOf411
 t232:=underlying419
 a232:=Tryz.isAgg419
 z232:=Tryz.sizeOf419
 v232:=Tryz.zeroValue419
 t233:=underlying420
 a233:=Tryz.isAgg420
 z233:=Tryz.sizeOf420
 v233:=Tryz.zeroValue420
 g17:=by kernel_rfl
 g18:=by kernel_rfl
 g19:=by kernel_rfl }
open Go.RowKit Go.Sort Go.Lib in
theorem Tryz.strconv_Itoa_small (i:Nat) (hi:i<100) (w:World) :
  Calls prog 146 #[.int .i64 i] w λe w'=>e=.returned (.string ⟨(Lib.decDigits i).toArray⟩)∧w'=w:=Any.strconv_Itoa_small Tryz.lays171 i hi w
end Go.Proofs
namespace Go.Lg
open Go.RowKit
section
variable {P:Program} {K:Fr→World→Prop} {f:Fr} {w:World} {d:Option Nat} {ty:Nat} {ps:String} {af:Array Edge} {gd:Option (Nat×Bool)}
theorem Qen {t te E:Nat}(hp:P.underlying t=some (.pointer te)) {x y:Operand}{a:Option Addr}(hx:ev f x=.pointer a) (hy:ev f y=.pointer none) :
  (execOp (ev f) ⟨d,.binOp .eql t x y E,ty,ps,af,gd⟩).run P w=.ok (.value (.bool a.isNone)) w:=by
 have G:(eqGuard .eql t x y (.pointer a) (.pointer none)).run P w=.ok () w:=by simp[eqGuard]
 have key:∀m,(Op.equalIn (m+1) t (.pointer a) (.pointer none)).run P w=.ok a.isNone w:=by
  intro m;unfold Op.equalIn;cases a <;> simp[run_underlying hp]
 have he:(Op.equal t (.pointer a) (.pointer none)).run P w=.ok a.isNone w:=key 9999;simp only[execOp,hx,hy,Sem.run_bind,G,Result.andThen_ok,binOp,he,Sem.run_pure]
theorem QfE {t te E:Nat}{j:TypeInfo}(hp:P.underlying t=some (.pointer te)) (hj:P.info? te=some j) {x y:Operand}{a:Addr}(hx:ev f x=.pointer (some a)) (hy:ev f y=.pointer (some a)) :
  (execOp (ev f) ⟨d,.binOp .neq t x y E,ty,ps,af,gd⟩).run P w=.ok (.value (.bool false)) w:=by
 have G:(eqGuard .neq t x y (.pointer (some a)) (.pointer (some a))).run P w=.ok () w:=by simp[eqGuard]
 simp only[execOp,hx,hy,Sem.run_bind,G,Result.andThen_ok,Lib.run_neq_ptr_same w a hp hj,Sem.run_pure]
theorem qS {t E:Nat}{x:Operand}{v v':Value}(hx:ev f x=v) (h:(convert t E v).run P w=.ok v' w) :
  (execOp (ev f) ⟨d,.convert t E x,ty,ps,af,gd⟩).run P w=.ok (.value v') w:=by
 simp[execOp,hx,h]
theorem Qg9 {g:Nat}{fn:Func}{e:Array Value→Sem Value}{x:Operand}{v:Value}{ts:Array Nat}(E:P.funcs[g]?=some fn) (G:(fn.name == "runtime.NumGoroutine")=false)
  (hb:fn.body.isNone=true) (H:Extern.findNext fn=none) (he:Extern.find fn=some e) (h:(e #[ev f x]).run P w=.ok v w) :
  (execOp (ev f) ⟨d,.call ⟨.value (.func g),#[x],ts⟩,ty,ps,af,gd⟩).run P w=.ok (.value v) w:=by
 have hc:=run_callFunc_extern E G hb H he #[ev f x] w;rw[h] at hc;have J:ev f (.func g)=.func (.func g) #[] #[]:=rfl;simp[execOp,resolve,J,Deferred.ofValue,invoke,hc,Result.andThen]
theorem QlS {t e u:Nat}[h:Sl P t e 1 1 (.int .u8 0)] (hu:P.underlying u=some .string) {s y:Operand}{base:Nat}{v:Value}{n:Nat}{cs:LV}(E:w.ownsRow base e 1 v n cs) (hs:ev f s=v)
  {b:ByteArray} (hy:ev f y=.string b) (hb:n+b.size≤1099511627776) (G:base≤w.heap.size)
  (H:∀v' w',w'.ownsRow base e 1 v' (n+b.size) (cs++Lib.strCells b)→Step (ob v) w w'→K (Q4 f d v') w') :
  XO P ⟨d,.call ⟨.builtin .append,#[s,y],#[t,u]⟩,ty,ps,af,gd⟩ f w K:=by
 obtain ⟨i,hi,J,S,U⟩:=Sl.info h;obtain ⟨v',w',V,h2,h3,_⟩:=Lib.run_append_own_string (P:=P) w base t u ty e i h.u hu hi J S U v n cs E b (by simp only[maxLen];omega) (by omega) G;have Y:(execOp (ev f) ⟨d,.call ⟨.builtin .append,#[s,y],#[t,u]⟩,ty,ps,af,gd⟩).run P w=.ok (.value v') w':=by
  simp[execOp,resolve,invoke,builtin,hs,hy,V]
 exact xv Y (H v' w' h2 (by rw[Qdg];exact Step.of_grown h3))
theorem Qg6 {x:Operand}{u:Nat}(hu:P.underlying u=some .string) {b:ByteArray}(hx:ev f x=.string b) :
  (execOp (ev f) ⟨d,.call ⟨.builtin .len,#[x],#[u]⟩,ty,ps,af,gd⟩).run P w=.ok (.value (.int .i64 b.size)) w:=by
 simp[execOp,resolve,invoke,builtin,Builtin.len_,hx,run_underlying hu,goInt]
end
end Go.Lg
namespace Go.Proofs.YtdffckgdcegpaaaGreatDoor
open Go.Proofs.Tryz
open Go.Lg
def Bl (p:Value) (b:Nat) (E:List UInt8) (w:World):Prop:=∃v,QX w.heap b 251 [p,v]∧w.ownsRow (b+1) 5 1 v E.length (Lib.byteCells E)
def me (b:Nat):Value:=.pointer (some ⟨b,0,none⟩)
theorem Qkl {P:Program}{t n:Nat}(h:(P.info? t).map (·.size)=some n):∃j,P.info? t=some j∧j.size=n:=by
 simpa using h
theorem j8 {w:World}{b T:Nat}{cs:LV}(h:QX w.heap b T cs):w.shape? b=some (T,cs.length):=by
 unfold QX at h;simp[World.shape?,h]
theorem Up {G w:World}{b:Nat}{J:List UInt8}{p:Value}(S:Step [] G w) (hb:G.heap.size≤b) (hp:p=.pointer none∨p=me b) (h:Bl p b J w) :
  QM prog 204 [me b] w λr w'=>r=.tuple #[]∧Step [] G w'∧Bl (me b) b J w':=by
 obtain ⟨v,E,H⟩:=h;obtain ⟨j,hj,V⟩:=Qkl (P:=prog) (t:=251) (n:=2) (by kernel_rfl);refine QM.of_W func204 O ntmps204 results204 (by simp) ?_;refine Qd ?_;rcases hp with rfl | rfl
 ·refine Qb<|x (Qr O)<|x (Qa O)<|x (Qc E O O)<|x (Qen underlying249 O O)<|xe<|JU O ?_;refine Qx<|Qb<|Qb<|x (qS (v':=me b) O (Lib.run_to_unsafe w ⟨b,0,none⟩ underlying249 underlying363 hj (by rw[V];decide) (j8 E) (by simp))) <|
   x (Qg9 (v:=me b) func257 (by kernel_rfl) (by kernel_rfl) (by kernel_rfl) (e:=Extern.AbiNoEscape.same) (by kernel_rfl) O) <|
   x (qS (v':=me b) O (Lib.run_from_unsafe w ⟨b,0,none⟩ underlying363 underlying249 hj (j8 E) (by kernel_rfl)))<|x (Qr O) <|
   x (Qa rfl)<|xl O<|QH E O O (by simp) rfl λZ U Y=>xe ?_
  exact ⟨[],La,O,S.then1 U hb,v,Y,Qi H U (λc hc=>by have:=(Qm H c hc).1;simp;omega)⟩
 refine Qb<|x (Qr O)<|x (Qa O)<|x (Qc E O O)<|x (Qen underlying249 O O)<|xe<|ZW O ?_;refine Qd<|Qb<|x (Qr O)<|x (Qa O)<|x (Qc E O O)<|Qb<|x (QfE underlying249 hj O O)<|xe<|ZW O ?_;refine Qj ?_;exact ⟨[],La,O,S,v,E,H⟩
theorem Qaf {H w:World}{b:Nat}{E:List UInt8}{p:Value}(h0:Step [] H w) (hb:H.heap.size≤b) (hp:p=.pointer none∨p=me b) (h:Bl p b E w) (c:UInt8) (hl:E.length+1≤1000000000) :
  QM prog 203 [me b,.int .u8 c.toNat] w λ_ w'=>Step [] H w'∧Bl (me b) b (E++[c]) w':=by
 refine QM.of_W func203 O ntmps203 results203 (by simp) ?_;refine Qd<|Qf<|Qd<|Qb<|xl O<|xf<|(Up h0 hb hp h).mono ?_;rintro r1 w1 ⟨rfl,ha,v,J,S⟩;refine xe ?_;have hk:=J.lt;refine Qd<|Qb<|Qb<|x (Qr O)<|x (Qa O)<|x (Qc J O O)<|Qb<|xl O<|QL (us:=[[.int .u8 c.toNat]]) O O (by decide) (by simp) ⟨rfl,rfl,La⟩ λhm w2 G hn he=>?_;have hq:=G.size;have hf:=Qt S G
 refine xl rfl<|QZ (news:=[.int .u8 c.toNat]) (L:=[]) hf O O O (he.at (by simp)) (by simp[Value.oneCell']) (by omega) (by omega) λV w3 hg Y hr=>?_;have hh:=(J.ext G).step Y (λhc=>by have:=(Qm S b hc).1;omega);have U:w3.ownsRow (b+1) 5 1 V (E++[c]).length (Lib.byteCells (E++[c])):=by simpa[Lib.byteCells] using hg
 refine x (Qr O)<|x (Qa O)<|xl O<|QH hh O O (by simp) (QW (L:=[]) U (by simp;omega) (by simp)).one λw4 Z hj=>xe ?_;refine Qd<|Qf<|Qs ⟨[.nilIface],Lb,(((ha.trans G).then Y (λc hc=>.inr ?_)).then1 Z hb),V,hj,Qi U Z (λc hc=>by have:=(Qm U c hc).1;simp;omega)⟩;have:=(Qm S c hc).1;omega
theorem KM {G w:World}{b:Nat}{E:List UInt8}{p:Value}(h0:Step [] G w) (hb:G.heap.size≤b) (hp:p=.pointer none∨p=me b) (h:Bl p b E w) (s:ByteArray) (hl:E.length+s.size≤1000000000) :
  QM prog 145 [me b,.string s] w λ_ w'=>Step [] G w'∧Bl (me b) b (E++s.data.toList) w':=by
 refine QM.of_W func145 O ntmps145 results145 (by simp) ?_;refine Qd<|x Qe<|Qf<|Qd<|Qb<|xl O<|xf<|(Up h0 hb hp h).mono ?_;rintro r1 w1 ⟨rfl,ha,v,H,J⟩;refine xe ?_;have hh:=H.lt;refine Qd<|Qb<|Qb<|x (Qr O)<|x (Qa O)<|x (Qc H O O)<|Qb<|xl O<|QlS underlying9 J O O (by omega) (by omega) λU w3 he V=>?_;have hf:=H.step V (λhc=>by have:=(Qm J b hc).1;omega)
 have Y:s.size=s.data.toList.length:=rfl;have S:w3.ownsRow (b+1) 5 1 U (E++s.data.toList).length (Lib.byteCells (E++s.data.toList)):=by
  rw[Lk,←Y,show Lib.byteCells (E++s.data.toList)=Lib.byteCells E++Lib.strCells s by simp[Lib.byteCells,Lib.strCells_eq]];exact he
 refine x (Qr O)<|x (Qa O)<|xl O<|QH hf O O (by simp) (QW (L:=[]) S (by rw[Lk,←Y];omega) (by simp)).one λw4 Z hg=>xe ?_;refine Qd<|Qb<|x (Qg6 underlying9 O)<|x Qe<|Qf<|Qs ⟨[.int .i64 s.size,.nilIface],⟨O,O,La⟩,((ha.then V (λc hc=>.inr ?_)).then1 Z hb),U,hg,Qi S Z (λc hc=>by have:=(Qm S c hc).1;simp;omega)⟩;have:=(Qm J c hc).1;omega
theorem jn {J w:World}{b:Nat}{H:List UInt8}{p:Value}(E:Step [] J w) (hb:J.heap.size≤b) (hp:p=.pointer none∨p=me b) (h:Bl p b H w) :
  QM prog 147 [me b] w λr w'=>r=.string ⟨H.toArray⟩∧Step [] J w':=by
 obtain ⟨v,S,U⟩:=h;have Z:=S.lt;have V:Lib.BuilderAt 251 5 b b p (Lib.byteCells H) w:=⟨Lv _,v,S,by rw[Lib.byteCells_length];exact QT U (by omega),λe=>by
  have:b∈ob v:=by rw[Qdg,e];simp
  have:=(Qm U b this).1;omega⟩
 unfold QM;refine Calls.mono (Tryz.Builder_String_any b b H w (by rcases hp with rfl | rfl;exact .inl V;exact .inr V) (by omega)) ?_
 rintro e w' ⟨rfl,G⟩;exact ⟨O,⟨G.os.trans E.os,G.tape.trans E.tape,G.output.trans E.output,L5 E.size G.size,λk hk Y=>(G.block k (by omega)).trans (E.block k hk Y)⟩⟩
def Tb (w:World):Prop:=Lib.TabIs prog w "internal/strconv.uint64pow10" .u64 Lib.pow10Tab
theorem Qgu {P:Program}{w w':World}{name:String}{v:Array Value}(h:w.var? P name=some v) (hs:Step [] w w'):w'.var? P name=some v:=by
 unfold World.var? at *;rw[L4] at *;obtain ⟨g,h1,h2⟩:=h;refine ⟨g,h1,?_⟩;cases E:w.heap[g]? with
 | none=>rw[E] at h2;cases h2
 | some o =>
  have G:g<w.heap.size:=(LG.1 E).1;rw[hs.block g G (by simp)];exact h2
theorem Tb.ext {w w':World}(h:Tb w) (hs:Step [] w w'):Tb w':=Qgu h hs
def Kb (w:World) (m:Int):Prop:=m≤100∨(m≤1000000∧Tb w)
theorem Kb.ext {w w':World}{m:Int}(h:Kb w m) (hs:Step [] w w'):Kb w' m:=h.imp id λh=>⟨h.1,h.2.ext hs⟩
theorem Kb.le {w:World} {m:Int} (h:Kb w m):m≤1000000:=by rcases h with h | h <;> omega
theorem Qc1 {w:World}{k:Nat}{os:Array Obj}:Step [] w (Sort.grow (w.drewN k) os):=by
 refine ⟨O,O,O,?_,λi hi _=>?_⟩
 ·show w.heap.size≤(w.heap++os).size;simp
 show (w.heap++os)[i]?=w.heap[i]?;rw[Array.getElem?_append_left hi]
theorem QeM {m:Int}(i:Nat) (hi:(i:Int)<m) (w:World) (hk:Kb w m):QM prog 146 [.int .i64 i] w λr w'=>r=.string ⟨(Lib.decDigits i).toArray⟩∧Step [] w w':=by
 unfold QM;rcases hk with hk | hk
 ·refine Calls.mono (Tryz.strconv_Itoa_small i (by omega) w) ?_;rintro e w' ⟨rfl,rfl⟩;exact ⟨O,Step.refl _ _⟩
 refine Calls.mono (Tryz.strconv_Itoa i (by omega) (by omega) w hk.2) ?_;rintro e w' ⟨rfl,k,os,rfl⟩;refine ⟨?_,Qc1⟩;unfold Lib.itoa;rw[if_neg (by omega),LY]
def Jw (l:LI):List UInt8:=l.flatMap λn=>Lib.decDigits n.toNat++[32]
theorem UZ:∀(k u:Nat),u<10 ^ k→(Lib.decDigits u).length≤max 1 k
 | 0,u,h=>by
  unfold Lib.decDigits;rw[dif_pos (by simp at h;omega)];simp
 | k+1,u,h=>by
  unfold Lib.decDigits;split
  ·simp
  rename_i hu;have ih:=UZ k (u / 10) (by rw[Nat.pow_succ] at h;omega);rw[Lk];simp only[List.length_singleton];have h1:k≠0:=λe=>by subst e;simp at h;omega
  omega
theorem Bl.ext {w w':World}{p:Value}{b:Nat}{E:List UInt8}(h:Bl p b E w) (hs:Step [] w w'):Bl p b E w':=by
 obtain ⟨v,h1,h2⟩:=h;exact ⟨v,h1.ext hs,Qt h2 hs⟩
theorem QaC {L:LN}{w:World}{v:Value}{l:LI}{m:Int}(h:QO L w.heap v l) (S:Kb w m) (hb:∀n∈l,0≤n∧n<m) (hl:l.length≤1000000) :
  QM prog 142 [v] w λr w'=>r=.string ⟨(Jw l).toArray⟩∧Step [] w w':=by
 refine QM.of_W func142 O ntmps142 results142 (by simp) ?_;refine Qd<|Qf<|Qd<|xl O<|Qu (us:=[.pointer none,nS]) O λb3 w1 Y H Z=>xe ?_;refine Qg<|Qd<|Qb<|x (Qw h O)<|Qb<|xe ?_
 refine Qh<|QC (α:=Nat×Value) [(5,5),(8,16)] (λz=>[(8,.int .i64 z.1)]) (λz w'=>z.1≤l.length∧Step [] w w'∧(z.2=.pointer none∨z.2=me b3)∧Bl z.2 b3 (Jw (l.take z.1)) w'∧(Jw (l.take z.1)).length≤8*z.1) (λz=>l.length - z.1) (by rfl) (0,.pointer none) Lb
  ⟨Lm _,Y,.inl O,⟨_,Z,QR _ _ _ _⟩,Lv _⟩ ?_
 rintro ⟨k,p⟩ g w2 ⟨hk,E,hp,G,ha⟩;simp only[] at hk hp G ha;refine Qd<|x (QD O O)<|xe<|Qg<|QI O (λh9=>?_) (λh9=>?_)
 ·refine Qy<|Qd ?_;rw[Lq (by omega)] at G;refine xl O<|xf<|(jn E H hp G).mono ?_;rintro r3 w3 ⟨rfl,hc⟩;refine Qf ?_;exact Qs ⟨[.string ⟨(Jw l).toArray⟩],Lb,O,hc⟩
 have J:k<l.length:=by omega
 have hn:=hb l[k] (Lj J);obtain ⟨q,hq⟩:∃q:Nat,l[k]=q:=⟨l[k].toNat,by omega⟩;have he:l[k].toNat=q:=by omega
 have ho:=UZ 7 q (by have:=S.le;omega);have U:Jw (l.take (k+1))=Jw (l.take k)++Lib.decDigits q++[32]:=by
  rw[Ll J];unfold Jw;rw[LL,List.flatMap_singleton,he,LB]
 refine Qj<|Qg<|Qh<|Qd<|xii (h.ext E) O O J λhr hf=>x (Qv hf O)<|Qf<|Qd<|Qb<|xl O<|xf ?_;refine (show QM _ _ [.int .i64 l[k]] _ _ by rw[hq];exact (QeM q (by omega) w2 (S.ext E))).mono ?_;rintro r4 w4 ⟨rfl,V⟩;refine xl rfl<|xf<|(KM (E.trans V) H hp (G.ext V) ⟨(Lib.decDigits q).toArray⟩ (by show _+(Lib.decDigits q).toArray.size≤_;simp;omega)).mono ?_;rintro r5 w5 ⟨hg,hh⟩
 refine xe<|Qx<|xl O<|xf<|(Qaf hg H (.inr O) hh 32 (by simp;omega)).mono ?_;rintro r6 w6 ⟨hj,hm⟩;refine xe<|Qx<|QN O O<|Qb<|xe<|⟨(k+1,me b3),by simp only[];omega,Lb,by simp only[];omega,hj,.inr O,?_,?_⟩
 ·simp only[];rw[U];simpa using hm
 simp only[];rw[U];simp;omega
end Go.Proofs.YtdffckgdcegpaaaGreatDoor
namespace Go.Lg
section
variable {P:Program} {ops:List Oper} {K:Fr→World→Prop} {f:Fr} {w:World} {d:Option Nat} {ty:Nat} {ps:String} {af:Array Edge} {gd:Option (Nat×Bool)} {l:List Oper} {C:World→Prop} {pl:List (Nat×Bool)} {i0:Nat}
theorem xig {α:Type}{g:α→LV}{x y:Operand}{t e sz bys:Nat}{z:Value}[Sl P t e sz bys z] (E:∀x,(g x).length=sz) {L:LN}{es:List α}{v:Value}{k:IntKind}{i:Nat}
  (h:Zz L w.heap v es.length sz (es.flatMap g)) (G:ev f x=v) (hy:ev f y=.int k i) (hi:i<es.length)
  (H:∀a,At L w.heap a (g es[i])→XL P ops K l (Q4 f d (.pointer (some a))) w) (J:YD ops f ⟨d,.indexAddr t x y,ty,ps,af,gd⟩=true:=by rfl) :
  XL P ops K (⟨d,.indexAddr t x y,ty,ps,af,gd⟩::l) f w:=by
 obtain ⟨a,cap,h1,h2⟩:=Zz.at h hi;rw[Kr g sz E es i hi] at h2;refine xl J (xv (X6 (G.trans h1) hy (by omega) (by omega)) (H _ ?_));simpa using h2
theorem pig {α:Type}{g:α→LV}{x y:Operand}{t e sz bys:Nat}{z:Value}[Sl P t e sz bys z] (E:Q6 ops i0=⟨d,.indexAddr t x y,ty,ps,af,gd⟩) (G:∀x,(g x).length=sz) {L:LN}{es:List α}{v:Value}{H:Array Obj}{k:IntKind}{i:Nat}
  (h:Zz L H v es.length sz (es.flatMap g)) (J:ev f x=v) (hy:ev f y=.int k i) (hi:i<es.length)
  (S:∀a,At L H a (g es[i])→XP P ops C K pl (Q4 f d (.pointer (some a))) w) (U:YD ops f (Q6 ops i0)=true:=by rfl) :
  XP P ops C K ((i0,true)::pl) f w:=by
 obtain ⟨a,cap,h1,h2⟩:=Zz.at h hi;rw[Kr g sz G es i hi] at h2;refine Lg.p (λw'=>by rw[E];exact X6 (J.trans h1) hy (by omega) (by omega)) ?_ U;rw[E];refine S _ ?_;simpa using h2
end
theorem Zz.grow {X X' Y:LN}{w w':World}{v:Value}{n sz:Nat}{cs:LV}(h:Zz X w.heap v n sz cs) (hs:Step Y w w') (E:∀b∈Y,b∈X) (G:∀b∈X',b∈X∨w.heap.size≤b):Zz X' w'.heap v n sz cs:=by
 have h1:Zz (X++X') w.heap v n sz cs:=h.up (λb hb=>by
  rcases Lp.1 hb with h1 | h1
  ·exact .inl h1
  exact G b h1)
 have h2:=h1.step hs (λb hb=>Lp.2 (.inl (E b hb)));exact h2.up (λb hb=>.inl (Lp.2 (.inr hb)))
structure AV where
 va:Value
 vm:Value
 ve:Value
 a:QE
abbrev Zg (p:AV):LV:=[p.va,.int .i64 p.a.st,p.vm,p.ve]
structure JA (L:LN) (H:Array Obj) (v:Value) (ps:List AV):Prop where
 arr:Zz L H v ps.length 4 (ps.flatMap Zg)
 each:∀p∈ps,Zi L H p.va p.vm p.ve p.a
theorem JA.ext {L:LN}{w w':World}{v:Value}{ps:List AV}(h:JA L w.heap v ps) (hs:Step [] w w'):JA L w'.heap v ps:=⟨h.arr.ext hs,λp hp=>(h.each p hp).ext hs⟩
theorem JA.st {L:LN}{w w':World}{v:Value}{ps:List AV}(h:JA L w.heap v ps) (hs:Step L w w'):JA L w'.heap v ps:=⟨h.arr.st hs,λp hp=>(h.each p hp).st hs⟩
theorem JA.up {L L':LN}{H:Array Obj}{v:Value}{ps:List AV}(h:JA L H v ps) (E:∀b∈L',b∈L∨H.size≤b):JA L' H v ps:=⟨h.arr.up E,λp hp=>(h.each p hp).up E⟩
abbrev TV:=Value×LI
abbrev Yo (p:TV):LV:=[p.1]
structure XB (L:LN) (H:Array Obj) (v:Value) (ps:List TV):Prop where
 arr:Zz L H v ps.length 1 (ps.flatMap Yo)
 each:∀p∈ps,QO L H p.1 p.2
theorem XB.ext {L:LN}{w w':World}{v:Value}{ps:List TV}(h:XB L w.heap v ps) (hs:Step [] w w'):XB L w'.heap v ps:=⟨h.arr.ext hs,λp hp=>(h.each p hp).ext hs⟩
theorem XB.st {L:LN}{w w':World}{v:Value}{ps:List TV}(h:XB L w.heap v ps) (hs:Step L w w'):XB L w'.heap v ps:=⟨h.arr.st hs,λp hp=>(h.each p hp).st hs⟩
theorem XB.up {L L':LN}{H:Array Obj}{v:Value}{ps:List TV}(h:XB L H v ps) (E:∀b∈L',b∈L∨H.size≤b):XB L' H v ps:=⟨h.arr.up E,λp hp=>(h.each p hp).up E⟩
def QaZ (N:Nat) (H:Array Obj) (v:Value) (l:List (LI)):Prop:=∃ps:List TV,ps.map (·.2)=l∧∀L:LN,(∀b∈L,b<N)→XB L H v ps
theorem QaZ.mono {N M:Nat}{H:Array Obj}{v:Value}{l:List (LI)}(h:QaZ N H v l) (E:M≤N):QaZ M H v l:=let ⟨ps,h1,h2⟩:=h;⟨ps,h1,λL G=>h2 L (λb hb=>MC (G b hb) E)⟩
abbrev QdO (e base:Nat) (w:World) (v:Value) (ps:List TV):Prop:=w.ownsRow base e 1 v ps.length (ps.flatMap Yo)
theorem QdO.snoc {e base:Nat}{w:World}{v:Value}{ps:List TV}{p:TV}(h:w.ownsRow base e 1 v (ps.length+1) (ps.flatMap Yo++[p.1])):QdO e base w v (ps++[p]):=by
 unfold QdO;rw[Lk,LL];simpa using h
theorem UM {w:World}{base e sz n:Nat}{v:Value}{cs:LV}(h:w.ownsRow base e sz v n cs) (E:0<n):∃g cap,v=.slice (some ⟨g,0,none⟩) n cap:=by
 rcases h.2 with ⟨_,G⟩ | ⟨g,cap,cur,h1,_⟩
 ·omega
 exact ⟨g,cap,h1⟩
section
variable {P:Program} {ops:List Oper} {K:Fr→World→Prop} {f:Fr} {w:World} {d:Option Nat} {ty:Nat} {ps:String} {af:Array Edge} {gd:Option (Nat×Bool)} {l:List Oper}
theorem QbG {t:Nat}[h1:Jk P t] {x y:Operand}{base e n g cap i:Nat}{cs:LV}{u:Value}(h:w.ownsRow base e 1 (.slice (some ⟨g,0,none⟩) n cap) n cs) (hx:ev f x=.pointer (some ⟨g,0+i*1,none⟩)) (hy:ev f y=u) (hi:i<n) (hu:u.oneCell'=true)
  (G:∀w',Step [g] w w'→w'.ownsRow base e 1 (.slice (some ⟨g,0,none⟩) n cap) n (cs.set i u)→K (Q4 f d undef) w'):XO P ⟨d,.store t x y,ty,ps,af,gd⟩ f w K:=by
 obtain ⟨hl,h⟩:=h;rcases h with ⟨H,_⟩ | ⟨g',cap',cur,e1,hb,J,S,hm,E,U⟩
 ·cases H
 cases e1
 have V:QX w.heap g e cur.toList:=by unfold QX;simpa using J
 refine QH (j:=i) V (by rw[hx];simp) hy (by simp[E];omega) hu λw' hs Y=>G w' hs ⟨by simpa using hl,.inr ⟨g,cap,(cur.toList.set i u).toArray,rfl,hb,Y,S,hm,by simpa using E,?_⟩⟩;rw[←U];simp[List.take_set]
end
section
variable {P:Program} {f:Fr} {w:World} {d:Option Nat} {ty:Nat} {ps:String} {af:Array Edge} {gd:Option (Nat×Bool)} {κ:Type} [DecidableEq κ]
theorem Xu {t kt et:Nat}{z:Value}[hm:Mp P t kt et z] {enc:κ→Value}[hk:Key P kt enc] {x y:Operand}{b:Nat}{m:List (κ×Value)}{k:κ}{u:Value}(h:ZE enc w.heap b m) (hx:ev f x=.map (some b)) (hy:ev f y=enc k) (E:mget m k=some u) :
  (execOp (ev f) ⟨d,.lookup t x y true,ty,ps,af,gd⟩).run P w=.ok (.value (.tuple #[u,.bool true])) w:=by
 have:=KR (P:=P) (t:=t) (d:=d) (ty:=ty) (ps:=ps) (af:=af) (gd:=gd) h hx hy;rw[E] at this;exact this
theorem Jg {t kt et:Nat}{z:Value}[hm:Mp P t kt et z] {enc:κ→Value}[hk:Key P kt enc] {x y:Operand}{b:Nat}{m:List (κ×Value)}{k:κ}(h:ZE enc w.heap b m) (hx:ev f x=.map (some b)) (hy:ev f y=enc k) (E:mget m k=none) :
  (execOp (ev f) ⟨d,.lookup t x y true,ty,ps,af,gd⟩).run P w=.ok (.value (.tuple #[z,.bool false])) w:=by
 have:=KR (P:=P) (t:=t) (d:=d) (ty:=ty) (ps:=ps) (af:=af) (gd:=gd) h hx hy;rw[E] at this;exact this
end
end Go.Lg
namespace Go.Proofs.YtdffckgdcegpaaaGreatDoor
open Go.Lg
def ckL:List QE→Int
 | []=>0
 | a::l=>if XW a≠0 then XW a else ckL l
def VF (l:List QE):Int:=if 12<l.length then 3 else ckL l
theorem Ur:∀(l:List QE),ckL l=0↔∀a∈l,QK a
 | []=>by simp[ckL]
 | a::l=>by
  rw[ckL];by_cases h:XW a=0
  ·rw[if_neg (by simpa using h),Ur l];simp[(Zp a).1 h]
  rw[if_pos h];simp only[List.forall_mem_cons];exact ⟨λe=>absurd e h,λe=>absurd ((Zp a).2 e.1) h⟩
def evs (l:List QE):LI:=l.foldl (λacc a=>mrg (· || ·) acc a.al) []
def YW (m:List ((Int×Int)×Value)) (es:List Ed):List ((Int×Int)×Value):=es.foldl (λm e=>mput m (e.1,e.2.1) (.int .i64 e.2.2)) m
def eget:List Ed→Int→Int→Option Int
 | [],_,_=>none
 | e::l,s,v=>if e.1=s∧e.2.1=v then some e.2.2 else eget l s v
theorem Vn {l:List Ed}{s v:Int}(h:∀e∈l,¬(e.1=s∧e.2.1=v)):eget l s v=none:=by
 induction l with
 | nil=>rfl
 | cons e l ih =>
  rw[eget,if_neg (h e Lh)];exact ih λe he=>h e (Le _ he)
theorem Xz:∀(es:List Ed) (m:List ((Int×Int)×Value)) (s v:Int),(es.Pairwise λx y=>x.1<y.1∨(x.1=y.1∧x.2.1<y.2.1)) →
  mget (YW m es) (s,v)=match eget es s v with | some t=>some (.int .i64 t) | none=>mget m (s,v)
 | [],m,s,v,_=>rfl
 | e::es,m,s,v,h=>by
  simp only[List.pairwise_cons] at h;have ih:=Xz es (mput m (e.1,e.2.1) (.int .i64 e.2.2)) s v h.2;unfold YW at *;rw[Ls,ih,eget];by_cases hk:e.1=s∧e.2.1=v
  ·rw[if_pos hk,Vn (λx hx E=>by have:=h.1 x hx;omega)];simp only[Xx];rw[if_pos (by rw[hk.1,hk.2])]
  rw[if_neg hk];cases eget es s v with
  | some t=>rfl
  | none =>
   simp only[Xx];rw[if_neg (λhe=>hk (by simpa using he))]
def Q7 (ev:Int):List QE→LI→Option (LI)
 | a::bs,t::ts=>if ev∉a.al then (Q7 ev bs ts).map (t::·) else match eget a.ed t ev with | none=>none | some u=>(Q7 ev bs ts).map (u::·)
 | _,_=>some []
def Yd:List QE→LI→Bool
 | a::bs,t::ts=>decide (t∈a.mr) && Yd bs ts
 | _,_=>true
structure Sy where
 tup:List (LI)
 mk':LI
 ed:List Ed
def yU (aa:List QE) (i:Nat) (t:LI) (s:Sy) (v:Int):Option Sy :=
 match Q7 v aa t with
 | none=>some s
 | some u=>if u∈s.tup then some ⟨s.tup,s.mk',s.ed++[((i:Int),v,(s.tup.idxOf u:Int))]⟩
  else if s.tup.length=4096 then none else some ⟨s.tup++[u],s.mk',s.ed++[((i:Int),v,(s.tup.length:Int))]⟩
def Kj (aa:List QE) (i:Nat) (t:LI):LI→Sy→Option Sy
 | [],s=>some s
 | v::vs,s=>(yU aa i t s v).bind (Kj aa i t vs)
def Zw (aa:List QE) (i:Nat) (t:LI) (s:Sy):Sy:=if Yd aa t=true then ⟨s.tup,s.mk'++[(i:Int)],s.ed⟩ else s
def VU (s:Sy) (i:Nat):LI:=s.tup.getD i []
def yT (aa:List QE):Nat→Nat→Sy→Option Sy
 | 0,_,s=>some s
 | f+1,i,s=>if i<s.tup.length then (Kj aa i (VU s i) (evs aa) (Zw aa i (VU s i) s)).bind (yT aa f (i+1)) else some s
def UG (aa:List QE):Sy:=⟨[List.replicate aa.length 0],[],[]⟩
def sync (aa:List QE):Option (QE×List (LI)) :=
 if ∃a∈aa,a.st=0 then some (⟨evs aa,0,[],[]⟩,[]) else (yT aa 4096 0 (UG aa)).map λs=>(⟨evs aa,s.tup.length,s.mk',s.ed⟩,s.tup)
theorem zi {aa:List QE}{f i:Nat}{s:Sy}(h:¬i<s.tup.length):yT aa f i s=some s:=by
 cases f with
 | zero=>rfl
 | succ f=>rw[yT,if_neg h]
def Vt (aa:List QE) (t:LI):Prop:=t.length=aa.length∧∀i (h:i<t.length) (h':i<aa.length),0≤t[i]∧t[i]<aa[i].st
theorem Vt.cons {a:QE}{aa:List QE}{u:Int}{t:LI}(E:0≤u) (h1:u<a.st) (h:Vt aa t):Vt (a::aa) (u::t):=by
 refine ⟨by simp[h.1],λi h2 h3=>?_⟩;cases i with
 | zero=>exact ⟨E,h1⟩
 | succ i=>exact h.2 i (by simpa using h2) (by simpa using h3)
theorem ZR {l:List Ed}{s v u:Int}(h:eget l s v=some u):(s,v,u)∈l:=by
 induction l with
 | nil=>cases h
 | cons e l ih =>
  rw[eget] at h;split at h
  ·rename_i he;obtain ⟨e1,e2⟩:=he;cases h
   obtain ⟨a,b,c⟩:=e;simp only[] at e1 e2;subst e1 e2;exact Lh
  exact Le _ (ih h)
theorem XI {v:Int}:∀{aa:List QE}{t u:LI},(∀a∈aa,QK a)→Vt aa t→Q7 v aa t=some u→Vt aa u
 | [],t,u,_,h,hs=>by
  cases t with
  | nil=>simp[Q7] at hs;subst hs;exact h
  | cons x t=>have:=h.1;simp at this
 | a::aa,[],u,_,h,hs=>by have:=h.1;simp at this
 | a::aa,x::t,u,E,h,hs=>by
  have hx:=h.2 0 (by simp) (by simp);have ht:Vt aa t:=⟨by have:=h.1;simpa using this,λi h2 h3=>h.2 (i+1) (by simpa using h2) (by simpa using h3)⟩;have G:∀a∈aa,QK a:=λa ha=>E a (Le _ ha);rw[Q7] at hs;split at hs
  ·obtain ⟨H,h1,rfl⟩:=LZ.1 hs;exact Vt.cons hx.1 hx.2 (XI G ht h1)
  split at hs
  ·cases hs
  rename_i q hq;obtain ⟨H,h1,rfl⟩:=LZ.1 hs;have:=(E a Lh).ed _ (ZR hq);exact Vt.cons this.2.2.2.1 this.2.2.2.2 (XI G ht h1)
structure U4 (aa:List QE) (s:Sy):Prop where
 v:∀t∈s.tup,Vt aa t
 le:s.tup.length≤4096
theorem jk {aa:List QE}{i:Nat}{t:LI}{s:Sy}(h:U4 aa s):U4 aa (Zw aa i t s):=by
 unfold Zw;split
 ·exact ⟨h.v,h.le⟩
 exact h
theorem QgN {aa:List QE}{i:Nat}{t:LI}{s E:Sy}{v:Int}(G:∀a∈aa,QK a) (h:U4 aa s) (ht:Vt aa t) (hs:yU aa i t s v=some E):U4 aa E:=by
 unfold yU at hs;split at hs
 ·cases hs;exact h
 rename_i u hu;have H:=XI G ht hu;split at hs
 ·cases hs;exact ⟨h.v,h.le⟩
 split at hs
 ·cases hs
 cases hs
 have:=h.le;refine ⟨λt ht=>?_,by simp;omega⟩;simp only[List.mem_append,List.mem_singleton] at ht;rcases ht with ht | rfl
 ·exact h.v t ht
 exact H
open Go.Proofs.Tryz
theorem K5 (p:AV):(Zg p).length=4:=rfl
theorem Qah (p:TV):(Yo p).length=1:=rfl
theorem JA.le {L:LN}{H:Array Obj}{v:Value}{ps:List AV}(h:JA L H v ps):ps.length≤1099511627776:=h.arr.le
theorem QiE {l:List QE}{k:Nat}(h:k<l.length):ckL (l.drop k)=if XW l[k]≠0 then XW l[k] else ckL (l.drop (k+1)):=by
 rw[LQ h,ckL]
theorem QfI {L:LN}{w:World}{v:Value}{ps:List AV}(h:JA L w.heap v ps) :
  QM prog 139 [v] w λr w'=>r=.int .i64 (VF (ps.map (·.a)))∧Step [] w w':=by
 have hj:=JA.le h;refine QM.of_W func139 O ntmps139 results139 (by simp) ?_;refine Qd<|Qf<|Qg<|Qd<|Qb<|x (Qw h.arr O)<|x (ZL O O)<|xe<|Zc rfl (λZ=>?_) (λZ=>?_)
 ·refine Qd<|Qf<|Qs ⟨[.int .i64 3],Lb,?_,Step.refl _ _⟩;unfold VF;rw[if_pos (by simp;omega)];rfl
 refine Qj ?_;have hP:VF (ps.map (·.a))=ckL (ps.map (·.a)):=by unfold VF;rw[if_neg (by simp;omega)]
 rw[hP];refine Qg<|Qd<|Qb<|x (Qw h.arr O)<|Qb<|xe<|Qh<|QC (α:=Nat) [(2,2),(4,5),(11,20)] (λz=>[(11,.int .i64 z)]) (λz w'=>z≤ps.length∧Step [] w w'∧ckL (ps.map (·.a))=ckL ((ps.map (·.a)).drop z)) (λz=>ps.length - z) (by rfl) 0 Lb
  ⟨Lm _,Step.refl _ _,O⟩ ?_
 rintro k g w1 ⟨hk,E,G⟩;refine Qd<|x (QD O O)<|xe<|Qg<|QI O (λha=>?_) (λha=>?_)
 ·refine Qy<|Qd<|Qf<|Qs ⟨[.int .i64 0],Lb,?_,E⟩;rw[G,Lr (by simp;omega)];rfl
 have H:k<ps.length:=by omega
 have hb:k<(ps.map (·.a)).length:=by simpa using H
 rw[QiE hb,Mv] at G;refine Qj<|Qg<|Qh<|Qd<|xig K5 (h.ext E).arr O O H λhl hc=>x (QQ hc O O)<|xl O<|Qu (us:=[nS,.int .i64 0,nS,nS]) O λb4 w2 he hf S=>?_;have J:=h.each ps[k] (Lj H);refine xl rfl<|Qq (us:=Zg ps[k]) S O O O O ⟨J.al.one,O,J.mr.one,J.ed.one,La⟩ λw3 hg S=>xe ?_;have V:Step [] w1 w3:=he.then1 hg hf
 refine Qd<|x (Qo S O O)<|xl O<|xf<|(Xk ((J.ext E).ext V)).mono ?_;rintro r4 w4 ⟨rfl,hh⟩;refine Qf ?_;have Y:=(E.trans V).trans hh;refine Qd<|Qb<|x (Zj O O)<|xe<|Zc rfl (λU=>?_) (λU=>?_)
 ·refine Qd<|Qb<|Qf<|Qs ⟨[.int .i64 (XW ps[k].a)],Lb,?_,Y⟩;rw[G,if_pos U];rfl
 refine Qj<|Qx<|QN O O<|Qb<|xe<|⟨k+1,by omega,Lb,H,Y,?_⟩;rw[G,if_neg U]
theorem Qif {l:List QE}{k:Nat}(h:k<l.length):evs (l.take (k+1))=mrg (· || ·) (evs (l.take k)) l[k].al:=by
 unfold evs;rw[Ll h,LW];rfl
theorem QaP (l:List QE) (h:∀a∈l,a.al.length≤32):(evs l).length≤32*l.length:=by
 have key:∀(l:List QE) (acc:LI),(∀a∈l,a.al.length≤32)→(l.foldl (λacc a=>mrg (· || ·) acc a.al) acc).length≤acc.length+32*l.length:=by
  intro l;induction l with
  | nil=>intro acc _;simp
  | cons a l ih =>
   intro acc h;have h1:=ih (mrg (· || ·) acc a.al) (λa ha=>h a (Le _ ha));have h2:=X9 (· || ·) acc a.al;have h3:=h a Lh;simp only[List.foldl_cons,List.length_cons];omega
 have:=key l [] h;unfold evs;simpa using this
theorem Qf1 {L:LN}{w:World}{v:Value}{ps:List AV}(h:JA L w.heap v ps) (hn:ps.length≤12) (V:∀p∈ps,p.a.al.length≤32) :
  QM prog 202 [v] w λr w'=>Step [] w w'∧Qn 3 w.heap.size w' r (evs (ps.map (·.a))):=by
 refine QM.of_W func202 O ntmps202 results202 (by simp) ?_;refine Qd<|Qf<|Qd<|Qf<|Qg<|Qd<|Qb<|x (Qw h.arr O)<|Qb<|xe<|Qh<|QC (α:=Nat×Value) [(3,3),(5,5),(8,16)] (λz=>[(3,z.2),(8,.int .i64 z.1)]) (λz w'=>z.1≤ps.length∧Step [] w w'∧Qn 3 w.heap.size w' z.2 (evs ((ps.map (·.a)).take z.1))) (λz=>ps.length - z.1) (by rfl) (0,nS) ⟨O,O,La⟩
  ⟨Lm _,Step.refl _ _,QR _ _ _ _⟩ ?_
 rintro ⟨k,vo⟩ g Z ⟨hk,J,G⟩;simp only[] at hk G;have hj:=QaP ((ps.map (·.a)).take k) (λa ha=>by obtain ⟨p,hp,rfl⟩:=Lz.1 (Mh ha);exact V p hp);have hl:((ps.map (·.a)).take k).length≤12:=by simp;omega
 refine Qd<|x (QD O O)<|xe<|Qg<|QI O (λh9=>?_) (λh9=>?_)
 ·refine Qy<|Qd<|Qb<|Qf<|Qs ⟨[vo],Lb,J,?_⟩;rw[Lq (by simp;omega)] at G;exact G
 have E:k<ps.length:=by omega
 refine Qj<|Qg<|Qh<|Qd<|xig K5 (h.ext J).arr O O E λhm hb=>x (QQ hb O O)<|xl O<|Qu (us:=[nS,.int .i64 0,nS,nS]) O λb5 w2 hc he S=>?_;have H:=h.each ps[k] (Lj E);have hq:=V ps[k] (Lj E);refine xl rfl<|Qq (us:=Zg ps[k]) S O O O O ⟨H.al.one,O,H.mr.one,H.ed.one,La⟩ λw3 hf S=>xe ?_;have Y:Step [] Z w3:=hc.then1 hf he
 have U:=J.trans Y;refine Qx<|Qb<|x (Qa O)<|x (Qc S O O)<|xl O<|xf<|(K7 (Qn.ints (L:=[]) (Qt G Y) (by omega) (by simp)) (H.al.ext U) (by omega)).mono ?_;rintro r4 w4 ⟨hg,hh⟩;refine Qf<|Qx<|QN O O<|Qb<|xe<|⟨(k+1,r4),by simp only[];omega,⟨O,O,La⟩,E,U.trans hg,?_⟩;simp only[];rw[Qif (by simpa using E),Mv];exact QT hh U.size
abbrev QeC (b:Nat):LV:=[.map (some b)]
structure Vb (L:LN) (H:Array Obj) (vl ve vs:Value) (ps:List AV) (ms:LN):Prop where
 al:JA L H vl ps
 ev:QO L H ve (evs (ps.map (·.a)))
 ml:ms.length=ps.length
 sl:Zz L H vs ms.length 1 (ms.flatMap QeC)
 mp:∀i (h:i<ms.length) (h':i<ps.length),ZE Zy H ms[i] (YW [] ps[i].a.ed)∧ms[i]∉L
theorem Vb.ext {L:LN}{w w':World}{vl ve vs:Value}{ps:List AV}{E:LN}(h:Vb L w.heap vl ve vs ps E) (hs:Step [] w w'):Vb L w'.heap vl ve vs ps E :=
 ⟨h.al.ext hs,h.ev.ext hs,h.ml,h.sl.ext hs,λi h1 h2=>⟨(h.mp i h1 h2).1.ext hs,(h.mp i h1 h2).2⟩⟩
theorem Vb.st {L:LN}{w w':World}{vl ve vs:Value}{ps:List AV}{E:LN}(h:Vb L w.heap vl ve vs ps E) (hs:Step L w w'):Vb L w'.heap vl ve vs ps E :=
 ⟨h.al.st hs,h.ev.st hs,h.ml,h.sl.st hs,λi h1 h2=>⟨(h.mp i h1 h2).1.step hs (h.mp i h1 h2).2,(h.mp i h1 h2).2⟩⟩
theorem Vb.up {L L':LN}{H:Array Obj}{vl ve vs:Value}{ps:List AV}{G:LN}(h:Vb L H vl ve vs ps G) (E:∀b∈L',b∈L∨H.size≤b):Vb L' H vl ve vs ps G :=
 ⟨h.al.up E,h.ev.up E,h.ml,h.sl.up E,λi h1 h2=>⟨(h.mp i h1 h2).1,λhm=>by rcases E _ hm with h3 | h3;exact (h.mp i h1 h2).2 h3;have:=(h.mp i h1 h2).1.lt;omega⟩⟩
theorem Qdy {m:List ((Int×Int)×Value)}{es:List Ed}{k:Nat}(h:k<es.length):YW m (es.take (k+1))=mput (YW m (es.take k)) (es[k].1,es[k].2.1) (.int .i64 es[k].2.2):=by
 unfold YW;rw[Ll h,LW];rfl
theorem QjK {L:LN}{w:World}{vl:Value}{ps:List AV}(h:JA L w.heap vl ps) (hn:ps.length≤12) (hE:∀p∈ps,p.a.al.length≤32) (hL:∀b∈L,b<w.heap.size) :
  QM prog 140 [vl] w λr w'=>Step [] w w'∧∃ve vs E,r=.agg #[vl,ve,vs]∧Vb L w'.heap vl ve vs ps E∧Qn 3 w.heap.size w' ve (evs (ps.map (·.a))):=by
 refine QM.of_W func140 O ntmps140 results140 (by simp) ?_;refine Qd<|xl O<|Qu (us:=[nS,nS,nS]) O λb2 w1 ht hQ hu=>xe ?_;refine Qd<|Qb<|Qb<|xl O<|xf<|(Qf1 (h.ext ht) hn hE).mono ?_;rintro ve w2 ⟨Z,hc⟩;have hR:=QaP (ps.map (·.a)) (λa ha=>by obtain ⟨p,hp,rfl⟩:=Lz.1 ha;exact hE p hp);have kb:(evs (ps.map (·.a))).length≤1000:=by simp at hR;omega
 have hv:=Qn.ints (L:=[]) hc (by omega) (by simp);refine x (QG ⟨h.arr.cells,hv.cells,La⟩)<|xl O<|Qu (us:=[nS,nS,nS]) O λb3 w3 hS hT he =>
  xl rfl<|Qq (us:=[vl,ve,nS]) he O O O O ⟨h.arr.one,hv.one,O,La⟩ λG hU he=>xe ?_
 have hV:=ht.size;have kc:=Z.size;have U:Step [] w2 G:=hS.then1 hU hT;have ke:=U.size;have kf:=hu.lt;have kg:=he.lt;have hW:Step [] w G:=(ht.trans Z).trans U;have hX:=Qt hc U;refine Qg<|Qd<|Qb<|x (Qw h.arr O)<|Qb<|xe ?_;have hY:=QY hc;refine Qh<|QC (α:=Nat×LN×Value) [(5,6),(8,8),(15,42)] (λz=>[(15,.int .i64 z.1)])
  (λz w'=>z.1≤ps.length∧z.2.1.length=z.1∧Step [b3] G w'∧QX w'.heap b3 243 [vl,ve,z.2.2]∧w'.ownsRow G.heap.size 225 1 z.2.2 z.2.1.length (z.2.1.flatMap QeC) ∧
   (∀i (h:i<z.2.1.length) (h':i<ps.length),ZE Zy w'.heap z.2.1[i] (YW [] ps[i].a.ed)∧G.heap.size≤z.2.1[i]∧z.2.1[i]∉ob z.2.2)) (λz=>ps.length - z.1) (by rfl) (0,[],nS) Lb
  ⟨Lm _,O,Step.refl _ _,he,QR _ _ _ _,λi h=>by simp at h⟩ ?_
 rintro ⟨k,E,vs⟩ g w5 ⟨hk,hf,H,hw,J,hg⟩;simp only[] at hk hf H hw J hg;have hh:Step [] w w5:=hW.then1 H (by omega);have kh:=H.size;have hl:=Qm J;refine Qd<|x (QD O O)<|xe<|Qg<|QI O (λhZ=>?_) (λhZ=>?_)
 ·have ga:k=ps.length:=by omega
  subst ga;refine Qy<|Qd ?_;have gc:=QW (L:=[]) J (by omega) (by simp);refine x (Qo hw O O)<|xl O<|Qq (us:=[vl,ve,vs]) (((hu.ext Z).ext U).step H (by simp;omega)) O O O O ⟨h.arr.one,hv.one,gc.one,La⟩ λw6 ho ge=>xe ?_;have hF:=hh.then1 ho hQ
  have hG:Qn 3 w1.heap.size w6 ve _:=Qi (Qi hX H (λb hb=>by have:=hY b hb;simp;omega)) ho (λb hb=>by have:=(Qm hc b hb).1;simp;omega);have hH:=Qi J ho (λb hb=>by have:=(hl b hb).1;simp;omega)
  refine Qs ⟨[.agg #[vl,ve,vs]],⟨⟨_,O,QF O (ge.at (L:=[]) (by simp)).cells⟩,La⟩,hF,ve,vs,E,rfl,⟨h.ext hF,Qn.ints hG (by omega) (λb hb=>by have:=hL b hb;omega),hf,QW hH (by omega) (λb hb hy=>by have:=hL b hy;have:=(Qm hH b hb).1;omega),λi h1 h2=>⟨?_,λhy=>by have:=hL _ hy;have:=(hg i h1 h2).2.1;omega⟩⟩,QT hG hV⟩;obtain ⟨m1,m2,_⟩:=hg i h1 h2;exact m1.step ho (λhb=>by
   simp only[List.mem_singleton] at hb;have h7:=(((hu.ext Z).ext U).step H (by simp;omega));rw[hb] at m1;obtain ⟨es,c,m4,_⟩:=m1;unfold QX at h7;rw[h7] at m4;cases m4)
 have hz:k<ps.length:=by omega
 have S:=h.each ps[k] (Lj hz);refine Qj<|Qg<|Qh<|Qd<|xig K5 (h.ext hh).arr O O hz λki gg=>x (QQ gg O O)<|xl O<|Qu (us:=[nS,.int .i64 0,nS,nS]) O λb5 w7 gh gi gj =>
  xl rfl<|Qq (us:=Zg ps[k]) gj O O O O ⟨S.al.one,O,S.mr.one,S.ed.one,La⟩ λw8 gk hI=>xe ?_
 have hJ:Step [] w5 w8:=gh.then1 gk gi;have kj:=hJ.size;have kk:=hI.lt;refine Qd<|xl O<|ZM Zy λbm w9 h0 kn hK=>Qf ?_;have ko:=h0.size;have kq:=hK.lt;have hM:=hJ.trans h0;have gl:=hh.trans hM;refine Qg<|Qd<|x (Qa O)<|x (Qc (hI.ext h0) O O)<|x (Qw S.ed O)<|Qb<|xe ?_;have gm:=(S.ed.up (L':=[bm]) (λb hb=>.inr (by simp at hb;have:=hh.size;omega))).ext gl
 have kr:=S.ed.le;refine Qh<|QC (α:=Nat) [(8,8),(23,35)] (λz=>[(23,.int .i64 z)]) (λz w'=>z≤ps[k].a.ed.length∧Step [bm] w9 w'∧ZE Zy w'.heap bm (YW [] (ps[k].a.ed.take z))) (λz=>ps[k].a.ed.length - z) (by rfl) 0 Lb
  ⟨Lm _,Step.refl _ _,hK⟩ ?_
 rintro j g2 V ⟨hj,hr,h3⟩;have kt:=hr.size;refine Qd<|x (QD O O)<|xe<|Qg<|QI O (λgn=>?_) (λgn=>?_)
 ·refine Qy ?_;rw[Lq (by omega)] at h3;have h4:Step [] w5 V:=hM.then1 hr (by omega);have hN:QX V.heap b3 243 [vl,ve,vs]:=hw.ext h4;refine Qx<|x (Qa O)<|x (Qc hN O O)<|Qb<|xl O<|QL (us:=[[.map (some bm)]]) O O (by decide) (by simp) ⟨rfl,rfl,La⟩ λku gq hs kv gr=>?_;have h6:=h4.trans hs;have gs:=Qt J h6;have kw:=h6.size
  refine xl O<|QZ (news:=[.map (some bm)]) (L:=[]) gs O O O (gr.at (by simp)) (by simp[Value.oneCell']) (by omega) (by omega) λh8 gt gu h9 hO=>?_;have hB:gt.ownsRow G.heap.size 225 1 h8 (E++[bm]).length ((E++[bm]).flatMap QeC):=by
   rw[Lk,LL];simpa using gu
  have gv:=(hN.ext hs).step h9 (QU J (by omega));refine x (Qa O)<|xl O<|QH gv O O (by simp) (QW (L:=[]) hB (by simp;omega) (by simp)).one λgx hC gy=>xe ?_;refine Qx<|QN O O<|Qb<|xe ?_;have gz:∀b∈ob h8,G.heap.size≤b:=λb hb=>(Qm hB b hb).1;have kx:V.heap.size≤gq.heap.size:=hs.size
  refine ⟨(k+1,E++[bm],h8),by simp only[];omega,Lb,hz,by simp[hf],?_,gy,Qi hB hC (λb hb=>by have:=gz b hb;simp;omega),?_⟩
  ·exact ((H.trans h6).then h9 (λb hb=>.inr (hl b hb).1)).trans' hC
  intro i h1 h2;simp only[List.length_append,List.length_singleton] at h1;have keep:∀(c:Nat) (m:List ((Int×Int)×Value)),ZE Zy V.heap c m→c≠b3→c∉ob vs→ZE Zy gx.heap c m:=λc m hm g0 g1 =>
   ((hm.ext hs).step h9 g1).step hC (by simpa using g0)
  by_cases hi:i<E.length
  ·obtain ⟨m1,m2,m3⟩:=hg i hi h2;simp only[List.getElem_append_left hi];refine ⟨keep _ _ (m1.ext h4) (by omega) m3,m2,λhb=>?_⟩;have kz:=m1.lt;rcases hO _ hb with h5 | h5
   ·exact m3 h5
   omega
  have g3:i=E.length:=by omega
  subst g3;simp only[List.getElem_append_right (Nat.le_refl _),Nat.sub_self,List.getElem_singleton];have hq:E.length=k:=hf;have e2:ps[E.length]=ps[k]:=by simp only[hq]
  rw[e2];refine ⟨keep _ _ h3 (by omega) (λhb=>by have:=(hl _ hb).2;omega),by omega,λhb=>?_⟩;rcases hO _ hb with h5 | h5
  ·have:=(hl _ h5).2;omega
  omega
 have hD:j<ps[k].a.ed.length:=by omega
 refine Qj<|Qg<|Qh<|Qd<|xie (gm.st hr) O O hD λk0 g4=>x (QQ g4 O O)<|xl O<|Qu (us:=[.int .i64 0,.int .i64 0,.int .i64 0]) O λb8 k4 g5 g6 Y=>xl O<|Qq (us:=Qz ps[k].a.ed[j]) Y O O O O ⟨O,O,O,La⟩ λg7 g8 Y=>xe ?_;have hP:Step [] V g7:=g5.then1 g8 g6;refine Qx<|Qb<|x (Qa O)<|x (Qc Y O O)<|x (Qa O)<|x (Qc Y O O)<|x (QG ⟨O,O,La⟩)<|x (Qa O) <|
  x (Qc Y O O)<|xl O<|Yx (k:=(ps[k].a.ed[j].1,ps[k].a.ed[j].2.1)) (h3.ext hP) O O λk5 g9 ka=>xe ?_
 refine Qx<|QN O O<|Qb<|xe<|⟨j+1,by omega,Lb,hD,(hr.trans hP).trans' g9,?_⟩;rw[Qdy hD];exact ka
theorem Qdq {L:LN}{w:World}{vl ve vs:Value}{ps:List AV}{ms:LN}(h:Vb L w.heap vl ve vs ps ms) (hn:ps.length≤12) :
  QM prog 141 [.agg #[vl,ve,vs]] w λr w'=>Step [] w w' ∧
   if ∃p∈ps,p.a.st=0 then r=.tuple #[nS,.bool false] else ∃v,r=.tuple #[v,.bool true]∧Qn 3 w.heap.size w' v (List.replicate ps.length 0):=by
 refine QM.of_W func141 O ntmps141 results141 (by simp) ?_;refine Qd<|xl O<|QS (us:=[vl,ve,vs]) O λb1 w1 G hl V=>x Qe<|Qf<|Qg<|Qd<|x (Qa O)<|x (Qc V O O)<|x (Qw h.al.arr O)<|Qb<|xe<|Qh<|QC (α:=Nat) [(2,3),(5,5),(9,16)] (λz=>[(9,.int .i64 z)]) (λz w'=>z≤ps.length∧Step [] w1 w'∧∀i (h:i<ps.length),i<z→ps[i].a.st≠0) (λz=>ps.length - z) (by rfl) 0 Lb
  ⟨Lm _,Step.refl _ _,λi _ h=>by omega⟩ ?_
 rintro k g w2 ⟨hk,E,Y⟩;refine Qd<|x (QD O O)<|xe<|Qg<|QI O (λhb=>?_) (λhb=>?_)
 ·refine Qy<|Qd<|x (Qa O)<|x (Qc (V.ext E) O O)<|x (Qw h.al.arr O)<|xl O<|YG (n:=ps.length) O O (by omega) λhc w3 he hm Z=>x Qe<|Qf ?_;rw[show (List.replicate ps.length (Value.int .i64 0).cells.toList).flatten=((List.replicate ps.length 0).map (Value.int .i64)) by rw[show (Value.int .i64 0).cells.toList=[Value.int .i64 0] from rfl,V4,NH]] at Z
  have hz:=(G.trans E).size;refine Qs ⟨[.slice (some ⟨hc,0,none⟩) ps.length ps.length,.bool true],⟨O,O,La⟩,(G.trans E).trans he,?_⟩;rw[if_neg (by
   rintro ⟨p,hp,h0⟩;obtain ⟨i,hi,rfl⟩:=LO hp;exact Y i hi (by omega) h0)]
  refine ⟨_,O,?_⟩;have:=Z.own (n:=ps.length) (sz:=1) (base:=w.heap.size) (by simp) (by omega) (by omega);unfold Qn;rw[List.length_replicate];exact this
 have H:k<ps.length:=by omega
 have J:=h.al.each ps[k] (Lj H);refine Qj<|Qg<|Qh<|Qd<|xig K5 ((h.al.ext G).ext E).arr O O H λho hf=>x (QQ hf O O)<|xl O<|Qu (us:=[nS,.int .i64 0,nS,nS]) O λb5 w4 hg hh S =>
  xl rfl<|Qq (us:=Zg ps[k]) S O O O O ⟨J.al.one,O,J.mr.one,J.ed.one,La⟩ λw5 hj S=>xe ?_
 have ha:Step [] w2 w5:=hg.then1 hj hh;refine Qd<|x (Qa O)<|x (Qc S O O)<|x (Zf O O)<|xe<|Zc rfl (λU=>?_) (λU=>?_)
 ·refine Qd<|x Qe<|Qf<|Qs ⟨[nS,.bool false],⟨O,O,La⟩,(G.trans E).trans ha,?_⟩;rw[if_pos ⟨ps[k],Lj H,U⟩];rfl
 refine Qj<|Qx<|QN O O<|Qb<|xe<|⟨k+1,by omega,Lb,H,E.trans ha,λi hi hq=>?_⟩;by_cases e:i=k
 ·subst e;exact U
 exact Y i hi (by omega)
theorem Qdk {aa:List QE}{ts:LI}{k:Nat}(h:k<aa.length) (h':k<ts.length):Yd (aa.drop k) (ts.drop k)=(decide (ts[k]∈aa[k].mr) && Yd (aa.drop (k+1)) (ts.drop (k+1))):=by
 rw[LQ h,LQ h',Yd]
theorem QfP {L:LN}{w:World}{vl ve vs vt:Value}{ps:List AV}{ms:LN}{ts:LI}(h:Vb L w.heap vl ve vs ps ms) (ht:QO L w.heap vt ts) (hl:ts.length=ps.length) (hi:∀p∈ps,ZT p.a.mr) (hn:ps.length≤12) :
  QM prog 143 [.agg #[vl,ve,vs],vt] w λr w'=>r=.bool (Yd (ps.map (·.a)) ts)∧Step [] w w':=by
 refine QM.of_W func143 O ntmps143 results143 (by simp) ?_;refine Qd<|xl O<|QS (us:=[vl,ve,vs]) O λb2 w1 hb hq he=>Qf<|Qg<|Qd<|x (Qa O)<|x (Qc he O O)<|x (Qw h.al.arr O)<|Qb<|xe<|Qh<|QC (α:=Nat) [(4,6),(10,23)] (λz=>[(10,.int .i64 z)]) (λz w'=>z≤ps.length∧Step [] w w'∧Yd (ps.map (·.a)) ts=Yd ((ps.map (·.a)).drop z) (ts.drop z)) (λz=>ps.length - z) (by rfl) 0 Lb
  ⟨Lm _,hb,O⟩ ?_
 rintro k g w2 ⟨hk,J,G⟩;refine Qd<|x (QD O O)<|xe<|Qg<|QI O (λhf=>?_) (λhf=>?_)
 ·refine Qy<|Qd<|Qf<|Qs ⟨[.bool true],Lb,?_,J⟩;rw[G,Lr (by simp;omega)];rfl
 have E:k<ps.length:=by omega
 have Z:k<ts.length:=by omega
 have H:=h.al.each ps[k] (Lj E);rw[Qdk (by simpa using E) Z,Mv] at G;refine Qj<|Qg<|Qh<|Qd<|Qb<|xig K5 (h.al.ext J).arr O O E λhr hg=>x (QQ hg O O)<|xl O<|Qu (us:=[nS,.int .i64 0,nS,nS]) O λb6 w3 hh hj S=>x Qe <|
  xl rfl<|Qq (us:=Zg ps[k]) S O O O O ⟨H.al.one,O,H.mr.one,H.ed.one,La⟩ λU hm S=>xe ?_
 have ho:Step [] w2 U:=hh.then1 hm hj;have V:=J.trans ho;refine Qg<|QV (Step [] U) [(0,true),(1,true),(2,true),(3,true),(4,true),(5,true),(6,false),(7,true)] mixed (by rfl) (by kernel_rfl) (Step.drew _ _) ?_;refine p (λ_=>Qa O)<|pq (λ_ hc=>Qc (S.ext hc) O O)<|p (λ_=>Ql)<|p (λ_=>Ql)<|pii O (ht.ext V) O O Z λhs hp =>
  pq (λ_ hc=>Qv (hp.ext hc) O)<|pk<|xf<|(ZX ((H.mr.ext V).ext (Step.drew _ _)) (hi ps[k] (Lj E)) _).mono ?_
 rintro r5 w5 ⟨rfl,rfl⟩;refine ⟨Step.drew _ _,?_⟩;refine p (λ_=>Zh O)<|pe ?_;have ha:=V.trans (Step.drew [] U);refine Q8 rfl (λY=>?_) (λY=>?_)
 ·refine Qd<|Qf<|Qs ⟨[.bool false],Lb,?_,ha⟩;rw[G,show decide (ts[k]∈ps[k].a.mr)=false by simpa using Y];rfl
 refine Qj<|Qx<|QN O O<|Qb<|xe<|⟨k+1,by omega,Lb,E,ha,?_⟩;rw[G,show decide (ts[k]∈ps[k].a.mr)=true by simpa using Y,NA]
theorem Qc3 {aa:List QE}{ts:LI}{k:Nat}{v:Int}(h:k<aa.length) (h':k<ts.length):Q7 v (aa.drop k) (ts.drop k) =
  if v∉aa[k].al then (Q7 v (aa.drop (k+1)) (ts.drop (k+1))).map (ts[k]::·) else match eget aa[k].ed ts[k] v with | none=>none | some u=>(Q7 v (aa.drop (k+1)) (ts.drop (k+1))).map (u::·):=by
 rw[LQ h,LQ h'];show (if v∉aa[k].al then _ else _)=_
 split
 ·rfl
 cases eget aa[k].ed ts[k] v <;> rfl
theorem Qhb {L:LN}{w:World}{vl ve vs vt:Value}{ps:List AV}{ms:LN}{ts:LI}(h:Vb L w.heap vl ve vs ps ms) (ht:QO L w.heap vt ts) (hl:ts.length=ps.length) (hi:∀p∈ps,ZT p.a.al)
  (hz:∀p∈ps,p.a.ed.Pairwise λx y=>x.1<y.1∨(x.1=y.1∧x.2.1<y.2.1)) (hn:ps.length≤12) (v:Int) :
  QM prog 144 [.agg #[vl,ve,vs],vt,.int .i64 v] w λr w'=>Step [] w w' ∧
   match Q7 v (ps.map (·.a)) ts with | none=>r=.tuple #[nS,.bool false] | some u=>∃v',r=.tuple #[v',.bool true]∧Qn 3 w.heap.size w' v' u:=by
 refine QM.of_W func144 O ntmps144 results144 (by simp) ?_;refine Qd<|xl O<|QS (us:=[vl,ve,vs]) O λb3 w1 hf hL hg=>x Qe<|Qf<|Qd<|Qb<|xl O<|xf<|(Zk (ht.ext hf)).mono ?_;rintro vx w2 ⟨U,hr⟩;refine Qf ?_;have h0:=hf.size;have hM:=U.size;have hN:=hg.lt;have hh:=hf.trans U;refine Qg<|Qd<|x (Qa O)<|x (Qc (hg.ext U) O O)<|x (Qw h.al.arr O)<|Qb<|xe ?_;have hge:=Qm hr
 have h1:Vb (ob vx) w2.heap vl ve vs ps ms:=((h.up (L':=ob vx) (λb hb=>.inr (by have:=(hge b hb).1;omega))).ext hh);have h2:QO (ob vx) w2.heap vt ts:=((ht.up (L':=ob vx) (λb hb=>.inr (by have:=(hge b hb).1;omega))).ext hh);refine Qh<|QC (α:=Nat×LI) [(6,7),(9,12),(18,49)] (λz=>[(18,.int .i64 z.1)])
  (λz w'=>z.1≤ps.length∧z.2.length=z.1∧Step (ob vx) w2 w'∧Qn 3 w1.heap.size w' vx (z.2++ts.drop z.1)∧Q7 v (ps.map (·.a)) ts=(Q7 v ((ps.map (·.a)).drop z.1) (ts.drop z.1)).map (z.2++·)) (λz=>ps.length - z.1) (by rfl) (0,[]) Lb
  ⟨Lm _,O,Step.refl _ _,hr,by simp⟩ ?_
 rintro ⟨k,pre⟩ g w3 ⟨hk,V,H,S,E⟩;simp only[] at hk V S E;have hO:=H.size;have hj:Step [] w w3:=hh.then H (λb hb=>.inr (by have:=(hge b hb).1;omega));refine Qd<|x (QD O O)<|xe<|Qg<|QI O (λh3=>?_) (λh3=>?_)
 ·refine Qy<|Qd<|Qb<|x Qe<|Qf<|Qs ⟨[vx,.bool true],⟨O,O,La⟩,hj,?_⟩;rw[Lr (by simp;omega),Lr (by omega)] at E;rw[Lr (by omega)] at S;rw[E];simp only[Q7,Option.map_some];exact ⟨vx,O,QT S h0⟩
 have G:k<ps.length:=by omega
 have hm:k<ts.length:=by omega
 have hs:k<ms.length:=by rw[h.ml];exact G
 have Y:=h.al.each ps[k] (Lj G);rw[Qc3 (by simpa using G) hm,Mv] at E;have hu:=h1.st H;have h4:=h2.st H;refine Qj<|Qg<|Qh<|Qd<|Qb<|xig K5 hu.al.arr O O G λhP h5=>x (QQ h5 O O)<|xl O<|Qu (us:=[nS,.int .i64 0,nS,nS]) O λhQ w4 h6 h7 ho=>x Qe <|
  xl rfl<|Qq (us:=Zg ps[k]) ho O O O O ⟨Y.al.one,O,Y.mr.one,Y.ed.one,La⟩ λw5 h8 ho=>xe ?_
 have J:Step [] w3 w5:=h6.then1 h8 h7;have h9:=hj.trans J;refine Qg<|Qd<|x (Qa O)<|x (Qc ho O O)<|Qb<|xl O<|xf<|(ZX (Y.al.ext h9) (hi ps[k] (Lj G)) v).mono ?_;rintro r6 Z ⟨rfl,rfl⟩;refine x (Zh O)<|xe ?_;have hv:=Q9 hm;refine Q8 rfl (λhp=>?_) (λhp=>?_)
 ·have hB:v∉ps[k].a.al:=by simpa using hp
  refine Qy<|Qx<|QN O O<|Qb<|xe<|⟨(k+1,pre++[ts[k]]),by simp only[];omega,Lb,G,by simp[V],H.trans J,?_,?_⟩
  ·simp only[List.append_assoc,List.singleton_append];rw[←hv];exact Qt S J
  simp only[];rw[E,if_pos hB,Option.map_map];congr 1;funext l;simp
 have hC:¬(v∉ps[k].a.al):=by simpa using hp
 rw[if_neg hC] at E;refine Qj ?_;have hD:=(hg.ext U).step H (λhb=>by have:=(hge b3 hb).1;omega);have hw:=hu.ext J;obtain ⟨hE,hR⟩:=hw.mp k hs G
 refine Qg<|QV (Step [] Z) [(0,true),(1,true),(2,true),(3,true),(4,true),(5,true),(6,true),(7,true),(8,true),(9,true),(10,true),(11,true),(12,true),(13,true),(14,true),(15,true),(16,true)] mixed (by rfl) (by kernel_rfl) (Step.drew _ _) ?_;refine p (λ_=>Qa O)<|pq (λ_ hc=>Qc ((hD.ext J).ext hc) O O)<|p (λ_=>Ql)<|pig O (g:=QeC) (λ_=>O) hw.sl O O hs λhS hF =>
  pq (λ_ hc=>Qv (hF.ext hc) O)<|p (λ_=>Ql)<|p (λ_=>Ql)<|pii O (h4.ext J) O O hm λhT hG=>pq (λ_ hc=>Qv (hG.ext hc) O) <|
  p (λ_=>Ql)<|p (λ_=>QG ⟨O,O,La⟩)<|pq (λ_ hc=>KR (k:=(ts[k],v)) (hE.ext hc) O O)<|?_
 rw[Xz ps[k].a.ed [] ts[k] v (hz ps[k] (Lj G))];have hq:Step [] w3 { Z with drawn:=Z.drawn+1 }:=J.trans (Step.drew [] Z)
 cases he:eget ps[k].a.ed ts[k] v with
 | none =>
  rw[he] at E;refine p (λ_=>Ql)<|p (λ_=>Qk O O)<|p (λ_=>Qk O O)<|p (λ_=>Qe)<|p (λ_=>Qe)<|pe ?_;refine Qg<|Qd<|Qb<|x (Zh O)<|xe<|JU O ?_;refine Qd<|x Qe<|Qf<|Qs ⟨[nS,.bool false],⟨O,O,La⟩,hj.trans hq,?_⟩;rw[E];rfl
 | some u =>
  rw[he] at E;refine p (λ_=>Ql)<|p (λ_=>Qk O O)<|p (λ_=>Qk O O)<|p (λ_=>Qe)<|p (λ_=>Qe)<|pe ?_;refine Qg<|Qd<|Qb<|x (Zh O)<|xe<|ZW O ?_;refine Qj ?_;have hy:=Qt S hq;have hU:(pre++ts.drop k).length=ts.length:=by simp;omega
  obtain ⟨gx,cx,ha⟩:=UM S (by omega);have hH:ob vx=[gx]:=by rw[ha];rfl
  refine Qx<|Qb<|Qb<|Qb<|x (QP ha O (by omega))<|xl O<|QbG (u:=.int .i64 u) (by rw[ha] at hy;exact hy) O O (by omega) O λw7 hI hJ=>xe ?_;refine Qx<|QN O O<|Qb<|xe ?_;have hK:(pre++ts.drop k).set k u=(pre++[u])++ts.drop (k+1):=by
   rw[hv,Nu _ _ (by omega),V,Nn,NG,LB];rfl
  refine ⟨(k+1,pre++[u]),by simp only[];omega,Lb,G,by simp[V],(H.trans hq).then hI (λb hb=>.inl (by rw[hH];exact hb)),?_,?_⟩
  ·simp only[];rw[←hK];unfold Qn;rw[MV,Np,ha];exact hJ
  simp only[];rw[E,Option.map_map];congr 1;funext l;simp
theorem VY {n:Nat}(h:n<256):(UInt8.ofNat n).toNat=n:=by
 simp[Nat.mod_eq_of_lt h]
theorem Qcf (u:Nat):(32:UInt8)∉Lib.decDigits u:=by
 induction u using Nat.strongRecOn with
 | _ u ih =>
  unfold Lib.decDigits;split
  ·intro h;simp only[List.mem_singleton] at h;have:=congrArg UInt8.toNat h;rw[VY (by omega)] at this;have E:(32:UInt8).toNat=32:=rfl;omega
  intro h;rcases Lp.1 h with h | h
  ·exact ih _ (by omega) h
  simp only[List.mem_singleton] at h;have:=congrArg UInt8.toNat h;rw[VY (by omega)] at this;have E:(32:UInt8).toNat=32:=rfl;omega
def dval (l:List UInt8):Nat:=l.foldl (λa b=>a*10+(b.toNat - 48)) 0
theorem Qcd (u:Nat):dval (Lib.decDigits u)=u:=by
 induction u using Nat.strongRecOn with
 | _ u ih =>
  unfold Lib.decDigits;split
  ·simp only[dval,List.foldl_cons,List.foldl_nil];rw[VY (by omega)];omega
  have:=ih (u / 10) (by omega);unfold dval at *;rw[LW,this];simp only[List.foldl_cons,List.foldl_nil];rw[VY (by omega)];omega
theorem Qea:∀{a b r E:List UInt8},(32:UInt8)∉a→(32:UInt8)∉b→a++32::r=b++32::E→a=b∧r=E
 | [],[],_,_,_,_,h=>by simpa using h
 | [],y::b,_,_,_,hb,h=>by simp at h;exact absurd h.1 (by intro e;exact hb (by simp[e]))
 | x::a,[],_,_,ha,_,h=>by simp at h;exact absurd h.1 (by intro e;exact ha (by simp[e]))
 | x::a,y::b,_,_,ha,hb,h=>by
  simp only[List.cons_append,List.cons.injEq] at h;have:=Qea (λe=>ha (Le _ e)) (λe=>hb (Le _ e)) h.2;exact ⟨by rw[h.1,this.1],this.2⟩
theorem QbX:∀{l l':LI},(∀n∈l,0≤n)→(∀n∈l',0≤n)→Jw l=Jw l'→l=l'
 | [],[],_,_,_=>rfl
 | [],y::b,_,_,h=>by simp[Jw] at h
 | x::a,[],_,_,h=>by simp[Jw] at h
 | x::a,y::b,ha,hb,h=>by
  have h':Lib.decDigits x.toNat++32::Jw a=Lib.decDigits y.toNat++32::Jw b:=by simpa[Jw] using h
  obtain ⟨h1,h2⟩:=Qea (Qcf _) (Qcf _) h';have h3:x.toNat=y.toNat:=by rw[←Qcd x.toNat,←Qcd y.toNat,h1]
  have h4:=QbX (λn E=>ha n (Le _ E)) (λn E=>hb n (Le _ E)) h2;have h5:=ha x Lh;have G:=hb y Lh;rw[h4,show x=y by omega]
def Vz (l:LI):ByteArray:=⟨(Jw l).toArray⟩
theorem QhG {l l':LI}(h1:∀n∈l,0≤n) (h2:∀n∈l',0≤n) (h:Vz l=Vz l'):l=l':=by
 refine QbX h1 h2 ?_;have:=congrArg (λb:ByteArray=>b.data.toList) h;simpa[Vz] using this
def U6 (n:Nat) (m:List (ByteArray×Value)) (tup:List (LI)):Prop :=
 ∀u:LI,u.length=n→(∀x∈u,0≤x)→mget m (Vz u)=if u∈tup then some (.int .i64 (tup.idxOf u:Int)) else none
theorem U6.add {n:Nat}{m:List (ByteArray×Value)}{tup:List (LI)}(h:U6 n m tup) {u:LI}(hu:u∉tup) (E:∀x∈u,0≤x):U6 n (mput m (Vz u) (.int .i64 (tup.length:Int))) (tup++[u]):=by
 intro v G h1;rw[Xx];by_cases e:u=v
 ·subst e;rw[if_pos rfl,if_pos (by simp),L3,if_neg hu];simp
 rw[if_neg (λhk=>e (QhG E h1 hk)),h v G h1];by_cases hm:v∈tup
 ·rw[if_pos hm,if_pos (by simp[hm]),L3,if_pos hm]
 rw[if_neg hm,if_neg (by simp[hm,Ne.symm e])]
structure SyI (N b2 b38 b37:Nat) (ve:Value) (wS:World) (s:Sy) (m:List (ByteArray×Value)) (qs:List TV) (vt vk vd:Value) (w:World):Prop where
 st:Step [b2,b38,b37] wS w
 A:QX w.heap b2 58 [ve,.int .i64 0,vk,vd]
 M:ZE Jp w.heap b38 m
 t:QdO 37 N w vt qs
 tb:∀b∈ob vt,b=b37∨wS.heap.size≤b
 k:Qn 3 wS.heap.size w vk s.mk'
 e:ZS 144 wS.heap.size w vd s.ed
 q:qs.map (·.2)=s.tup
 el:∀p∈qs,Qn 3 N w p.1 p.2
 sep:∀p∈qs,∀b∈ob p.1,b≠b38∧b∉ob vt∧b∉ob vk∧b∉ob vd
 d1:Dj vt vk
 d2:Dj vt vd
 d3:Dj vk vd
section
variable {N b2 b38 b37:Nat} {ve:Value} {wS:World} {s:Sy} {m:List (ByteArray×Value)} {qs:List TV} {vt vk vd:Value} {w w' w'':World}
theorem SyI.ext (h:SyI N b2 b38 b37 ve wS s m qs vt vk vd w) (hs:Step [] w w'):SyI N b2 b38 b37 ve wS s m qs vt vk vd w' :=
 ⟨h.st.trans hs,h.A.ext hs,h.M.ext hs,Qt h.t hs,h.tb,Qt h.k hs,Qt h.e hs,h.q,λp hp=>Qt (h.el p hp) hs,h.sep,h.d1,h.d2,h.d3⟩
structure SyN (N b2 b38 b37:Nat) (wS:World):Prop where
 l2:b2<N
 l38:b38<wS.heap.size
 l37:b37<wS.heap.size
 n37:N≤b37
 n38:b37<b38
 nS:N≤wS.heap.size
theorem SyI.setK (h:SyI N b2 b38 b37 ve wS s m qs vt vk vd w) (n:SyN N b2 b38 b37 wS) {G:Value}{l:LI}(hs:Step (ob vk) w w') (J:Qn 3 wS.heap.size w' G l)
  (H:∀b∈ob G,b∈ob vk∨w.heap.size≤b) (E:Step [b2] w' w'') (S:QX w''.heap b2 58 [ve,.int .i64 0,G,vd]):SyI N b2 b38 b37 ve wS ⟨s.tup,l,s.ed⟩ m qs vt G vd w'':=by
 have hge:=Qm h.k;have l2:=n.l2;have l38:=n.l38;have n37:=n.n37;have n38:=n.n38;have nS:=n.nS;refine ⟨(h.st.then hs (λb hb=>.inr (hge b hb).1)).then E (λb hb=>.inl (by simp at hb;simp[hb])),S,(h.M.step hs (QU h.k (by omega))).step E (by simp;omega),
  Qi (Qi h.t hs h.d1) E (λb hb=>by have:=(Qm h.t b hb).1;simp;omega),h.tb,Qi J E (λb hb=>by have:=(Qm J b hb).1;simp;omega),
  Qi (Qi h.e hs h.d3.symm) E (λb hb=>by have:=(Qm h.e b hb).1;simp;omega),h.q,
  λp hp=>Qi (Qi (h.el p hp) hs (λb hb=>(h.sep p hp b hb).2.2.1)) E (λb hb=>by have:=(Qm (h.el p hp) b hb).1;simp;omega),
  λp hp b hb=>⟨(h.sep p hp b hb).1,(h.sep p hp b hb).2.1,λU=>?_,(h.sep p hp b hb).2.2.2⟩,h.d1.grow H (QY h.t),h.d2,(h.d3.symm.grow H (QY h.e)).symm⟩
 rcases H b U with h1 | h1
 ·exact (h.sep p hp b hb).2.2.1 h1
 have:=QY (h.el p hp) b hb;omega
theorem SyI.setE (h:SyI N b2 b38 b37 ve wS s m qs vt vk vd w) (n:SyN N b2 b38 b37 wS) {G:Value}{l:List Ed}(hs:Step (ob vd) w w') (J:ZS 144 wS.heap.size w' G l)
  (H:∀b∈ob G,b∈ob vd∨w.heap.size≤b) (E:Step [b2] w' w'') (S:QX w''.heap b2 58 [ve,.int .i64 0,vk,G]):SyI N b2 b38 b37 ve wS ⟨s.tup,s.mk',l⟩ m qs vt vk G w'':=by
 have hge:=Qm h.e;have l2:=n.l2;have l38:=n.l38;have n37:=n.n37;have n38:=n.n38;have nS:=n.nS;refine ⟨(h.st.then hs (λb hb=>.inr (hge b hb).1)).then E (λb hb=>.inl (by simp at hb;simp[hb])),S,(h.M.step hs (QU h.e (by omega))).step E (by simp;omega),
  Qi (Qi h.t hs h.d2) E (λb hb=>by have:=(Qm h.t b hb).1;simp;omega),h.tb,Qi (Qi h.k hs h.d3) E (λb hb=>by have:=(Qm h.k b hb).1;simp;omega),
  Qi J E (λb hb=>by have:=(Qm J b hb).1;simp;omega),h.q,
  λp hp=>Qi (Qi (h.el p hp) hs (λb hb=>(h.sep p hp b hb).2.2.2)) E (λb hb=>by have:=(Qm (h.el p hp) b hb).1;simp;omega),
  λp hp b hb=>⟨(h.sep p hp b hb).1,(h.sep p hp b hb).2.1,(h.sep p hp b hb).2.2.1,λU=>?_⟩,h.d1,h.d2.grow H (QY h.t),h.d3.grow H (QY h.k)⟩
 rcases H b U with h1 | h1
 ·exact (h.sep p hp b hb).2.2.2 h1
 have:=QY (h.el p hp) b hb;omega
theorem SyI.setM (h:SyI N b2 b38 b37 ve wS s m qs vt vk vd w) (n:SyN N b2 b38 b37 wS) {E:List (ByteArray×Value)}(hs:Step [b38] w w') (hm:ZE Jp w'.heap b38 E):SyI N b2 b38 b37 ve wS s E qs vt vk vd w':=by
 have l2:=n.l2;have l38:=n.l38;have n37:=n.n37;have n38:=n.n38;have nS:=n.nS;exact ⟨h.st.then hs (λb hb=>.inl (by simp at hb;simp[hb])),h.A.step hs (by simp;omega),hm,Qi h.t hs (λb hb=>by have:=h.tb b hb;simp;omega),h.tb,
  Qi h.k hs (λb hb=>by have:=(Qm h.k b hb).1;simp;omega),Qi h.e hs (λb hb=>by have:=(Qm h.e b hb).1;simp;omega),h.q,
  λp hp=>Qi (h.el p hp) hs (λb hb=>by have:=(h.sep p hp b hb).1;simpa using this),h.sep,h.d1,h.d2,h.d3⟩
theorem SyI.setT (h:SyI N b2 b38 b37 ve wS s m qs vt vk vd w) (n:SyN N b2 b38 b37 wS) {E vx:Value}{u:LI}(hx:Qn 3 wS.heap.size w vx u) (H:∀b∈ob vx,b∉ob vt∧b∉ob vk∧b∉ob vd) (hs:Step (ob vt) w w')
  (J:QdO 37 N w' E (qs++[(vx,u)])) (G:∀b∈ob E,b∈ob vt∨w.heap.size≤b):SyI N b2 b38 b37 ve wS ⟨s.tup++[u],s.mk',s.ed⟩ m (qs++[(vx,u)]) E vk vd w':=by
 have l2:=n.l2;have l38:=n.l38;have n37:=n.n37;have n38:=n.n38;have nS:=n.nS;have U:=h.st.size;have nott:∀c,c<w.heap.size→c∉ob vt→c∉ob E:=λc hc S hv'=>by
  rcases G c hv' with h1 | h1
  ·exact S h1
  omega
 refine ⟨h.st.then hs (λb hb=>by have:=h.tb b hb;simp;omega),h.A.step hs (λhb=>by have:=h.tb b2 hb;omega),h.M.step hs (λhb=>by have:=h.tb b38 hb;omega),J,
  λb hb=>?_,Qi h.k hs h.d1.symm,Qi h.e hs h.d2.symm,by rw[LA,h.q];rfl,λp hp=>?_,λp hp b hb=>?_,(h.d1.symm.grow G (QY h.k)).symm,(h.d2.symm.grow G (QY h.e)).symm,h.d3⟩
 ·rcases G b hb with h1 | h1
  ·exact h.tb b h1
  exact .inr (by omega)
 ·rcases Lp.1 hp with hp | hp
  ·exact Qi (h.el p hp) hs (λb hb=>(h.sep p hp b hb).2.1)
  simp only[List.mem_singleton] at hp;subst hp;exact QT (Qi hx hs (λb hb=>(H b hb).1)) nS
 rcases Lp.1 hp with hp | hp
 ·have:=h.sep p hp b hb;exact ⟨this.1,nott b (QY (h.el p hp) b hb) this.2.1,this.2.2⟩
 simp only[List.mem_singleton] at hp;subst hp;have h1:=(Qm hx b hb);have h2:=H b hb;exact ⟨by omega,nott b h1.2 h2.1,h2.2⟩
end
end Go.Proofs.YtdffckgdcegpaaaGreatDoor
