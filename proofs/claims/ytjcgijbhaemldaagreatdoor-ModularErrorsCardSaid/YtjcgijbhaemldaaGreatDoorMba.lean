/- Merged out of 23 texts. -/
import Derived.Orders
import Derived.Below
import Derived.WalkKit
import Derived.Laws.AppendOwn
import Derived.Laws.Rows
import Derived.Laws.Tables
import Derived.Great.BuildSlice
import Derived.Deep.OwnRows
import Derived.MapKept
import Derived.Test.YtjcgijbhaemldaaGreatDoorProg
import Derived.Shelf.Strings.Builder1
import Derived.Shelf.Small.Bits
import Derived.Shelf.Strings.BuilderF
import Derived.Shelf.Strings.BuilderK
import Derived.Shelf.Strconv.Itoa0
import Derived.Shelf.Strconv.Itoa1
import Derived.Shelf.LaysM
import Derived.Shelf.Strconv.Itoa2
import Derived.Shelf.Strconv.Itoa3
import Derived.Shelf.Strings.BuilderCap
import Derived.Lib.Builder
import Derived.Laws.Externs
namespace Go
abbrev nS:Value:=.slice none 0 0
abbrev LI:=List Int
abbrev LN:=List Nat
abbrev LV:=List Value
theorem O.{u}{α:Sort u}{a:α}:a=a:=rfl
theorem Z:True:=trivial
theorem La.{u}{α:Sort u}{a:α}:a=a∧True:=⟨rfl,trivial⟩
abbrev Lb:=@List.mem_singleton
abbrev Lc:=@List.mem_cons
abbrev Le:=@List.take_succ_eq_append_getElem
abbrev Lh:=@List.getElem_mem
abbrev Li:=@List.length_map
abbrev Lj:=@List.length_append
abbrev Lk:=@Nat.zero_le
abbrev Ll:=@Decidable.not_not
abbrev Lm:=@List.take_of_length_le
abbrev Ln:=@List.mem_cons_of_mem
abbrev Lo:=@List.not_mem_nil
abbrev Lp:=@List.mem_append
abbrev Lq:=@List.eq_nil_of_length_eq_zero
abbrev Lr:=@List.mem_cons_self
abbrev Ls:=@List.drop_of_length_le
abbrev Lt:=@Bool.and_eq_true
abbrev Lu:=@Nat.le_refl
abbrev Lv:=@List.map_append
abbrev Lx:=@List.length_take
abbrev Ly:=@List.mem_map
abbrev Lz:=@List.length_singleton
abbrev LA:=@List.getElem?_eq_getElem
abbrev LB:=@Array.getElem?_eq_some_iff
abbrev LC:=@List.append_assoc
abbrev LD:=@List.flatMap_append
abbrev LE:=@List.length_cons
abbrev LF:=@List.flatMap_cons
abbrev LG:=@List.getElem_of_mem
abbrev LH:=@List.drop_eq_getElem_cons
abbrev LJ:=@Nat.le_trans
abbrev LK:=@List.mem_map_of_mem
abbrev LL:=@List.append_nil
abbrev LM:=@List.foldl_cons
abbrev LO:=@List.mem_of_mem_take
abbrev LP:=@List.mem_filter
abbrev LQ:=@Nat.zero_add
abbrev LR:=@List.pairwise_cons
abbrev LS:=@List.mem_append_left
abbrev LT:=@List.map_cons
abbrev LU:=@List.length_filter_le
abbrev LW:=@List.all_eq_true
abbrev LX:=@List.getElem?_take
abbrev LY:=@List.getElem?_eq_some_iff
abbrev LZ:=@List.getElem?_toArray
abbrev L5:=@List.getElem_append_left
abbrev L6:=@List.size_toArray
abbrev L7:=@List.filter_append
abbrev L8:=@Nat.lt_of_lt_of_le
abbrev L9:=@List.length_drop
abbrev Ma:=@List.ext_getElem
abbrev Mb:=@List.getElem?_append_left
abbrev Mc:=@List.mem_range'_1
abbrev Md:=@List.filter_cons
abbrev Me:=@List.all_cons
abbrev Mf:=@List.mem_of_getElem?
abbrev Mg:=@List.cons_append
abbrev Mh:=@Nat.add_mul
abbrev Mi:=@List.nil_append
abbrev Mj:=@List.foldl_append
abbrev Mk:=@Option.bind_eq_some_iff
abbrev Ml:=@Nat.mod_eq_of_lt
abbrev Mm:=@Int.toNat_natCast
abbrev Mn:=@List.pairwise_append
abbrev Mo:=@List.idxOf_lt_length_of_mem
abbrev Mq:=@List.getElem?_append_right
abbrev Mr:=@List.idxOf_append
abbrev Ms:=@Nat.mul_le_mul_right
abbrev Mt:=@Bool.or_eq_false_iff
abbrev Mu:=@List.range'_1_concat
abbrev Mv:=@List.mem_flatMap
abbrev Mw:=@List.take_succ_cons
abbrev Mx:=@List.filterMap_cons
abbrev My:=@List.take_append_drop
abbrev Mz:=@List.mem_of_mem_drop
abbrev MA:=@List.nodup_nil
abbrev MB:=@List.map_singleton
abbrev MC:=@List.getElem_cons_zero
abbrev MD:=@List.map_map
abbrev ME:=@Nat.add_comm
abbrev MF:=@List.filter_eq_nil_iff
abbrev MG:=@Option.map_eq_some_iff
abbrev MH:=@List.getElem_append_right
abbrev MI:=@Array.getElem?_eq_getElem
abbrev MJ:=@Nat.exists_eq_succ_of_ne_zero
abbrev MK:=@Array.getElem?_append
abbrev ML:=@List.length_set
abbrev MM:=@Nat.add_zero
abbrev MN:=@Nat.min_eq_left
abbrev MO:=@List.headD_cons
abbrev MP:=@List.getElem?_drop
abbrev MQ:=@List.mem_filterMap
abbrev MR:=@List.getElem?_set_ne
abbrev MS:=@List.getElem_map
abbrev MT:=@Nat.add_sub_cancel_left
abbrev MU:=@List.getD_eq_getElem?_getD
abbrev MW:=@List.pairwise_map
abbrev MX:=@Array.size_modify
abbrev MY:=@List.tail_cons
abbrev MZ:=@List.mem_append_right
abbrev M0:=@Array.getElem?_toList
abbrev M1:=@List.take_length
abbrev M2:=@List.mem_range
abbrev M4:=@Nat.one_mul
abbrev M5:=@List.forall_mem_cons
abbrev M6:=@List.getElem?_map
abbrev M7:=@List.getElem_take
abbrev M8:=@Bool.not_eq_true'
abbrev M9:=@List.pairwise_lt_range'
abbrev Na:=@Int.le_refl
abbrev Nb:=@List.getElem_set
abbrev Nc:=@List.range'_succ
abbrev Nd:=@Bool.false_eq_true
abbrev Nf:=@List.take_zero
abbrev Ng:=@Array.getElem?_modify
abbrev Nh:=@List.getElem?_eq_none
abbrev Ni:=@List.mem_or_eq_of_mem_set
abbrev Nj:=@List.filter_nil
abbrev Nk:=@List.any_eq_false
abbrev Nl:=@List.eq_of_mem_replicate
abbrev Nm:=@List.filter_eq_self
abbrev Nn:=@Array.length_toList
abbrev Np:=@List.map_congr_left
abbrev Nq:=@List.filter_sublist
abbrev Nr:=@List.take_append
abbrev Ns:=@List.pairwise_singleton
abbrev Nt:=@List.any_eq_true
abbrev Nu:=@List.foldl_nil
abbrev Nv:=@List.map_nil
abbrev Nw:=@List.map_set
abbrev Nx:=@Nat.not_lt_zero
end Go
namespace Go.Lg
open Go.RowKit
abbrev Fr:=Nat→Value
def upd (f:Fr)(d:Nat)(v:Value):Fr:=λt=>bif Nat.beq t d then v else f t
def ev (f:Fr):Operand→Value
 | .tmp t=>f t
 | .const v=>v
 | .global g=>.pointer (some ⟨g,0,none⟩)
 | .func g=>.func (.func g) #[] #[]
def QY (f:Fr):Option Nat→Value→Fr
 | some d,v=>upd f d v
 | none,_=>f
structure jt (n:Nat)(a:Act)(f:Fr):Prop where
 size:a.tmps.size=n
 defers:a.defers=[]
 get:∀t,a.tmps.getD t undef=f t
theorem Yv (f:Fr)(d:Nat)(v:Value):upd f d v d=v:=by simp[upd]
theorem Jb (f:Fr){d t:Nat}(v:Value)(h:t≠d):upd f d v t=f t:=by
 have:Nat.beq t d=false:=by
  cases e:Nat.beq t d with
  | false=>rfl
  | true=>exact absurd (Nat.eq_of_beq_eq_true e) h
 simp[upd,this]
theorem jt.eval {n:Nat}{a:Act}{f:Fr}(h:jt n a f):a.eval=ev f:=by
 funext x;cases x with
 | tmp t=>exact h.get t
 | _=>rfl
theorem jt.put {n:Nat}{a:Act}{f:Fr}(h:jt n a f){dst:Option Nat}(hd:∀d,dst=some d→d<n)(v:Value):jt n (a.put dst v) (QY f dst v):=by
 cases dst with
 | none=>exact h
 | some d =>
  have E:d<a.tmps.size:=by rw[h.size];exact hd d O
  refine⟨by simp[Act.put,h.size],h.defers,λt=>?_⟩;by_cases e:t=d
  ·subst e;rw[QY,Yv];simp[Act.put,E]
  rw[QY,Jb _ _ e,←h.get t];simp[Act.put,Array.getElem?_setIfInBounds_ne (Ne.symm e)]
def ZL (l:List Oper)(t:Nat):Bool:=l.any λo=>match o.dst with|some d=>Nat.beq d t|none=>false
def wrs:Code→Nat→Bool
 | .region _ ops _,t=>ZL ops.toList t
 | .seq a b,t=>wrs a t || wrs b t
 | .cond _ a b,t=>wrs a t || wrs b t
 | .block _ a,t=>wrs a t
 | .loop a,t=>wrs a t
 | .skip,_| .exit _,_| .label _,_| .goto _,_| .ret,_=>false
 | _,_=>true
def YY (D:List (Nat×Nat))(t:Nat):Bool:=match D with
 | []=>false
 | (lo,hi)::D=>bif (Nat.ble lo t && Nat.ble t hi)then true else YY D t
def inD (D:List (Nat×Nat))(d:Option Nat):Bool:=match d with|none=>true|some d=>YY D d
def Qb8 (D:List (Nat×Nat))(l:List Oper):Bool:=l.all λo=>inD D o.dst
def wr (D:List (Nat×Nat)):Code→Bool
 | .region _ ops _=>Qb8 D ops.toList
 | .seq a b=>wr D a && wr D b
 | .cond _ a b=>wr D a && wr D b
 | .block _ a=>wr D a
 | .loop a=>wr D a
 | .skip| .exit _| .label _| .goto _| .ret=>true
 | _=>false
theorem zu {D:List (Nat×Nat)}{l:List Oper}(h:Qb8 D l=true){t:Nat}(ht:YY D t=false):ZL l t=false:=by
 unfold Qb8 at h;unfold ZL;rw[Nk];intro o E;have h1:=LW.1 h o E;cases hd:o.dst with
 | none=>simp
 | some d =>
  rw[hd]at h1;simp only[inD]at h1;intro e;have:=Nat.eq_of_beq_eq_true e;subst this;rw[h1]at ht;cases ht
theorem JU {D:List (Nat×Nat)}{t:Nat}(ht:YY D t=false):∀c:Code,wr D c=true→wrs c t=false
 | .region _ ops _,h=>zu h ht
 | .seq a b,h=>by simp only[wr,Bool.and_eq_true]at h;simp[wrs,JU ht a h.1,JU ht b h.2]
 | .cond _ a b,h=>by simp only[wr,Bool.and_eq_true]at h;simp[wrs,JU ht a h.1,JU ht b h.2]
 | .block _ a,h=>JU ht a (by simpa[wr]using h)
 | .loop a,h=>JU ht a (by simpa[wr]using h)
 | .skip,_=>rfl
 | .exit _,_=>rfl
 | .label _,_=>rfl
 | .goto _,_=>rfl
 | .ret,_=>rfl
 | .rangeFunc ..,h=>by simp[wr]at h
 | .scope _,h=>by simp[wr]at h
 | .refuse _,h=>by simp[wr]at h
def mix (D:List (Nat×Nat))(f g:Fr):Fr:=λt=>bif YY D t then g t else f t
theorem Xi {D:List (Nat×Nat)}{f g:Fr}(h:∀t,YY D t=false→g t=f t):mix D f g=g:=by
 funext t;unfold mix;cases e:YY D t with
 | false=>exact(h t e).symm
 | true=>rfl
def VM (S:List (Nat×Value))(f:Fr):Fr:=match S with
 | []=>f
 | (t,v)::S=>upd (VM S f) t v
def YT (f:Fr):List (Nat×Value)→Prop
 | []=>True
 | (t,v)::S=>f t=v∧YT f S
theorem Yp {f:Fr}:∀{S:List (Nat×Value)},YT f S→VM S f=f
 | [],_=>rfl
 | (t,v)::S,h=>by
  funext s;simp only[VM,Yp h.2];by_cases e:s=t
  ·subst e;rw[Yv];exact h.1.symm
  exact Jb _ _ e
def W (P:Program)(n:Nat)(c:Code)(Q:Exit→Fr→World→Prop)(f:Fr)(w:World):Prop :=
 ∀a,jt n a f→c.wp P (λe E w'=>∃f',jt n E f'∧(∀t,wrs c t=false→f' t=f t)∧Q e f' w') a w
def thn (K:Fr→World→Prop)(Q:Exit→Fr→World→Prop):Exit→Fr→World→Prop
 | .normal,f,w=>K f w
 | e,f,w=>Q e f w
def blk (id:Nat)(Q:Exit→Fr→World→Prop):Exit→Fr→World→Prop
 | .exit i,f,w=>bif Nat.beq i id then Q .normal f w else Q (.exit i) f w
 | e,f,w=>Q e f w
section
variable {P:Program}{n:Nat}{Q:Exit→Fr→World→Prop}{f:Fr}{w:World}
theorem W.mono {c:Code}{Q':Exit→Fr→World→Prop}(h:W P n c Q f w)(hq:∀e f w,Q e f w→Q' e f w):W P n c Q' f w :=
 λa ha=>wp_mono (h a ha) λ_ _ _ ⟨E,h1,h2,h3⟩=>⟨E,h1,h2,hq _ _ _ h3⟩
theorem W.keeps {c:Code}(h:W P n c Q f w):W P n c (λe E w'=>(∀t,wrs c t=false→E t=f t)∧Q e E w') f w :=
 λa ha=>wp_mono (h a ha) λ_ _ _ ⟨E,h1,h2,h3⟩=>⟨E,h1,h2,h2,h3⟩
theorem Qi (h:Q .normal f w):W P n .skip Q f w:=λ_ ha=>wp_skip ⟨f,ha,λ_ _=>O,h⟩
theorem Qy {i:Nat}(h:Q (.exit i) f w):W P n (.exit i) Q f w:=λ_ ha=>wp_exit ⟨f,ha,λ_ _=>O,h⟩
theorem Qk (h:Q .ret f w):W P n .ret Q f w:=λ_ ha=>wp_ret ⟨f,ha,λ_ _=>O,h⟩
theorem Qg {x y:Code}(h:W P n x (thn (λf w=>W P n y Q f w) Q) f w):W P n (.seq x y) Q f w:=by
 intro a ha;refine wp_seq (wp_mono (h a ha) ?_);rintro e G w' ⟨E,h1,h2,h3⟩;have k1:∀t,wrs (.seq x y) t=false→E t=f t:=λt ht=>h2 t (by simp only[wrs,Bool.or_eq_false_iff]at ht;exact ht.1);cases e with
 | normal =>
  refine wp_mono (h3 G h1) λ_ _ _ ⟨H,I,J,T⟩=>⟨H,I,λt ht=>(J t ?_).trans (k1 t ht),T⟩;simp only[wrs,Bool.or_eq_false_iff]at ht;exact ht.2
 | exit id=>exact⟨E,h1,k1,h3⟩
 | goto l=>exact⟨E,h1,k1,h3⟩
 | ret=>exact⟨E,h1,k1,h3⟩
 | panic ch=>exact⟨E,h1,k1,h3⟩
 | outgrown=>exact⟨E,h1,k1,h3⟩
theorem QZ {α:Type}{x y:Code}(D:List (Nat×Nat))(S:α→List (Nat×Value))(I:α→World→Prop)(hD:wr D x=true)
  (h1:W P n x (thn (λE w'=>∃z,YT E (S z)∧I z w') Q) f w)
  (h2:∀z g w',I z w'→W P n y Q (VM (S z) (mix D f g)) w'):W P n (.seq x y) Q f w:=by
 refine Qg (h1.keeps.mono ?_);rintro e E w' ⟨hk,hq⟩;cases e with
 | normal =>
  obtain⟨z,hs,hi⟩:=hq;have h3:=h2 z E w' hi;rw[Xi (λt ht=>hk t (JU ht x hD)),Yp hs]at h3;exact h3
 | exit id=>exact hq
 | goto l=>exact hq
 | ret=>exact hq
 | panic ch=>exact hq
 | outgrown=>exact hq
theorem QX {c:Operand}{x y:Code}{t:Bool}(hc:ev f c=.bool t)(ht:t=true→W P n x Q f w)(E:t=false→W P n y Q f w):
  W P n (.cond c x y) Q f w:=by
 intro a ha;have G:a.eval c=.bool t:=by rw[ha.eval];exact hc
 refine wp_cond_split G (λe=>wp_mono (ht e a ha) ?_) (λe=>wp_mono (E e a ha) ?_) <;>
  (rintro e I w' ⟨H,h1,h2,h3⟩
   refine⟨H,h1,λt ht=>h2 t ?_,h3⟩;simp only[wrs,Bool.or_eq_false_iff]at ht
   first|exact ht.1|exact ht.2)
theorem Q2 {c:Operand}{x y:Code}{p:Prop}[Decidable p](hc:ev f c=.bool (decide p))(ht:p→W P n x Q f w)(E:¬p→W P n y Q f w):
  W P n (.cond c x y) Q f w :=
 QX hc (λe=>ht (of_decide_eq_true e)) (λe=>E (of_decide_eq_false e))
theorem QD {c:Operand}{x y:Code}{p:Prop}[Decidable p](hc:ev f c=.bool (decide p))(E:¬p→W P n y Q f w)(ht:p→W P n x Q f w):
  W P n (.cond c x y) Q f w:=Q2 hc ht E
theorem qR {c:Operand}{x y:Code}(hc:ev f c=.bool true)(h:W P n x Q f w):W P n (.cond c x y) Q f w:=QX hc (λ_=>h) (λe=>by cases e)
theorem Yf {c:Operand}{x y:Code}(hc:ev f c=.bool false)(h:W P n y Q f w):W P n (.cond c x y) Q f w:=QX hc (λe=>by cases e) (λ_=>h)
theorem Qh {id:Nat}{c:Code}(h:W P n c (blk id Q) f w):W P n (.block id c) Q f w:=by
 intro a ha;refine wp_block (wp_mono (h a ha) ?_);rintro e G w' ⟨E,h1,h2,h3⟩;have k1:∀t,wrs (.block id c) t=false→E t=f t:=λt ht=>h2 t (by simpa[wrs]using ht);cases e with
 | exit i =>
  simp only[Exit.inBlock];simp only[blk]at h3;by_cases hi:i=id
  ·subst hi;simp only[Nat.beq_refl,cond_true]at h3;simp only[if_true];exact⟨E,h1,k1,h3⟩
  have hb:Nat.beq i id=false:=by
   cases e:Nat.beq i id with
   | false=>rfl
   | true=>exact absurd (Nat.eq_of_beq_eq_true e) hi
  rw[hb]at h3;rw[if_neg hi];exact⟨E,h1,k1,h3⟩
 | normal=>exact⟨E,h1,k1,h3⟩
 | goto l=>exact⟨E,h1,k1,h3⟩
 | ret=>exact⟨E,h1,k1,h3⟩
 | panic ch=>exact⟨E,h1,k1,h3⟩
 | outgrown=>exact⟨E,h1,k1,h3⟩
theorem Qz {α:Type}{c:Code}(D:List (Nat×Nat))(S:α→List (Nat×Value))(I:α→World→Prop)(m:α→Nat)(hD:wr D c=true)(z:α)
  (Y:YT f (S z)) (hI:I z w)
  (round:∀x g w',I x w'→W P n c (thn (λG V=>∃T,m T<m x∧YT G (S T)∧I T V) Q) (VM (S x) (mix D f g)) w'):W P n (.loop c) Q f w:=by
 intro a ha;refine wp_loop_ghost (λ(x:α) U w'=>∃G,jt n U G∧(∀t,wrs c t=false→G t=f t)∧YT G (S x)∧I x w') m z ⟨f,ha,λ_ _=>O,Y,hI⟩ ?_;rintro x U w' ⟨G,h1,h2,h3,h4⟩;have h5:=round x G w' h4;rw[Xi (λt ht=>h2 t (JU ht c hD)),Yp h3]at h5;refine wp_mono (h5 U h1) ?_;rintro e hb V ⟨E,H,g2,J⟩;have k1:∀t,wrs c t=false→E t=f t:=λt ht=>(g2 t ht).trans (h2 t ht)
 have k2:∀t,wrs (.loop c) t=false→E t=f t:=λt ht=>k1 t (by simpa[wrs]using ht);cases e with
 | normal=>obtain⟨T,hm,hs,hi⟩:=J;exact⟨T,hm,E,H,k1,hs,hi⟩
 | exit id=>exact⟨E,H,k2,J⟩
 | goto l=>exact⟨E,H,k2,J⟩
 | ret=>exact⟨E,H,k2,J⟩
 | panic ch=>exact⟨E,H,k2,J⟩
 | outgrown=>exact⟨E,H,k2,J⟩
 where
 wp_loop_ghost {α:Type} {P:Program} {c:Code} {Q:Exit→Act→World→Prop} {a:Act} {w:World} (J:α→Act→World→Prop) (m:α→Nat) (z:α) (h₀:J z a w)
   (round:∀x a w,J x a w→c.wp P (Exit.then (λa' w'=>∃x',m x'<m x∧J x' a' w') Q) a w):(Code.loop c).wp P Q a w:=by
  intro b k cs
  have key:∀i x a w,m x=i→J x a w →
    ∃e a' w',Q e a' w'∧Arrives P (lone (b.at a (.code c::.inLoop c::k)) cs w) b k cs e a' w':=by
   intro i
   induction i using Nat.strongRecOn with
   | _ i ih =>
    intro x a w hx hJ
    obtain⟨e,a₁,w₁,hq,harr⟩:=round x a w hJ b (.inLoop c::k) cs
    cases e with
    | normal =>
     obtain⟨x',hlt,hJ'⟩:=hq
     obtain⟨e₂,a₂,w₂,hq₂,harr₂⟩:=ih (m x') (hx ▸ hlt) x' a₁ w₁ rfl hJ'
     exact⟨e₂,a₂,w₂,hq₂,.of_steps (Steps.trans harr (.one step_inLoop)) harr₂⟩
    | exit id=>exact⟨_,a₁,w₁,hq,.pass (x:=.inLoop c) rfl (λ_ _=>.inl (by simp)) harr⟩
    | goto l=>exact⟨_,a₁,w₁,hq,.pass (x:=.inLoop c) rfl (λ_ _=>.inl (by simp)) harr⟩
    | ret=>exact⟨_,a₁,w₁,hq,.pass (x:=.inLoop c) rfl (λ_ _=>.inl (by simp)) harr⟩
    | panic ch=>exact⟨_,a₁,w₁,hq,.pass (x:=.inLoop c) rfl (λ_ _=>.inl (by simp)) harr⟩
    | outgrown=>exact⟨_,a₁,w₁,hq,.pass (x:=.inLoop c) rfl (λ_ _=>.inl (by simp)) harr⟩
  obtain⟨e,a',w',hq,harr⟩:=key _ z a w rfl h₀
  exact⟨e,a',w',hq,.of_steps (.one step_loop) harr⟩
end
def upF (P:Program)(dst:Option Nat)(f:Fr)(K:Fr→World→Prop):Result Next→Prop
 | .ok (.value v) w'=>K (QY f dst v) w'
 | .ok .skip w'=>K (QY f dst undef) w'
 | .ok (.enter g args) w'=>Calls P g args w' λe E=>match e with| .returned v=>K (QY f dst v) E|_=>False
 | _=>False
def XO (P:Program)(o:Oper)(f:Fr)(w:World)(K:Fr→World→Prop):Prop:=upF P o.dst f K ((execOp (ev f) o).run P w)
def Z2 (ops:List Oper)(f:Fr)(o:Oper):Bool:=match o.guard with
 | none=>true
 | some (j,want)=>match (ops[j]?).bind (·.dst)with
  | some d=>(match f d with| .bool b=>bif want then b else !b|_=>false)
  | none=>false
def XL (P:Program)(ops:List Oper)(K:Fr→World→Prop):List Oper→Fr→World→Prop
 | [],f,w=>K f w
 | o::l,f,w=>bif Z2 ops f o then XO P o f w (XL P ops K l)else XL P ops K l (QY f o.dst undef) w
theorem VK {n:Nat}{l:List Oper}{a:Act}{f:Fr}(h:jt n a f)(H:∀o∈l,∀d,o.dst=some d→d<n)(o:Oper):Region.wanted o (yielded l.toArray a.tmps)=Z2 l f o:=by
 unfold Region.wanted Z2;cases o.guard with
 | none=>rfl
 | some p =>
  obtain⟨j,want⟩:=p;simp only[yielded,List.getElem?_toArray];cases hj:(l[j]?)with
  | none=>simp
  | some o' =>
   cases hd:o'.dst with
   | none=>simp[hd]
   | some d =>
    have E:d<a.tmps.size:=by rw[h.size];exact H o' (Mf hj) d hd
    have G:=h.get d;simp only[Option.bind_some,hd,Array.getElem?_eq_getElem E];simp[E]at G;rw[G];cases f d <;> simp
    cases want <;> simp
theorem QjQ {P:Program}{n:Nat}{o:Oper}{a:Act}{f:Fr}{w:World}{K:Fr→World→Prop}{K':Act→World→Prop}{Q:Exit→Act→World→Prop}(h:jt n a f)
  (E:∀v w',K (QY f o.dst v) w'→K' (a.put o.dst v) w') (hx:XO P o f w K):o.wp P a w K' Q:=by
 unfold XO at hx;unfold Oper.wp;rw[h.eval];generalize (execOp (ev f) o).run P w=r at hx;cases r with
 | ok nx w' =>
  cases nx <;> simp only[upF]at hx <;> simp only[Oper.upon]
  case value v=>exact E v w' hx
  case skip=>exact E _ w' hx
  case enter g args =>
   refine Calls.mono hx λe G he=>?_;cases e with
   | returned v=>exact E v G he
   | panicked c=>exact he.elim
   | outgrown=>exact he.elim
 | halt x w'=>exact hx.elim
theorem XO.mono {P:Program}{o:Oper}{f:Fr}{w:World}{K K':Fr→World→Prop}(E:∀v w',K (QY f o.dst v) w'→K' (QY f o.dst v) w')(hx:XO P o f w K):XO P o f w K':=by
 unfold XO at *;generalize (execOp (ev f) o).run P w=r at *;cases r with
 | ok nx w' =>
  cases nx <;> simp only[upF]at hx ⊢
  case value v=>exact E v w' hx
  case skip=>exact E _ w' hx
  case enter g args =>
   refine Calls.mono hx λe G he=>?_;cases e with
   | returned v=>exact E v G he
   | panicked c=>exact he.elim
   | outgrown=>exact he.elim
 | halt x w'=>exact hx.elim
def Xa (n:Nat)(l:List Oper):Bool:=l.all λo=>match o.dst with|some d=>Nat.blt d n|none=>true
theorem YE {n:Nat}{l:List Oper}(h:Xa n l=true):∀o∈l,∀d,o.dst=some d→d<n:=by
 intro o E d hd;have:=LW.1 h o E;simp only[hd,Nat.blt_eq]at this;exact this
theorem XC {l:List Oper}{o:Oper}(E:o∈l){t:Nat}(h:ZL l t=false):o.dst≠some t:=by
 intro e;have:=Nk.1 h o E;simp[e]at this
theorem Z3 {f:Fr}{dst:Option Nat}{t:Nat}(h:dst≠some t)(v:Value):QY f dst v t=f t:=by
 cases dst with
 | none=>rfl
 | some d=>exact Jb _ _ (λe=>h (by rw[e]))
section
variable {P:Program}{n:Nat}{Q:Exit→Fr→World→Prop}{f:Fr}{w:World}
theorem QjR {all:List Oper}(G:∀o∈all,∀d,o.dst=some d→d<n)(f0:Fr):
  ∀(l:List Oper) (k:Nat) (a:Act) (f:Fr) (w:World),(∀j,l[j]?=all[k+j]?)→jt n a f→(∀t,ZL all t=false→f t=f0 t) →
   XL P all (λf w=>Q .normal f w) l f w →
   wpOps P all.toArray (λe T w'=>∃f',jt n T f'∧(∀t,ZL all t=false→f' t=f0 t)∧Q e f' w') (List.range' k l.length) a w
 | [],_,a,f,w,_,E,hk,h=>⟨f,E,hk,h⟩
 | o::l,k,a,f,w,hl,E,hk,h=>by
  have I:all[k]?=some o:=by simpa using(hl 0).symm
  have H:o∈all:=Mf I;have ih:=λa f w=>QjR G f0 l (k+1) a f w (λj=>by have:=hl (j+1);simpa[Nat.add_assoc,Nat.add_comm 1 j]using this);have next:∀v,(∀t,ZL all t=false→QY f o.dst v t=f0 t):=λv t ht=>(Z3 (XC H ht) v).trans (hk t ht);simp only[List.length_cons,List.range'_succ,wpOps,List.getElem?_toArray,I];rw[VK E G o];simp only[XL]at h;cases J:Z2 all f o with
  | false =>
   rw[J]at h;exact ih _ _ _ (E.put (G o H) _) (next _) h
  | true =>
   rw[J]at h;exact .inl (QjQ E (λv w' hx=>ih _ _ _ (E.put (G o H) v) (next v) hx) h)
theorem QaR {id:Nat}{l:List Oper}(E:Xa n l=true)(h:XL P l (λf w=>Q .normal f w) l f w):W P n (.region id l.toArray false) Q f w:=by
 intro a ha;refine wp_region ?_;have:=QjR (YE E) f l 0 a f w (by simp) ha (λ_ _=>rfl) h;simpa[List.range_eq_range',wrs]using this
end
def q8 (o:Oper):Bool:=match o.op with
 | .move _| .assign _| .pick .. | .alloc _| .box .. | .build .. | .buildSlice .. | .store .. | .nilCheck _| .binOp .. | .unOp .. | .makeFunc .. | .makeMap .. | .makeSlice .. | .fieldAddr .. | .field .. | .indexAddr .. | .index .. | .extract .. | .insert .. | .mapUpdate ..=>false
 | .slice ..=>false
 | .call ⟨.builtin .append,_,_⟩=>false
 | .call ⟨.builtin .min,_,_⟩=>false
 | .call ⟨.builtin .max,_,_⟩=>false
 | .call ⟨.value _,_,_⟩=>false
 | _=>true
def Vn (all:List Oper)(j:Nat):Bool:=match all[j]? with
 | none=>false
 | some o=>(List.range all.length).all λi=>match all[i]? with
  | none=>true
  | some oi=>!q8 oi || i == j || o.after.any λe=>Region.binds .any e && e.on == i
def XA (P:Program)(all:List Oper)(C:World→Prop)(K:Fr→World→Prop):Nat→Array Bool→Fr→World→Prop
 | 0,ls,f,w=>Region.ready .any all.toArray ls=[]∧K f w
 | k+1,ls,f,w=>(Region.ready .any all.toArray ls=[]→K f w) ∧
  ∀i∈Region.ready .any all.toArray ls,∀o,all[i]?=some o →
   bif Z2 all f o then XO P o f w (λE w'=>(Vn all i=true∨w'=w∨C w')∧XA P all C K k (ls.setIfInBounds i true) E w')else XA P all C K k (ls.setIfInBounds i true) (QY f o.dst undef) w
section
variable {P:Program}{n:Nat}{f:Fr}{w:World}{all:List Oper}{C:World→Prop}{K:Fr→World→Prop}
theorem Qdn {Q:Exit→Act→World→Prop}(G:∀o∈all,∀d,o.dst=some d→d<n)(f0:Fr)
  (H:∀a f w,jt n a f→(∀t,ZL all t=false→f t=f0 t)→K f w→Q .normal a w):
  ∀(k:Nat) (ls:Array Bool) (a:Act) (f:Fr) (w:World),jt n a f→(∀t,ZL all t=false→f t=f0 t)→XA P all C K k ls f w→wpAny P .any all.toArray Q k ls a w
 | 0,_,a,f,w,E,hk,h=>⟨h.1,H a f w E hk h.2⟩
 | k+1,ls,a,f,w,E,hk,h=>by
  refine⟨λU=>H a f w E hk (h.1 U),λi hi=>?_⟩;unfold wpOp;simp only[List.getElem?_toArray];cases I:all[i]? with
  | none =>
   exfalso;obtain⟨_,o,V,_⟩:=mem_ready.1 hi;simp[I]at V
  | some o =>
   have J:o∈all:=Mf I;have h1:=h.2 i hi o I;have next:∀v,(∀t,ZL all t=false→QY f o.dst v t=f0 t):=λv t ht=>(Z3 (XC J ht) v).trans (hk t ht);simp only[];rw[VK E G o];cases T:Z2 all f o with
   | false =>
    rw[T]at h1;exact Qdn G f0 H k _ _ _ _ (E.put (G o J) _) (next _) h1
   | true =>
    rw[T]at h1;exact .inl (QjQ E (λv w' hx=>Qdn G f0 H k _ _ _ _ (E.put (G o J) v) (next v) hx.2) h1)
theorem Kl (f:Fr){x y:Option Nat}(v u:Value)(h:∀d,x=some d→y≠some d):QY (QY f x v) y u=QY (QY f y u) x v:=by
 cases x with
 | none=>rfl
 | some d =>
  cases y with
  | none=>rfl
  | some e =>
   have E:d≠e:=λhe=>h d O (he ▸ O);funext t;simp only[QY];by_cases h1:t=d
   ·subst h1;rw[Jb _ _ E,Yv,Yv]
   by_cases h2:t=e
   ·subst h2;rw[Yv,Jb _ _ h1,Yv]
   rw[Jb _ _ h2,Jb _ _ h1,Jb _ _ h1,Jb _ _ h2]
theorem QiV {f:Fr}{dst:Option Nat}{v:Value}{x:Operand}(h:∀d,dst=some d→x≠.tmp d):ev (QY f dst v) x=ev f x:=by
 cases dst with
 | none=>rfl
 | some d =>
  cases x with
  | tmp t=>exact Jb _ _ (λe=>h d O (by rw[e]))
  | _=>rfl
theorem Y9 {o:Oper}(hs:∀cs b,o.op≠.select cs b)(f:Fr)(dst:Option Nat)(v:Value)(h:∀d,dst=some d→d∉o.looksAt all.toArray):
  execOp (ev (QY f dst v)) o=execOp (ev f) o :=
 execOp_congr o hs λx hx=>QiV λd hd E=>h d hd (by
  subst E;exact LS _ (MQ.2 ⟨.tmp d,by simpa using hx,rfl⟩))
theorem Jr (o:Oper)(f:Fr)(dst:Option Nat)(v:Value)(h:∀d,dst=some d→d∉o.looksAt all.toArray):Z2 all (QY f dst v) o=Z2 all f o:=by
 unfold Z2;cases E:o.guard with
 | none=>rfl
 | some gw =>
  obtain⟨g,want⟩:=gw;simp only[];cases ht:(all[g]?).bind (·.dst)with
  | none=>rfl
  | some t =>
   have G:dst≠some t:=λe=>h t e (by simp[Oper.looksAt,E,ht]);simp only[];rw[Z3 G]
def Qdq (P:Program)(all:List Oper)(D:World→Prop)(o:Oper)(v:Value)(f:Fr):Prop :=
 (Z2 all f o=true∧∀w,D w→(execOp (ev f) o).run P w=.ok (.value v) w)∨(Z2 all f o=false∧v=undef)
theorem Qil {i j:Nat}{oi oj:Oper}(hi:all[i]?=some oi)(hj:all[j]?=some oj)(E:q8 oi=true)(G:j≠i)(hl:Vn all j=true)(H:∀e∈oj.after,Region.binds .any e=true→e.on≠i):False:=by
 simp only[Vn,hj,List.all_eq_true,List.mem_range]at hl;have I:i<all.length:=(LY.1 hi).1;have h1:=hl i I;simp only[hi,E,Bool.not_true,Bool.false_or,Bool.or_eq_true,beq_iff_eq,Array.any_eq_true',Bool.and_eq_true]at h1;rcases h1 with h1|⟨e,he,hb,J⟩
 ·exact G h1.symm
 exact H e he hb J
theorem Xc {i:Nat}{oi:Oper}{v:Value}{D:World→Prop}(hi:all[i]?=some oi)(hD:∀w,(q8 oi=true→C w)→D w)(U:∀(j:Nat) (o:Oper) cs b,all[j]?=some o→o.op≠.select cs b):
  ∀(fuel:Nat) (ls:Array Bool) (f:Fr) (w:World),(q8 oi=true→C w) →
   (∀j oj,all[j]?=some oj→j≠i→ls.getD j true=false→(∀e∈oj.after,Region.binds .any e=true→e.on≠i)→oi.apart all.toArray oj=true) →
   i∈Region.ready .any all.toArray ls→Qdq P all D oi v f →
   XA P all C K fuel (ls.setIfInBounds i true) (QY f oi.dst v) w→XA P all C K (fuel+1) ls f w:=by
 have V:∀(fuel:Nat) (ls:Array Bool) (f:Fr) (w:World),(q8 oi=true→C w)→Qdq P all D oi v f→XA P all C K fuel (ls.setIfInBounds i true) (QY f oi.dst v) w→∀o,all[i]?=some o →
   bif Z2 all f o then XO P o f w (λf' w'=>(Vn all i=true∨w'=w∨C w')∧XA P all C K fuel (ls.setIfInBounds i true) f' w')else XA P all C K fuel (ls.setIfInBounds i true) (QY f o.dst undef) w:=by
  intro fuel ls f w hC hy H o Y;rw[hi]at Y;cases Y
  rcases hy with⟨J,hv⟩|⟨J,rfl⟩
  ·rw[J];simp only[cond_true,XO,hv w (hD w hC),upF];exact⟨.inr (.inl Z),H⟩
  rw[J];exact H
 intro fuel;induction fuel with
 | zero =>
  intro ls f w hC _ I hy H;refine⟨λh=>(by rw[h]at I;cases I),λj hj=>?_⟩;by_cases G:j=i
  ·subst G;exact V _ _ _ _ hC hy H
  have:=ready_mono hj G;rw[H.1]at this;cases this
 | succ fuel ih =>
  intro ls f w hC ha I hy H;refine⟨λh=>(by rw[h]at I;cases I),λj hj=>?_⟩;by_cases G:j=i
  ·subst G;exact V _ _ _ _ hC hy H
  intro oj T;have h1:=H.2 j (ready_mono hj G) oj T;obtain⟨hc,E,hf,hq⟩:=mem_ready.1 hj;have hs:E=oj:=by rw[LZ,T]at hf;exact(Option.some.inj hf).symm
  subst hs;have hh:∀e∈E.after,Region.binds .any e=true→e.on≠i:=λe he hb ht=>by
   have h1:=hq e he hb;have h0:=(mem_ready.1 I).1;rw[ht]at h1;rcases Nat.lt_or_ge i ls.size with h'|h'
   ·simp[h']at h0 h1;rw[h0]at h1;cases h1
   simp[Array.getElem?_eq_none h']at h1
  obtain⟨a1,a2,a3⟩:=Oper.apart_spec (ha j E T G hc hh);have hu:∀k ok,all[k]?=some ok→k≠i→(ls.setIfInBounds j true).getD k true=false →
    (∀e∈ok.after,Region.binds .any e=true→e.on≠i)→oi.apart all.toArray ok=true:=λk ok hk hw hm hz=>by
   refine ha k ok hk hw ?_ hz;by_cases hn:j=k
   ·subst hn;exact hc
   rw[getD_set_ne true hn]at hm;exact hm
  have keep:∀u,Qdq P all D oi v (QY f E.dst u):=λu=>by
   unfold Qdq at *;rw[Jr oi f E.dst u a3,Y9 (all:=all) (U i oi · · hi) f E.dst u a3];exact hy
  have dOf:∀w',(Vn all j=true∨w'=w∨C w')→(q8 oi=true→C w'):=λw' hl hp=>by
   rcases hl with hl|rfl|hl
   ·exact(Qil hi T hp G hl hh).elim
   ·exact hC hp
   exact hl
  have go:∀u w',(q8 oi=true→C w')→XA P all C K fuel ((ls.setIfInBounds i true).setIfInBounds j true) (QY (QY f oi.dst v) E.dst u) w' →
    XA P all C K (fuel+1) (ls.setIfInBounds j true) (QY f E.dst u) w':=λu w' h2 hx=>by
   refine ih _ _ _ h2 hu (ready_mono I (Ne.symm G)) (keep u) ?_;rw[Array.setIfInBounds_comm _ _ G,←Kl f v u a2];exact hx
  rw[Jr E f oi.dst v a1]at h1;cases J:Z2 all f E with
  | false=>rw[J]at h1;exact go _ _ hC h1
  | true =>
   rw[J]at h1;simp only[cond_true]at h1 ⊢;unfold XO at *;rw[Y9 (all:=all) (U j E · · T) f oi.dst v a1]at h1;generalize (execOp (ev f) E).run P w=r at *;cases r with
   | ok nx w' =>
    cases nx <;> simp only[upF]at h1 ⊢
    case value u=>exact⟨h1.1,go _ _ (dOf _ h1.1) h1.2⟩
    case skip=>exact⟨h1.1,go _ _ (dOf _ h1.1) h1.2⟩
    case enter g args =>
     refine Calls.mono h1 λe h3 he=>?_;cases e with
     | returned u=>exact⟨he.1,go _ _ (dOf _ he.1) he.2⟩
     | panicked c=>exact he.elim
     | outgrown=>exact he.elim
   | halt x w'=>exact h1.elim
def YC (all:Array Oper):List (Nat×Bool)→Array Bool→Bool
 | [],ls=>(Region.ready .any all ls).isEmpty
 | (i,true)::pl,ls=>(Region.ready .any all ls).contains i && Region.free .any all ls i && YC all pl (ls.setIfInBounds i true)
 | (i,false)::pl,ls=>Region.ready .any all ls == [i] && YC all pl (ls.setIfInBounds i true)
def yO (all:List Oper)(pl:List (Nat×Bool)):Bool:=Region.noSelect all.toArray && pl.length == all.length && YC all.toArray pl (Array.replicate all.length false)
def QO:List Oper→Nat→Oper
 | [],_=>default
 | o::_,0=>o
 | _::l,i+1=>QO l i
theorem Zg {l:List Oper}{i:Nat}{o:Oper}(h:l[i]?=some o):QO l i=o:=by
 induction l generalizing i with
 | nil=>simp at h
 | cons a l ih=>cases i with
  | zero=>simp at h;subst h;rfl
  | succ i=>exact ih (by simpa using h)
def XP (P:Program)(all:List Oper)(C:World→Prop)(K:Fr→World→Prop):List (Nat×Bool)→Fr→World→Prop
 | [],f,w=>K f w
 | (i,q)::pl,f,w=>bif Z2 all f (QO all i)then
    (bif q then ∃v,(∀w',(q8 (QO all i)=true→C w')→(execOp (ev f) (QO all i)).run P w'=.ok (.value v) w')∧XP P all C K pl (QY f (QO all i).dst v) w
     else XO P (QO all i) f w λE w'=>(Vn all i=true∨w'=w∨C w')∧XP P all C K pl E w')
   else XP P all C K pl (QY f (QO all i).dst undef) w
def QaO (all:List Oper)(ls:Array Bool):Prop:=∀i o,all[i]?=some o→q8 o=true→ls.getD i false=true
theorem QaO.set {ls:Array Bool}(h:QaO all ls)(i:Nat):QaO all (ls.setIfInBounds i true):=λj o E G=>getD_set_true (h j o E G)
theorem Zx (hs:Region.noSelect all.toArray=true):∀(pl:List (Nat×Bool)) (ls:Array Bool) (f:Fr) (w:World),ls.size=all.length→(C w∨QaO all ls)→YC all.toArray pl ls=true→XP P all C K pl f w →
  XA P all C K pl.length ls f w
 | [],ls,f,w,_,_,hp,h=>⟨by simpa[YC]using hp,h⟩
 | (i,true)::pl,ls,f,w,J,hC,hp,h=>by
  simp only[YC,Bool.and_eq_true]at hp;obtain⟨⟨H,hf⟩,T⟩:=hp;simp only[XP]at h;have I:i∈Region.ready .any all.toArray ls:=by simpa using H
  cases E:all[i]? with
  | none =>
   exfalso;obtain⟨_,o,hw,_⟩:=mem_ready.1 I;simp[E]at hw
  | some o =>
   rw[Zg E]at h;have hh:∀(j:Nat) (o:Oper) cs b,all[j]?=some o→o.op≠.select cs b:=λj o cs b hj=>Region.noSelect_spec hs j o cs b (by simpa using hj);have hi:=λj oj hj=>Region.free_spec (ops:=all.toArray) (md:=.any) (i:=i) (oi:=o) (listed:=ls) (by simpa using E) hf j oj (by simpa using hj);have hm:=(mem_ready.1 I).1;have hn:q8 o=true→C w:=λV=>hC.resolve_right (λY=>by
    have h1:=Y i o E V;have ha:i<ls.size:=by rw[J];exact(LY.1 E).1
    simp[ha]at hm h1;rw[hm]at h1;cases h1)
   have hq:C w∨QaO all (ls.setIfInBounds i true):=hC.imp id (λh=>h.set i);have U:(ls.setIfInBounds i true).size=all.length:=by simpa using J
   cases G:Z2 all f o with
   | false =>
    rw[G]at h;exact Xc (v:=undef) (D:=λw=>q8 o=true→C w) E (λ_ h=>h) hh pl.length ls f w hn hi I (.inr ⟨G,O⟩) (Zx hs pl _ _ _ U hq T h)
   | true =>
    rw[G]at h;simp only[cond_true]at h;obtain⟨v,hv,hx⟩:=h;exact Xc (v:=v) (D:=λw=>q8 o=true→C w) E (λ_ h=>h) hh pl.length ls f w hn hi I (.inl ⟨G,hv⟩) (Zx hs pl _ _ _ U hq T hx)
 | (i,false)::pl,ls,f,w,J,hC,hp,h=>by
  simp only[YC,Bool.and_eq_true,beq_iff_eq]at hp;obtain⟨H,T⟩:=hp;refine⟨λh0=>(by rw[h0]at H;cases H),?_⟩;have I:i∈Region.ready .any all.toArray ls:=by rw[H];simp
  rw[H];intro j hj o E;have:j=i:=by simpa using hj
  subst this;have U:(ls.setIfInBounds j true).size=all.length:=by simpa using J
  simp only[XP,Zg E]at h;cases G:Z2 all f o with
  | false=>rw[G]at h;exact Zx hs pl _ _ _ U (hC.imp id (λh=>h.set j)) T h
  | true =>
   rw[G]at h;simp only[cond_true,cond_false]at h ⊢;refine h.mono λv w' hx=>⟨hx.1,Zx hs pl _ _ _ U ?_ T hx.2⟩;rcases hx.1 with hl|rfl|hc
   ·right;intro k ok hk V;by_cases ht:k=j
    ·subst ht;have ha:k<ls.size:=by rw[J];exact(LY.1 hk).1
     simp[ha]
    simp only[Vn,E,List.all_eq_true,List.mem_range]at hl;have h1:=hl k (LY.1 hk).1;simp only[hk,V,Bool.not_true,Bool.false_or,Bool.or_eq_true,beq_iff_eq,Array.any_eq_true',Bool.and_eq_true]at h1;rcases h1 with h1|⟨e,he,hb,hy⟩
    ·exact absurd h1 ht
    obtain⟨_,o',hu,Y⟩:=mem_ready.1 I;have:o'=o:=by rw[LZ,E]at hu;exact(Option.some.inj hu).symm
    subst this;have:=Y e he hb;rw[hy]at this;exact getD_set_true this
   ·exact hC.imp id (λh=>h.set j)
   exact .inl hc
theorem QU {Q:Exit→Fr→World→Prop}{id:Nat}(C:World→Prop)(pl:List (Nat×Bool))(hm:P.follows .mixedOrders=true)(G:Xa n all=true)(hp:yO all pl=true)
  (hC:C { w with drawn:=w.drawn+1 }) (h:XP P all C (λf w=>Q .normal f w) pl f { w with drawn:=w.drawn+1 }):W P n (.region id all.toArray true) Q f w:=by
 intro a ha;simp only[yO,Bool.and_eq_true,beq_iff_eq]at hp;obtain⟨⟨hs,hl⟩,hp⟩:=hp;refine wp_region_any hm ?_;have h1:=Zx hs pl _ _ _ (by simp) (.inl hC) hp h;rw[hl]at h1;have h2:=Qdn (n:=n) (Q:=λe H w'=>∃E,jt n H E∧(∀t,ZL all t=false→E t=f t)∧Q e E w') (YE G) f
  (λa E w I hk hq=>⟨E,I,hk,hq⟩) _ _ a f _ ha (λ_ _=>O) h1
 simpa[wrs]using h2
theorem Y2 {Q:Exit→Fr→World→Prop}{id:Nat}(C:World→Prop)(hm:P.follows .mixedOrders=true)(G:Xa n all=true)
  (h:XA P all C (λf w=>Q .normal f w) all.length (Array.replicate all.length false) f { w with drawn:=w.drawn+1 }):W P n (.region id all.toArray true) Q f w:=by
 intro a ha;refine wp_region_any hm ?_;have h2:=Qdn (n:=n) (Q:=λe H w'=>∃E,jt n H E∧(∀t,ZL all t=false→E t=f t)∧Q e E w') (YE G) f
  (λa E w I hk hq=>⟨E,I,hk,hq⟩) _ _ a f _ ha (λ_ _=>O) h
 simpa[wrs]using h2
end
theorem YS {P:Program}{all:List Oper}{C:World→Prop}{K:Fr→World→Prop}{k:Nat}{ls:Array Bool}{f:Fr}{w:World}(E:Region.ready .any all.toArray ls=[]→K f w)
  (h:∀i∈Region.ready .any all.toArray ls,∀o,all[i]?=some o →
   bif Z2 all f o then XO P o f w (λG w'=>(Vn all i=true∨w'=w∨C w')∧XA P all C K k (ls.setIfInBounds i true) G w')else XA P all C K k (ls.setIfInBounds i true) (QY f o.dst undef) w):XA P all C K (k+1) ls f w:=⟨E,h⟩
attribute [irreducible] W XL XP XO XA
class Sl (P:Program)(t:Nat)(e sz bys:outParam Nat)(z:outParam Value):Prop where
 u:P.underlying t=some (.slice e)
 i:(P.info? e).map (λi=>(i.zero,i.size,i.bytes))=some (some z,sz,bys)
 zs:z.cells.size=sz
 pos:0<sz
def QlT (P:Program)(t j:Nat):Option Nat:=match P.underlying t with
 | some (.struct fs)=>match fs[j]? with
  | some fd=>match P.info? fd.type with
   | some i=>if i.size=0 then none else some fd.offset
   | none=>none
  | none=>none
 | _=>none
class Q8 (P:Program)(t j:Nat)(off:outParam Nat):Prop where
 h:QlT P t j=some off
class Xj (P:Program)(t:Nat):Prop where
 u:∃d,P.underlying t=some d∧(match d with| .struct _| .array ..=>false|_=>true)=true
 i:(P.info? t).map (·.size)=some 1
class Ag (P:Program)(t:Nat)(sz:outParam Nat):Prop where
 u:∃d,P.underlying t=some d∧(match d with| .struct _| .array ..=>true|_=>false)=true
 i:(P.info? t).map (·.size)=some sz
class Ze (P:Program)(t:Nat)(z:outParam Value):Prop where
 i:(P.info? t).map (·.zero)=some (some z)
class Fu (P:Program)(g:Nat)(fn:outParam Func):Prop where
 f:P.funcs[g]?=some fn
 b:fn.body.isNone=false
 nm:(fn.name == "runtime.NumGoroutine")=false
section
variable {P:Program}{ops:List Oper}{K:Fr→World→Prop}{f:Fr}{w:World}
theorem xe (h:K f w):XL P ops K [] f w:=by simp only[XL];exact h
theorem xl {o:Oper}{l:List Oper}(E:Z2 ops f o=true)(h:XO P o f w (XL P ops K l)):XL P ops K (o::l) f w:=by
 simp only[XL,E,cond_true];exact h
theorem xs {o:Oper}{l:List Oper}(E:Z2 ops f o=false)(h:XL P ops K l (QY f o.dst undef) w):XL P ops K (o::l) f w:=by
 simp only[XL,E,cond_false];exact h
theorem xv {o:Oper}{v:Value}{w':World}(E:(execOp (ev f) o).run P w=.ok (.value v) w')(h:K (QY f o.dst v) w'):XO P o f w K:=by
 simp only[XO,E,upF];exact h
theorem xk {o:Oper}{w':World}(E:(execOp (ev f) o).run P w=.ok .skip w')(h:K (QY f o.dst undef) w'):XO P o f w K:=by
 simp only[XO,E,upF];exact h
theorem x {o:Oper}{l:List Oper}{v:Value}(E:(execOp (ev f) o).run P w=.ok (.value v) w)(h:XL P ops K l (QY f o.dst v) w)(G:Z2 ops f o=true:=by rfl):XL P ops K (o::l) f w :=
 xl G (xv E h)
theorem xb {o:Oper}{l:List Oper}{q:Prop}[Decidable q](E:(execOp (ev f) o).run P w=.ok (.value (.bool (decide q))) w)(ht:q→XL P ops K l (QY f o.dst (.bool true)) w)(H:¬q→XL P ops K l (QY f o.dst (.bool false)) w)
  (G:Z2 ops f o=true:=by rfl):XL P ops K (o::l) f w:=by
 by_cases h:q
 ·rw[decide_eq_true h]at E;exact x E (ht h) G
 rw[decide_eq_false h]at E;exact x E (H h) G
variable {C:World→Prop}
theorem pe (h:K f w):XP P ops C K [] f w:=by simp only[XP];exact h
theorem pq {i:Nat}{pl:List (Nat×Bool)}{v:Value}(E:∀w',C w'→(execOp (ev f) (QO ops i)).run P w'=.ok (.value v) w')(h:XP P ops C K pl (QY f (QO ops i).dst v) w)
  (hd:q8 (QO ops i)=true:=by rfl) (G:Z2 ops f (QO ops i)=true:=by rfl):XP P ops C K ((i,true)::pl) f w:=by
 simp only[XP,G,cond_true];exact⟨v,λw' hc=>E w' (hc hd),h⟩
theorem p {i:Nat}{pl:List (Nat×Bool)}{v:Value}(E:∀w',(execOp (ev f) (QO ops i)).run P w'=.ok (.value v) w')(h:XP P ops C K pl (QY f (QO ops i).dst v) w)
  (G:Z2 ops f (QO ops i)=true:=by rfl):XP P ops C K ((i,true)::pl) f w:=by
 simp only[XP,G,cond_true];exact⟨v,λw' _=>E w',h⟩
theorem ps {i:Nat}{q:Bool}{pl:List (Nat×Bool)}(h:XP P ops C K pl (QY f (QO ops i).dst undef) w)
  (E:Z2 ops f (QO ops i)=false:=by rfl):XP P ops C K ((i,q)::pl) f w:=by
 simp only[XP,E,cond_false];exact h
theorem pb {i:Nat}{pl:List (Nat×Bool)}{q:Prop}[Decidable q](E:∀w',(execOp (ev f) (QO ops i)).run P w'=.ok (.value (.bool (decide q))) w')(ht:q→XP P ops C K pl (QY f (QO ops i).dst (.bool true)) w)(H:¬q→XP P ops C K pl (QY f (QO ops i).dst (.bool false)) w)
  (G:Z2 ops f (QO ops i)=true:=by rfl):XP P ops C K ((i,true)::pl) f w:=by
 by_cases h:q
 ·rw[decide_eq_true h]at E;exact p E (ht h) G
 rw[decide_eq_false h]at E;exact p E (H h) G
theorem pk {i:Nat}{pl:List (Nat×Bool)}(h:XO P (QO ops i) f w λE w'=>C w'∧XP P ops C K pl E w')
  (G:Z2 ops f (QO ops i)=true:=by rfl):XP P ops C K ((i,false)::pl) f w:=by
 simp only[XP,G,cond_true,cond_false];exact h.mono λ_ _ hx=>⟨.inr (.inr hx.1),hx.2⟩
theorem pkl {i:Nat}{pl:List (Nat×Bool)}(h:XO P (QO ops i) f w λE w'=>XP P ops C K pl E w')
  (hl:Vn ops i=true:=by rfl) (G:Z2 ops f (QO ops i)=true:=by rfl):XP P ops C K ((i,false)::pl) f w:=by
 simp only[XP,G,cond_true,cond_false];exact h.mono λ_ _ hx=>⟨.inl hl,hx⟩
end
section
variable {P:Program}{f:Fr}{w:World}{d:Option Nat}{ty:Nat}{ps:String}{af:Array Edge}{gd:Option (Nat×Bool)}
theorem Qn {x:Operand}:(execOp (ev f) ⟨d,.move x,ty,ps,af,gd⟩).run P w=.ok (.value (ev f x)) w:=by simp[execOp]
theorem Qf {x:Operand}:(execOp (ev f) ⟨d,.assign x,ty,ps,af,gd⟩).run P w=.ok (.value (ev f x)) w:=by simp[execOp]
theorem Qp {c a b:Operand}{t:Bool}(h:ev f c=.bool t):(execOp (ev f) ⟨d,.pick c a b,ty,ps,af,gd⟩).run P w=.ok (.value (bif t then ev f a else ev f b)) w:=by
 cases t <;> simp[execOp,h,asBool]
theorem Qj {x:Operand}{j:Nat}{vs:LV}{v:Value}(h:ev f x=.tuple vs.toArray)(hj:vs[j]?=some v):(execOp (ev f) ⟨d,.extract x j,ty,ps,af,gd⟩).run P w=.ok (.value v) w:=by
 simp[execOp,h,Instr.extract,hj]
theorem Qar {op:BinOp}{t:TypeId}{x y:Operand}{k k':IntKind}{a b:Int}:(eqGuard op t x y (.int k a) (.int k' b)).run P w=.ok () w:=by
 simp only[eqGuard];split <;> simp
theorem YV {op:BinOp}{t E:Nat}{x y:Operand}{k k':IntKind}{a b:Int}{v:Value}(hx:ev f x=.int k a)(hy:ev f y=.int k' b)
  (h:(binOp op t (.int k a) (.int k' b)).run P w=.ok v w):(execOp (ev f) ⟨d,.binOp op t x y E,ty,ps,af,gd⟩).run P w=.ok (.value v) w:=by
 simp[execOp,hx,hy,Qar,h]
def inK (k:IntKind)(n:Int):Prop:=match k with
 | .i64=>-9223372036854775808≤n∧n≤9223372036854775807
 | .u8=>0≤n∧n≤255
 | .u16=>0≤n∧n≤65535
 | .u32=>0≤n∧n≤4294967295
 | .u64=>0≤n∧n≤18446744073709551615
 | .i32=>-2147483648≤n∧n≤2147483647
 | _=>False
theorem YL {k:IntKind}{n:Int}(h:inK k n):k.wrap n=n:=by
 cases k <;> simp only[inK]at h <;> simp only[IntKind.wrap,IntKind.bits,IntKind.signed] <;> first|exact h.elim|(simp;omega)
theorem XG {t E:Nat}{x y:Operand}{k:IntKind}{a b:Int}(hx:ev f x=.int k a)(hy:ev f y=.int k b)(h:inK k (a+b)):
  (execOp (ev f) ⟨d,.binOp .add t x y E,ty,ps,af,gd⟩).run P w=.ok (.value (.int k (a+b))) w:=YV hx hy (by simp[binOp,Op.intArith,YL h])
theorem X4 {t E:Nat}{x y:Operand}{k:IntKind}{a b:Int}(hx:ev f x=.int k a)(hy:ev f y=.int k b)(h:inK k (a - b)):
  (execOp (ev f) ⟨d,.binOp .sub t x y E,ty,ps,af,gd⟩).run P w=.ok (.value (.int k (a - b))) w:=YV hx hy (by simp[binOp,Op.intArith,YL h])
theorem QlE {t E:Nat}{x y:Operand}{k:IntKind}{a b:Int}(hx:ev f x=.int k a)(hy:ev f y=.int k b)(h:inK k (a*b)):
  (execOp (ev f) ⟨d,.binOp .mul t x y E,ty,ps,af,gd⟩).run P w=.ok (.value (.int k (a*b))) w:=YV hx hy (by simp[binOp,Op.intArith,YL h])
theorem QA {t E:Nat}{x y:Operand}{k:IntKind}{a b:Int}(hx:ev f x=.int k a)(hy:ev f y=.int k b):
  (execOp (ev f) ⟨d,.binOp .lss t x y E,ty,ps,af,gd⟩).run P w=.ok (.value (.bool (decide (a<b)))) w:=YV hx hy (by simp[binOp,Op.intCmp])
theorem Jj {t E:Nat}{x y:Operand}{k:IntKind}{a b:Int}(hx:ev f x=.int k a)(hy:ev f y=.int k b):
  (execOp (ev f) ⟨d,.binOp .leq t x y E,ty,ps,af,gd⟩).run P w=.ok (.value (.bool (decide (a≤b)))) w:=YV hx hy (by simp[binOp,Op.intCmp])
theorem ZP {t E:Nat}{x y:Operand}{k:IntKind}{a b:Int}(hx:ev f x=.int k a)(hy:ev f y=.int k b):
  (execOp (ev f) ⟨d,.binOp .gtr t x y E,ty,ps,af,gd⟩).run P w=.ok (.value (.bool (decide (b<a)))) w:=YV hx hy (by simp[binOp,Op.intCmp])
theorem ZK {t E:Nat}{x y:Operand}{k:IntKind}{a b:Int}(hx:ev f x=.int k a)(hy:ev f y=.int k b):
  (execOp (ev f) ⟨d,.binOp .geq t x y E,ty,ps,af,gd⟩).run P w=.ok (.value (.bool (decide (b≤a)))) w:=YV hx hy (by simp[binOp,Op.intCmp])
theorem Zc {t E:Nat}{x y:Operand}{k:IntKind}{a b:Int}(hx:ev f x=.int k a)(hy:ev f y=.int k b):
  (execOp (ev f) ⟨d,.binOp .eql t x y E,ty,ps,af,gd⟩).run P w=.ok (.value (.bool (decide (a=b)))) w :=
 YV hx hy (by simp[binOp,Op.intCmp];by_cases h:a=b <;> simp[h])
theorem Q7 {t E:Nat}{x y:Operand}{k:IntKind}{a b:Int}(hx:ev f x=.int k a)(hy:ev f y=.int k b):
  (execOp (ev f) ⟨d,.binOp .neq t x y E,ty,ps,af,gd⟩).run P w=.ok (.value (.bool (decide (¬a=b)))) w :=
 YV hx hy (by simp[binOp,Op.intCmp];by_cases h:a=b <;> simp[h])
theorem Zp {t:Nat}{x:Operand}{b:Bool}(hx:ev f x=.bool b):(execOp (ev f) ⟨d,.unOp .not t x,ty,ps,af,gd⟩).run P w=.ok (.value (.bool (!b))) w:=by
 simp[execOp,hx,Op.unary]
theorem KC {x:Operand}{t e sz bys:Nat}{z:Value}[h:Sl P t e sz bys z]{a:Option Addr}{n c:Nat}(hx:ev f x=.slice a n c):
  (execOp (ev f) ⟨d,.call ⟨.builtin .len,#[x],#[t]⟩,ty,ps,af,gd⟩).run P w=.ok (.value (.int .i64 n)) w:=by
 simp[execOp,resolve,invoke,builtin,Builtin.len_,hx,run_underlying h.u,goInt]
theorem Sl.info {t e sz bys:Nat}{z:Value}(h:Sl P t e sz bys z):∃i,P.info? e=some i∧i.zero=some z∧i.size=sz∧i.bytes=bys:=by
 have:=h.i;cases hi:P.info? e with
 | none=>simp[hi]at this
 | some i=>simp[hi]at this;exact⟨i,O,this.1,this.2.1,this.2.2⟩
theorem X6 {x y:Operand}{t e sz bys:Nat}{z:Value}[h:Sl P t e sz bys z]{a:Addr}{n c:Nat}{k:IntKind}{i:Int}(hx:ev f x=.slice (some a) n c)(hy:ev f y=.int k i)(E:0≤i)(h1:i<n):
  (execOp (ev f) ⟨d,.indexAddr t x y,ty,ps,af,gd⟩).run P w=.ok (.value (.pointer (some (a.add (i.toNat*sz))))) w:=by
 obtain⟨ii,hi,_,hs,_⟩:=Sl.info h;simp[execOp,hx,hy,Instr.indexAt,asIntOf,run_underlying h.u,E,h1,sizeOf,typeInfo,hi,hs]
theorem zX {t:Nat}[h:Xj P t]:(isAgg t).run P w=.ok false w:=by
 obtain⟨d,hu,hd⟩:=h.u;unfold isAgg;cases d <;> simp at hd <;> simp[run_underlying hu]
theorem QfW {t sz:Nat}[h:Ag P t sz]:(isAgg t).run P w=.ok true w:=by
 obtain⟨d,hu,hd⟩:=h.u;unfold isAgg;cases d <;> simp at hd <;> simp[run_underlying hu]
theorem YA {t:Nat}[h:Xj P t]{a:Addr}{v:Value}(hc:w.cell? a=some v):(loadVar t a).run P w=.ok v w:=by
 simp[loadVar,zX,hc]
theorem UN {t:Nat}[h:Xj P t]:(sizeOf t).run P w=.ok 1 w:=by
 have:=h.i;cases hi:P.info? t with
 | none=>simp[hi]at this
 | some i=>simp[hi]at this;simp[sizeOf,typeInfo,hi,this]
theorem VO {t sz:Nat}[h:Ag P t sz]:(sizeOf t).run P w=.ok sz w:=by
 have:=h.i;cases hi:P.info? t with
 | none=>simp[hi]at this
 | some i=>simp[hi]at this;simp[sizeOf,typeInfo,hi,this]
theorem X3 {a:Addr}:∀(vs:LV) (i:Nat) (acc:Array Value),(∀j v,vs[j]?=some v→w.cell? (a.add (i+j))=some v)→(loadCellsFrom a i vs.length acc).run P w=.ok (acc++vs.toArray) w
 | [],_,acc,_=>by simp[loadCellsFrom]
 | v::vs,i,acc,h=>by
  have E:=h 0 v O;have ih:=X3 vs (i+1) (acc.push v) (λj u hu=>by have:=h (j+1) u (by simpa using hu);simpa[Nat.add_assoc,Nat.add_comm 1 j]using this);simp only[Nat.add_zero]at E;simp[loadCellsFrom,E,ih]
theorem Qv {t sz:Nat}[h:Ag P t sz]{a:Addr}{vs:LV}(hl:vs.length=sz)(hc:∀j v,vs[j]?=some v→w.cell? (a.add j)=some v):(loadVar t a).run P w=.ok (.agg vs.toArray) w:=by
 have:=X3 (P:=P) (w:=w) (a:=a) vs 0 #[] (by simpa using hc);subst hl;simp[loadVar,QfW,VO (sz:=vs.length),loadCells,this]
theorem Qe9 {t:Nat}[h:Xj P t]{x:Operand}{a:Addr}{v:Value}(hx:ev f x=.pointer (some a))(hc:w.cell? a=some v):
  (execOp (ev f) ⟨d,.load t x,ty,ps,af,gd⟩).run P w=.ok (.value v) w:=by
 simp[execOp,hx,Instr.loadAt,Instr.sureAddr,YA hc]
theorem Uv {t sz:Nat}[h:Ag P t sz]{x:Operand}{a:Addr}{vs:LV}(hx:ev f x=.pointer (some a))(hl:vs.length=sz)(hc:∀j v,vs[j]?=some v→w.cell? (a.add j)=some v):
  (execOp (ev f) ⟨d,.load t x,ty,ps,af,gd⟩).run P w=.ok (.value (.agg vs.toArray)) w:=by
 simp[execOp,hx,Instr.loadAt,Instr.sureAddr,Qv hl hc]
theorem Zk {t j off:Nat}[h:Q8 P t j off]{x:Operand}{a:Addr}(hx:ev f x=.pointer (some a)):
  (execOp (ev f) ⟨d,.fieldAddr t x j,ty,ps,af,gd⟩).run P w=.ok (.value (.pointer (some (a.add off)))) w:=by
 have E:=h.h;unfold QlT at E;cases hu:P.underlying t with
 | none=>simp[hu]at E
 | some dd =>
  cases dd <;> simp[hu]at E
  rename_i fs;cases G:fs[j]? with
  | none=>simp[G]at E
  | some fd =>
   cases hi:P.info? fd.type with
   | none=>simp[G,hi]at E
   | some i =>
    simp[G,hi]at E;simp[execOp,hx,Instr.fieldAt,run_underlying hu,G,Instr.sureAddr,fieldPlace,sizeOf,typeInfo,hi,E]
theorem QF {x:Operand}{a:Addr}(hx:ev f x=.pointer (some a)):(execOp (ev f) ⟨d,.nilCheck x,ty,ps,af,gd⟩).run P w=.ok (.value (.pointer (some a))) w:=by
 simp[execOp,hx]
theorem Zj {fn:Fn}{l l':List Operand}:(execOp (ev f) ⟨d,.makeFunc fn l.toArray l'.toArray,ty,ps,af,gd⟩).run P w=.ok (.value (.func fn (l.map (ev f)).toArray (l'.map (ev f)).toArray)) w:=by
 simp[execOp,Instr.makeFunc]
end
def QE (P:Program)(g:Nat)(args:LV)(w:World)(R:Value→World→Prop):Prop :=
 Calls P g args.toArray w λe w'=>match e with| .returned v=>R v w'|_=>False
theorem QE.mono {P:Program}{g:Nat}{args:LV}{w:World}{R R':Value→World→Prop}(h:QE P g args w R)(E:∀v w',R v w'→R' v w'):QE P g args w R' :=
 Calls.mono h λe w' he=>by cases e <;> first|exact E _ _ he|exact he
theorem xc {P:Program}{f:Fr}{w:World}{K:Fr→World→Prop}{d:Option Nat}{ty:Nat}{ps:String}{af:Array Edge}{gd:Option (Nat×Bool)}{x:Operand}{l:List Operand}{at_:Array Nat}
  {g:Nat} {fn:Func} {first capt:LV} [hF:Fu P g fn] (hx:ev f x=.func (.func g) first.toArray capt.toArray) (h:QE P g (first++l.map (ev f)++capt) w λv w'=>K (QY f d v) w'):
  XO P ⟨d,.call ⟨.value x,l.toArray,at_⟩,ty,ps,af,gd⟩ f w K:=by
 have E:(execOp (ev f) ⟨d,.call ⟨.value x,l.toArray,at_⟩,ty,ps,af,gd⟩).run P w=.ok (.enter g (first++l.map (ev f)++capt).toArray) w:=by
  have h1:¬fn.name = "runtime.NumGoroutine" := by simpa using hF.nm
  have h2:¬fn.body=none:=by have:=hF.b;intro e;rw[e]at this;cases this
  simp[execOp,resolve,hx,Deferred.ofValue,invoke,callFunc,hF.f,h1,h2]
 simp only[XO,E,upF];exact h
theorem xf {P:Program}{f:Fr}{w:World}{K:Fr→World→Prop}{d:Option Nat}{ty:Nat}{ps:String}{af:Array Edge}{gd:Option (Nat×Bool)}{l:List Operand}{at_:Array Nat}
  {g:Nat} {fn:Func} [hF:Fu P g fn] (h:QE P g (l.map (ev f)) w λv w'=>K (QY f d v) w'):
  XO P ⟨d,.call ⟨.value (.func g),l.toArray,at_⟩,ty,ps,af,gd⟩ f w K :=
 xc (first:=[]) (capt:=[]) (g:=g) (fn:=fn) O (by simpa using h)
def ent:LV→Fr
 | [],_=>undef
 | v::_,0=>v
 | _::l,t+1=>ent l t
def VI (P:Program)(f:Fr)(w:World):List ResultVar→LV→Prop
 | [],[]=>True
 | .tmp t::rs,v::vs=>f t=v∧VI P f w rs vs
 | .cell a t::rs,v::vs=>(∃ad,f a=.pointer (some ad)∧(loadVar t ad).run P w=.ok v w)∧VI P f w rs vs
 | _,_=>False
def tup:LV→Value
 | [v]=>v
 | vs=>.tuple vs.toArray
def rq (P:Program)(rs:List ResultVar)(R:Value→World→Prop):Exit→Fr→World→Prop
 | .ret,f,w=>∃vs,VI P f w rs vs∧R (tup vs) w
 | .normal,f,w=>∃vs,VI P f w rs vs∧R (tup vs) w
 | _,_,_=>False
theorem X2 {P:Program}{n:Nat}{a:Act}{f:Fr}{w:World}(G:jt n a f)(g:ResultVar→Sem Value)(H:∀t,g (.tmp t)=pure (a.tmps.getD t undef))
  (I:∀ad t,g (.cell ad t)=(do loadVar t (←asAddr (a.tmps.getD ad undef)))):∀(rs:List ResultVar) (vs:LV),VI P f w rs vs→(rs.mapM g).run P w=.ok vs w
 | [],[],_=>by simp
 | [],_::_,h=>h.elim
 | .tmp t::rs,[],h=>h.elim
 | .cell _ _::rs,[],h=>h.elim
 | .tmp t::rs,v::vs,h=>by
  have ih:=X2 G g H I rs vs h.2;have E:=G.get t;rw[h.1]at E;simp only[List.mapM_cons,Sem.run_bind,Sem.run_pure,Result.andThen_ok,ih,E,H]
 | .cell ad t::rs,v::vs,h=>by
  have ih:=X2 G g H I rs vs h.2;obtain⟨⟨J,h1,h2⟩,_⟩:=h;have E:=G.get ad;rw[h1]at E;have h5:(asAddr (.pointer (some J))).run P w=.ok J w:=rfl;simp only[List.mapM_cons,Sem.run_bind,I,E,h5,Sem.run_pure,Result.andThen_ok,h2,ih]
theorem QE.of_W {P:Program}{g:Nat}{fn:Func}{c:Code}{args:LV}{w:World}{R:Value→World→Prop}{n:Nat}{rs:List ResultVar}
  (G:P.funcs[g]?=some fn) (hb:fn.body=some c) (H:fn.ntmps=n) (I:fn.results=rs.toArray) (hl:args.length≤n)
  (h:W P n c (rq P rs R) (ent args) w):QE P g args w R:=by
 unfold W at h;refine calls_of_wp G hb (wp_mono (h _ ?_) ?_)
 ·refine⟨by simp[H];omega,O,λt=>?_⟩;have key:∀(l:LV) (t:Nat),l[t]?.getD undef=ent l t:=by
   intro l;induction l with
   | nil=>intro t;rfl
   | cons v l ih=>intro t;cases t with|zero=>rfl|succ t=>simpa[ent]using ih t
  rw[←key];simp only[Array.getD_eq_getD_getElem?,Array.getElem?_append,List.size_toArray,List.getElem?_toArray];by_cases ht:t<args.length
  ·simp[ht]
  simp[ht,Array.getElem?_replicate];split <;> rfl
 rintro e E w' ⟨J,h1,_,h3⟩;have fin:(∃vs,VI P J w' rs vs∧R (tup vs) w')→E.defers=[]∧∃v,(results fn E.tmps).run P w'=.ok v w'∧R v w':=by
  rintro⟨vs,T,hR⟩;refine⟨h1.defers,tup vs,?_,hR⟩;simp only[results,I,List.mapM_toArray,Sem.run_bind,Sem.run_map];rw[X2 h1 _ (λ_=>rfl) (λ_ _=>rfl) rs vs T];cases vs with
  | nil=>rfl
  | cons v vs=>cases vs with|nil=>rfl|cons u us=>rfl
 cases e with
 | normal=>exact fin h3
 | ret=>exact fin h3
 | exit id=>exact h3.elim
 | goto l=>exact h3.elim
 | panic c=>exact h3.elim
 | outgrown=>exact h3.elim
attribute [irreducible] QE
theorem Zf {P:Program}{g:Nat}{fn:Func}(f:P.funcs[g]?=some fn)(b:fn.body.isNone=false:=by kernel_rfl)(nm:(fn.name == "runtime.NumGoroutine")=false:=by kernel_rfl):Fu P g fn:=⟨f,b,nm⟩
theorem Qc {P:Program}{n:Nat}{f:Fr}{w:World}{Q:Exit→Fr→World→Prop}{id:Nat}{l:List Oper}{y:Code}(h:XL P l (λf w=>thn (λf w=>W P n y Q f w) Q .normal f w) l f w)(E:Xa n l=true:=by rfl):W P n (.seq (.region id l.toArray false) y) Q f w:=Qg (QaR E h)
theorem Qx {P:Program}{n:Nat}{f:Fr}{w:World}{Q:Exit→Fr→World→Prop}{id:Nat}{l:List Oper}(h:XL P l (λf w=>Q .normal f w) l f w)(E:Xa n l=true:=by rfl):W P n (.region id l.toArray false) Q f w:=QaR E h
section
variable {P:Program}{ops:List Oper}{K:Fr→World→Prop}{f:Fr}{w:World}{d:Option Nat}{ty:Nat}{ps:String}{af:Array Edge}{gd:Option (Nat×Bool)}{l:List Oper}{y:Operand}
theorem Qb (h:XL P ops K l (QY f d (ev f y)) w)(E:Z2 ops f ⟨d,.move y,ty,ps,af,gd⟩=true:=by rfl):XL P ops K (⟨d,.move y,ty,ps,af,gd⟩::l) f w:=x Qn h E
theorem QN {t H:Nat}{E G:Operand}{k:IntKind}{a b:Int}(hx:ev f E=.int k a)(hy:ev f G=.int k b)(h:XL P ops K l (QY f d (.int k (a+b))) w)(hk:inK k (a+b):=by exact⟨by omega,by omega⟩)
  (I:Z2 ops f ⟨d,.binOp .add t E G H,ty,ps,af,gd⟩=true:=by rfl):XL P ops K (⟨d,.binOp .add t E G H,ty,ps,af,gd⟩::l) f w:=x (XG hx hy hk) h I
theorem Qe (h:K (QY f d (ev f y)) w)(E:Z2 ops f ⟨d,.assign y,ty,ps,af,gd⟩=true:=by rfl):XL P ops K [⟨d,.assign y,ty,ps,af,gd⟩] f w:=x Qf (xe h) E
end
structure Step (L:LN)(w w':World):Prop where
 os:w'.os=w.os
 tape:w'.tape=w.tape
 output:w'.output=w.output
 size:w.heap.size≤w'.heap.size
 block:∀k,k<w.heap.size→k∉L→w'.heap[k]?=w.heap[k]?
theorem Step.refl (L:LN)(w:World):Step L w w:=⟨O,O,O,Lu _,λ_ _ _=>O⟩
theorem Step.drew (L:LN)(w:World):Step L w { w with drawn:=w.drawn+1 }:=⟨O,O,O,Lu _,λ_ _ _=>O⟩
theorem Step.mono {L L':LN}{w w':World}(h:Step L w w')(E:∀b∈L,b∈L'):Step L' w w' :=
 ⟨h.os,h.tape,h.output,h.size,λk hk G=>h.block k hk (λhm=>G (E k hm))⟩
theorem Step.any {L:LN}{w w':World}(h:Step [] w w'):Step L w w':=h.mono (λ_ hb=>by cases hb)
theorem Step.then {L L':LN}{E w w':World}(h:Step L E w)(k:Step L' w w')(H:∀b∈L',b∈L∨E.heap.size≤b):Step L E w' :=
 ⟨k.os.trans h.os,k.tape.trans h.tape,k.output.trans h.output,LJ h.size k.size,λi hi G =>
  (k.block i (L8 hi h.size) (λhm=>by rcases H i hm with h1|h1;exact G h1;omega)).trans (h.block i hi G)⟩
theorem Step.trans {L:LN}{E w w':World}(h:Step L E w)(k:Step [] w w'):Step L E w':=h.then k (λ_ hb=>by cases hb)
theorem Step.trans' {L:LN}{E w w':World}(h:Step L E w)(k:Step L w w'):Step L E w':=h.then k (λ_ hb=>.inl hb)
theorem Step.below {w w':World}(h:Step [] w w'):Below w.heap.size w w':=⟨h.os,h.tape,h.output,h.size,λk hk=>h.block k hk (by simp)⟩
theorem Step.of_below {w w':World}(h:Below w.heap.size w w'):Step [] w w':=⟨h.os,h.tape,h.output,h.size,λk hk _=>h.block k hk⟩
theorem Step.of_grown {w w':World}{row:Option Nat}(h:w.grownBy w' row):Step row.toList w w' :=
 ⟨h.os,h.tape,h.output,h.size,λk hk E=>h.block k hk (λe=>E (by simp[←e]))⟩
theorem QbT (w:World)(o:Obj)(k:Nat)(h:k<w.heap.size):(w.alloc o).heap[k]?=w.heap[k]?:=by
 show(w.heap.push o)[k]?=_;rw[Array.getElem?_push,if_neg (by omega)]
theorem J8 (w:World)(o:Obj):(w.alloc o).heap[w.heap.size]?=some o:=by
 show(w.heap.push o)[w.heap.size]?=_;simp
theorem jk (w:World)(o:Obj):(w.alloc o).heap.size=w.heap.size+1:=by show(w.heap.push o).size=_;simp
theorem Step.alloc (w:World)(o:Obj):Step [] w (w.alloc o):=⟨O,O,O,by rw[jk];omega,λk hk _=>QbT w o k hk⟩
theorem Step.setRow (w:World)(g:Nat)(cs:Array Value):Step [g] w (w.setRow g cs):=
 ⟨O,O,O,by simp[World.setRow],λk _ E=>setRow_other w g k cs (λe=>E (by simp[e]))⟩
def cel (H:Array Obj)(a:Addr):Option Value:=match H[a.block]? with
 | some (.cells c _ _)=>if a.spot.isSome then none else c[a.off]?
 | _=>none
theorem Xz (w:World)(a:Addr):w.cell? a=cel w.heap a:=rfl
structure At (L:LN)(H:Array Obj)(a:Addr)(us:LV):Prop where
 out:∀u∈us,a.block∉L
 lt:∀u∈us,a.block<H.size
 cell:∀j u,us[j]?=some u→cel H (a.add j)=some u
theorem Z5 (a:Addr)(j:Nat):(a.add j).block=a.block:=by unfold Addr.add;split <;> rfl
theorem QgM {L:LN}{w w':World}(h:Step L w w'){a:Addr}(E:a.block∉L)(hl:a.block<w.heap.size):cel w'.heap a=cel w.heap a:=by
 unfold cel;rw[h.block _ hl E]
theorem At.step {L X:LN}{w w':World}{a:Addr}{us:LV}(h:At L w.heap a us)(hs:Step X w w')(E:∀b∈X,b∈L):At L w'.heap a us :=
 ⟨h.out,λu hu=>L8 (h.lt u hu) hs.size,λj u hu=>by
  have hm:=Mf hu;rw[QgM (L:=X) hs (by rw[Z5];exact λhx=>h.out u hm (E _ hx)) (by rw[Z5];exact h.lt u hm)];exact h.cell j u hu⟩
theorem At.ext {L:LN}{w w':World}{a:Addr}{us:LV}(h:At L w.heap a us)(hs:Step [] w w'):At L w'.heap a us:=h.step hs (λ_ hb=>by cases hb)
theorem At.st {L:LN}{w w':World}{a:Addr}{us:LV}(h:At L w.heap a us)(hs:Step L w w'):At L w'.heap a us:=h.step hs (λ_ hb=>hb)
theorem At.one {L:LN}{w:World}{a:Addr}{u:Value}(h:At L w.heap a [u]):w.cell? a=some u:=by
 have:=h.cell 0 u O;simp only[Addr.add,if_true]at this;exact this
theorem At.cells {L:LN}{w:World}{a:Addr}{us:LV}(h:At L w.heap a us):∀j v,us[j]?=some v→w.cell? (a.add j)=some v:=h.cell
theorem Addr.add_add (a:Addr)(i j:Nat):(a.add i).add j=a.add (i+j):=by
 unfold Addr.add;by_cases hi:i=0
 ·subst hi;simp
 by_cases hj:j=0
 ·subst hj;simp
 simp[hi,hj,Nat.add_assoc]
theorem At.fld {L:LN}{H:Array Obj}{a:Addr}{us:LV}(h:At L H a us)(j:Nat)(u:Value)(hu:us[j]?=some u):At L H (a.add j) [u]:=
 ⟨λ_ _=>by rw[Z5];exact h.out u (Mf hu),λ_ _=>by rw[Z5];exact h.lt u (Mf hu),λi v E=>by
  cases i with
  | zero=>simp at E;subst E;rw[Addr.add_add,MM];exact h.cell j u hu
  | succ i=>simp at E⟩
theorem At.up {L L':LN}{H:Array Obj}{a:Addr}{us:LV}(h:At L H a us)(E:∀b∈L',b∈L∨H.size≤b):At L' H a us :=
 ⟨λu hu hm=>by rcases E _ hm with h1|h1;exact h.out u hu h1;have:=h.lt u hu;omega,h.lt,h.cell⟩
def Zv (L:LN)(H:Array Obj)(v:Value)(n sz:Nat)(cs:LV):Prop :=
 cs.length=n*sz∧n≤1099511627776∧((v=nS∧n=0)∨∃a cap,v=.slice (some a) n cap∧n≤cap∧At L H a cs)
theorem Zv.step {L X:LN}{w w':World}{v:Value}{n sz:Nat}{cs:LV}(h:Zv L w.heap v n sz cs)(hs:Step X w w')(E:∀b∈X,b∈L):Zv L w'.heap v n sz cs :=
 ⟨h.1,h.2.1,h.2.2.imp id λ⟨a,cap,h1,h2,h3⟩=>⟨a,cap,h1,h2,h3.step hs E⟩⟩
theorem Zv.ext {L:LN}{w w':World}{v:Value}{n sz:Nat}{cs:LV}(h:Zv L w.heap v n sz cs)(hs:Step [] w w'):Zv L w'.heap v n sz cs:=h.step hs (λ_ hb=>by cases hb)
theorem Zv.st {L:LN}{w w':World}{v:Value}{n sz:Nat}{cs:LV}(h:Zv L w.heap v n sz cs)(hs:Step L w w'):Zv L w'.heap v n sz cs:=h.step hs (λ_ hb=>hb)
theorem Zv.up {L L':LN}{H:Array Obj}{v:Value}{n sz:Nat}{cs:LV}(h:Zv L H v n sz cs)(E:∀b∈L',b∈L∨H.size≤b):Zv L' H v n sz cs :=
 ⟨h.1,h.2.1,h.2.2.imp id λ⟨a,cap,h1,h2,h3⟩=>⟨a,cap,h1,h2,h3.up E⟩⟩
theorem Zv.nil (L:LN)(H:Array Obj)(sz:Nat):Zv L H (nS) 0 sz []:=⟨by simp,by omega,.inl ⟨rfl,rfl⟩⟩
theorem Zv.shape {L:LN}{H:Array Obj}{v:Value}{n sz:Nat}{cs:LV}(h:Zv L H v n sz cs):∃a cap,v=.slice a n cap:=by
 rcases h.2.2 with⟨h1,h2⟩|⟨a,cap,h1,_⟩
 ·exact⟨none,0,by rw[h1,h2]⟩
 exact⟨some a,cap,h1⟩
theorem Zv.one {L:LN}{H:Array Obj}{v:Value}{n sz:Nat}{cs:LV}(h:Zv L H v n sz cs):v.oneCell'=true:=by obtain⟨a,cap,rfl⟩:=h.shape;rfl
theorem Zv.cells {L:LN}{H:Array Obj}{v:Value}{n sz:Nat}{cs:LV}(h:Zv L H v n sz cs):v.cells=[v].toArray:=by obtain⟨a,cap,rfl⟩:=h.shape;rfl
theorem Zv.le {L:LN}{H:Array Obj}{v:Value}{n sz:Nat}{cs:LV}(h:Zv L H v n sz cs):n≤1099511627776:=h.2.1
theorem Zv.at {L:LN}{H:Array Obj}{v:Value}{n sz:Nat}{cs:LV}(h:Zv L H v n sz cs){i:Nat}(hi:i<n):
  ∃a cap,v=.slice (some a) n cap∧At L H (a.add (i*sz)) ((cs.drop (i*sz)).take sz):=by
 rcases h.2.2 with⟨_,h2⟩|⟨a,cap,h1,_,h3⟩
 ·omega
 refine⟨a,cap,h1,λu hu=>by rw[Z5];exact h3.out u (Mz (LO hu)),λu hu=>by rw[Z5];exact h3.lt u (Mz (LO hu)),λj u hu=>?_⟩;rw[Addr.add_add];refine h3.cell _ u ?_;rw[LX]at hu;split at hu
 ·simpa using hu
 cases hu
abbrev QI (L:LN)(H:Array Obj)(v:Value)(l:LI):Prop:=Zv L H v l.length 1 (l.map (.int .i64))
theorem QI.at {L:LN}{H:Array Obj}{v:Value}{l:LI}(h:QI L H v l){i:Nat}(hi:i<l.length):
  ∃a cap,v=.slice (some a) l.length cap∧At L H (a.add (i*1)) [.int .i64 l[i]]:=by
 obtain⟨a,cap,h1,h2⟩:=Zv.at h hi;refine⟨a,cap,h1,?_⟩;have:((l.map (Value.int .i64)).drop (i*1)).take 1=[.int .i64 l[i]]:=by
  rw[Nat.mul_one,LH (by simpa using hi)];simp
 rw[this]at h2;exact h2
def QS (H:Array Obj)(b T:Nat)(cs:LV):Prop:=H[b]?=some (.cells cs.toArray T (0,0))
theorem QS.lt {H:Array Obj}{b T:Nat}{cs:LV}(h:QS H b T cs):b<H.size:=(LB.1 h).1
theorem QS.step {X:LN}{w w':World}{b T:Nat}{cs:LV}(h:QS w.heap b T cs)(hs:Step X w w')(hb:b∉X):QS w'.heap b T cs:=by
 unfold QS;rw[hs.block b h.lt hb];exact h
theorem QS.ext {w w':World}{b T:Nat}{cs:LV}(h:QS w.heap b T cs)(hs:Step [] w w'):QS w'.heap b T cs:=h.step hs (by simp)
theorem QS.cell {H:Array Obj}{b T:Nat}{cs:LV}(h:QS H b T cs)(j:Nat):cel H ⟨b,j,none⟩=cs[j]?:=by
 unfold QS at h;simp[cel,h]
theorem QcI (b j:Nat):(⟨b,0,none⟩:Addr).add j=⟨b,j,none⟩:=by unfold Addr.add;split <;> simp_all
theorem Yk (b i j:Nat):(⟨b,i,none⟩:Addr).add j=⟨b,i+j,none⟩:=by unfold Addr.add;split <;> simp_all
theorem QS.at {L:LN}{H:Array Obj}{b T:Nat}{cs:LV}(h:QS H b T cs)(hb:b∉L):At L H ⟨b,0,none⟩ cs :=
 ⟨λ_ _=>hb,λ_ _=>h.lt,λj u hu=>by rw[QcI,h.cell];exact hu⟩
theorem QS.arr {L:LN}{H:Array Obj}{b T:Nat}{cs:LV}(h:QS H b T cs)(hb:b∉L){n cap sz:Nat}(hl:cs.length=n*sz)(E:n≤1099511627776)(hc:n≤cap):
  Zv L H (.slice (some ⟨b,0,none⟩) n cap) n sz cs:=⟨hl,E,.inr ⟨_,_,O,hc,h.at hb⟩⟩
def ob:Value→LN
 | .slice (some a) _ _=>[a.block]
 | _=>[]
theorem Qbp (v:Value):ob v=v.ownBlock.toList:=by
 cases v <;> try rfl
 rename_i a _ _;cases a <;> rfl
theorem Ql {X:LN}{w w':World}{base e sz n:Nat}{v:Value}{cs:LV}(h:w.ownsRow base e sz v n cs)(hs:Step X w w')(E:∀b∈ob v,b∉X):w'.ownsRow base e sz v n cs:=by
 refine⟨h.1,h.2.imp id λ⟨g,cap,cur,h1,h2,h3,h4⟩=>⟨g,cap,cur,h1,h2,?_,h4⟩⟩;rw[hs.block g (LB.1 h3).1 (E g (by rw[h1];simp[ob]))];exact h3
theorem Qs {w w':World}{base e sz n:Nat}{v:Value}{cs:LV}(h:w.ownsRow base e sz v n cs)(hs:Step [] w w'):w'.ownsRow base e sz v n cs:=Ql h hs (λ_ _=>by simp)
theorem Qq {w:World}{base e sz n:Nat}{v:Value}{cs:LV}(h:w.ownsRow base e sz v n cs):∀b∈ob v,base≤b∧b<w.heap.size:=by
 intro b hb;rcases h.2 with⟨h1,_⟩|⟨g,cap,cur,h1,h2,h3,_⟩
 ·subst h1;simp[ob]at hb
 subst h1;simp[ob]at hb;subst hb;exact⟨h2,(LB.1 h3).1⟩
theorem Za {w:World}{base base' e sz n:Nat}{v:Value}{cs:LV}(h:w.ownsRow base e sz v n cs)(hb:base'≤base):w.ownsRow base' e sz v n cs :=
 ⟨h.1,h.2.imp id λ⟨g,cap,cur,h1,h2,h3⟩=>⟨g,cap,cur,h1,LJ hb h2,h3⟩⟩
theorem QV {L:LN}{w:World}{base e sz n:Nat}{v:Value}{cs:LV}(h:w.ownsRow base e sz v n cs)(E:n≤1099511627776)(G:∀b∈ob v,b∉L):Zv L w.heap v n sz cs:=by
 refine⟨h.1,E,?_⟩;rcases h.2 with h1|⟨g,cap,cur,h1,h2,h3,h4,h5,I,H⟩
 ·exact .inl h1
 refine .inr ⟨_,_,h1,h4,λ_ _=>G g (by rw[h1];simp[ob]),λ_ _=>(LB.1 h3).1,λj u hu=>?_⟩;rw[QcI];unfold cel;simp only[h3];rw[←H,LX]at hu;split at hu
 ·simpa using hu
 cases hu
theorem QQ (w:World)(base e sz:Nat):w.ownsRow base e sz (nS) 0 []:=World.ownsRow_nil w base e sz
theorem QS.own {w:World}{b T sz n:Nat}{cs:LV}(h:QS w.heap b T cs)(hl:cs.length=n*sz)(E:n≤1099511627776){base:Nat}(hb:base≤b):w.ownsRow base T sz (.slice (some ⟨b,0,none⟩) n n) n cs :=
 ⟨hl,.inr ⟨b,n,cs.toArray,O,hb,h,Lu _,by simp only[maxLen];omega,by simp[hl],by simp[←hl]⟩⟩
section
variable {P:Program}{ops:List Oper}{K:Fr→World→Prop}{f:Fr}{w:World}{d:Option Nat}{ty:Nat}{ps:String}{af:Array Edge}{gd:Option (Nat×Bool)}{l:List Oper}
theorem Qu {x:Operand}{t e E bys:Nat}{z:Value}[Sl P t e E bys z]{L:LN}{n sz:Nat}{cs:LV}{v:Value}{H:Array Obj}(h:Zv L H v n sz cs)(G:ev f x=v):
  (execOp (ev f) ⟨d,.call ⟨.builtin .len,#[x],#[t]⟩,ty,ps,af,gd⟩).run P w=.ok (.value (.int .i64 n)) w:=by
 obtain⟨a,cap,h1⟩:=h.shape;exact KC (G.trans h1)
theorem xii {x y:Operand}{t e bys:Nat}{z:Value}[Sl P t e 1 bys z]{L:LN}{li:LI}{v:Value}{k:IntKind}{i:Nat}
  (h:QI L w.heap v li) (E:ev f x=v) (hy:ev f y=.int k i) (hi:i<li.length)
  (G:∀a,At L w.heap a [.int .i64 li[i]]→XL P ops K l (QY f d (.pointer (some a))) w) (H:Z2 ops f ⟨d,.indexAddr t x y,ty,ps,af,gd⟩=true:=by rfl):
  XL P ops K (⟨d,.indexAddr t x y,ty,ps,af,gd⟩::l) f w:=by
 obtain⟨a,cap,h1,h2⟩:=QI.at h hi;refine xl H (xv (X6 (E.trans h1) hy (by omega) (by omega)) (G _ ?_));simpa using h2
theorem Qw {t:Nat}[Xj P t]{x:Operand}{a:Addr}{L:LN}{u:Value}(h:At L w.heap a [u])(hx:ev f x=.pointer (some a)):
  (execOp (ev f) ⟨d,.load t x,ty,ps,af,gd⟩).run P w=.ok (.value u) w:=Qe9 hx h.one
theorem QG {t sz:Nat}[Ag P t sz]{x:Operand}{a:Addr}{L:LN}{us:LV}(h:At L w.heap a us)(hx:ev f x=.pointer (some a))(hl:us.length=sz):
  (execOp (ev f) ⟨d,.load t x,ty,ps,af,gd⟩).run P w=.ok (.value (.agg us.toArray)) w:=Uv hx hl h.cells
theorem Qd {t:Nat}[Xj P t]{x:Operand}{b T j:Nat}{cs:LV}{u:Value}(h:QS w.heap b T cs)(hx:ev f x=.pointer (some ⟨b,j,none⟩))(hj:cs[j]?=some u):
  (execOp (ev f) ⟨d,.load t x,ty,ps,af,gd⟩).run P w=.ok (.value u) w:=Qe9 hx (by rw[Xz,h.cell];exact hj)
theorem Qo {t sz:Nat}[Ag P t sz]{x:Operand}{b T:Nat}{cs:LV}(h:QS w.heap b T cs)(hx:ev f x=.pointer (some ⟨b,0,none⟩))(hl:cs.length=sz):
  (execOp (ev f) ⟨d,.load t x,ty,ps,af,gd⟩).run P w=.ok (.value (.agg cs.toArray)) w:=Uv hx hl (h.at (L:=[]) (by simp)).cells
theorem Qa {t j off:Nat}[Q8 P t j off]{x:Operand}{b o:Nat}(hx:ev f x=.pointer (some ⟨b,o,none⟩)):
  (execOp (ev f) ⟨d,.fieldAddr t x j,ty,ps,af,gd⟩).run P w=.ok (.value (.pointer (some ⟨b,o+off,none⟩))) w:=by
 rw[←Yk];exact Zk hx
end
section
variable {P:Program}{K:Fr→World→Prop}{f:Fr}{w:World}{d:Option Nat}{ty:Nat}{ps:String}{af:Array Edge}{gd:Option (Nat×Bool)}
theorem QP {t:Nat}{x:Operand}{us:LV}(hx:(ev f x).cells=us.toArray)
  (E:∀b w',Step [] w w'→w.heap.size≤b→QS w'.heap b t us→K (QY f d (.pointer (some ⟨b,0,none⟩))) w'):XO P ⟨d,.box t x,ty,ps,af,gd⟩ f w K:=by
 have G:(execOp (ev f) ⟨d,.box t x,ty,ps,af,gd⟩).run P w=.ok (.value (.pointer (some ⟨w.heap.size,0,none⟩))) (w.alloc (.cells us.toArray t)):=by
  simp[execOp,Instr.box,newVar,newRow,hx]
 exact xv G (E _ _ (Step.alloc w _) (Lu _) (J8 w _))
theorem Qr {t:Nat}{z:Value}[h:Ze P t z]{us:LV}(E:z.cells=us.toArray)
  (G:∀b w',Step [] w w'→w.heap.size≤b→QS w'.heap b t us→K (QY f d (.pointer (some ⟨b,0,none⟩))) w'):XO P ⟨d,.alloc t,ty,ps,af,gd⟩ f w K:=by
 have H:(execOp (ev f) ⟨d,.alloc t,ty,ps,af,gd⟩).run P w=.ok (.value (.pointer (some ⟨w.heap.size,0,none⟩))) (w.alloc (.cells us.toArray t)):=by
  have hi:=h.i;cases hq:P.info? t with
  | none=>simp[hq]at hi
  | some i =>
   simp[hq]at hi;simp[execOp,Instr.alloc,newVar,newRow,zeroValue,typeInfo,hq,hi,E]
 exact xv H (G _ _ (Step.alloc w _) (Lu _) (J8 w _))
def jq (sz:Nat):LV→List (LV)→Prop
 | [],[]=>True
 | v::vs,u::us=>v.cells=u.toArray∧u.length=sz∧jq sz vs us
 | _,_=>False
theorem qt {sz:Nat}:∀(vs:LV) (us:List (LV)) (E:Nat) (pre rest:LV),jq sz vs us→pre.length=E*sz→rest.length=vs.length*sz →
  Instr.fill (λi=>some (i*sz,sz)) (pre++rest).toArray ((vs.zipIdx E).map λx=>(x.2,x.1))=some (pre++us.flatten).toArray
 | [],[],E,pre,rest,_,_,G=>by
  have:rest=[]:=Lq (by simpa using G);subst this;simp[Instr.fill]
 | [],_::_,_,_,_,h,_,_=>h.elim
 | _::_,[],_,_,_,h,_,_=>h.elim
 | v::vs,u::us,E,pre,rest,h,hp,G=>by
  obtain⟨h1,h2,h3⟩:=h;have T:sz≤rest.length:=by rw[G];simp[Nat.add_mul]
  have ih:=qt vs us (E+1) (pre++u) (rest.drop sz) h3 (by simp[hp,h2,Nat.add_mul]) (by simp only[List.length_drop,G,List.length_cons,Nat.add_mul,Nat.one_mul];omega);simp only[List.zipIdx_cons,List.map_cons];unfold Instr.fill;have H:v.cells.size=sz:=by rw[h1];simp[h2]
  simp only[H];rw[if_neg (by simp;omega)];have key:v.cells.zipIdx.foldl (λcs (x:Value×Nat)=>cs.setIfInBounds (E*sz+x.2) x.1) (pre++rest).toArray=(pre++u++rest.drop sz).toArray:=by
   rw[←Array.foldl_toList,Array.toList_zipIdx,h1];obtain⟨U,I⟩:=Great.foldl_set (E*sz) u 0 (pre++rest).toArray;apply Array.ext';apply List.ext_getElem?;intro k;have J:=I k;simp only[Array.getElem?_toList];rw[J];simp only[Nat.add_zero,List.size_toArray,List.length_append,List.getElem?_toArray];split
   ·rename_i hc;rw[LC,Mq (by omega),Mb (by omega),←hp]
   rename_i hc;by_cases hk:k<pre.length
   ·rw[LC,Mb hk,Mb hk]
   rw[LC,Mq (by omega),Mq (by omega)];by_cases V:k<pre.length+sz
   ·exfalso;apply hc;omega
   rw[Mq (by omega),MP];congr 1;omega
  have Y:=ih;rw[LC pre u]at key;rw[show(v.cells.zipIdx.foldl (λcs (x:Value×Nat)=>cs.setIfInBounds (E*sz+x.2) x.1) (pre++rest).toArray)=(pre++u++rest.drop sz).toArray by rw[key,LC]];rw[ih];simp
theorem zt (f:Fr):∀(ps:List (Nat×Operand)) (i:Nat),ps.map (·.1)=List.range' i ps.length→(ps.map λx=>(x.1,ev f x.2))=((ps.map λx=>ev f x.2).zipIdx i).map λx=>(x.2,x.1)
 | [],_,_=>rfl
 | p::ps,i,h=>by
  simp only[List.map_cons,List.length_cons,List.range'_succ,List.cons.injEq]at h;simp only[List.map_cons,List.zipIdx_cons];rw[zt f ps (i+1) h.2,h.1]
theorem QJ {t e sz bys:Nat}{z:Value}[h:Sl P t e sz bys z]{n:Nat}{parts:List (Nat×Operand)}{us:List (LV)}(hp:parts.map (·.1)=List.range' 0 n)(G:parts.length=n)(H:0<n)(hs:n*sz≤1000000)
  (hc:jq sz (parts.map λx=>ev f x.2) us)
  (I:∀b w',Step [] w w'→w.heap.size≤b→QS w'.heap b e us.flatten→K (QY f d (.slice (some ⟨b,0,none⟩) n n)) w'):XO P ⟨d,.buildSlice t n parts.toArray,ty,ps,af,gd⟩ f w K:=by
 obtain⟨ie,J,T,E,_⟩:=Sl.info h;subst G;have U:=h.pos;have hm:0<parts.length*sz:=Nat.mul_pos H U;have V:Instr.fill (λi=>some (i*ie.size,ie.size)) ((Array.range (parts.length*ie.size)).map (z.cells[· % z.cells.size]!)) (parts.toArray.map λ(i,x)=>(i,ev f x)).toList=some us.flatten.toArray:=by
  rw[E];have:=qt (parts.map λx=>ev f x.2) us 0 [] ((Array.range (parts.length*sz)).map (z.cells[· % z.cells.size]!)).toList hc (by simp) (by simp);simp only[List.nil_append,Array.toArray_toList]at this;rw[←this,←zt f parts 0 hp];simp
 have Y:(execOp (ev f) ⟨d,.buildSlice t parts.length parts.toArray,ty,ps,af,gd⟩).run P w=.ok (.value (.slice (some ⟨w.heap.size,0,none⟩) parts.length parts.length)) (w.alloc (.cells us.flatten.toArray e)):=by
  have:=run_buildSlice (P:=P) w t e parts.length (parts.toArray.map λ(i,x)=>(i,ev f x)) us.flatten.toArray ie z h.u J T (by rw[E];omega) (by rw[E];omega) V;simp only[execOp,Sem.run_bind,this,Result.andThen_ok,Sem.run_pure]
 exact xv Y (I _ _ (Step.alloc w _) (Lu _) (J8 w _))
theorem zf {base t ty e:Nat}{sz bys:Nat}{z:Value}[h:Sl P t e sz bys z]{v:Value}{n:Nat}{cs:LV}(E:w.ownsRow base e sz v n cs)
  {a:Addr} {m c:Nat} {news:LV} (hl:news.length=m*sz) (J:∀j u,news[j]?=some u→w.cell? (a.add j)=some u) (h1:∀u∈news,u.oneCell'=true)
  (hb:n+m≤1099511627776) (hp:bys≤128) (ha:base≤w.heap.size):
  ∃v' w',(Builtin.append_ #[t,t] ty #[v,.slice (some a) m c]).run P w=.ok v' w'∧w'.ownsRow base e sz v' (n+m) (cs++news)∧Step (ob v) w w'∧(∀b∈ob v',b∈ob v∨w.heap.size≤b):=by
 obtain⟨i,hi,U,I,V⟩:=Sl.info h;have Y:(n+m)*bys≤140737488355328:=LJ (Nat.mul_le_mul hb hp) (by omega);have hc:n+m≤maxLen:=by simp only[maxLen];omega
 by_cases hg:∃g cap cur,v=.slice (some ⟨g,0,none⟩) n cap∧w.heap[g]?=some (.cells cur e (0,0))∧n+m≤cap
 ·obtain⟨v',w',G,ho,hq,_⟩:=run_append_own (P:=P) w base t ty e i z sz bys h.u hi U I V h.zs h.pos v n cs E a m c news hl J h1 hc Y ha;refine⟨v',w',G,ho,by rw[Qbp];exact Step.of_grown hq,?_⟩;obtain⟨g,cap,cur,rfl,he,hroom⟩:=hg;rcases E.2 with⟨h2,_⟩|⟨g2,cap2,hf,h2,h3,h4,h5,h6,h7,h8⟩
  ·cases h2
  cases h2
  have hs:n*i.size+news.length≤hf.size:=by rw[hl,h7,I,←Mh];exact Ms _ hroom
  have ht:=run_append_room (P:=P) w t ty e i h.u hi g n cap hf h4 a m c news (by rw[I];exact hl) J h1 hroom hs;rw[ht]at G;cases G
  intro b hb';exact .inl hb'
 have new:∀(old:Nat),old<n+m→∀H,H=(Obj.cells (cs.toArray++news.toArray++Builtin.zeroCells z.cells (grownCap w (n+m) old e - (n+m))) e) →
   (w.drew.alloc H).ownsRow base e sz (.slice (some ⟨w.heap.size,0,none⟩) (n+m) (grownCap w (n+m) old e)) (n+m) (cs++news):=by
  intro old ho H hu;subst hu;have hge:=grownCap_ge w (n+m) old e;have hh:grownCap w (n+m) old e≤maxLen:=grownCap_le_maxLen w (n+m) old e hc;have hj:(cs++news).length=(n+m)*sz:=by rw[Lj,E.1,hl,Mh]
  refine⟨hj,.inr ⟨w.heap.size,_,_,O,ha,J8 w.drew _,hge,hh,?_,?_⟩⟩
  ·simp only[Array.size_append,List.size_toArray,size_zeroCells,h.zs,E.1,hl,←Nat.add_mul];congr 1;omega
  simp only[Array.toList_append,List.append_assoc];rw[←LC,←hj];exact List.take_left
 have stp:∀H,Step (ob v) w (w.drew.alloc H):=λH=>⟨O,O,O,by rw[jk];exact Nat.le_succ _,λk hk _=>QbT w.drew H k hk⟩;have fin:∀(b:Nat),b∈ob (.slice (some ⟨w.heap.size,0,none⟩) (n+m) 0)→b∈ob v∨w.heap.size≤b:=λb hb'=>by simp[ob]at hb';omega
 rcases E.2 with⟨rfl,rfl⟩|⟨g,cap,cur,rfl,h0,he,h9,hh,hA,hB⟩
 ·have hx:cs=[]:=Lq (by simpa using E.1);subst hx;by_cases hm:m=0
  ·subst hm;have T:news=[]:=Lq (by simpa using hl);subst T;refine⟨nS,w,?_,QQ _ _ _ _,Step.refl _ _,λb hb'=>by simp[ob]at hb'⟩;simp[Builtin.append_,run_underlying h.u,sizeOf,typeInfo,hi,Builtin.lenOf,Builtin.firstCells,loadCells,loadCellsFrom]
  have G:=run_append_nil (P:=P) w t ty e i z h.u hi U a m c news (by rw[I];exact hl) J (by omega) (by omega) (by rw[V];have hv:=Y;simp only[Nat.zero_add]at hv;omega);have T:=new 0 (by omega) _ O;simp only[Nat.zero_add,List.nil_append,Array.empty_append]at T ⊢;exact⟨_,_,G,T,stp _,λb hb'=>fin b hb'⟩
 have hroom:cap<n+m:=by
  rcases Nat.lt_or_ge cap (n+m)with hw|hge
  ·exact hw
  exact absurd ⟨g,cap,cur,O,he,hge⟩ hg
 have hy:∀j u,cs[j]?=some u→w.cell? ((⟨g,0,none⟩:Addr).add j)=some u:=E.cells (g:=g) O;have G:=run_append_grow (P:=P) w t ty e i z h.u hi U ⟨g,0,none⟩ n cap cs (by rw[I];exact E.1) hy a m c news (by rw[I];exact hl) J hroom (by omega) (growslice_fits hroom (by rw[V];exact Y));exact⟨_,_,G,new cap hroom _ O,stp _,λb hb'=>fin b hb'⟩
theorem Q5 {t e sz bys:Nat}{z:Value}[h:Sl P t e sz bys z]{s y:Operand}{base:Nat}{v:Value}{n:Nat}{cs:LV}(E:w.ownsRow base e sz v n cs)(hs:ev f s=v)
  {a:Addr} {m c:Nat} {news:LV} (hy:ev f y=.slice (some a) m c) (hl:news.length=m*sz) {L:LN} (G:At L w.heap a news) (h1:∀u∈news,u.oneCell'=true)
  (hb:n+m≤1099511627776) (H:base≤w.heap.size)
  (I:∀v' w',w'.ownsRow base e sz v' (n+m) (cs++news)→Step (ob v) w w'→(∀b∈ob v',b∈ob v∨w.heap.size≤b)→K (QY f d v') w') (J:bys≤128:=by decide):
  XO P ⟨d,.call ⟨.builtin .append,#[s,y],#[t,t]⟩,ty,ps,af,gd⟩ f w K:=by
 obtain⟨v',w',T,h2,h3,h4⟩:=zf (P:=P) (t:=t) (ty:=ty) E hl G.cells h1 hb J H (c:=c);have U:(execOp (ev f) ⟨d,.call ⟨.builtin .append,#[s,y],#[t,t]⟩,ty,ps,af,gd⟩).run P w=.ok (.value v') w':=by
  simp[execOp,resolve,invoke,builtin,hs,hy,T]
 exact xv U (I v' w' h2 h3 h4)
end
def Qk4 (P:Program)(t:Nat):Option (LV×LN):=match P.info? t,P.underlying t with
 | some it,some (.struct fs)=>match it.zero,fs.toList.mapM (λf=>(P.info? f.type).bind λi=>if i.size=1 then some f.offset else none)with
  | some (.agg zs),some offs=>some (zs.toList,offs)
  | _,_=>none
 | some it,some (.array n e)=>match it.zero,P.info? e with
  | some (.agg zs),some ie=>if ie.size=1 then some (zs.toList,List.range n)else none
  | _,_=>none
 | _,_=>none
class Bs (P:Program)(t:Nat)(zs:outParam (LV))(offs:outParam (LN)):Prop where
 h:Qk4 P t=some (zs,offs)
 b:offs.all (·<zs.length)=true
def bld (offs:LN)(zs:LV):List (Nat×Value)→LV
 | []=>zs
 | (j,v)::ps=>bld offs (zs.set (offs.getD j 0) v) ps
def Qjq:LV→Prop
 | []=>True
 | v::vs=>v.cells=[v].toArray∧Qjq vs
theorem qq {place:Nat→Option (Nat×Nat)}{offs:LN}(hp:∀j,j<offs.length→place j=some (offs.getD j 0,1)):∀(ps:List (Nat×Value)) (zs:LV),Qjq (ps.map (·.2))→ps.all (λp=>p.1<offs.length)=true →
  (∀o∈offs,o<zs.length)→Instr.fill place zs.toArray ps=some (bld offs zs ps).toArray
 | [],zs,_,_,_=>rfl
 | (j,v)::ps,zs,h1,h2,h3=>by
  simp only[List.all_cons,Bool.and_eq_true,decide_eq_true_eq]at h2;have hj:=hp j h2.1;have G:offs.getD j 0<zs.length:=h3 _ (by simp[List.getD,List.getElem?_eq_getElem h2.1]);unfold Instr.fill;simp only[hj];have hc:v.cells=#[v]:=h1.1;simp only[hc]
  rw[if_neg (by rw[show(#[v]:Array Value).size=1 from rfl,L6];simp only[ne_eq,not_true,decide_false,Bool.false_or,decide_eq_true_eq];omega)];have:(#[v]:Array Value).zipIdx.foldl (λcs (x:Value×Nat)=>cs.setIfInBounds (offs.getD j 0+x.2) x.1) zs.toArray=(zs.set (offs.getD j 0) v).toArray:=by
   simp[Array.zipIdx]
  rw[this];exact qq hp ps _ h1.2 h2.2 (λo E=>by rw[ML];exact h3 o E)
theorem QbS {P:Program}{t:Nat}{zs:LV}{offs:LN}(h:Qk4 P t=some (zs,offs))(hb:offs.all (·<zs.length)=true)(ps:List (Nat×Value))(h1:Qjq (ps.map (·.2)))(h2:ps.all (λp=>p.1<offs.length)=true):
  P.built t ps=some (bld offs zs ps).toArray:=by
 have h3:∀o∈offs,o<zs.length:=λo I=>by simpa using LW.1 hb o I
 unfold Qk4 at h;unfold Program.built;cases hi:P.info? t with
 | none=>simp[hi]at h
 | some it =>
  cases hu:P.underlying t with
  | none=>simp[hi,hu]at h
  | some dd =>
   simp only[hi,hu]at h;cases dd <;> simp only[]at h <;> try (cases h)
   case struct fs =>
    cases E:it.zero with
    | none=>simp[E]at h
    | some z =>
     cases z <;> simp only[E]at h <;> try (cases h)
     rename_i za;cases hm:fs.toList.mapM (λf=>(P.info? f.type).bind λi=>if i.size=1 then some f.offset else none)with
     | none=>simp[hm]at h
     | some offs' =>
      simp only[hm,Option.some.injEq,Prod.mk.injEq]at h;obtain⟨rfl,rfl⟩:=h;have key:∀(l:List Field) (offs:LN),l.mapM (λf=>(P.info? f.type).bind λi=>if i.size=1 then some f.offset else none)=some offs →
        l.mapM (λf=>(P.info? f.type).map λi=>(f.offset,i.size))=some (offs.map λo=>(o,1)):=by
       intro l;induction l with
       | nil=>intro offs h;simp at h;subst h;rfl
       | cons f l ih =>
        intro offs h;simp only[List.mapM_cons]at h ⊢;cases G:P.info? f.type with
        | none=>simp[G]at h
        | some i =>
         by_cases hs:i.size=1
         ·simp only[G,Option.bind_some,hs,if_true,Option.bind_eq_bind]at h;cases hl:l.mapM (λf=>(P.info? f.type).bind λi=>if i.size=1 then some f.offset else none)with
          | none=>simp[hl]at h
          | some os =>
           simp[hl]at h;subst h;simp[ih os hl,hs]
         simp[G,hs]at h
      have J:=key _ _ hm;simp only[E,J,Value.cells];rw[←qq (place:=λj=>((offs'.map λo=>(o,1)).toArray)[j]?) (λj hj=>by simp[List.getElem?_eq_getElem hj,List.getD]) ps za.toList h1 h2 h3]
   case array n e =>
    cases E:it.zero with
    | none=>simp[E]at h
    | some z =>
     cases z <;> simp only[E]at h <;> try (cases h)
     rename_i za;cases H:P.info? e with
     | none=>simp[H]at h
     | some ie =>
      simp only[H]at h;split at h
      ·rename_i hs;simp only[Option.some.injEq,Prod.mk.injEq]at h;obtain⟨rfl,rfl⟩:=h;simp only[E,H,Value.cells];rw[←qq (place:=λi=>some (i*ie.size,ie.size)) (λj hj=>by simp at hj;simp[hs,List.getD,hj]) ps za.toList h1 h2 h3]
      cases h
theorem QK {P:Program}{f:Fr}{w:World}{d:Option Nat}{ty:Nat}{ps:String}{af:Array Edge}{gd:Option (Nat×Bool)}{t:Nat}{zs:LV}{offs:LN}[h:Bs P t zs offs]{parts:List (Nat×Operand)}
  (h1:Qjq (parts.map λx=>ev f x.2)) (h2:parts.all (λp=>p.1<offs.length)=true:=by rfl):
  (execOp (ev f) ⟨d,.build t parts.toArray,ty,ps,af,gd⟩).run P w=.ok (.value (.agg (bld offs zs (parts.map λx=>(x.1,ev f x.2))).toArray)) w:=by
 have hb:=QbS h.h h.b (parts.map λx=>(x.1,ev f x.2)) (by rw[MD];exact h1) (by rw[List.all_map];exact h2);have E:=run_build (P:=P) w t (parts.toArray.map λ(i,x)=>(i,ev f x)) _ (by simpa using hb);simp only[execOp,Sem.run_bind,E,Result.andThen_ok,Sem.run_pure]
section
variable {κ:Type}[DecidableEq κ]
def mget:List (κ×Value)→κ→Option Value
 | [],_=>none
 | (k',v)::m,k=>if k'=k then some v else mget m k
def mput:List (κ×Value)→κ→Value→List (κ×Value)
 | [],k,v=>[(k,v)]
 | (k',v')::m,k,v=>if k'=k then(k',v)::m else(k',v')::mput m k v
theorem Jo (m:List (κ×Value))(k k':κ)(v:Value):mget (mput m k v) k'=if k=k' then some v else mget m k':=by
 induction m with
 | nil=>simp[mget,mput]
 | cons p m ih =>
  obtain⟨q,u⟩:=p;simp only[mput];by_cases h:q=k
  ·subst h;simp[mget];by_cases h2:q=k' <;> simp[h2]
  simp only[h,if_false,mget,ih];by_cases h2:q=k'
  ·subst h2;simp[Ne.symm h]
  simp[h2]
def fnd (k:κ):List κ→List MapEntry→Nat→Option (Nat×Value)
 | q::ks,e::es,i=>if k=q then some (i,e.val)else fnd k ks es (i+1)
 | _,_,_=>none
end
class Key (P:Program)(kt:Nat){κ:Type}[DecidableEq κ](enc:κ→Value):Prop where
 check:∀(w:World) (em:Bool) (k:κ),(Instr.checkKey em 10000 kt (enc k)).run P w=.ok () w
 find:∀(w:World) (k:κ) (ks:List κ) (es:List MapEntry),es.map (·.key)=ks.map enc→(Instr.findKey kt (enc k) es).run P w=.ok (fnd k ks es 0) w
 same:∀k,Instr.sameBits 10000 (enc k) (enc k)=true
abbrev Jc (n:Int):Value:=.int .i64 n
abbrev ZQ (p:Int×Int):Value:=.agg #[.int .i64 p.1,.int .i64 p.2]
abbrev XI (s:ByteArray):Value:=.string s
theorem Qin {P:Program}{kt:Nat}(hu:P.underlying kt=some (.int .i64)):Key P kt Jc:=by
 refine⟨λw em k=>?_,λw k ks es h=>?_,λk=>by simp[Instr.sameBits]⟩
 ·have hck:∀n,(Instr.checkKey em (n+1) kt (Jc k)).run P w=.ok () w:=λn=>by simp[Instr.checkKey,run_underlying hu]
  exact hck 9999
 have key:∀(ks:LI) (es:List MapEntry) (i:Nat),es.map (·.key)=ks.map Jc→Instr.findNow (.int .i64) (Jc k) es i=some (fnd k ks es i):=by
  intro ks;induction ks with
  | nil=>intro es i h;simp at h;subst h;rfl
  | cons q ks ih =>
   intro es i h;cases es with
   | nil=>simp at h
   | cons e es =>
    simp only[List.map_cons,List.cons.injEq]at h;have E:=ih es (i+1) h.2;simp only[Instr.findNow,h.1,Instr.sameNow,Jc,if_true,fnd];by_cases hq:k=q
    ·subst hq;simp
    have:(k == q)=false:=by simpa using hq
    simp[hq,this,E]
 simp[Instr.findKey,run_underlying hu,key ks es 0 h]
theorem Qim {P:Program}{kt:Nat}(hu:P.underlying kt=some .string):Key P kt XI:=by
 refine⟨λw em k=>?_,λw k ks es h=>?_,λk=>by simp[Instr.sameBits,(MapKept.bytes_beq k k).2 rfl]⟩
 ·have hck:∀n,(Instr.checkKey em (n+1) kt (XI k)).run P w=.ok () w:=λn=>by simp[Instr.checkKey,run_underlying hu]
  exact hck 9999
 have key:∀(ks:List ByteArray) (es:List MapEntry) (i:Nat),es.map (·.key)=ks.map XI→Instr.findNow .string (XI k) es i=some (fnd k ks es i):=by
  intro ks;induction ks with
  | nil=>intro es i h;simp at h;subst h;rfl
  | cons q ks ih =>
   intro es i h;cases es with
   | nil=>simp at h
   | cons e es =>
    simp only[List.map_cons,List.cons.injEq]at h;have E:=ih es (i+1) h.2;simp only[Instr.findNow,h.1,Instr.sameNow,XI,fnd];by_cases hq:k=q
    ·subst hq;simp[(MapKept.bytes_beq k k).2 rfl]
    have:(k == q)=false:=by
     cases hb:(k == q)with
     | false=>rfl
     | true=>exact absurd ((MapKept.bytes_beq k q).1 hb) hq
    simp[hq,this,E]
 simp[Instr.findKey,run_underlying hu,key ks es 0 h]
theorem UR {P:Program}{kt e:Nat}(hu:P.underlying kt=some (.array 2 e))(he:P.underlying e=some (.int .i64))(hs:(P.info? e).map (·.size)=some 1)(w:World)(p q:Int×Int):
  (Op.equal kt (ZQ p) (ZQ q)).run P w=.ok (decide (p=q)) w:=by
 obtain⟨a,b⟩:=p;obtain⟨c,d⟩:=q;cases hi:P.info? e with
 | none=>simp[hi]at hs
 | some ie =>
  simp[hi]at hs;have G:∀w,(isAgg e).run P w=.ok false w:=λw=>by simp[isAgg,run_underlying he]
  have hp:∀(x y:Int) (w:World),(part e #[.int .i64 x,.int .i64 y] 0).run P w=.ok (.int .i64 x) w:=λx y w=>by simp[part,G]
  have H:∀(x y:Int) (w:World),(part e #[.int .i64 x,.int .i64 y] 1).run P w=.ok (.int .i64 y) w:=λx y w=>by simp[part,G]
  have E:∀(m:Nat) (x y:Int) (w:World),(Op.equalIn (m+1) e (.int .i64 x) (.int .i64 y)).run P w=.ok (x == y) w:=λm x y w=>by simp[Op.equalIn,run_underlying he]
  simp only[Op.equal,Op.maxDepth,ZQ];unfold Op.equalIn;simp only[Sem.run_bind,run_underlying hu,Result.andThen_ok,sizeOf,typeInfo,run_program,hi,Sem.run_pure,hs];simp only[Std.Legacy.Range.forIn_eq_forIn_range',Std.Legacy.Range.size,Nat.sub_zero,Nat.add_sub_cancel,Nat.div_one,List.range'_succ,List.range'_zero,List.forIn_cons,List.forIn_nil,Nat.zero_mul,Nat.one_mul,Nat.zero_add];by_cases h1:a=c
  ·subst h1;by_cases h2:b=d
   ·subst h2;simp[hp,H,E]
   simp[hp,H,E,h2]
  simp[hp,E,h1]
theorem Qae {P:Program}{kt e:Nat}(hu:P.underlying kt=some (.array 2 e))(he:P.underlying e=some (.int .i64))(hs:(P.info? e).map (·.size)=some 1):Key P kt ZQ:=by
 refine⟨λw em k=>?_,λw k ks es h=>?_,λk=>?_⟩
 ·obtain⟨a,b⟩:=k;cases hi:P.info? e with
  | none=>simp[hi]at hs
  | some ie =>
   simp[hi]at hs;have E:∀w,(isAgg e).run P w=.ok false w:=λw=>by simp[isAgg,run_underlying he]
   have hp:∀(x y:Int) (w:World),(part e #[.int .i64 x,.int .i64 y] 0).run P w=.ok (.int .i64 x) w:=λx y w=>by simp[part,E]
   have G:∀(x y:Int) (w:World),(part e #[.int .i64 x,.int .i64 y] 1).run P w=.ok (.int .i64 y) w:=λx y w=>by simp[part,E]
   have hck:∀(m:Nat) (x:Int) (w:World),(Instr.checkKey em (m+1) e (.int .i64 x)).run P w=.ok () w:=λm x w=>by simp[Instr.checkKey,run_underlying he]
   simp only[ZQ];unfold Instr.checkKey;simp only[Sem.run_bind,run_underlying hu,Result.andThen_ok,sizeOf,typeInfo];simp[Std.Legacy.Range.forIn_eq_forIn_range',Std.Legacy.Range.size,List.range'_succ,hi,hs,hp,G,hck]
 ·have H:∀es i,es.map (·.key)=ks.map ZQ→Instr.findNow (.array 2 e) (ZQ k) es i=none∨es=[]:=by
   intro es i h;cases es with
   | nil=>exact .inr O
   | cons e es=>left;simp[Instr.findNow,Instr.sameNow]
  have ask:∀(ks:List (Int×Int)) (es:List MapEntry) (i:Nat),es.map (·.key)=ks.map ZQ→(Instr.findAsking kt (ZQ k) es i).run P w=.ok (fnd k ks es i) w:=by
   intro ks;induction ks with
   | nil=>intro es i h;simp at h;subst h;simp[Instr.findAsking,fnd]
   | cons q ks ih =>
    intro es i h;cases es with
    | nil=>simp at h
    | cons e es =>
     simp only[List.map_cons,List.cons.injEq]at h;have I:=ih es (i+1) h.2;simp only[Instr.findAsking,h.1,Sem.run_bind,UR hu he hs,Result.andThen_ok,fnd];by_cases hq:k=q
     ·subst hq;simp
     simp[hq,I]
  rcases H es 0 h with h1|h1
  ·simp[Instr.findKey,run_underlying hu,h1,ask ks es 0 h]
  subst h1;have:ks=[]:=by simpa using h.symm
  subst this;simp[Instr.findKey,run_underlying hu,Instr.findNow,fnd]
 simp[Instr.sameBits]
class Mp (P:Program)(t:Nat)(kt et:outParam Nat)(z:outParam Value):Prop where
 u:P.underlying t=some (.map kt et)
 z:(P.info? et).map (·.zero)=some (some z)
def ZG {κ:Type}(enc:κ→Value)(H:Array Obj)(b:Nat)(m:List (κ×Value)):Prop :=
 ∃es clock,H[b]?=some (.map es clock)∧es.toList.map (λe=>(e.key,e.val))=m.map (λp=>(enc p.1,p.2))
section
variable {κ:Type}{enc:κ→Value}
theorem ZG.lt {H:Array Obj}{b:Nat}{m:List (κ×Value)}(h:ZG enc H b m):b<H.size:=by
 obtain⟨es,c,h1,_⟩:=h;exact(LB.1 h1).1
theorem ZG.step {X:LN}{w w':World}{b:Nat}{m:List (κ×Value)}(h:ZG enc w.heap b m)(hs:Step X w w')(hb:b∉X):ZG enc w'.heap b m:=by
 have hl:=h.lt;obtain⟨es,c,h1,h2⟩:=h;exact⟨es,c,by rw[hs.block b hl hb];exact h1,h2⟩
theorem ZG.ext {w w':World}{b:Nat}{m:List (κ×Value)}(h:ZG enc w.heap b m)(hs:Step [] w w'):ZG enc w'.heap b m:=h.step hs (by simp)
theorem yW {m:List (κ×Value)}{es:List MapEntry}(h:es.map (λe=>(e.key,e.val))=m.map (λp=>(enc p.1,p.2))):es.map (·.key)=(m.map (·.1)).map enc:=by
 have:=congrArg (List.map Prod.fst) h;simp only[List.map_map]at this ⊢;exact this
variable [DecidableEq κ]
theorem Vw {k:κ}:∀{m:List (κ×Value)}{es:List MapEntry}{i:Nat},es.map (λe=>(e.key,e.val))=m.map (λp=>(enc p.1,p.2))→mget m k=none→fnd k (m.map (·.1)) es i=none
 | [],es,i,h,_=>by simp[fnd]
 | (q,u)::m,[],i,h,_=>by simp at h
 | (q,u)::m,e::es,i,h,hm=>by
  simp only[List.map_cons,List.cons.injEq]at h;simp only[mget]at hm;by_cases hq:q=k
  ·simp[hq]at hm
  simp only[hq,if_false]at hm;simp only[List.map_cons,fnd,Ne.symm hq,if_false];exact Vw h.2 hm
theorem Vv {k:κ}{u:Value}:∀{m:List (κ×Value)}{es:List MapEntry}{i:Nat},es.map (λe=>(e.key,e.val))=m.map (λp=>(enc p.1,p.2))→mget m k=some u →
  ∃j,fnd k (m.map (·.1)) es i=some (i+j,u)∧j<es.length∧(∃e,es[j]?=some e∧e.key=enc k) ∧
   ∀v,(es.modify j λe=>{ e with key:=enc k,val:=v }).map (λe=>(e.key,e.val))=(mput m k v).map (λp=>(enc p.1,p.2))
 | [],es,i,_,h=>by simp[mget]at h
 | (q,x)::m,[],i,h,_=>by simp at h
 | (q,x)::m,e::es,i,h,hm=>by
  simp only[List.map_cons,List.cons.injEq,Prod.mk.injEq]at h;simp only[mget]at hm;by_cases hq:q=k
  ·subst hq;simp at hm;subst hm;refine⟨0,by simp[fnd,h.1.2],by simp,⟨e,rfl,h.1.1⟩,λv=>?_⟩;simp[mput,h.2]
  simp only[hq,if_false]at hm;obtain⟨j,h1,h2,⟨E,h3,G⟩,h4⟩:=Vv (i:=i+1) h.2 hm;refine⟨j+1,?_,by simp;omega,⟨E,by simpa using h3,G⟩,λv=>?_⟩
  ·simp only[List.map_cons,fnd,Ne.symm hq,if_false,h1];congr 2;omega
  simp only[mput,hq,if_false,List.modify_succ_cons,List.map_cons,h4 v,h.1]
end
section
variable {P:Program}{K:Fr→World→Prop}{f:Fr}{w:World}{d:Option Nat}{ty:Nat}{ps:String}{af:Array Edge}{gd:Option (Nat×Bool)}{κ:Type}[DecidableEq κ]
omit [DecidableEq κ] in
theorem ZV {t:Nat}(enc:κ→Value)
  (E:∀b w',Step [] w w'→w.heap.size≤b→ZG enc w'.heap b []→K (QY f d (.map (some b))) w'):XO P ⟨d,.makeMap t none,ty,ps,af,gd⟩ f w K:=by
 have G:(execOp (ev f) ⟨d,.makeMap t none,ty,ps,af,gd⟩).run P w=.ok (.value (.map (some w.heap.size))) (w.alloc (.map #[] 0)):=by
  simp[execOp,Instr.makeMap]
 exact xv G (E _ _ (Step.alloc w _) (Lu _) ⟨#[],0,J8 w _,O⟩)
theorem Y3 {b:Nat}{es:Array MapEntry}{c:Nat}(h:w.heap[b]?=some (.map es c)):(getObj b).run P w=.ok (.map es c) w:=by
 simp[getObj,Sem.run,h]
theorem KB {b:Nat}{es E:Array MapEntry}{c G:Nat}(h:w.heap[b]?=some (.map es c)):(setObj b (.map E G)).run P w=.ok () { w with heap:=w.heap.setIfInBounds b (.map E G) }:=by
 simp[setObj,Sem.run,h]
theorem J0 {t kt et:Nat}{z:Value}[hm:Mp P t kt et z]{enc:κ→Value}[hk:Key P kt enc]{x y:Operand}{b:Nat}{m:List (κ×Value)}{k:κ}(h:ZG enc w.heap b m)(hx:ev f x=.map (some b))(hy:ev f y=enc k):
  (execOp (ev f) ⟨d,.lookup t x y true,ty,ps,af,gd⟩).run P w=.ok (.value (match mget m k with|some u=>.tuple #[u,.bool true]|none=>.tuple #[z,.bool false])) w:=by
 obtain⟨es,c,h1,h2⟩:=h;have G:=hk.find w k (m.map (·.1)) es.toList (yW h2);have H:(zeroValue et).run P w=.ok z w:=by
  have:=hm.z;cases hi:P.info? et with
  | none=>simp[hi]at this
  | some i=>simp[hi]at this;simp[zeroValue,typeInfo,hi,this]
 simp only[execOp,Sem.run_bind,Instr.lookup,run_underlying hm.u,Result.andThen_ok,hx,hy,Y3 h1,Sem.run_pure,hk.check,G];cases E:mget m k with
 | none=>rw[Vw h2 E];simp[H]
 | some u =>
  obtain⟨j,hj,_⟩:=Vv (i:=0) h2 E;rw[hj];simp
theorem Ji {t kt et:Nat}{z:Value}[hm:Mp P t kt et z]{enc:κ→Value}[hk:Key P kt enc]{x y:Operand}{b:Nat}{m:List (κ×Value)}{k:κ}(h:ZG enc w.heap b m)(hx:ev f x=.map (some b))(hy:ev f y=enc k):
  (execOp (ev f) ⟨d,.lookup t x y false,ty,ps,af,gd⟩).run P w=.ok (.value (match mget m k with|some u=>u|none=>z)) w:=by
 obtain⟨es,c,h1,h2⟩:=h;have G:=hk.find w k (m.map (·.1)) es.toList (yW h2);have H:(zeroValue et).run P w=.ok z w:=by
  have:=hm.z;cases hi:P.info? et with
  | none=>simp[hi]at this
  | some i=>simp[hi]at this;simp[zeroValue,typeInfo,hi,this]
 simp only[execOp,Sem.run_bind,Instr.lookup,run_underlying hm.u,Result.andThen_ok,hx,hy,Y3 h1,Sem.run_pure,hk.check,G];cases E:mget m k with
 | none=>rw[Vw h2 E];simp[H]
 | some u =>
  obtain⟨j,hj,_⟩:=Vv (i:=0) h2 E;rw[hj];simp
theorem UQ {t kt et:Nat}{z:Value}[hm:Mp P t kt et z]{enc:κ→Value}[hk:Key P kt enc]{b:Nat}{m:List (κ×Value)}{k:κ}{u:Value}(h:ZG enc w.heap b m):
  ∃w',(Instr.mapUpdate t (.map (some b)) (enc k) u).run P w=.ok () w'∧Step [b] w w'∧ZG enc w'.heap b (mput m k u):=by
 have hl:=h.lt;obtain⟨es,c,h1,h2⟩:=h;have E:=hk.find w k (m.map (·.1)) es.toList (yW h2);have stp:∀H I,Step [b] w { w with heap:=w.heap.setIfInBounds b (.map H I) }:=λH I =>
  ⟨rfl,rfl,rfl,by simp,λi hi J=>by
   have:b≠i:=λe=>J (by simp[e]);simp[Array.getElem?_setIfInBounds_ne this]⟩
 cases G:mget m k with
 | none =>
  rw[Vw h2 G]at E;refine⟨_,?_,stp (es.push { key:=enc k,val:=u,born:=c }) (c+1),es.push { key:=enc k,val:=u,born:=c },c+1,?_,?_⟩
  ·simp only[Instr.mapUpdate,Sem.run_bind,run_underlying hm.u,Result.andThen_ok,Y3 h1,hk.check,E,KB h1]
  ·simp[hl]
  have T:mput m k u=m++[(k,u)]:=by
   clear h2 E;induction m with
   | nil=>rfl
   | cons p m ih =>
    obtain⟨q,x⟩:=p;by_cases hq:q=k
    ·simp[mget,hq]at G
    simp only[mget,hq,if_false]at G;simp[mput,hq,ih G]
  simp[T,h2]
 | some u0 =>
  obtain⟨j,hj,hb,⟨e,he,U⟩,V⟩:=Vv (i:=0) h2 G;rw[hj]at E;simp only[Nat.zero_add]at E;have Y:∀w,(Instr.keyThatStays (enc k) (enc k)).run P w=.ok (enc k) w:=λw=>by simp[Instr.keyThatStays,hk.same]
  have ha:((es[j]?).map (·.key)).getD (enc k)=enc k:=by
   have:es[j]?=some e:=by simpa using he
   simp[this,U]
  refine⟨_,?_,stp (es.modify j λe=>{ e with key:=enc k,val:=u }) c,es.modify j λe=>{ e with key:=enc k,val:=u },c,?_,?_⟩
  ·simp only[Instr.mapUpdate,Sem.run_bind,run_underlying hm.u,Result.andThen_ok,Y3 h1,hk.check,E,ha,Y,KB h1]
  ·simp[hl]
  rw[Array.toList_modify];exact V u
theorem Yw {t kt et:Nat}{z:Value}[hm:Mp P t kt et z]{enc:κ→Value}[hk:Key P kt enc]{x y v:Operand}{b:Nat}{m:List (κ×Value)}{k:κ}(h:ZG enc w.heap b m)(hx:ev f x=.map (some b))(hy:ev f y=enc k)
  (E:∀w',Step [b] w w'→ZG enc w'.heap b (mput m k (ev f v))→K (QY f d undef) w'):XO P ⟨d,.mapUpdate t x y v,ty,ps,af,gd⟩ f w K:=by
 obtain⟨w',h1,h2,h3⟩:=UQ (P:=P) (t:=t) (k:=k) (u:=ev f v) h;exact xk (w':=w') (by simp[execOp,hx,hy,h1]) (E w' h2 h3)
theorem Yb {t kt et:Nat}{z:Value}[hm:Mp P t kt et z]{enc:κ→Value}[hk:Key P kt enc]{x y v:Operand}{b:Nat}{m:List (κ×Value)}{k:κ}(h:ZG enc w.heap b m)(hx:ev f x=.map (some b))(hy:ev f y=enc k)
  (E:∀w',Step [b] w w'→ZG enc w'.heap b (mput m k (ev f v))→K (QY f d undef) w'):XO P ⟨d,.insert t x y v,ty,ps,af,gd⟩ f w K:=by
 obtain⟨w',h1,h2,h3⟩:=UQ (P:=P) (t:=t) (k:=k) (u:=ev f v) h;exact xk (w':=w') (by simp[execOp,hx,hy,h1]) (E w' h2 h3)
end
section
variable {P:Program}{ops:List Oper}{K:Fr→World→Prop}{f:Fr}{w:World}{d:Option Nat}{ty:Nat}{ps:String}{af:Array Edge}{gd:Option (Nat×Bool)}{l:List Oper}
theorem JA {b T:Nat}{cs E:LV}(h:QS w.heap b T cs):QS (w.setRow b E.toArray).heap b T E:=setRow_heap w b cs.toArray E.toArray T (0,0) h
theorem ze (cs:LV)(j:Nat)(u:Value)(h:j<cs.length):cs.take j++[u]++cs.drop (j+1)=cs.set j u:=by
 rw[List.set_eq_take_append_cons_drop,if_pos h];simp
theorem QC {t:Nat}[h1:Xj P t]{x y:Operand}{b T j:Nat}{cs:LV}{u:Value}(E:QS w.heap b T cs)(hx:ev f x=.pointer (some ⟨b,j,none⟩))(hy:ev f y=u)(hj:j<cs.length)(hu:u.oneCell'=true)
  (I:∀w',Step [b] w w'→QS w'.heap b T (cs.set j u)→K (QY f d undef) w'):XO P ⟨d,.store t x y,ty,ps,af,gd⟩ f w K:=by
 have hc:u.cells=#[u]:=by cases u <;> first|rfl|cases hu
 have G:=run_storeCells_at P b j T [u] 0 cs.toArray w E (by simp;omega) (by simp[hu]);simp only[Nat.add_zero,List.length_singleton,ze cs j u hj]at G;refine xk (w':=w.setRow b (cs.set j u).toArray) ?_ (I _ (Step.setRow _ _ _) (JA E));simp[execOp,hx,hy,Instr.storeAt,Instr.sureAddr,storeVar,UN,hc,G]
def ZF:LV→Prop
 | []=>True
 | u::us=>u.oneCell'=true∧ZF us
theorem ZF.all:∀{us:LV},ZF us→∀u∈us,u.oneCell'=true
 | [],_,u,hu=>by cases hu
 | v::us,h,u,hu=>by
  rcases Lc.1 hu with rfl|hu
  ·exact h.1
  exact ZF.all h.2 u hu
theorem Qm {t sz:Nat}[h1:Ag P t sz]{x y:Operand}{b T:Nat}{cs us:LV}(E:QS w.heap b T cs)(hx:ev f x=.pointer (some ⟨b,0,none⟩))(hy:ev f y=.agg us.toArray)(hl:us.length=sz)(hj:cs.length=sz)(hu:ZF us)
  (I:∀w',Step [b] w w'→QS w'.heap b T us→K (QY f d undef) w'):XO P ⟨d,.store t x y,ty,ps,af,gd⟩ f w K:=by
 have G:=run_storeCells_at P b 0 T us 0 cs.toArray w E (by simp;omega) hu.all;have e:(cs.take 0++us++cs.drop us.length)=us:=by rw[hl,←hj];simp
 simp only[Nat.add_zero,Nat.zero_add,e]at G;refine xk (w':=w.setRow b us.toArray) ?_ (I _ (Step.setRow _ _ _) (JA E));subst hl;simp[execOp,hx,hy,Instr.storeAt,Instr.sureAddr,storeVar,VO (sz:=us.length),Value.cells,G]
theorem QR {x y:Operand}{t e sz bys:Nat}{z:Value}[h:Sl P t e sz bys z]{b o n c:Nat}{k:IntKind}{i:Nat}(hx:ev f x=.slice (some ⟨b,o,none⟩) n c)(hy:ev f y=.int k i)(h1:i<n):
  (execOp (ev f) ⟨d,.indexAddr t x y,ty,ps,af,gd⟩).run P w=.ok (.value (.pointer (some ⟨b,o+i*sz,none⟩))) w:=by
 have:=X6 (P:=P) (w:=w) (d:=d) (ty:=ty) (ps:=ps) (af:=af) (gd:=gd) (t:=t) hx hy (by omega) (by omega);rw[Yk]at this;simpa using this
theorem Xh {t e sz bys:Nat}{z:Value}[h:Sl P t e sz bys z]{x y:Operand}{k k':IntKind}{n:Nat}(hx:ev f x=.int k n)(hy:ev f y=.int k' n)(I:n≤1099511627776)
  (J:∀b w',Step [] w w'→w.heap.size≤b→QS w'.heap b e (List.replicate n z.cells.toList).flatten→K (QY f d (.slice (some ⟨b,0,none⟩) n n)) w') (T:bys≤128:=by decide):
  XO P ⟨d,.makeSlice t x y,ty,ps,af,gd⟩ f w K:=by
 obtain⟨i,hi,U,V,Y⟩:=Sl.info h;have hb:i.bytes*n≤281474976710656:=by
  rw[Y];exact LJ (Nat.mul_le_mul T I) (by omega)
 have hb':(i.bytes:Int)*(n:Int)≤281474976710656:=by
  have h:((i.bytes*n:Nat):Int)≤281474976710656:=by omega
  rwa [Int.natCast_mul]at h
 have E:=run_make (P:=P) w t e i z h.u hi U k k' n n (by omega) (Na _) hb' (by omega);simp only[Int.toNat_natCast]at E;have ha:madeCells z.cells (n*i.size)=(List.replicate n z.cells.toList).flatten.toArray:=by
  have hc:z.cells.size=i.size:=by rw[h.zs,V]
  apply Array.ext';apply List.ext_getElem?;intro j;simp only[madeCells,←hc,Array.toList_map,Array.toList_range,List.getElem?_map];have he:∀n,(List.replicate n z.cells.toList).flatten.length=n*z.cells.size:=λn=>by simp
  have key:∀n j,j<n*z.cells.size→(List.replicate n z.cells.toList).flatten[j]?=some z.cells[j % z.cells.size]!:=by
   intro n;induction n with
   | zero=>intro j hj;omega
   | succ n ih =>
    intro j hj;rw[List.replicate_succ,List.flatten_cons];by_cases G:j<z.cells.size
    ·rw[Mb (by simpa using G),Ml G];simp[G]
    rw[Mq (by simp;omega)];have:=ih (j - z.cells.size) (by rw[Mh]at hj;omega);rw[Nn,this];rw[←Nat.mod_eq_sub_mod (by omega)]
  by_cases hj:j<n*z.cells.size
  ·rw[key n j hj];simp[hj]
  rw[Nh (by simpa using Nat.le_of_not_lt hj),List.getElem?_eq_none (by rw[he];omega)];rfl
 rw[ha]at E;refine xv (w':=w.alloc (.cells (List.replicate n z.cells.toList).flatten.toArray e)) (v:=.slice (some ⟨w.heap.size,0,none⟩) n n) ?_ (J _ _ (Step.alloc w _) (Lu _) (J8 w _));simp[execOp,hx,hy,E]
theorem ZO {k:IntKind}{i y:Nat}{c:BoundsCode}(h:i≤y):(Instr.sliceBound (.int k i) y c).run P w=.ok i w:=by
 simp[Instr.sliceBound,asIntOf,h]
theorem Zv.cut {L:LN}{H:Array Obj}{a:Addr}{n cap sz:Nat}{cs:LV}(h:Zv L H (.slice (some a) n cap) n sz cs){lo hi:Nat}(h1:lo≤hi)(h2:hi≤n):
  Zv L H (.slice (if cap=lo then some a else some (a.add (lo*sz))) (hi - lo) (cap - lo)) (hi - lo) sz ((cs.drop (lo*sz)).take ((hi - lo)*sz)):=by
 obtain⟨h3,h4,h5⟩:=h;rcases h5 with⟨E,_⟩|⟨a',cap',E,I,G⟩
 ·cases E
 cases E
 refine⟨?_,by omega,.inr ?_⟩
 ·simp only[List.length_take,List.length_drop,h3,←Nat.sub_mul];rw[MN];exact Ms _ (by omega)
 split
 ·rename_i hc;have:hi - lo=0:=by omega
  refine⟨a,cap - lo,by rw[this],by omega,λu hu=>?_,λu hu=>?_,λj u hu=>?_⟩
  ·simp[this]at hu
  ·simp[this]at hu
  simp[this]at hu
 refine⟨a.add (lo*sz),cap - lo,O,by omega,λu hu=>by rw[Z5];exact G.out u (Mz (LO hu)),λu hu=>by rw[Z5];exact G.lt u (Mz (LO hu)),λj u hu=>?_⟩;rw[Addr.add_add];rw[LX]at hu;split at hu
 ·exact G.cell _ u (by simpa using hu)
 cases hu
theorem Qcq {t e sz bys:Nat}{z:Value}[h:Sl P t e sz bys z]{x y1 y2:Operand}{L:LN}{v:Value}{n:Nat}{cs:LV}{H:Array Obj}{k k':IntKind}{lo hi:Nat}(G:Zv L H v n sz cs)(hx:ev f x=v)(hl:ev f y1=.int k lo)(I:ev f y2=.int k' hi)
  (h1:lo≤hi) (h2:hi≤n):∃v',Zv L H v' (hi - lo) sz ((cs.drop (lo*sz)).take ((hi - lo)*sz))∧∀w,(execOp (ev f) ⟨d,.slice t x (some y1) (some y2) none,ty,ps,af,gd⟩).run P w=.ok (.value v') w:=by
 obtain⟨i,J,_,T,_⟩:=Sl.info h;rcases G.2.2 with⟨E,U⟩|⟨a,cap,E,hc,V⟩
 ·have e1:hi=0:=by omega
  have e2:lo=0:=by omega
  subst e1 e2;refine⟨nS,⟨by simp,by omega,.inl ⟨rfl,rfl⟩⟩,λw=>?_⟩;simp[execOp,hx,E,hl,I,Instr.sliceAt,Instr.slice,run_underlying h.u,Instr.sliceBounds,Instr.sliceBound,asIntOf,sizeOf,typeInfo,J]
 subst E;refine⟨_,G.cut h1 h2,λw=>?_⟩;have e1:(Instr.sliceBound (.int k' hi) cap .sliceAcap).run P w=.ok hi w:=ZO (by omega);have e2:(Instr.sliceBound (.int k lo) hi .sliceB).run P w=.ok lo w:=ZO (by omega);simp[execOp,hx,hl,I,Instr.sliceAt,Instr.slice,run_underlying h.u,Instr.sliceBounds,e1,e2,sizeOf,typeInfo,J,T]
theorem Qe6 {t e sz bys:Nat}{z:Value}[h:Sl P t e sz bys z]{x y1:Operand}{L:LN}{v:Value}{n:Nat}{cs:LV}{H:Array Obj}{k:IntKind}{lo:Nat}(E:Zv L H v n sz cs)(hx:ev f x=v)(hl:ev f y1=.int k lo)
  (h1:lo≤n):∃v',Zv L H v' (n - lo) sz (cs.drop (lo*sz))∧∀w,(execOp (ev f) ⟨d,.slice t x (some y1) none none,ty,ps,af,gd⟩).run P w=.ok (.value v') w:=by
 obtain⟨i,I,_,T,_⟩:=Sl.info h;rcases E.2.2 with⟨G,U⟩|⟨a,cap,G,hc,V⟩
 ·have e2:lo=0:=by omega
  subst e2 U;have:cs=[]:=Lq (by simpa using E.1);subst this;refine⟨nS,⟨by simp,by omega,.inl ⟨rfl,rfl⟩⟩,λw=>?_⟩;simp[execOp,hx,G,hl,Instr.sliceAt,Instr.slice,run_underlying h.u,Instr.sliceBounds,Instr.sliceBound,asIntOf,sizeOf,typeInfo,I]
 subst G;have J:=E.cut h1 (Lu n);have e:(cs.drop (lo*sz)).take ((n - lo)*sz)=cs.drop (lo*sz):=Lm (by rw[L9,E.1,←Nat.sub_mul];exact Lu _);rw[e]at J;refine⟨_,J,λw=>?_⟩;have e2:(Instr.sliceBound (.int k lo) n .sliceB).run P w=.ok lo w:=ZO h1
 simp[execOp,hx,hl,Instr.sliceAt,Instr.slice,run_underlying h.u,Instr.sliceBounds,e2,sizeOf,typeInfo,I,T]
theorem jU {t e sz bys:Nat}{z:Value}[h:Sl P t e sz bys z]{x y2:Operand}{L:LN}{v:Value}{n:Nat}{cs:LV}{H:Array Obj}{k:IntKind}{hi:Nat}(G:Zv L H v n sz cs)(hx:ev f x=v)(I:ev f y2=.int k hi)
  (h1:hi≤n):∃v',Zv L H v' hi sz (cs.take (hi*sz))∧∀w,(execOp (ev f) ⟨d,.slice t x none (some y2) none,ty,ps,af,gd⟩).run P w=.ok (.value v') w:=by
 obtain⟨i,J,_,U,_⟩:=Sl.info h;rcases G.2.2 with⟨E,V⟩|⟨a,cap,E,hc,Y⟩
 ·have e2:hi=0:=by omega
  subst e2;refine⟨nS,⟨by simp,by omega,.inl ⟨rfl,rfl⟩⟩,λw=>?_⟩;simp[execOp,hx,E,I,Instr.sliceAt,Instr.slice,run_underlying h.u,Instr.sliceBounds,Instr.sliceBound,asIntOf,sizeOf,typeInfo,J]
 subst E;have T:=G.cut (Lk hi) h1;simp only[Nat.zero_mul,List.drop_zero,Nat.sub_zero]at T;refine⟨_,T,λw=>?_⟩;have e2:(Instr.sliceBound (.int k hi) cap .sliceAcap).run P w=.ok hi w:=ZO (by omega);simp[execOp,hx,I,Instr.sliceAt,Instr.slice,run_underlying h.u,Instr.sliceBounds,e2,sizeOf,typeInfo,J]
end
section
variable {P:Program}{ops:List Oper}{K:Fr→World→Prop}{C:World→Prop}{f:Fr}{w w0:World}{d:Option Nat}{ty:Nat}{ps:String}{af:Array Edge}{gd:Option (Nat×Bool)}{pl:List (Nat×Bool)}{i0:Nat}
theorem pi {x y:Operand}{t e sz bys:Nat}{z:Value}[Sl P t e sz bys z]{L:LN}{n:Nat}{cs:LV}{v:Value}{H:Array Obj}{k:IntKind}{i:Nat}
  (E:QO ops i0=⟨d,.indexAddr t x y,ty,ps,af,gd⟩) (h:Zv L H v n sz cs) (G:ev f x=v) (hy:ev f y=.int k i) (hi:i<n)
  (I:∀a,At L H a ((cs.drop (i*sz)).take sz)→XP P ops C K pl (QY f d (.pointer (some a))) w) (J:Z2 ops f (QO ops i0)=true:=by rfl):
  XP P ops C K ((i0,true)::pl) f w:=by
 obtain⟨a,cap,h1,h2⟩:=h.at hi;refine Lg.p (λw'=>by rw[E];exact X6 (G.trans h1) hy (by omega) (by omega)) ?_ J;rw[E];refine I _ ?_;simpa using h2
theorem pii {x y:Operand}{t e bys:Nat}{z:Value}[Sl P t e 1 bys z]{L:LN}{li:LI}{v:Value}{H:Array Obj}{k:IntKind}{i:Nat}
  (E:QO ops i0=⟨d,.indexAddr t x y,ty,ps,af,gd⟩) (h:QI L H v li) (G:ev f x=v) (hy:ev f y=.int k i) (hi:i<li.length)
  (I:∀a,At L H a [.int .i64 li[i]]→XP P ops C K pl (QY f d (.pointer (some a))) w) (J:Z2 ops f (QO ops i0)=true:=by rfl):
  XP P ops C K ((i0,true)::pl) f w:=by
 obtain⟨a,cap,h1,h2⟩:=QI.at h hi;refine Lg.p (λw'=>by rw[E];exact X6 (G.trans h1) hy (by omega) (by omega)) ?_ J;rw[E];refine I _ ?_;simpa using h2
end
abbrev Ed:=Int×Int×Int
def QB (e:Ed):LV:=[.int .i64 e.1,.int .i64 e.2.1,.int .i64 e.2.2]
abbrev UF (L:LN)(H:Array Obj)(v:Value)(es:List Ed):Prop:=Zv L H v es.length 3 (es.flatMap QB)
theorem JF {α:Type}(g:α→LV)(sz:Nat)(E:∀x,(g x).length=sz):∀(l:List α) (i:Nat) (h:i<l.length),((l.flatMap g).drop (i*sz)).take sz=g l[i]
 | x::l,0,_=>by simp[E]
 | x::l,i+1,h=>by
  have:=JF g sz E l i (by simpa using h);simp only[List.flatMap_cons,List.getElem_cons_succ];rw[←this,Mh,M4,ME,List.drop_append,E];simp[Nat.add_sub_cancel_left,List.drop_eq_nil_of_le,E]
theorem Vy {α:Type}(g:α→LV)(sz:Nat)(E:∀x,(g x).length=sz)(l:List α):(l.flatMap g).length=l.length*sz:=by
 induction l with
 | nil=>simp
 | cons x l ih=>simp[ih,E,Nat.add_mul,Nat.add_comm]
theorem J6 (e:Ed):(QB e).length=3:=rfl
structure QM where
 al:LI
 st:Int
 mr:LI
 ed:List Ed
structure Zq (L:LN)(H:Array Obj)(va vm ve:Value)(a:QM):Prop where
 al:QI L H va a.al
 mr:QI L H vm a.mr
 ed:UF L H ve a.ed
def Qm4 (L:LN)(H:Array Obj)(v:Value)(a:QM):Prop:=∃va vm ve,v=.agg #[va,.int .i64 a.st,vm,ve]∧Zq L H va vm ve a
theorem Zq.ext {L:LN}{w w':World}{va vm ve:Value}{a:QM}(h:Zq L w.heap va vm ve a)(hs:Step [] w w'):Zq L w'.heap va vm ve a:=⟨h.al.ext hs,h.mr.ext hs,h.ed.ext hs⟩
theorem Zq.st {L:LN}{w w':World}{va vm ve:Value}{a:QM}(h:Zq L w.heap va vm ve a)(hs:Step L w w'):Zq L w'.heap va vm ve a:=⟨h.al.st hs,h.mr.st hs,h.ed.st hs⟩
theorem Zq.up {L L':LN}{H:Array Obj}{va vm ve:Value}{a:QM}(h:Zq L H va vm ve a)(E:∀b∈L',b∈L∨H.size≤b):Zq L' H va vm ve a:=⟨h.al.up E,h.mr.up E,h.ed.up E⟩
section
variable {P:Program}{f:Fr}{w:World}{d:Option Nat}{ty:Nat}{ps:String}{af:Array Edge}{gd:Option (Nat×Bool)}
class Ik (P:Program)(t:Nat)(k:outParam IntKind):Prop where
 u:P.underlying t=some (.int k)
theorem ZZ {t E:Nat}{k k':IntKind}[h:Ik P t k][h':Ik P E k']{x:Operand}{n:Int}{G:IntKind}(hx:ev f x=.int G n)(I:inK k' n):
  (execOp (ev f) ⟨d,.convert t E x,ty,ps,af,gd⟩).run P w=.ok (.value (.int k' n)) w:=by
 simp[execOp,hx,convert,run_underlying h.u,run_underlying h'.u,Conv.intToInt,YL I]
class Bk (P:Program)(t:Nat):Prop where
 u:P.underlying t=some .bool
class St (P:Program)(t:Nat):Prop where
 u:P.underlying t=some .string
theorem UV {t E:Nat}[h:Bk P t]{x y:Operand}{a b:Bool}(hx:ev f x=.bool a)(hy:ev f y=.bool b):
  (execOp (ev f) ⟨d,.binOp .eql t x y E,ty,ps,af,gd⟩).run P w=.ok (.value (.bool (a == b))) w:=by
 have G:(eqGuard .eql t x y (.bool a) (.bool b)).run P w=.ok () w:=by simp[eqGuard]
 simp[execOp,hx,hy,G,run_eql_bool (P:=P) (w:=w) t a b h.u]
end
theorem Q6 {α:Type}{l:List α}{k:Nat}(h:k<l.length):l.drop k=l[k]::l.drop (k+1):=LH h
theorem UF.at {L:LN}{H:Array Obj}{v:Value}{es:List Ed}(h:UF L H v es){i:Nat}(hi:i<es.length):
  ∃a cap,v=.slice (some a) es.length cap∧At L H (a.add (i*3)) (QB es[i]):=by
 obtain⟨a,cap,h1,h2⟩:=Zv.at h hi;rw[JF QB 3 J6 es i hi]at h2;exact⟨a,cap,h1,h2⟩
section
variable {P:Program}{ops:List Oper}{K:Fr→World→Prop}{f:Fr}{w:World}{d:Option Nat}{ty:Nat}{ps:String}{af:Array Edge}{gd:Option (Nat×Bool)}{l:List Oper}{C:World→Prop}{pl:List (Nat×Bool)}{i0:Nat}
theorem xie {x y:Operand}{t e bys:Nat}{z:Value}[Sl P t e 3 bys z]{L:LN}{es:List Ed}{v:Value}{k:IntKind}{i:Nat}
  (h:UF L w.heap v es) (E:ev f x=v) (hy:ev f y=.int k i) (hi:i<es.length)
  (G:∀a,At L w.heap a (QB es[i])→XL P ops K l (QY f d (.pointer (some a))) w) (I:Z2 ops f ⟨d,.indexAddr t x y,ty,ps,af,gd⟩=true:=by rfl):
  XL P ops K (⟨d,.indexAddr t x y,ty,ps,af,gd⟩::l) f w:=by
 obtain⟨a,cap,h1,h2⟩:=UF.at h hi;refine xl I (xv (X6 (E.trans h1) hy (by omega) (by omega)) (G _ ?_));simpa using h2
theorem pie {x y:Operand}{t e bys:Nat}{z:Value}[Sl P t e 3 bys z]{L:LN}{es:List Ed}{v:Value}{H:Array Obj}{k:IntKind}{i:Nat}
  (E:QO ops i0=⟨d,.indexAddr t x y,ty,ps,af,gd⟩) (h:UF L H v es) (G:ev f x=v) (hy:ev f y=.int k i) (hi:i<es.length)
  (I:∀a,At L H a (QB es[i])→XP P ops C K pl (QY f d (.pointer (some a))) w) (J:Z2 ops f (QO ops i0)=true:=by rfl):
  XP P ops C K ((i0,true)::pl) f w:=by
 obtain⟨a,cap,h1,h2⟩:=UF.at h hi;refine Lg.p (λw'=>by rw[E];exact X6 (G.trans h1) hy (by omega) (by omega)) ?_ J;rw[E];refine I _ ?_;simpa using h2
end
section
variable {P:Program}{f:Fr}{w:World}{d:Option Nat}{ty:Nat}{ps:String}{af:Array Edge}{gd:Option (Nat×Bool)}
theorem zH {t E:Nat}{x y:Operand}{k k':IntKind}{a:Int}{n:Nat}(hx:ev f x=.int k a)(hy:ev f y=.int k' n)(G:n≤k.bits):
  (execOp (ev f) ⟨d,.binOp .shr t x y E,ty,ps,af,gd⟩).run P w=.ok (.value (.int k (a / 2 ^ n))) w:=by
 refine YV hx hy ?_;have h1:¬((n:Int)<0):=by omega
 simp only[binOp,Op.shift,h1,if_false,Int.toNat_natCast,Nat.min_eq_left G,Sem.run_pure];rw[Int.fdiv_eq_ediv_of_nonneg _ (Int.le_of_lt (Int.pow_pos (by decide)))]
class S3 (P:Program)(t:Nat):Prop where
 u:∃f0 f1 f2,P.underlying t=some (.struct #[f0,f1,f2])∧f0.name ≠ "_" ∧ f1.name ≠ "_" ∧ f2.name ≠ "_" ∧ f0.offset=0∧f1.offset=1∧f2.offset=2 ∧
  P.underlying f0.type=some (.int .i64)∧P.underlying f1.type=some (.int .i64)∧P.underlying f2.type=some (.int .i64)
 s:P.stoodInHeld t=false
 g:P.eqGuardType P.depth t=false
theorem yE {t:Nat}[h:S3 P t](w:World)(p q:Ed):(Op.equal t (.agg (QB p).toArray) (.agg (QB q).toArray)).run P w=.ok (decide (p=q)) w:=by
 obtain⟨a,b,c⟩:=p;obtain⟨U,V,Y⟩:=q;obtain⟨f0,f1,f2,hu,J,n1,n2,T,o1,o2,G,I,u2⟩:=h.u;have ha:∀e w,P.underlying e=some (.int .i64)→(isAgg e).run P w=.ok false w:=λe w he=>by simp[isAgg,run_underlying he]
 have hp:∀e (x y z:Int) (w:World),P.underlying e=some (.int .i64)→(part e #[.int .i64 x,.int .i64 y,.int .i64 z] 0).run P w=.ok (.int .i64 x) w:=λe x y z w he=>by simp[part,ha e w he]
 have hb:∀e (x y z:Int) (w:World),P.underlying e=some (.int .i64)→(part e #[.int .i64 x,.int .i64 y,.int .i64 z] 1).run P w=.ok (.int .i64 y) w:=λe x y z w he=>by simp[part,ha e w he]
 have hc:∀e (x y z:Int) (w:World),P.underlying e=some (.int .i64)→(part e #[.int .i64 x,.int .i64 y,.int .i64 z] 2).run P w=.ok (.int .i64 z) w:=λe x y z w he=>by simp[part,ha e w he]
 have E:∀e (m:Nat) (x y:Int) (w:World),P.underlying e=some (.int .i64)→(Op.equalIn (m+1) e (.int .i64 x) (.int .i64 y)).run P w=.ok (x == y) w:=λe m x y w he=>by simp[Op.equalIn,run_underlying he]
 have key:∀m,(Op.equalIn (m+2) t (.agg (QB (a,b,c)).toArray) (.agg (QB (U,V,Y)).toArray)).run P w=.ok (decide ((a,b,c)=(U,V,Y))) w:=by
  intro m;simp only[QB];unfold Op.equalIn;simp only[Sem.run_bind,run_underlying hu,Result.andThen_ok];by_cases e1:a=U
  ·subst e1;by_cases e2:b=V
   ·subst e2;by_cases e3:c=Y
    ·subst e3;simp[h.s,J,n1,n2,T,o1,o2,hp _ _ _ _ _ G,hb _ _ _ _ _ I,hc _ _ _ _ _ u2,E _ _ _ _ _ G,E _ _ _ _ _ I,E _ _ _ _ _ u2]
    simp[h.s,J,n1,n2,T,o1,o2,hp _ _ _ _ _ G,hb _ _ _ _ _ I,hc _ _ _ _ _ u2,E _ _ _ _ _ G,E _ _ _ _ _ I,E _ _ _ _ _ u2,e3]
   simp[h.s,J,n1,T,o1,hp _ _ _ _ _ G,hb _ _ _ _ _ I,E _ _ _ _ _ G,E _ _ _ _ _ I,e2]
  simp[h.s,J,T,hp _ _ _ _ _ G,E _ _ _ _ _ G,e1]
 exact key 9998
theorem yI {t E:Nat}[h:S3 P t]{x y:Operand}{p q:Ed}(hx:ev f x=.agg (QB p).toArray)(hy:ev f y=.agg (QB q).toArray):
  (execOp (ev f) ⟨d,.binOp .neq t x y E,ty,ps,af,gd⟩).run P w=.ok (.value (.bool (decide (¬p=q)))) w:=by
 have G:(eqGuard .neq t x y (.agg (QB p).toArray) (.agg (QB q).toArray)).run P w=.ok () w:=by simp[eqGuard,h.g]
 simp only[execOp,hx,hy,Sem.run_bind,G,Result.andThen_ok,binOp,yE,Sem.run_pure];by_cases e:p=q <;> simp[e]
end
theorem Step.then1 {L:LN}{w0 w w':World}{b:Nat}(h:Step L w0 w)(k:Step [b] w w')(hb:w0.heap.size≤b):Step L w0 w':=h.then k (λc hc=>.inr (by simp at hc;omega))
section
variable {P:Program}{K:Fr→World→Prop}{f:Fr}{w:World}{d:Option Nat}{ty:Nat}{ps:String}{af:Array Edge}{gd:Option (Nat×Bool)}
theorem Vg {t E e sz bys:Nat}{z:Value}[h:Sl P t e sz bys z]{x y:Operand}{a:Option Addr}{n c:Nat}(hx:ev f x=.slice a n c)(hy:ev f y=nS):
  (execOp (ev f) ⟨d,.binOp .eql t x y E,ty,ps,af,gd⟩).run P w=.ok (.value (.bool a.isNone)) w:=by
 have G:(eqGuard .eql t x y (.slice a n c) (nS)).run P w=.ok () w:=by simp[eqGuard]
 have key:∀m,(Op.equalIn (m+1) t (.slice a n c) (nS)).run P w=.ok a.isNone w:=by
  intro m;unfold Op.equalIn;cases a <;> simp[run_underlying h.u]
 have he:(Op.equal t (.slice a n c) (nS)).run P w=.ok a.isNone w:=key 9999;simp only[execOp,hx,hy,Sem.run_bind,G,Result.andThen_ok,binOp,he,Sem.run_pure]
theorem VU {t e sz bys:Nat}{z:Value}[h:Sl P t e sz bys z]
  (E:∀b w',Step [] w w'→w.heap.size≤b→QS w'.heap b e []→K (QY f d (.slice (some ⟨b,0,none⟩) 0 0)) w'):XO P ⟨d,.buildSlice t 0 #[],ty,ps,af,gd⟩ f w K:=by
 obtain⟨ie,G,J,T,_⟩:=Sl.info h;have I:(execOp (ev f) ⟨d,.buildSlice t 0 #[],ty,ps,af,gd⟩).run P w=.ok (.value (.slice (some ⟨w.heap.size,0,none⟩) 0 0)) (w.alloc (.cells #[] e)):=by
  simp[execOp,Instr.buildSlice,run_underlying h.u,sizeOf,typeInfo,G,Instr.fill,newRow];have e0:Array.map (λ_=>(default:Value)) (Array.range 0)=#[]:=by apply Array.ext';simp
  rw[e0]
 exact xv I (E _ _ (Step.alloc w _) (Lu _) (J8 w _))
end
abbrev Qt (e base:Nat)(w:World)(v:Value)(l:LI):Prop:=w.ownsRow base e 1 v l.length (l.map (.int .i64))
theorem Qt.ints {e base:Nat}{w:World}{v:Value}{l:LI}{L:LN}(h:Qt e base w v l)(E:l.length≤1099511627776)(G:∀b∈L,b<base):QI L w.heap v l :=
 QV h E (λb hb I=>by have:=(Qq h b hb).1;have:=G b I;omega)
theorem U0 (l:LI):∀u∈l.map (Value.int .i64),u.oneCell'=true:=by
 intro u hu;obtain⟨n,_,rfl⟩:=Ly.1 hu;rfl
section
variable {P:Program}{ops:List Oper}{K:Fr→World→Prop}{f:Fr}{w:World}{d:Option Nat}{ty:Nat}{ps:String}{af:Array Edge}{gd:Option (Nat×Bool)}{l:List Oper}{C:World→Prop}{pl:List (Nat×Bool)}{i0:Nat}
 {t e sz bys:Nat} {z:Value} {x y1 y2:Operand} {L:LN} {v:Value} {n:Nat} {cs:LV} {H:Array Obj} {k k':IntKind} {lo hi:Nat}
theorem Qkg [h:Sl P t e sz bys z](E:QO ops i0=⟨d,.slice t x (some y1) none none,ty,ps,af,gd⟩)(G:Zv L H v n sz cs)(hx:ev f x=v)(hl:ev f y1=.int k lo)(h1:lo≤n)(I:∀v',Zv L H v' (n - lo) sz (cs.drop (lo*sz))→XP P ops C K pl (QY f d v') w)
  (J:Z2 ops f (QO ops i0)=true:=by rfl):XP P ops C K ((i0,true)::pl) f w:=by
 obtain⟨v',h2,h3⟩:=Qe6 (P:=P) (d:=d) (ty:=ty) (ps:=ps) (af:=af) (gd:=gd) (t:=t) G hx hl h1;exact Lg.p (λw'=>by rw[E];exact h3 w') (by rw[E];exact I v' h2) J
theorem Qmw [h:Sl P t e sz bys z](E:Zv L H v n sz cs)(hx:ev f x=v)(hl:ev f y1=.int k lo)(G:ev f y2=.int k' hi)(h1:lo≤hi)(h2:hi≤n)(I:∀v',Zv L H v' (hi - lo) sz ((cs.drop (lo*sz)).take ((hi - lo)*sz))→XL P ops K l (QY f d v') w)
  (J:Z2 ops f ⟨d,.slice t x (some y1) (some y2) none,ty,ps,af,gd⟩=true:=by rfl):XL P ops K (⟨d,.slice t x (some y1) (some y2) none,ty,ps,af,gd⟩::l) f w:=by
 obtain⟨v',h3,h4⟩:=Qcq (P:=P) (d:=d) (ty:=ty) (ps:=ps) (af:=af) (gd:=gd) (t:=t) E hx hl G h1 h2;exact xl J (xv (h4 w) (I v' h3))
theorem Qlu [h:Sl P t e sz bys z](E:Zv L H v n sz cs)(hx:ev f x=v)(G:ev f y2=.int k hi)(h1:hi≤n)(I:∀v',Zv L H v' hi sz (cs.take (hi*sz))→XL P ops K l (QY f d v') w)
  (J:Z2 ops f ⟨d,.slice t x none (some y2) none,ty,ps,af,gd⟩=true:=by rfl):XL P ops K (⟨d,.slice t x none (some y2) none,ty,ps,af,gd⟩::l) f w:=by
 obtain⟨v',h2,h3⟩:=jU (P:=P) (d:=d) (ty:=ty) (ps:=ps) (af:=af) (gd:=gd) (t:=t) E hx G h1;exact xl J (xv (h3 w) (I v' h2))
end
theorem QI.drop {L:LN}{H:Array Obj}{v:Value}{l:LI}{lo:Nat}(h:Zv L H v (l.length - lo) 1 ((l.map (Value.int .i64)).drop (lo*1))):QI L H v (l.drop lo):=by
 rw[Nat.mul_one,←List.map_drop]at h;have e:(l.drop lo).length=l.length - lo:=L9;unfold QI;rw[e];exact h
theorem Qt.snoc {e base:Nat}{w:World}{v:Value}{l:LI}{n:Int}(h:w.ownsRow base e 1 v (l.length+1) (l.map (Value.int .i64)++[.int .i64 n])):Qt e base w v (l++[n]):=by
 unfold Qt;rw[Lj,Lv];exact h
def Dj (u v:Value):Prop:=∀b∈ob u,b∉ob v
theorem Dj.symm {u v:Value}(h:Dj u v):Dj v u:=λb hb hu=>h b hu hb
theorem Dj.nil (v:Value):Dj (nS) v:=λb hb=>by simp[ob]at hb
theorem Dj.nil' (v:Value):Dj v (nS):=(Dj.nil v).symm
theorem Dj.grow {u v v':Value}{N:Nat}(h:Dj u v)(E:∀b∈ob v',b∈ob v∨N≤b)(hu:∀b∈ob u,b<N):Dj u v' :=
 λb hb G=>by rcases E b G with h1|h1;exact h b hb h1;have:=hu b hb;omega
theorem Q4 {w:World}{base e sz n:Nat}{v:Value}{cs:LV}(h:w.ownsRow base e sz v n cs):∀b∈ob v,b<w.heap.size:=λb hb=>(Qq h b hb).2
theorem QW {w:World}{base e sz n:Nat}{v:Value}{cs:LV}(h:w.ownsRow base e sz v n cs){b:Nat}(hb:b<base):b∉ob v:=λhm=>by have:=(Qq h b hm).1;omega
abbrev ZY (e base:Nat)(w:World)(v:Value)(l:List Ed):Prop:=w.ownsRow base e 3 v l.length (l.flatMap QB)
theorem ZY.snoc {e base:Nat}{w:World}{v:Value}{l:List Ed}{n:Ed}(h:w.ownsRow base e 3 v (l.length+1) (l.flatMap QB++QB n)):ZY e base w v (l++[n]):=by
 unfold ZY;rw[Lj,LD];simpa using h
theorem ZY.eds {e base:Nat}{w:World}{v:Value}{l:List Ed}{L:LN}(h:ZY e base w v l)(E:l.length≤1099511627776)(G:∀b∈L,b<base):UF L w.heap v l :=
 QV h E (λb hb I=>by have:=(Qq h b hb).1;have:=G b I;omega)
def Xk (N:Nat)(H:Array Obj)(v:Value)(a:QM):Prop:=∃va vm ve,v=.agg #[va,.int .i64 a.st,vm,ve]∧∀L:LN,(∀b∈L,b<N)→Zq L H va vm ve a
theorem Xk.v {N:Nat}{H:Array Obj}{v:Value}{a:QM}(h:Xk N H v a){L:LN}(E:∀b∈L,b<N):Qm4 L H v a:=let⟨va,vm,ve,h1,h2⟩:=h;⟨va,vm,ve,h1,h2 L E⟩
theorem Xk.ext {N:Nat}{w w':World}{v:Value}{a:QM}(h:Xk N w.heap v a)(hs:Step [] w w'):Xk N w'.heap v a:=let⟨va,vm,ve,h1,h2⟩:=h;⟨va,vm,ve,h1,λL E=>(h2 L E).ext hs⟩
theorem Xk.mono {N M:Nat}{H:Array Obj}{v:Value}{a:QM}(h:Xk N H v a)(E:M≤N):Xk M H v a:=let⟨va,vm,ve,h1,h2⟩:=h;⟨va,vm,ve,h1,λL G=>h2 L (λb hb=>L8 (G b hb) E)⟩
section
variable {P:Program}{K:Fr→World→Prop}{f:Fr}{w:World}{d:Option Nat}{ty:Nat}{ps:String}{af:Array Edge}{gd:Option (Nat×Bool)}
theorem Kk {t:Nat}[Xj P t]{x:Operand}{b T i:Nat}{l:LI}(h:QS w.heap b T (l.map (.int .i64)))(hx:ev f x=.pointer (some ⟨b,0+i*1,none⟩))(hi:i<l.length):
  (execOp (ev f) ⟨d,.load t x,ty,ps,af,gd⟩).run P w=.ok (.value (.int .i64 l[i])) w:=Qd h hx (by simp[hi])
theorem XH {t:Nat}[h1:Xj P t]{x y:Operand}{b T i:Nat}{l:LI}{u:Int}(E:QS w.heap b T (l.map (.int .i64)))(hx:ev f x=.pointer (some ⟨b,0+i*1,none⟩))(hy:ev f y=.int .i64 u)(hi:i<l.length)
  (G:∀w',Step [b] w w'→QS w'.heap b T ((l.set i u).map (.int .i64))→K (QY f d undef) w'):XO P ⟨d,.store t x y,ty,ps,af,gd⟩ f w K:=by
 refine QC E hx hy (by simpa using hi) rfl λw' hs I=>G w' hs ?_;rw[Nw];simpa using I
end
theorem jT (n:Nat)(u:Value):(List.replicate n [u]).flatten=List.replicate n u:=by
 induction n with
 | zero=>rfl
 | succ n ih=>simp[List.replicate_succ,ih]
end Go.Lg
namespace Go.Proofs
open Go.Proofs.Tryz
open Go.Lg
instance:Sl prog 32 89 5 32 (.agg #[.string ByteArray.empty,.bool false,.bool false,.bool false,.int .i64 0]):=⟨underlying32,by kernel_rfl,O,by decide⟩
instance:Sl prog 33 92 5 96 (.agg #[.string ByteArray.empty,nS,.int .i64 0,nS,nS]):=⟨underlying33,by kernel_rfl,O,by decide⟩
instance:Sl prog 34 99 2 40 (.agg #[.string ByteArray.empty,nS]):=⟨underlying34,by kernel_rfl,O,by decide⟩
instance:Sl prog 35 153 3 48 (.agg #[.string ByteArray.empty,nS,.int .i64 0]):=⟨underlying35,by kernel_rfl,O,by decide⟩
instance:Sl prog 39 3 1 8 (.int .i64 0):=⟨underlying39,by kernel_rfl,O,by decide⟩
instance:Sl prog 48 129 3 24 (.agg #[.int .i64 0,.int .i64 0,.int .i64 0]):=⟨underlying48,by kernel_rfl,O,by decide⟩
instance:Sl prog 53 39 1 24 (nS):=⟨underlying53,by kernel_rfl,O,by decide⟩
instance:Sl prog 56 50 4 80 (.agg #[nS,.int .i64 0,nS,nS]):=⟨underlying56,by kernel_rfl,O,by decide⟩
instance:Sl prog 69 150 4 4 (.agg #[.int .u8 0,.int .u8 0,.int .u8 0,.int .u8 0]):=⟨underlying69,by kernel_rfl,O,by decide⟩
instance:Sl prog 87 5 1 1 (.int .u8 0):=⟨underlying87,by kernel_rfl,O,by decide⟩
instance:Sl prog 97 101 2 16 (.agg #[.int .i64 0,.int .i64 0]):=⟨underlying97,by kernel_rfl,O,by decide⟩
instance:Sl prog 113 190 4 32 (.agg #[.int .i64 0,.int .i64 0,.int .i64 0,.int .i64 0]):=⟨underlying113,by kernel_rfl,O,by decide⟩
instance:Sl prog 116 269 4 32 (.agg #[.int .i64 0,.int .i64 0,.int .i64 0,.int .i64 0]):=⟨underlying116,by kernel_rfl,O,by decide⟩
instance:Sl prog 131 135 3 40 (.agg #[.int .i64 0,.int .i64 0,nS]):=⟨underlying131,by kernel_rfl,O,by decide⟩
instance:Sl prog 151 155 2 16 (.agg #[.int .i64 0,.int .i64 0]):=⟨underlying151,by kernel_rfl,O,by decide⟩
instance:Sl prog 175 4 1 1 (.bool false):=⟨underlying175,by kernel_rfl,O,by decide⟩
instance:Sl prog 196 200 3 24 (.agg #[.int .i64 0,.int .i64 0,.nilFunc]):=⟨underlying196,by kernel_rfl,O,by decide⟩
instance:Sl prog 205 202 1 2 (.int .u16 0):=⟨underlying205,by kernel_rfl,O,by decide⟩
instance:Sl prog 213 217 1 8 (.map none):=⟨underlying213,by kernel_rfl,O,by decide⟩
instance:Sl prog 244 243 3 24 (.agg #[.int .i64 0,.int .i64 0,.int .i64 0]):=⟨underlying244,by kernel_rfl,O,by decide⟩
instance:Sl prog 253 252 4 32 (.agg #[.int .i64 0,.int .i64 0,.int .i64 0,.int .i64 0]):=⟨underlying253,by kernel_rfl,O,by decide⟩
instance:Sl prog 311 339 1 8 (.nilFunc):=⟨underlying311,by kernel_rfl,O,by decide⟩
instance:Sl prog 315 48 1 24 (nS):=⟨underlying315,by kernel_rfl,O,by decide⟩
instance:Sl prog 320 319 2 32 (.agg #[nS,.int .i64 0]):=⟨underlying320,by kernel_rfl,O,by decide⟩
instance:Q8 prog 25 0 0:=⟨by kernel_rfl⟩
instance:Q8 prog 25 1 1:=⟨by kernel_rfl⟩
instance:Q8 prog 25 2 2:=⟨by kernel_rfl⟩
instance:Q8 prog 37 0 0:=⟨by kernel_rfl⟩
instance:Q8 prog 37 1 1:=⟨by kernel_rfl⟩
instance:Q8 prog 37 2 2:=⟨by kernel_rfl⟩
instance:Q8 prog 37 3 3:=⟨by kernel_rfl⟩
instance:Q8 prog 37 4 4:=⟨by kernel_rfl⟩
instance:Q8 prog 41 0 0:=⟨by kernel_rfl⟩
instance:Q8 prog 41 1 1:=⟨by kernel_rfl⟩
instance:Q8 prog 41 2 2:=⟨by kernel_rfl⟩
instance:Q8 prog 41 3 3:=⟨by kernel_rfl⟩
instance:Q8 prog 41 4 4:=⟨by kernel_rfl⟩
instance:Q8 prog 41 5 5:=⟨by kernel_rfl⟩
instance:Q8 prog 41 6 6:=⟨by kernel_rfl⟩
instance:Q8 prog 41 7 7:=⟨by kernel_rfl⟩
instance:Q8 prog 50 0 0:=⟨by kernel_rfl⟩
instance:Q8 prog 50 1 1:=⟨by kernel_rfl⟩
instance:Q8 prog 50 2 2:=⟨by kernel_rfl⟩
instance:Q8 prog 50 3 3:=⟨by kernel_rfl⟩
instance:Q8 prog 73 0 0:=⟨by kernel_rfl⟩
instance:Q8 prog 73 1 5:=⟨by kernel_rfl⟩
instance:Q8 prog 73 2 6:=⟨by kernel_rfl⟩
instance:Q8 prog 73 3 9:=⟨by kernel_rfl⟩
instance:Q8 prog 73 4 90:=⟨by kernel_rfl⟩
instance:Q8 prog 73 5 91:=⟨by kernel_rfl⟩
instance:Q8 prog 73 6 93:=⟨by kernel_rfl⟩
instance:Q8 prog 73 7 147:=⟨by kernel_rfl⟩
instance:Q8 prog 73 8 148:=⟨by kernel_rfl⟩
instance:Q8 prog 73 9 151:=⟨by kernel_rfl⟩
instance:Q8 prog 89 0 0:=⟨by kernel_rfl⟩
instance:Q8 prog 89 1 1:=⟨by kernel_rfl⟩
instance:Q8 prog 89 2 2:=⟨by kernel_rfl⟩
instance:Q8 prog 89 3 3:=⟨by kernel_rfl⟩
instance:Q8 prog 89 4 4:=⟨by kernel_rfl⟩
instance:Q8 prog 92 0 0:=⟨by kernel_rfl⟩
instance:Q8 prog 92 1 1:=⟨by kernel_rfl⟩
instance:Q8 prog 99 0 0:=⟨by kernel_rfl⟩
instance:Q8 prog 99 1 1:=⟨by kernel_rfl⟩
instance:Q8 prog 101 0 0:=⟨by kernel_rfl⟩
instance:Q8 prog 101 1 1:=⟨by kernel_rfl⟩
instance:Q8 prog 103 0 0:=⟨by kernel_rfl⟩
instance:Q8 prog 103 1 1:=⟨by kernel_rfl⟩
instance:Q8 prog 103 2 5:=⟨by kernel_rfl⟩
instance:Q8 prog 115 0 0:=⟨by kernel_rfl⟩
instance:Q8 prog 115 1 4:=⟨by kernel_rfl⟩
instance:Q8 prog 115 2 5:=⟨by kernel_rfl⟩
instance:Q8 prog 115 3 6:=⟨by kernel_rfl⟩
instance:Q8 prog 115 4 7:=⟨by kernel_rfl⟩
instance:Q8 prog 118 0 0:=⟨by kernel_rfl⟩
instance:Q8 prog 118 1 1:=⟨by kernel_rfl⟩
instance:Q8 prog 118 2 2:=⟨by kernel_rfl⟩
instance:Q8 prog 120 0 0:=⟨by kernel_rfl⟩
instance:Q8 prog 120 1 3:=⟨by kernel_rfl⟩
instance:Q8 prog 120 2 4:=⟨by kernel_rfl⟩
instance:Q8 prog 120 3 8:=⟨by kernel_rfl⟩
instance:Q8 prog 129 0 0:=⟨by kernel_rfl⟩
instance:Q8 prog 129 1 1:=⟨by kernel_rfl⟩
instance:Q8 prog 129 2 2:=⟨by kernel_rfl⟩
instance:Q8 prog 135 0 0:=⟨by kernel_rfl⟩
instance:Q8 prog 135 1 1:=⟨by kernel_rfl⟩
instance:Q8 prog 135 2 2:=⟨by kernel_rfl⟩
instance:Q8 prog 153 0 0:=⟨by kernel_rfl⟩
instance:Q8 prog 153 1 1:=⟨by kernel_rfl⟩
instance:Q8 prog 153 2 2:=⟨by kernel_rfl⟩
instance:Q8 prog 155 0 0:=⟨by kernel_rfl⟩
instance:Q8 prog 155 1 1:=⟨by kernel_rfl⟩
instance:Q8 prog 171 0 0:=⟨by kernel_rfl⟩
instance:Q8 prog 171 1 4:=⟨by kernel_rfl⟩
instance:Q8 prog 190 0 0:=⟨by kernel_rfl⟩
instance:Q8 prog 200 0 0:=⟨by kernel_rfl⟩
instance:Q8 prog 200 1 1:=⟨by kernel_rfl⟩
instance:Q8 prog 200 2 2:=⟨by kernel_rfl⟩
instance:Q8 prog 215 0 0:=⟨by kernel_rfl⟩
instance:Q8 prog 215 1 1:=⟨by kernel_rfl⟩
instance:Q8 prog 215 2 2:=⟨by kernel_rfl⟩
instance:Q8 prog 240 0 0:=⟨by kernel_rfl⟩
instance:Q8 prog 240 1 1:=⟨by kernel_rfl⟩
instance:Q8 prog 240 2 2:=⟨by kernel_rfl⟩
instance:Q8 prog 243 0 0:=⟨by kernel_rfl⟩
instance:Q8 prog 243 1 1:=⟨by kernel_rfl⟩
instance:Q8 prog 243 2 2:=⟨by kernel_rfl⟩
instance:Q8 prog 250 0 0:=⟨by kernel_rfl⟩
instance:Q8 prog 250 1 1:=⟨by kernel_rfl⟩
instance:Q8 prog 250 2 2:=⟨by kernel_rfl⟩
instance:Q8 prog 252 0 0:=⟨by kernel_rfl⟩
instance:Q8 prog 252 1 2:=⟨by kernel_rfl⟩
instance:Q8 prog 252 2 3:=⟨by kernel_rfl⟩
instance:Q8 prog 259 0 0:=⟨by kernel_rfl⟩
instance:Q8 prog 259 1 5:=⟨by kernel_rfl⟩
instance:Q8 prog 259 2 9:=⟨by kernel_rfl⟩
instance:Q8 prog 259 3 10:=⟨by kernel_rfl⟩
instance:Q8 prog 259 4 14:=⟨by kernel_rfl⟩
instance:Q8 prog 259 5 15:=⟨by kernel_rfl⟩
instance:Q8 prog 259 6 18:=⟨by kernel_rfl⟩
instance:Q8 prog 269 0 0:=⟨by kernel_rfl⟩
instance:Q8 prog 273 0 0:=⟨by kernel_rfl⟩
instance:Q8 prog 273 1 4:=⟨by kernel_rfl⟩
instance:Q8 prog 273 2 5:=⟨by kernel_rfl⟩
instance:Q8 prog 273 3 6:=⟨by kernel_rfl⟩
instance:Q8 prog 281 0 0:=⟨by kernel_rfl⟩
instance:Q8 prog 281 1 1:=⟨by kernel_rfl⟩
instance:Q8 prog 281 2 2:=⟨by kernel_rfl⟩
instance:Q8 prog 281 3 3:=⟨by kernel_rfl⟩
instance:Q8 prog 292 0 0:=⟨by kernel_rfl⟩
instance:Q8 prog 292 1 1:=⟨by kernel_rfl⟩
instance:Q8 prog 319 0 0:=⟨by kernel_rfl⟩
instance:Q8 prog 319 1 1:=⟨by kernel_rfl⟩
instance:Xj prog 3:=⟨⟨_,underlying3,O⟩,by kernel_rfl⟩
instance:Xj prog 4:=⟨⟨_,underlying4,O⟩,by kernel_rfl⟩
instance:Xj prog 5:=⟨⟨_,underlying5,O⟩,by kernel_rfl⟩
instance:Xj prog 9:=⟨⟨_,underlying9,O⟩,by kernel_rfl⟩
instance:Xj prog 32:=⟨⟨_,underlying32,O⟩,by kernel_rfl⟩
instance:Xj prog 33:=⟨⟨_,underlying33,O⟩,by kernel_rfl⟩
instance:Xj prog 34:=⟨⟨_,underlying34,O⟩,by kernel_rfl⟩
instance:Xj prog 35:=⟨⟨_,underlying35,O⟩,by kernel_rfl⟩
instance:Xj prog 39:=⟨⟨_,underlying39,O⟩,by kernel_rfl⟩
instance:Xj prog 42:=⟨⟨_,underlying42,O⟩,by kernel_rfl⟩
instance:Xj prog 48:=⟨⟨_,underlying48,O⟩,by kernel_rfl⟩
instance:Xj prog 53:=⟨⟨_,underlying53,O⟩,by kernel_rfl⟩
instance:Xj prog 56:=⟨⟨_,underlying56,O⟩,by kernel_rfl⟩
instance:Xj prog 65:=⟨⟨_,underlying65,O⟩,by kernel_rfl⟩
instance:Xj prog 69:=⟨⟨_,underlying69,O⟩,by kernel_rfl⟩
instance:Xj prog 70:=⟨⟨_,underlying70,O⟩,by kernel_rfl⟩
instance:Xj prog 87:=⟨⟨_,underlying87,O⟩,by kernel_rfl⟩
instance:Xj prog 97:=⟨⟨_,underlying97,O⟩,by kernel_rfl⟩
instance:Xj prog 113:=⟨⟨_,underlying113,O⟩,by kernel_rfl⟩
instance:Xj prog 116:=⟨⟨_,underlying116,O⟩,by kernel_rfl⟩
instance:Xj prog 151:=⟨⟨_,underlying151,O⟩,by kernel_rfl⟩
instance:Xj prog 175:=⟨⟨_,underlying175,O⟩,by kernel_rfl⟩
instance:Xj prog 178:=⟨⟨_,underlying178,O⟩,by kernel_rfl⟩
instance:Xj prog 180:=⟨⟨_,underlying180,O⟩,by kernel_rfl⟩
instance:Xj prog 198:=⟨⟨_,underlying198,O⟩,by kernel_rfl⟩
instance:Xj prog 202:=⟨⟨_,underlying202,O⟩,by kernel_rfl⟩
instance:Xj prog 213:=⟨⟨_,underlying213,O⟩,by kernel_rfl⟩
instance:Xj prog 217:=⟨⟨_,underlying217,O⟩,by kernel_rfl⟩
instance:Xj prog 233:=⟨⟨_,underlying233,O⟩,by kernel_rfl⟩
instance:Xj prog 244:=⟨⟨_,underlying244,O⟩,by kernel_rfl⟩
instance:Xj prog 248:=⟨⟨_,underlying248,O⟩,by kernel_rfl⟩
instance:Xj prog 255:=⟨⟨_,underlying255,O⟩,by kernel_rfl⟩
instance:Xj prog 271:=⟨⟨_,underlying271,O⟩,by kernel_rfl⟩
instance:Xj prog 290:=⟨⟨_,underlying290,O⟩,by kernel_rfl⟩
instance:Xj prog 339:=⟨⟨_,underlying339,O⟩,by kernel_rfl⟩
instance:Ag prog 25 27:=⟨⟨_,underlying25,O⟩,by kernel_rfl⟩
instance:Ag prog 37 5:=⟨⟨_,underlying37,O⟩,by kernel_rfl⟩
instance:Ag prog 41 8:=⟨⟨_,underlying41,O⟩,by kernel_rfl⟩
instance:Ag prog 50 4:=⟨⟨_,underlying50,O⟩,by kernel_rfl⟩
instance:Ag prog 64 5:=⟨⟨_,underlying64,O⟩,by kernel_rfl⟩
instance:Ag prog 73 152:=⟨⟨_,underlying73,O⟩,by kernel_rfl⟩
instance:Ag prog 89 5:=⟨⟨_,underlying89,O⟩,by kernel_rfl⟩
instance:Ag prog 92 5:=⟨⟨_,underlying92,O⟩,by kernel_rfl⟩
instance:Ag prog 99 2:=⟨⟨_,underlying99,O⟩,by kernel_rfl⟩
instance:Ag prog 101 2:=⟨⟨_,underlying101,O⟩,by kernel_rfl⟩
instance:Ag prog 103 6:=⟨⟨_,underlying103,O⟩,by kernel_rfl⟩
instance:Ag prog 115 8:=⟨⟨_,underlying115,O⟩,by kernel_rfl⟩
instance:Ag prog 120 9:=⟨⟨_,underlying120,O⟩,by kernel_rfl⟩
instance:Ag prog 129 3:=⟨⟨_,underlying129,O⟩,by kernel_rfl⟩
instance:Ag prog 135 3:=⟨⟨_,underlying135,O⟩,by kernel_rfl⟩
instance:Ag prog 150 4:=⟨⟨_,underlying150,O⟩,by kernel_rfl⟩
instance:Ag prog 153 3:=⟨⟨_,underlying153,O⟩,by kernel_rfl⟩
instance:Ag prog 155 2:=⟨⟨_,underlying155,O⟩,by kernel_rfl⟩
instance:Ag prog 171 5:=⟨⟨_,underlying171,O⟩,by kernel_rfl⟩
instance:Ag prog 184 2:=⟨⟨_,underlying184,O⟩,by kernel_rfl⟩
instance:Ag prog 190 4:=⟨⟨_,underlying190,O⟩,by kernel_rfl⟩
instance:Ag prog 200 3:=⟨⟨_,underlying200,O⟩,by kernel_rfl⟩
instance:Ag prog 215 3:=⟨⟨_,underlying215,O⟩,by kernel_rfl⟩
instance:Ag prog 240 3:=⟨⟨_,underlying240,O⟩,by kernel_rfl⟩
instance:Ag prog 269 4:=⟨⟨_,underlying269,O⟩,by kernel_rfl⟩
instance:Ag prog 281 4:=⟨⟨_,underlying281,O⟩,by kernel_rfl⟩
instance:Ag prog 319 2:=⟨⟨_,underlying319,O⟩,by kernel_rfl⟩
instance:Ze prog 3 (.int .i64 0):=⟨by kernel_rfl⟩
instance:Ze prog 4 (.bool false):=⟨by kernel_rfl⟩
instance:Ze prog 37 (.agg #[nS,nS,nS,nS,nS]):=⟨by kernel_rfl⟩
instance:Ze prog 39 (nS):=⟨by kernel_rfl⟩
instance:Ze prog 41 (.agg #[.bool false,.int .i64 0,.int .i64 0,.int .i64 0,.bool false,nS,nS,.int .i64 0]):=⟨by kernel_rfl⟩
instance:Ze prog 42 (.int .i64 0):=⟨by kernel_rfl⟩
instance:Ze prog 50 (.agg #[nS,.int .i64 0,nS,nS]):=⟨by kernel_rfl⟩
instance:Ze prog 89 (.agg #[.string ByteArray.empty,.bool false,.bool false,.bool false,.int .i64 0]):=⟨by kernel_rfl⟩
instance:Ze prog 92 (.agg #[.string ByteArray.empty,nS,.int .i64 0,nS,nS]):=⟨by kernel_rfl⟩
instance:Ze prog 99 (.agg #[.string ByteArray.empty,nS]):=⟨by kernel_rfl⟩
instance:Ze prog 101 (.agg #[.int .i64 0,.int .i64 0]):=⟨by kernel_rfl⟩
instance:Ze prog 103 (.agg #[nS,nS,.int .i64 0,nS,nS,nS]):=⟨by kernel_rfl⟩
instance:Ze prog 115 (.agg #[nS,.int .i64 0,nS,nS,nS,nS,nS,nS]):=⟨by kernel_rfl⟩
instance:Ze prog 120 (.agg #[nS,nS,nS,.int .i64 0,nS,.int .i64 0,nS,nS,nS]):=⟨by kernel_rfl⟩
instance:Ze prog 129 (.agg #[.int .i64 0,.int .i64 0,.int .i64 0]):=⟨by kernel_rfl⟩
instance:Ze prog 135 (.agg #[.int .i64 0,.int .i64 0,nS]):=⟨by kernel_rfl⟩
instance:Ze prog 150 (.agg #[.int .u8 0,.int .u8 0,.int .u8 0,.int .u8 0]):=⟨by kernel_rfl⟩
instance:Ze prog 153 (.agg #[.string ByteArray.empty,nS,.int .i64 0]):=⟨by kernel_rfl⟩
instance:Ze prog 155 (.agg #[.int .i64 0,.int .i64 0]):=⟨by kernel_rfl⟩
instance:Ze prog 171 (.agg #[nS,.int .i64 0,nS,nS,nS]):=⟨by kernel_rfl⟩
instance:Ze prog 175 (nS):=⟨by kernel_rfl⟩
instance:Ze prog 180 (.pointer none):=⟨by kernel_rfl⟩
instance:Ze prog 184 (.agg #[.int .i64 0,.int .i64 0]):=⟨by kernel_rfl⟩
instance:Ze prog 190 (.agg #[.int .i64 0,.int .i64 0,.int .i64 0,.int .i64 0]):=⟨by kernel_rfl⟩
instance:Ze prog 200 (.agg #[.int .i64 0,.int .i64 0,.nilFunc]):=⟨by kernel_rfl⟩
instance:Ze prog 215 (.agg #[nS,nS,nS]):=⟨by kernel_rfl⟩
instance:Ze prog 240 (.agg #[nS,nS,nS]):=⟨by kernel_rfl⟩
instance:Ze prog 244 (nS):=⟨by kernel_rfl⟩
instance:Ze prog 269 (.agg #[.int .i64 0,.int .i64 0,.int .i64 0,.int .i64 0]):=⟨by kernel_rfl⟩
instance:Ze prog 281 (.agg #[nS,nS,nS,nS]):=⟨by kernel_rfl⟩
instance:Ze prog 292 (.agg #[.pointer none,nS]):=⟨by kernel_rfl⟩
instance:Ze prog 319 (.agg #[nS,.int .i64 0]):=⟨by kernel_rfl⟩
instance:Bs prog 37 [nS,nS,nS,nS,nS] [0,1,2,3,4]:=⟨by kernel_rfl,by decide⟩
instance:Bs prog 41 [.bool false,.int .i64 0,.int .i64 0,.int .i64 0,.bool false,nS,nS,.int .i64 0] [0,1,2,3,4,5,6,7]:=⟨by kernel_rfl,by decide⟩
instance:Bs prog 50 [nS,.int .i64 0,nS,nS] [0,1,2,3]:=⟨by kernel_rfl,by decide⟩
instance:Bs prog 89 [.string ByteArray.empty,.bool false,.bool false,.bool false,.int .i64 0] [0,1,2,3,4]:=⟨by kernel_rfl,by decide⟩
instance:Bs prog 99 [.string ByteArray.empty,nS] [0,1]:=⟨by kernel_rfl,by decide⟩
instance:Bs prog 101 [.int .i64 0,.int .i64 0] [0,1]:=⟨by kernel_rfl,by decide⟩
instance:Bs prog 129 [.int .i64 0,.int .i64 0,.int .i64 0] [0,1,2]:=⟨by kernel_rfl,by decide⟩
instance:Bs prog 135 [.int .i64 0,.int .i64 0,nS] [0,1,2]:=⟨by kernel_rfl,by decide⟩
instance:Bs prog 153 [.string ByteArray.empty,nS,.int .i64 0] [0,1,2]:=⟨by kernel_rfl,by decide⟩
instance:Bs prog 155 [.int .i64 0,.int .i64 0] [0,1]:=⟨by kernel_rfl,by decide⟩
instance:Bs prog 173 [nS,nS] [0,1]:=⟨by kernel_rfl,by decide⟩
instance:Bs prog 183 [.int .i64 0,.int .i64 0] [0,1]:=⟨by kernel_rfl,by decide⟩
instance:Bs prog 184 [.int .i64 0,.int .i64 0] [0,1]:=⟨by kernel_rfl,by decide⟩
instance:Bs prog 190 [.int .i64 0,.int .i64 0,.int .i64 0,.int .i64 0] [0,1,2,3]:=⟨by kernel_rfl,by decide⟩
instance:Bs prog 200 [.int .i64 0,.int .i64 0,.nilFunc] [0,1,2]:=⟨by kernel_rfl,by decide⟩
instance:Bs prog 215 [nS,nS,nS] [0,1,2]:=⟨by kernel_rfl,by decide⟩
instance:Bs prog 240 [nS,nS,nS] [0,1,2]:=⟨by kernel_rfl,by decide⟩
instance:Bs prog 243 [.int .i64 0,.int .i64 0,.int .i64 0] [0,1,2]:=⟨by kernel_rfl,by decide⟩
instance:Bs prog 250 [.map none,.map none,.int .i64 0] [0,1,2]:=⟨by kernel_rfl,by decide⟩
instance:Bs prog 269 [.int .i64 0,.int .i64 0,.int .i64 0,.int .i64 0] [0,1,2,3]:=⟨by kernel_rfl,by decide⟩
instance:Bs prog 281 [nS,nS,nS,nS] [0,1,2,3]:=⟨by kernel_rfl,by decide⟩
instance:Bs prog 319 [nS,.int .i64 0] [0,1]:=⟨by kernel_rfl,by decide⟩
instance:Ik prog 3 .i64:=⟨underlying3⟩
instance:Bk prog 4:=⟨underlying4⟩
instance:Ik prog 5 .u8:=⟨underlying5⟩
instance:St prog 9:=⟨underlying9⟩
instance:Ik prog 21 .i32:=⟨underlying21⟩
instance:Ik prog 70 .i8:=⟨underlying70⟩
instance:Ik prog 218 .u64:=⟨underlying218⟩
instance:S3 prog 129:=⟨⟨_,_,_,underlying129,by decide,by decide,by decide,O,O,O,underlying3,underlying3,underlying3⟩,by kernel_rfl,by kernel_rfl⟩
instance:Mp prog 217 183 3 (.int .i64 0):=⟨underlying217,by kernel_rfl⟩
instance:Key prog 183 ZQ:=Qae underlying183 underlying3 (by kernel_rfl)
instance:Mp prog 224 3 223 (.nilFunc):=⟨underlying224,by kernel_rfl⟩
instance:Key prog 3 Jc:=Qin underlying3
instance:Mp prog 233 9 3 (.int .i64 0):=⟨underlying233,by kernel_rfl⟩
instance:Key prog 9 XI:=Qim underlying9
instance:Mp prog 236 9 4 (.bool false):=⟨underlying236,by kernel_rfl⟩
instance:Mp prog 248 3 4 (.bool false):=⟨underlying248,by kernel_rfl⟩
instance:Mp prog 254 184 4 (.bool false):=⟨underlying254,by kernel_rfl⟩
instance:Key prog 184 ZQ:=Qae underlying184 underlying3 (by kernel_rfl)
instance:Mp prog 271 3 39 (nS):=⟨underlying271,by kernel_rfl⟩
instance:Mp prog 316 3 3 (.int .i64 0):=⟨underlying316,by kernel_rfl⟩
instance:Fu prog 8 Tryz.f8:=Zf func8
instance:Fu prog 10 Tryz.f10:=Zf func10
instance:Fu prog 11 Tryz.f11:=Zf func11
instance:Fu prog 12 Tryz.f12:=Zf func12
instance:Fu prog 14 Tryz.f14:=Zf func14
instance:Fu prog 16 Tryz.f16:=Zf func16
instance:Fu prog 17 Tryz.f17:=Zf func17
instance:Fu prog 18 Tryz.f18:=Zf func18
instance:Fu prog 19 Tryz.f19:=Zf func19
instance:Fu prog 20 Tryz.f20:=Zf func20
instance:Fu prog 22 Tryz.f22:=Zf func22
instance:Fu prog 23 Tryz.f23:=Zf func23
instance:Fu prog 24 Tryz.f24:=Zf func24
instance:Fu prog 25 Tryz.f25:=Zf func25
instance:Fu prog 28 Tryz.f28:=Zf func28
instance:Fu prog 29 Tryz.f29:=Zf func29
instance:Fu prog 30 Tryz.f30:=Zf func30
instance:Fu prog 32 Tryz.f32:=Zf func32
instance:Fu prog 33 Tryz.f33:=Zf func33
instance:Fu prog 34 Tryz.f34:=Zf func34
instance:Fu prog 35 Tryz.f35:=Zf func35
instance:Fu prog 36 Tryz.f36:=Zf func36
instance:Fu prog 37 Tryz.f37:=Zf func37
instance:Fu prog 38 Tryz.f38:=Zf func38
instance:Fu prog 39 Tryz.f39:=Zf func39
instance:Fu prog 40 Tryz.f40:=Zf func40
instance:Fu prog 41 Tryz.f41:=Zf func41
instance:Fu prog 42 Tryz.f42:=Zf func42
instance:Fu prog 43 Tryz.f43:=Zf func43
instance:Fu prog 44 Tryz.f44:=Zf func44
instance:Fu prog 45 Tryz.f45:=Zf func45
instance:Fu prog 46 Tryz.f46:=Zf func46
instance:Fu prog 47 Tryz.f47:=Zf func47
instance:Fu prog 48 Tryz.f48:=Zf func48
instance:Fu prog 49 Tryz.f49:=Zf func49
instance:Fu prog 50 Tryz.f50:=Zf func50
instance:Fu prog 51 Tryz.f51:=Zf func51
instance:Fu prog 52 Tryz.f52:=Zf func52
instance:Fu prog 53 Tryz.f53:=Zf func53
instance:Fu prog 54 Tryz.f54:=Zf func54
instance:Fu prog 55 Tryz.f55:=Zf func55
instance:Fu prog 56 Tryz.f56:=Zf func56
instance:Fu prog 57 Tryz.f57:=Zf func57
instance:Fu prog 58 Tryz.f58:=Zf func58
instance:Fu prog 59 Tryz.f59:=Zf func59
instance:Fu prog 60 Tryz.f60:=Zf func60
instance:Fu prog 61 Tryz.f61:=Zf func61
instance:Fu prog 62 Tryz.f62:=Zf func62
instance:Fu prog 63 Tryz.f63:=Zf func63
instance:Fu prog 64 Tryz.f64:=Zf func64
instance:Fu prog 65 Tryz.f65:=Zf func65
instance:Fu prog 66 Tryz.f66:=Zf func66
instance:Fu prog 68 Tryz.f68:=Zf func68
instance:Fu prog 69 Tryz.f69:=Zf func69
instance:Fu prog 70 Tryz.f70:=Zf func70
instance:Fu prog 71 Tryz.f71:=Zf func71
instance:Fu prog 72 Tryz.f72:=Zf func72
instance:Fu prog 74 Tryz.f74:=Zf func74
instance:Fu prog 75 Tryz.f75:=Zf func75
instance:Fu prog 76 Tryz.f76:=Zf func76
instance:Fu prog 77 Tryz.f77:=Zf func77
instance:Fu prog 78 Tryz.f78:=Zf func78
instance:Fu prog 79 Tryz.f79:=Zf func79
instance:Fu prog 80 Tryz.f80:=Zf func80
instance:Fu prog 81 Tryz.f81:=Zf func81
instance:Fu prog 82 Tryz.f82:=Zf func82
instance:Fu prog 83 Tryz.f83:=Zf func83
instance:Fu prog 84 Tryz.f84:=Zf func84
instance:Fu prog 85 Tryz.f85:=Zf func85
instance:Fu prog 86 Tryz.f86:=Zf func86
instance:Fu prog 87 Tryz.f87:=Zf func87
instance:Fu prog 88 Tryz.f88:=Zf func88
instance:Fu prog 89 Tryz.f89:=Zf func89
instance:Fu prog 90 Tryz.f90:=Zf func90
instance:Fu prog 91 Tryz.f91:=Zf func91
instance:Fu prog 92 Tryz.f92:=Zf func92
instance:Fu prog 93 Tryz.f93:=Zf func93
instance:Fu prog 94 Tryz.f94:=Zf func94
instance:Fu prog 95 Tryz.f95:=Zf func95
instance:Fu prog 96 Tryz.f96:=Zf func96
instance:Fu prog 97 Tryz.f97:=Zf func97
instance:Fu prog 98 Tryz.f98:=Zf func98
instance:Fu prog 99 Tryz.f99:=Zf func99
instance:Fu prog 100 Tryz.f100:=Zf func100
instance:Fu prog 101 Tryz.f101:=Zf func101
instance:Fu prog 102 Tryz.f102:=Zf func102
instance:Fu prog 103 Tryz.f103:=Zf func103
instance:Fu prog 104 Tryz.f104:=Zf func104
instance:Fu prog 105 Tryz.f105:=Zf func105
instance:Fu prog 106 Tryz.f106:=Zf func106
instance:Fu prog 107 Tryz.f107:=Zf func107
instance:Fu prog 108 Tryz.f108:=Zf func108
instance:Fu prog 109 Tryz.f109:=Zf func109
instance:Fu prog 110 Tryz.f110:=Zf func110
instance:Fu prog 111 Tryz.f111:=Zf func111
instance:Fu prog 112 Tryz.f112:=Zf func112
instance:Fu prog 113 Tryz.f113:=Zf func113
instance:Fu prog 115 Tryz.f115:=Zf func115
instance:Fu prog 120 Tryz.f120:=Zf func120
instance:Fu prog 121 Tryz.f121:=Zf func121
instance:Fu prog 125 Tryz.f125:=Zf func125
instance:Fu prog 126 Tryz.f126:=Zf func126
instance:Fu prog 127 Tryz.f127:=Zf func127
instance:Fu prog 128 Tryz.f128:=Zf func128
instance:Fu prog 129 Tryz.f129:=Zf func129
instance:Fu prog 130 Tryz.f130:=Zf func130
instance:Fu prog 131 Tryz.f131:=Zf func131
instance:Fu prog 132 Tryz.f132:=Zf func132
instance:Fu prog 133 Tryz.f133:=Zf func133
instance:Fu prog 134 Tryz.f134:=Zf func134
instance:Fu prog 135 Tryz.f135:=Zf func135
instance:Fu prog 136 Tryz.f136:=Zf func136
instance:Fu prog 137 Tryz.f137:=Zf func137
instance:Fu prog 138 Tryz.f138:=Zf func138
instance:Fu prog 139 Tryz.f139:=Zf func139
instance:Fu prog 140 Tryz.f140:=Zf func140
instance:Fu prog 141 Tryz.f141:=Zf func141
instance:Fu prog 142 Tryz.f142:=Zf func142
instance:Fu prog 143 Tryz.f143:=Zf func143
instance:Fu prog 144 Tryz.f144:=Zf func144
instance:Fu prog 145 Tryz.f145:=Zf func145
instance:Fu prog 146 Tryz.f146:=Zf func146
instance:Fu prog 147 Tryz.f147:=Zf func147
instance:Fu prog 148 Tryz.f148:=Zf func148
instance:Fu prog 150 Tryz.f150:=Zf func150
instance:Fu prog 151 Tryz.f151:=Zf func151
instance:Fu prog 152 Tryz.f152:=Zf func152
instance:Fu prog 153 Tryz.f153:=Zf func153
instance:Fu prog 154 Tryz.f154:=Zf func154
instance:Fu prog 155 Tryz.f155:=Zf func155
instance:Fu prog 156 Tryz.f156:=Zf func156
instance:Fu prog 157 Tryz.f157:=Zf func157
instance:Fu prog 158 Tryz.f158:=Zf func158
instance:Fu prog 159 Tryz.f159:=Zf func159
instance:Fu prog 160 Tryz.f160:=Zf func160
instance:Fu prog 161 Tryz.f161:=Zf func161
instance:Fu prog 162 Tryz.f162:=Zf func162
instance:Fu prog 163 Tryz.f163:=Zf func163
instance:Fu prog 166 Tryz.f166:=Zf func166
instance:Fu prog 167 Tryz.f167:=Zf func167
instance:Fu prog 168 Tryz.f168:=Zf func168
instance:Fu prog 169 Tryz.f169:=Zf func169
instance:Fu prog 170 Tryz.f170:=Zf func170
instance:Fu prog 171 Tryz.f171:=Zf func171
instance:Fu prog 172 Tryz.f172:=Zf func172
instance:Fu prog 173 Tryz.f173:=Zf func173
instance:Fu prog 174 Tryz.f174:=Zf func174
instance:Fu prog 175 Tryz.f175:=Zf func175
instance:Fu prog 176 Tryz.f176:=Zf func176
instance:Fu prog 177 Tryz.f177:=Zf func177
instance:Fu prog 178 Tryz.f178:=Zf func178
instance:Fu prog 179 Tryz.f179:=Zf func179
instance:Fu prog 180 Tryz.f180:=Zf func180
instance:Fu prog 181 Tryz.f181:=Zf func181
instance:Fu prog 182 Tryz.f182:=Zf func182
instance:Fu prog 183 Tryz.f183:=Zf func183
instance:Fu prog 184 Tryz.f184:=Zf func184
instance:Fu prog 185 Tryz.f185:=Zf func185
instance:Fu prog 186 Tryz.f186:=Zf func186
instance:Fu prog 187 Tryz.f187:=Zf func187
instance:Fu prog 188 Tryz.f188:=Zf func188
instance:Fu prog 189 Tryz.f189:=Zf func189
instance:Fu prog 190 Tryz.f190:=Zf func190
instance:Fu prog 191 Tryz.f191:=Zf func191
instance:Fu prog 193 Tryz.f193:=Zf func193
instance:Fu prog 194 Tryz.f194:=Zf func194
instance:Fu prog 195 Tryz.f195:=Zf func195
instance:Fu prog 196 Tryz.f196:=Zf func196
instance:Fu prog 197 Tryz.f197:=Zf func197
instance:Fu prog 198 Tryz.f198:=Zf func198
instance:Fu prog 209 Tryz.f209:=Zf func209
instance:Fu prog 211 Tryz.f211:=Zf func211
instance:Fu prog 212 Tryz.f212:=Zf func212
instance:Fu prog 213 Tryz.f213:=Zf func213
instance:Fu prog 214 Tryz.f214:=Zf func214
instance:Fu prog 215 Tryz.f215:=Zf func215
instance:Fu prog 216 Tryz.f216:=Zf func216
instance:Fu prog 217 Tryz.f217:=Zf func217
instance:Fu prog 218 Tryz.f218:=Zf func218
instance:Fu prog 219 Tryz.f219:=Zf func219
instance:Fu prog 228 Tryz.f228:=Zf func228
instance:Fu prog 229 Tryz.f229:=Zf func229
instance:Fu prog 237 Tryz.f237:=Zf func237
instance:Fu prog 238 Tryz.f238:=Zf func238
instance:Fu prog 239 Tryz.f239:=Zf func239
instance:Fu prog 240 Tryz.f240:=Zf func240
instance:Fu prog 241 Tryz.f241:=Zf func241
instance:Fu prog 242 Tryz.f242:=Zf func242
instance:Fu prog 251 Tryz.f251:=Zf func251
theorem mixed:prog.follows .mixedOrders=true:=by kernel_rfl
end Go.Proofs
namespace Go.Proofs.YtjcgijbhaemldaaGreatDoor
open Go.Lg
def nxt (es:List Ed)(s e:Int):Int:=match es with
 | []=>-1
 | x::es=>if x.1=s∧x.2.1=e then x.2.2 else nxt es s e
abbrev Yy (l:LI):Prop:=l.Pairwise (·<·)
def U8:Option Int→Int→Bool
 | none,_=>false
 | some b,a=>decide (a≤b)
def YJ (n:Int):Option Int→LI→Int
 | _,[]=>0
 | pr,a::l=>if a<0∨n≤a then 2 else if U8 pr a=true then 5 else YJ n (some a) l
def pv {α:Type}(l:List α)(k:Nat):Option α:=if k=0 then none else l[k - 1]?
theorem JB {α:Type}{l:List α}{k:Nat}(h:k<l.length):pv l (k+1)=some l[k]:=by simp[pv,h]
def edO:Option Ed→Ed→Bool
 | none,_=>false
 | some y,a=>decide (a.1<y.1∨(a.1=y.1∧a.2.1≤y.2.1))
def ckE (al:LI)(st:Int):Option Ed→List Ed→Int
 | _,[]=>0
 | pr,a::l=>if a.1<0∨st≤a.1∨a.2.2<0∨st≤a.2.2 then 2 else if a.2.1∉al then 9 else if edO pr a=true then 5 else ckE al st (some a) l
def Y6 (a:QM):Int :=
 if YJ 32 none a.al≠0 then YJ 32 none a.al else if a.st<0 then 2 else if 4096<a.st then 3 else if YJ a.st none a.mr≠0 then YJ a.st none a.mr else ckE a.al a.st none a.ed
def Xr:LI→LI→Bool
 | [],_=>false
 | _::_,[]=>true
 | a::_,b::_=>decide (a≤b)
def tl (c:Bool)(l:LI):LI:=bif c then l.tail else l
def hx (a b:LI):Int:=bif Xr b a then b.headD 0 else a.headD 0
def zk (keep:Bool→Bool→Bool):Nat→LI→LI→LI
 | 0,_,_=>[]
 | n+1,a,b=>if a=[]∧b=[]then[]else(bif keep (Xr a b) (Xr b a)then[hx a b]else[])++zk keep n (tl (Xr a b) a) (tl (Xr b a) b)
def mrg (keep:Bool→Bool→Bool)(a b:LI):LI:=zk keep (a.length+b.length) a b
theorem qd {a b:LI}(h:¬(a=[]∧b=[])):(tl (Xr a b) a).length+(tl (Xr b a) b).length<a.length+b.length:=by
 cases a with
 | nil=>cases b with
  | nil=>simp at h
  | cons y b=>simp[Xr,tl]
 | cons x a=>cases b with
  | nil=>simp[Xr,tl]
  | cons y b =>
   simp only[Xr,tl];by_cases h1:x≤y <;> by_cases h2:y≤x <;> simp[h1,h2] <;> omega
theorem zN (keep:Bool→Bool→Bool):∀(n:Nat) (a b:LI),a.length+b.length≤n→zk keep n a b=mrg keep a b:=by
 have key:∀(n m:Nat) (a b:LI),a.length+b.length≤n→a.length+b.length≤m→zk keep n a b=zk keep m a b:=by
  intro n;induction n with
  | zero =>
   intro m a b h1 _;have ha:a=[]:=Lq (by omega);have hb:b=[]:=Lq (by omega);subst ha hb;cases m <;> simp[zk]
  | succ n ih =>
   intro m a b h1 h2;by_cases h:a=[]∧b=[]
   ·obtain⟨rfl,rfl⟩:=h;cases m <;> simp[zk]
   have E:=qd h;cases m with
   | zero=>omega
   | succ m=>rw[zk,zk,if_neg h,if_neg h,ih m _ _ (by omega) (by omega)]
 intro n a b h;exact key n _ a b h (Lu _)
theorem JD (keep:Bool→Bool→Bool):mrg keep [] []=[]:=rfl
theorem Jn (keep:Bool→Bool→Bool){a b:LI}(h:¬(a=[]∧b=[])):
  mrg keep a b=(bif keep (Xr a b) (Xr b a)then[hx a b]else[])++mrg keep (tl (Xr a b) a) (tl (Xr b a) b):=by
 have E:=qd h;rw[←zN keep (a.length+b.length - 1+1) a b (by omega),zk,if_neg h,zN keep _ _ _ (by omega)]
theorem Qbs (keep:Bool→Bool→Bool):∀(n:Nat) (a b:LI),a.length+b.length≤n→(mrg keep a b).length≤a.length+b.length:=by
 intro n;induction n with
 | zero =>
  intro a b h;have ha:a=[]:=Lq (by omega);have hb:b=[]:=Lq (by omega);subst ha hb;simp[JD]
 | succ n ih =>
  intro a b E;by_cases h:a=[]∧b=[]
  ·obtain⟨rfl,rfl⟩:=h;simp[JD]
  have G:=qd h;rw[Jn keep h];have:=ih (tl (Xr a b) a) (tl (Xr b a) b) (by omega);cases keep (Xr a b) (Xr b a) <;> simp <;> omega
theorem Uz (keep:Bool→Bool→Bool)(a b:LI):(mrg keep a b).length≤a.length+b.length:=Qbs keep _ a b (Lu _)
theorem qz {α:Type}(q:α→Bool)(es:List α)(lo hi:Nat)(h1:lo≤hi)(h2:hi≤es.length)(ha:∀m (hm:m<es.length),m<lo→q es[m]=false)(hb:∀m (hm:m<es.length),lo≤m→m<hi→q es[m]=true)
  (hc:∀m (hm:m<es.length),hi≤m→q es[m]=false):(es.drop lo).take (hi - lo)=es.filter q:=by
 have e1:es=es.take lo++((es.drop lo).take (hi - lo)++es.drop hi):=by
  conv=>lhs;rw[←My lo es]
  congr 1;conv=>lhs;rw[←My (hi - lo) (es.drop lo)]
  rw[List.drop_drop];congr 2;omega
 have f1:(es.take lo).filter q=[]:=by
  rw[MF];intro a E;obtain⟨m,hm,rfl⟩:=LG E;rw[Lx]at hm;rw[M7,ha m (by omega) (by omega)];simp
 have f3:(es.drop hi).filter q=[]:=by
  rw[MF];intro a E;obtain⟨m,hm,rfl⟩:=LG E;rw[L9]at hm;rw[List.getElem_drop,hc (hi+m) (by omega) (by omega)];simp
 have f2:((es.drop lo).take (hi - lo)).filter q=(es.drop lo).take (hi - lo):=by
  rw[Nm];intro a E;obtain⟨m,hm,rfl⟩:=LG E;rw[Lx,L9]at hm;rw[M7,List.getElem_drop];exact hb (lo+m) (by omega) (by omega) (by omega)
 conv=>rhs;rw[e1]
 rw[L7,L7,f1,f2,f3];simp
def ZI (es:List Ed)(s:Int):List Ed:=es.filter λe=>decide (e.1=s)
open Go.Proofs.Tryz
theorem QfY {L:LN}{w:World}{v:Value}{l:LI}(h:QI L w.heap v l)(n:Int):
  QE prog 97 [v,.int .i64 n] w λr w'=>w'=w∧∃i:Int,r=.int .i64 i∧(0≤i↔n∈l):=by
 have I:=h.le;refine QE.of_W func97 O ntmps97 results97 (by simp) ?_;refine Qc<|Qe<|Qg<|Qc<|Qb<|x (Qu h O)<|Qb<|xe<|Qh<|Qz (α:=Nat) [(4,5),(8,18)] (λk=>[(8,.int .i64 k)]) (λk w'=>w'=w∧k≤l.length∧(n∈l↔n∈l.drop k)) (λk=>l.length - k) (by rfl) 0 La ⟨O,Lk _,by simp⟩ ?_;rintro k g J ⟨rfl,hk,hm⟩;refine Qc<|x (QA O O)<|xe<|Qg<|QD O (λh9=>?_) (λh9=>?_)
 ·refine Qy<|Qc<|Qe<|Qk ⟨[.int .i64 (-1)],La,O,-1,O,?_⟩;rw[Ls (by omega)]at hm;simp[hm]
 have G:k<l.length:=by omega
 have hd:=Q6 G;refine Qi<|Qg<|Qh<|Qc<|Qb<|Qe<|Qc<|Qb<|Qb<|Qb<|xii h O O G λT H=>x (Qw H O)<|x (Zc O O)<|xe<|Q2 rfl (λE=>?_) (λE=>?_)
 ·refine Qc<|Qb<|Qe<|Qk ⟨[.int .i64 k],La,O,k,O,?_⟩;have:n∈l:=by rw[hm,hd,E];exact Lr
  simp[this]
 refine Qi<|Qx<|QN O O<|Qb<|xe<|⟨k+1,by omega,La,O,by omega,?_⟩;rw[hm,hd,Lc];exact⟨λh=>h.resolve_left E,.inr⟩
theorem Z7 {L:LN}{w:World}{v:Value}{l:LI}(h:QI L w.heap v l)(n:Int):
  QE prog 47 [v,.int .i64 n] w λr w'=>r=.bool (decide (n∈l))∧w'=w:=by
 refine QE.of_W func47 O ntmps47 results47 (by simp) ?_;refine Qc<|Qe<|Qc<|Qb<|Qb<|xl O<|xf<|(QfY h n).mono ?_;rintro E G ⟨rfl,i,rfl,hi⟩;refine x (ZK O O)<|Qe<|Qk ⟨[.bool (decide (0≤i))],La,?_,O⟩;simp[tup,hi]
theorem Kp {L L':LN}{w:World}{v v':Value}{l l':LI}(h:QI L w.heap v l)(h':QI L' w.heap v' l'):
  QE prog 68 [v,v'] w λr w'=>r=.bool (decide (l=l'))∧Step [] w w':=by
 have ha:=h.le;refine QE.of_W func68 O ntmps68 results68 (by simp) ?_;refine Qc<|Qe<|Qg<|Qc<|Qb<|x (Qu h O)<|Qb<|x (Qu h' O)<|x (Q7 O O)<|xe<|Q2 rfl (λG=>?_) (λG=>?_)
 ·refine Qc<|Qe<|Qk ⟨[.bool false],La,?_,Step.refl _ _⟩;have:l≠l':=λe=>G (by rw[e]);simp[tup,this]
 refine Qi<|Qg<|Qc<|Qb<|x (Qu h O)<|Qb<|xe<|Qh<|Qz (α:=Nat) [(4,5),(13,25)] (λk=>[(13,.int .i64 k)]) (λk w'=>Step [] w w'∧k≤l.length∧(l=l'↔l.drop k=l'.drop k)) (λk=>l.length - k) (by rfl) 0 La ⟨Step.refl _ _,Lk _,by simp⟩ ?_;rintro k g H ⟨hs,hk,hm⟩
 replace h:=h.ext hs
 replace h':=h'.ext hs;refine Qc<|x (QA O O)<|xe<|Qg<|QD O (λU=>?_) (λU=>?_)
 ·refine Qy<|Qc<|Qe<|Qk ⟨[.bool true],La,?_,hs⟩;rw[Ls (by omega),Ls (by omega)]at hm;simp[tup,hm]
 have I:k<l.length:=by omega
 have J:k<l'.length:=by omega
 refine Qi<|Qg<|Qh<|Qc<|Qb<|Qe<|Qg<|QU (Step [] H) [(0,true),(1,true),(2,true),(3,true),(4,true),(5,true),(6,true),(7,true),(8,true)] mixed (by rfl) (by kernel_rfl) (Step.drew _ _) ?_;refine p (λ_=>Qn)<|p (λ_=>Qn)<|pii O h O O I λhb V=>pq (λ_ hc=>Qw (V.ext hc) O) <|
  p (λ_=>Qn)<|p (λ_=>Qn)<|pii O h' O O J λhe Y=>pq (λ_ hc=>Qw (Y.ext hc) O)<|p (λ_=>Q7 O O)<|pe ?_
 have T:=hs.trans (Step.drew [] H);refine Q2 rfl (λE=>?_) (λE=>?_)
 ·refine Qc<|Qe<|Qk ⟨[.bool false],La,?_,T⟩;have:l≠l':=λe=>E (by simp[e]);simp[tup,this]
 refine Qi<|Qx<|QN O O<|Qb<|xe<|⟨k+1,by omega,La,T,by omega,?_⟩;have e:l[k]=l'[k]:=Ll.1 E;rw[hm,Q6 I,Q6 J,e];exact⟨λh=>(List.cons.inj h).2,λh=>by rw[h]⟩
theorem QdZ {L L':LN}{w:World}{v v':Value}{l l':List Ed}(h:UF L w.heap v l)(h':UF L' w.heap v' l'):
  QE prog 237 [v,v'] w λr w'=>r=.bool (decide (l=l'))∧Step [] w w':=by
 have ha:=h.le;refine QE.of_W func237 O ntmps237 results237 (by simp) ?_;refine Qc<|Qe<|Qg<|Qc<|Qb<|x (Qu h O)<|Qb<|x (Qu h' O)<|x (Q7 O O)<|xe<|Q2 rfl (λG=>?_) (λG=>?_)
 ·refine Qc<|Qe<|Qk ⟨[.bool false],La,?_,Step.refl _ _⟩;have:l≠l':=λe=>G (by rw[e]);simp[tup,this]
 refine Qi<|Qg<|Qc<|Qb<|x (Qu h O)<|Qb<|xe<|Qh<|Qz (α:=Nat) [(4,5),(13,25)] (λk=>[(13,.int .i64 k)]) (λk w'=>Step [] w w'∧k≤l.length∧(l=l'↔l.drop k=l'.drop k)) (λk=>l.length - k) (by rfl) 0 La ⟨Step.refl _ _,Lk _,by simp⟩ ?_;rintro k g H ⟨hs,hk,hm⟩
 replace h:=h.ext hs
 replace h':=h'.ext hs;refine Qc<|x (QA O O)<|xe<|Qg<|QD O (λU=>?_) (λU=>?_)
 ·refine Qy<|Qc<|Qe<|Qk ⟨[.bool true],La,?_,hs⟩;rw[Ls (by omega),Ls (by omega)]at hm;simp[tup,hm]
 have I:k<l.length:=by omega
 have J:k<l'.length:=by omega
 refine Qi<|Qg<|Qh<|Qc<|Qb<|Qe<|Qg<|QU (Step [] H) [(0,true),(1,true),(2,true),(3,true),(4,true),(5,true),(6,true),(7,true),(8,true)] mixed (by rfl) (by kernel_rfl) (Step.drew _ _) ?_;refine p (λ_=>Qn)<|p (λ_=>Qn)<|pie O h O O I λhb V=>pq (λ_ hc=>QG (V.ext hc) O O) <|
  p (λ_=>Qn)<|p (λ_=>Qn)<|pie O h' O O J λhe Y=>pq (λ_ hc=>QG (Y.ext hc) O O)<|p (λ_=>yI O O)<|pe ?_
 have T:=hs.trans (Step.drew [] H);refine Q2 rfl (λE=>?_) (λE=>?_)
 ·refine Qc<|Qe<|Qk ⟨[.bool false],La,?_,T⟩;have:l≠l':=λe=>E (by simp[e]);simp[tup,this]
 refine Qi<|Qx<|QN O O<|Qb<|xe<|⟨k+1,by omega,La,T,by omega,?_⟩;have e:l[k]=l'[k]:=Ll.1 E;rw[hm,Q6 I,Q6 J,e];exact⟨λh=>(List.cons.inj h).2,λh=>by rw[h]⟩
theorem Qaj {w:World}(n:Int):QE prog 108 [.int .i64 n] w λr w'=>r=.bool false∧w'=w:=by
 refine QE.of_W func108 O ntmps108 results108 (by simp) ?_;refine Qc<|Qe<|Qc<|Qb<|Qb<|x (Q7 O O)<|Qe ?_;exact Qk ⟨[.bool (decide (¬n=n))],La,by simp[tup],rfl⟩
theorem QdT {w:World}(n:Int):QE prog 163 [.int .i64 n] w λr w'=>r=.bool false∧w'=w:=by
 refine QE.of_W func163 O ntmps163 results163 (by simp) ?_;refine Qc<|Qe<|Qc<|Qb<|Qb<|x (Q7 O O)<|Qe ?_;exact Qk ⟨[.bool (decide (¬n=n))],La,by simp[tup],rfl⟩
theorem QcM {w:World}(m n:Int):QE prog 107 [.int .i64 m,.int .i64 n] w λr w'=>r=.bool (decide (m<n))∧w'=w:=by
 refine QE.of_W func107 O ntmps107 results107 (by simp) ?_;refine Qc<|Qe<|Qc<|Qb<|xl O<|xf<|(QdT m).mono ?_;rintro E G ⟨rfl,rfl⟩;refine Qb<|xs O<|xs O<|xs O<|x (Qp O)<|Qb<|Qb<|Qb<|x (QA O O)<|x (Qp O)<|Qe ?_;exact Qk ⟨[.bool (decide (m<n))],La,O,O⟩
theorem Yy.get {l:LI}(h:Yy l){i j:Nat}(hj:j<l.length)(E:i<j):l[i]<l[j]:=List.pairwise_iff_getElem.1 h i j (by omega) hj E
theorem qM {L:LN}{w:World}{v:Value}{l:LI}(h:QI L w.heap v l)(hi:Yy l)(n:Int):
  QE prog 57 [v,.int .i64 n] w λr w'=>w'=w∧∃i:Int,r=.tuple #[.int .i64 i,.bool (decide (n∈l))]:=by
 have hs:=h.le;refine QE.of_W func57 O ntmps57 results57 (by simp) ?_;refine Qc<|x Qf<|Qe<|Qc<|Qb<|x (Qu h O)<|Qe<|Qc<|Qb<|x Qf<|Qe<|Qg<|Qh<|Qz (α:=Nat×Nat) [(7,9),(13,30)] (λz=>[(7,.int .i64 z.1),(8,.int .i64 z.2)])
  (λz w'=>w'=w∧z.1≤z.2∧z.2≤l.length∧(∀m (hm:m<l.length),m<z.1→l[m]<n)∧(∀m (hm:m<l.length),z.2≤m→n≤l[m])) (λz=>z.2 - z.1) (by rfl) (0,l.length) ⟨O,O,Z⟩
  ⟨O,Lk _,Lu _,λm _ I=>absurd I (Nx m),λm h1 I=>absurd h1 (by simp only[]at I;omega)⟩ ?_
 rintro⟨i,j⟩ g w1 ⟨rfl,ha,hj,E,J⟩;simp only[]at ha hj E J;refine Qg<|Qc<|Qb<|Qb<|x (QA O O)<|xe<|QD rfl (λhb=>?_) (λhb=>?_)
 ·have e:i=j:=by omega
  subst e;refine Qy<|QZ (α:=Bool) [(4,5),(31,53)] (λz=>[(4,.int .i64 i),(5,.bool z)]) (λz w'=>w'=w1∧z=decide (n∈l)) (by rfl) ?_ ?_
  ·refine Qx<|Qb<|Qb<|Qb<|xb (QA O O) (λhc=>?_) (λhc=>?_)
   ·have G:i<l.length:=by omega
    refine Qb<|Qb<|Qb<|xii h O O G λht he=>x (Qw he O)<|Qb<|xb (Zc O O) (λT=>?_) (λT=>?_)
    ·refine Qb<|xs O<|xs O<|xs O<|xs O<|xs O<|xs O<|xs O<|xs O<|xs O<|x (Qp O)<|x (Qp O)<|x Qf<|Qe ?_;have:n∈l:=by rw[←T];exact Lh G
     exact⟨true,⟨O,O,Z⟩,O,by simp[this]⟩
    refine Qb<|Qb<|Qb<|xii h O O G λhu hf=>x (Qw hf O)<|xl O<|xf<|(Qaj _).mono ?_;rintro r3 w3 ⟨rfl,rfl⟩;refine Qb<|xs O<|xs O<|x (Qp O)<|x (Qp O)<|x (Qp O)<|x Qf<|Qe<|⟨false,⟨O,O,Z⟩,O,?_⟩;have:n∉l:=by
     intro hm;obtain⟨m,H,U⟩:=LG hm;by_cases hg:m<i
     ·have:=E m H hg;omega
     by_cases hk:m=i
     ·subst hk;exact T U
     have:=Yy.get hi H (show i<m by omega);have:=J i G (Lu _);omega
    simp[this]
   refine Qb<|xs O<|xs O<|xs O<|xs O<|xs O<|xs O<|xs O<|xs O<|xs O<|xs O<|xs O<|xs O<|xs O<|xs O<|xs O<|xs O<|xs O <|
    x (Qp rfl)<|x Qf<|Qe<|⟨false,⟨O,O,Z⟩,O,?_⟩
   have:n∉l:=by
    intro hm;obtain⟨m,H,U⟩:=LG hm;have:=E m H (by omega);omega
   simp[this]
  rintro z g w7 ⟨rfl,rfl⟩;exact Qk ⟨[.int .i64 i,.bool (decide (n∈l))],⟨O,O,Z⟩,O,i,O⟩
 refine Qi<|Qh<|Qc<|Qb<|Qb<|QN O O<|x (ZZ O (by exact⟨by omega,by omega⟩))<|x (zH (n:=1) O O (by decide))<|x (ZZ O (by exact⟨by omega,by omega⟩))<|Qe ?_;have hh:(((i:Int)+(j:Int)) / 2 ^ 1)=(((i+j) / 2:Nat):Int):=by omega
 rw[hh];generalize hq:(i+j) / 2=q;have hl:i≤q:=by omega
 have hn:q<j:=by omega
 have V:q<l.length:=by omega
 refine Qc<|Qb<|Qb<|xii h O O V λhv ho=>x (Qw ho O)<|Qb<|xl O<|xf<|(QcM _ _).mono ?_;rintro r8 w8 ⟨rfl,rfl⟩;refine xe<|QD rfl (λY=>?_) (λY=>?_)
 ·refine Qx<|Qb<|Qe<|⟨(i,q),by simp only[];omega,⟨O,O,Z⟩,O,hl,by omega,E,λm hm hp=>?_⟩;by_cases e:q=m
  ·subst e;omega
  have:=Yy.get hi hm (show q<m by simp only[]at hp;omega);omega
 refine Qx<|Qb<|QN O O<|Qe<|⟨(q+1,j),by simp only[];omega,⟨O,O,Z⟩,O,hn,hj,λm hm hr=>?_,J⟩;by_cases e:m=q
 ·subst e;exact Y
 have:=Yy.get hi V (show m<q by simp only[]at hr;omega);omega
theorem Yx {L:LN}{w:World}{v:Value}{l:LI}(h:QI L w.heap v l)(hi:Yy l)(n:Int):
  QE prog 18 [v,.int .i64 n] w λr w'=>r=.bool (decide (n∈l))∧w'=w:=by
 refine QE.of_W func18 O ntmps18 results18 (by simp) ?_;refine Qc<|Qe<|Qc<|Qb<|Qb<|xl O<|xf<|(qM h hi n).mono ?_;rintro E G ⟨rfl,i,rfl⟩;refine Qb<|x (Qj O O)<|x (Qj O O)<|x Qf<|Qe<|Qc<|Qb<|Qe ?_;exact Qk ⟨[.bool (decide (n∈l))],La,O,O⟩
theorem Uj {L:LN}{w:World}{v:Value}{l:LI}(h:QI L w.heap v l)(n:Int):
  QE prog 92 [v,.int .i64 n] w λr w'=>r=.int .i64 (YJ n none l)∧w'=w:=by
 have hc:=h.le;refine QE.of_W func92 O ntmps92 results92 (by simp) ?_;refine Qc<|Qe<|Qg<|Qc<|Qb<|x (Qu h O)<|Qb<|xe<|Qh<|Qz (α:=Nat) [(4,6),(9,34)] (λk=>[(9,.int .i64 k)]) (λk w'=>w'=w∧k≤l.length∧YJ n (pv l k) (l.drop k)=YJ n none l) (λk=>l.length - k) (by rfl) 0 La ⟨O,Lk _,O⟩ ?_;rintro k g T ⟨rfl,hk,hm⟩;refine Qc<|x (QA O O)<|xe<|Qg<|QD O (λU=>?_) (λU=>?_)
 ·refine Qy<|Qc<|Qe<|Qk ⟨[.int .i64 0],La,?_,O⟩;rw[←hm,Ls (by omega)];rfl
 have E:k<l.length:=by omega
 have hd:=Q6 E;rw[hd,YJ]at hm;refine Qi<|Qg<|Qh<|Qc<|Qb<|xii h O O E λhe V=>x (Qw V O)<|x Qf<|Qe<|Qh<|QZ (α:=Bool) [(14,21)] (λz=>[(14,.bool z)]) (λz w'=>w'=T∧z=decide (l[k]<0∨n≤l[k])) (by rfl) ?_ ?_
 ·refine Qx<|Qb<|xb (QA O O) (λG=>?_) (λG=>?_)
  ·refine Qb<|xs O<|xs O<|xs O<|x (Qp O)<|Qe ?_;exact⟨true,La,O,by simp[G]⟩
  refine Qb<|Qb<|Qb<|x (ZK O O)<|x (Qp O)<|Qe ?_;exact⟨_,La,O,by simp[G]⟩
 rintro z g Y ⟨rfl,rfl⟩;refine Q2 rfl (λH=>?_) (λH=>?_)
 ·refine Qc<|Qe<|Qk ⟨[.int .i64 2],La,?_,O⟩;rw[←hm,if_pos H];rfl
 rw[if_neg H]at hm;refine QZ (α:=Bool) [(22,33)] (λz=>[(22,.bool z)]) (λz w'=>w'=Y∧z=U8 (pv l k) l[k]) (by rfl) ?_ ?_
 ·refine Qx<|Qb<|xb (ZP O O) (λha=>?_) (λha=>?_)
  ·have hk1:((k:Int) - 1)=((k - 1:Nat):Int):=by omega
   refine Qb<|Qb<|Qb<|Qb<|x (X4 O O ⟨by omega,by omega⟩)<|xii (i:=k - 1) h O (by show Value.int _ ((k:Int) - 1)=_;rw[hk1]) (by omega) λhf hb=>x (Qw hb rfl)<|x (Jj rfl rfl)<|x (Qp rfl)<|Qe<|⟨_,⟨rfl,Z⟩,rfl,?_⟩;have:pv l k=some l[k - 1]:=by
    have I:k≠0:=by omega
    simp[pv,I,show k - 1<l.length by omega]
   rw[this];rfl
  refine Qb<|xs O<|xs O<|xs O<|xs O<|xs O<|xs O<|xs O<|x (Qp O)<|Qe ?_;have I:k=0:=by omega
  exact⟨false,La,O,by simp[pv,I,U8]⟩
 rintro z g w3 ⟨rfl,rfl⟩;refine QX rfl (λJ=>?_) (λJ=>?_)
 ·refine Qc<|Qe<|Qk ⟨[.int .i64 5],La,?_,O⟩;rw[←hm,if_pos J];rfl
 rw[if_neg (by simp[J])]at hm;refine Qi<|Qx<|QN O O<|Qb<|xe ?_;exact⟨k+1,by omega,La,O,by omega,by rw[JB E];exact hm⟩
theorem zn {L:LN}{w:World}{va vm ve:Value}{a:QM}(h:Zq L w.heap va vm ve a):
  QE prog 93 [.agg #[va,.int .i64 a.st,vm,ve]] w λr w'=>r=.int .i64 (ckE a.al a.st none a.ed)∧Step [] w w':=by
 obtain⟨I,_,G⟩:=h;have h2:=G.le;refine QE.of_W func93 O ntmps93 results93 (by simp) ?_;refine Qc<|xl O<|QP (us:=[va,.int .i64 a.st,vm,ve]) O λb1 w1 Y h3 H=>Qe ?_
 replace I:=I.ext Y
 replace G:=G.ext Y;refine Qg<|Qc<|x (Qa O)<|x (Qd H O O)<|x (Qu G O)<|Qb<|xe<|Qh<|Qz (α:=Nat) [(2,5),(9,71)] (λk=>[(9,.int .i64 k)]) (λk w'=>Step [] w1 w'∧k≤a.ed.length∧ckE a.al a.st (pv a.ed k) (a.ed.drop k)=ckE a.al a.st none a.ed) (λk=>a.ed.length - k) (by rfl) 0 La
  ⟨Step.refl _ _,Lk _,O⟩ ?_
 rintro k g w2 ⟨J,hk,hm⟩
 replace I:=I.ext J
 replace G:=G.ext J
 replace H:=H.ext J;refine Qc<|x (QA O O)<|xe<|Qg<|QD O (λhq=>?_) (λhq=>?_)
 ·refine Qy<|Qc<|Qe<|Qk ⟨[.int .i64 0],La,?_,Y.trans J⟩;rw[←hm,Ls (by omega)];rfl
 have ha:k<a.ed.length:=by omega
 have hd:=Q6 ha;rw[hd,ckE]at hm;refine Qi<|Qg<|Qh<|Qc<|Qb<|xie G O O ha λh4 hr=>x (QG hr O O)<|xl O<|Qr (us:=[.int .i64 0,.int .i64 0,.int .i64 0]) O λb4 w3 hs ht E=>x Qf <|
  xl rfl<|Qm E O O O O ⟨O,O,O,Z⟩ λw4 hu E=>xe ?_
 have T:=hs.then1 hu ht
 replace I:=I.ext T
 replace G:=G.ext T
 replace H:=H.ext T;have U:=(Y.trans J).trans T;refine Qg<|Qh<|QZ (α:=Bool) [(14,36)] (λz=>[(14,.bool z)]) (λz w'=>w'=w4∧z=decide (a.ed[k].1<0∨a.st≤a.ed[k].1∨a.ed[k].2.2<0∨a.st≤a.ed[k].2.2)) (by rfl) ?_ ?_
 ·refine Qx<|x (Qa O)<|x (Qd E O O)<|xb (QA O O) (λhb=>?_) (λhb=>?_)
  ·refine Qb<|xs O<|xs O<|xs O<|xs O<|xs O<|x (Qp O)<|Qb<|xs O<|xs O<|xs O<|x (Qp O)<|Qb<|xs O<|xs O<|xs O<|xs O<|xs O<|x (Qp O)<|Qe ?_;exact⟨true,La,O,by simp[hb]⟩
  refine Qb<|x (Qa O)<|x (Qd E O O)<|x (Qa O)<|x (Qd H O O)<|xb (ZK O O) (λhc=>?_) (λhc=>?_)
  ·refine x (Qp O)<|Qb<|xs O<|xs O<|xs O<|x (Qp O)<|Qb<|xs O<|xs O<|xs O<|xs O<|xs O<|x (Qp O)<|Qe ?_;exact⟨true,La,O,by simp[hc]⟩
  refine x (Qp O)<|Qb<|x (Qa O)<|x (Qd E O O)<|xb (QA O O) (λhe=>?_) (λhe=>?_)
  ·refine x (Qp O)<|Qb<|xs O<|xs O<|xs O<|xs O<|xs O<|x (Qp O)<|Qe ?_;exact⟨true,La,O,by simp[he]⟩
  refine x (Qp O)<|Qb<|x (Qa O)<|x (Qd E O O)<|x (Qa O)<|x (Qd H O O)<|x (ZK O O)<|x (Qp O)<|Qe ?_;exact⟨_,La,O,by simp[hb,hc,he]⟩
 rintro z g w5 ⟨rfl,rfl⟩;refine Q2 rfl (λhf=>?_) (λhf=>?_)
 ·refine Qc<|Qe<|Qk ⟨[.int .i64 2],La,?_,U⟩;rw[←hm,if_pos hf];rfl
 rw[if_neg hf]at hm;refine Qc<|x (Qa O)<|x (Qd H O O)<|x (Qa O)<|x (Qd E O O)<|xl O<|xf<|(Z7 I _).mono ?_;rintro r4 w6 ⟨rfl,rfl⟩;refine x (Zp O)<|Qe<|QX O (λhg=>?_) (λhg=>?_)
 ·have hn:a.ed[k].2.1∉a.al:=by simpa using hg
  refine Qc<|Qe<|Qk ⟨[.int .i64 9],La,?_,U⟩;rw[←hm,if_pos hn];rfl
 have hn:¬(a.ed[k].2.1∉a.al):=by simpa using hg
 rw[if_neg hn]at hm;refine Qi<|Qg<|Qc<|Qb<|x (Zc O O)<|xe<|Q2 rfl (λhv=>?_) (λhv=>?_)
 ·have h0:k=0:=by omega
  rw[if_neg (by simp[pv,h0,edO])]at hm;refine Qy<|Qx<|QN O O<|Qb<|xe ?_;exact⟨k+1,by omega,La,J.trans T,by omega,by rw[JB ha];exact hm⟩
 have h0:k≠0:=by omega
 have hk1:((k:Int) - 1)=((k - 1:Nat):Int):=by omega
 have ho:k - 1<a.ed.length:=by omega
 refine Qi<|Qc<|x (Qa O)<|x (Qd H O O)<|Qb<|x (X4 O O ⟨by omega,by omega⟩)<|xie (i:=k - 1) G O (by show Value.int _ ((k:Int) - 1)=_;rw[hk1]) ho λh5 hw =>
  x (QG hw O O)<|xl O<|Qr (us:=[.int .i64 0,.int .i64 0,.int .i64 0]) O λb5 w7 hy hz V=>xl O<|Qm V O O O O ⟨O,O,O,Z⟩ λw8 h1 V=>xe ?_
 have hh:=hy.then1 h1 hz
 replace E:=E.ext hh
 replace U:=U.trans hh;have hp:pv a.ed k=some a.ed[k - 1]:=by simp[pv,h0,ho]
 rw[hp]at hm;refine QZ (α:=Bool) [(52,70)] (λz=>[(70,.bool z)]) (λz w'=>w'=w8∧z=edO (some a.ed[k - 1]) a.ed[k]) (by rfl) ?_ ?_
 ·refine Qx<|x (Qa O)<|x (Qd E O O)<|x (Qa O)<|x (Qd V O O)<|xb (QA O O) (λhi=>?_) (λhi=>?_)
  ·refine Qb<|xs O<|xs O<|xs O<|xs O<|xs O<|xs O<|xs O<|xs O<|xs O<|xs O<|xs O<|xs O<|x (Qp O)<|xe ?_;exact⟨true,La,O,by simp[edO,hi]⟩
  refine Qb<|x (Qa O)<|x (Qd E O O)<|x (Qa O)<|x (Qd V O O)<|xb (Zc O O) (λhj=>?_) (λhj=>?_)
  ·refine Qb<|x (Qa O)<|x (Qd E O O)<|x (Qa O)<|x (Qd V O O)<|x (Jj O O)<|x (Qp O)<|x (Qp O)<|xe ?_;exact⟨_,La,O,by simp[edO,hj]⟩
  refine Qb<|xs O<|xs O<|xs O<|xs O<|xs O<|x (Qp O)<|x (Qp O)<|xe ?_;exact⟨false,La,O,by simp[edO,hj,hi]⟩
 rintro z g w9 ⟨rfl,rfl⟩;refine QX rfl (λhl=>?_) (λhl=>?_)
 ·refine Qc<|Qe<|Qk ⟨[.int .i64 5],La,?_,U⟩;rw[←hm,if_pos hl];rfl
 rw[if_neg (by simp[hl])]at hm;refine Qi<|Qx<|QN O O<|Qb<|xe ?_;exact⟨k+1,by omega,La,(J.trans T).trans hh,by omega,by rw[JB ha];exact hm⟩
theorem YP {L:LN}{w:World}{va vm ve:Value}{a:QM}(h:Zq L w.heap va vm ve a):
  QE prog 44 [.agg #[va,.int .i64 a.st,vm,ve]] w λr w'=>r=.int .i64 (Y6 a)∧Step [] w w':=by
 refine QE.of_W func44 O ntmps44 results44 (by simp) ?_;refine Qc<|xl O<|QP (us:=[va,.int .i64 a.st,vm,ve]) O λU V E Y G=>Qe ?_
 replace h:=h.ext E;refine Qg<|Qc<|x (Qa O)<|x (Qd G O O)<|xl O<|xf<|(Uj h.al 32).mono ?_;rintro r2 w2 ⟨rfl,rfl⟩;refine Qe<|Qc<|Qb<|x (Q7 O O)<|xe<|Q2 rfl (λh9=>?_) (λh9=>?_)
 ·refine Qc<|Qb<|Qe<|Qk ⟨[.int .i64 (YJ 32 none a.al)],La,?_,E⟩;rw[Y6,if_pos h9];rfl
 refine Qi<|Qg<|Qh<|Qc<|x (Qa O)<|x (Qd G O O)<|x (QA O O)<|Qe<|Q2 O (λH=>?_) (λH=>?_)
 ·refine Qc<|Qe<|Qk ⟨[.int .i64 2],La,?_,E⟩;rw[Y6,if_neg h9,if_pos H];rfl
 refine Qc<|x (Qa O)<|x (Qd G O O)<|x (ZP O O)<|Qe<|Q2 O (λI=>?_) (λI=>?_)
 ·refine Qc<|Qe<|Qk ⟨[.int .i64 3],La,?_,E⟩;rw[Y6,if_neg h9,if_neg H,if_pos I];rfl
 refine Qi<|Qg<|Qc<|x (Qa O)<|x (Qd G O O)<|x (Qa O)<|x (Qd G O O)<|xl O<|xf<|(Uj h.mr a.st).mono ?_;rintro r3 w3 ⟨rfl,rfl⟩;refine Qe<|Qc<|Qb<|x (Q7 O O)<|xe<|Q2 rfl (λJ=>?_) (λJ=>?_)
 ·refine Qc<|Qb<|Qe<|Qk ⟨[.int .i64 (YJ a.st none a.mr)],La,?_,E⟩;rw[Y6,if_neg h9,if_neg H,if_neg I,if_pos J];rfl
 refine Qi<|Qc<|x (Qo G O O)<|xl O<|xf<|(zn h).mono ?_;rintro r4 w4 ⟨rfl,T⟩;refine Qe<|Qk ⟨[.int .i64 (ckE a.al a.st none a.ed)],La,?_,E.trans T⟩;rw[Y6,if_neg h9,if_neg H,if_neg I,if_neg J];rfl
theorem Yl {L:LN}{w:World}{v:Value}{l:LI}(h:QI L w.heap v l):
  QE prog 46 [v] w λr w'=>Step [] w w'∧Qt 3 w.heap.size w' r l:=by
 have V:=h.le;refine QE.of_W func46 O ntmps46 results46 (by simp) ?_;refine Qc<|Qe ?_;obtain⟨ao,cap,E⟩:=h.shape;refine Qg<|Qc<|Qb<|x (Vg (show ev _ _=_ from E) O)<|xe<|QX rfl (λh4=>?_) (λh4=>?_)
 ·refine Qc<|Qe<|Qk ⟨[nS],La,Step.refl _ _,?_⟩;rcases h.2.2 with⟨h1,h2⟩|⟨a,c,h1,_⟩
  ·have:l=[]:=Lq h2;subst this;exact QQ _ _ _ _
  rw[h1]at E;cases E;cases h4
 rcases h.2.2 with⟨h1,h2⟩|⟨a,c,h1,h2,h3⟩
 ·rw[h1]at E;injection E with e1;subst e1;cases h4
 refine Qi<|Qc<|xl O<|VU λY w1 G H I=>Qb<|xl O<|Q5 (base:=w.heap.size) (I.own (n:=0) (sz:=1) O (by omega) H) O (show ev _ _=_ from h1) (by simp) (h3.ext G) (U0 l) (by omega) (by have:=I.lt;omega) λJ w2 T U ha=>Qe<|Qk ⟨[J],La,G.then1 U H,?_⟩;simpa[tup]using T
theorem j8 {g:Nat}{fn:Func}[Fu prog g fn]{keep:Bool→Bool→Bool}(hk:∀(p q:Bool) (w:World),QE prog g [.bool p,.bool q] w λr w'=>r=.bool (keep p q)∧w'=w)
  {L L':LN} {w:World} {va vb:Value} {a b:LI} (ha:QI L w.heap va a) (hb:QI L' w.heap vb b) (hD:a.length+b.length≤1099511627776):
  QE prog 72 [va,vb,.func (.func g) #[] #[]] w λr w'=>Step [] w w'∧Qt 3 w.heap.size w' r (mrg keep a b):=by
 refine QE.of_W func72 O ntmps72 results72 (by simp) ?_;refine Qc<|Qe<|Qc<|Qe<|Qg<|Qh<|Qz (α:=(LI×Value)×(LI×Value)×(LI×Value)) [(0,1),(7,72)] (λz=>[(0,z.1.2),(1,z.2.1.2),(7,z.2.2.2)])
  (λz w'=>QI L w.heap z.1.2 z.1.1∧QI L' w.heap z.2.1.2 z.2.1.1∧Qt 3 w.heap.size w' z.2.2.2 z.2.2.1∧Step [] w w'∧z.2.2.1++mrg keep z.1.1 z.2.1.1=mrg keep a b∧z.2.2.1.length+z.1.1.length+z.2.1.1.length≤1099511627776)
  (λz=>z.1.1.length+z.2.1.1.length) (by rfl) ((a,va),(b,vb),([],nS)) ⟨O,O,O,Z⟩ ⟨ha,hb,QQ _ _ _ _,Step.refl _ _,O,by simp;omega⟩ ?_
 clear ha hb;rintro⟨⟨a1,hy⟩,⟨E,hz⟩,⟨o,vo⟩⟩ g1 w1 ⟨ha,hb,G,hs,hm,hl⟩;simp only[]at ha hb G hs hm hl;refine Qg<|QZ (α:=Bool) [(11,18)] (λz=>[(18,.bool z)]) (λz w'=>w'=w1∧z=decide (¬(a1=[]∧E=[]))) (by rfl) ?_ ?_
 ·refine Qx<|Qb<|x (Qu ha O)<|xb (ZP O O) (λhg=>?_) (λhg=>?_)
  ·refine Qb<|xs O<|xs O<|xs O<|x (Qp O)<|xe ?_;have:a1≠[]:=by intro e;subst e;simp at hg
   exact⟨true,La,O,by simp[this]⟩
  refine Qb<|Qb<|x (Qu hb O)<|x (ZP O O)<|x (Qp O)<|xe ?_;have:a1=[]:=Lq (by omega);refine⟨_,La,O,?_⟩;cases E <;> simp[this]
 rintro z g2 w2 ⟨rfl,rfl⟩;refine QD rfl (λU=>?_) (λU=>?_)
 ·refine Qy<|Qc<|Qb<|Qe<|Qk ⟨[vo],La,hs,?_⟩;obtain⟨rfl,rfl⟩:=Ll.1 U;rw[JD,LL]at hm;rw[←hm];exact G
 refine Qi ?_;rw[Jn keep U]at hm;have hh:=qd U;have hE:=ha.le;have hF:=hb.le;refine Qh<|QZ (α:=Bool) [(8,8),(19,35)] (λz=>[(8,.bool z)]) (λz w'=>Step [] w2 w'∧z=Xr a1 E) (by rfl) ?_ ?_
 ·refine QU (Step [] w2) [(0,true),(1,true),(2,true),(3,true),(4,true),(5,true),(6,true),(7,true),(8,true),(9,true),(10,true),(11,true),(12,true),(13,true),(14,true),(15,true),(16,true),(17,true)] mixed (by rfl) (by kernel_rfl) (Step.drew _ _) ?_;refine p (λ_=>Qn)<|p (λ_=>Qu ha O)<|pb (λ_=>ZP O O) (λhi=>?_) (λhi=>?_)
  ·refine p (λ_=>Qn)<|p (λ_=>Qn)<|p (λ_=>Qu hb O)<|pb (λ_=>Zc O O) (λh0=>?_) (λh0=>?_)
   ·refine p (λ_=>Qn)<|ps<|ps<|ps<|ps<|ps<|ps<|ps<|p (λ_=>Qp O)<|p (λ_=>Qp O)<|p (λ_=>Qf)<|pe ?_;refine⟨true,La,Step.drew _ _,?_⟩;have:E=[]:=Lq (by omega);subst this;cases a1 with
    | nil=>simp at hi
    | cons y a1=>rfl
   have H:0<a1.length:=by omega
   have I:0<E.length:=by omega
   refine p (λ_=>Qn)<|p (λ_=>Qn)<|pii O (i:=0) (ha.ext hs) O O H λhG h1=>pq (λ_ hc=>Qw (h1.ext hc) O) <|
    p (λ_=>Qn)<|pii O (i:=0) (hb.ext hs) O O I λhH h2=>pq (λ_ hc=>Qw (h2.ext hc) O)<|p (λ_=>Jj O O) <|
    p (λ_=>Qp O)<|p (λ_=>Qp O)<|p (λ_=>Qf)<|pe ?_
   refine⟨_,La,Step.drew _ _,?_⟩;cases a1 with
   | nil=>simp at H
   | cons y a1=>cases E with
    | nil=>simp at I
    | cons z E=>rfl
  refine p (λ_=>Qn)<|ps<|ps<|ps<|ps<|ps<|ps<|ps<|ps<|ps<|ps<|ps<|ps<|p (λ_=>Qp O)<|p (λ_=>Qf)<|pe ?_;refine⟨false,La,Step.drew _ _,?_⟩;have:a1=[]:=Lq (by omega);subst this;rfl
 rintro z g3 w3 ⟨hj,rfl⟩
 replace G:=Qs G hj
 replace hs:=hs.trans hj;refine QZ (α:=Bool) [(9,9),(36,52)] (λz=>[(9,.bool z)]) (λz w'=>Step [] w3 w'∧z=Xr E a1) (by rfl) ?_ ?_
 ·refine QU (Step [] w3) [(0,true),(1,true),(2,true),(3,true),(4,true),(5,true),(6,true),(7,true),(8,true),(9,true),(10,true),(11,true),(12,true),(13,true),(14,true),(15,true),(16,true),(17,true)] mixed (by rfl) (by kernel_rfl) (Step.drew _ _) ?_;refine p (λ_=>Qn)<|p (λ_=>Qu hb O)<|pb (λ_=>ZP O O) (λhn=>?_) (λhn=>?_)
  ·refine p (λ_=>Qn)<|p (λ_=>Qn)<|p (λ_=>Qu ha O)<|pb (λ_=>Zc O O) (λh3=>?_) (λh3=>?_)
   ·refine p (λ_=>Qn)<|ps<|ps<|ps<|ps<|ps<|ps<|ps<|p (λ_=>Qp O)<|p (λ_=>Qp O)<|p (λ_=>Qf)<|pe ?_;refine⟨true,La,Step.drew _ _,?_⟩;have:a1=[]:=Lq (by omega);subst this;cases E with
    | nil=>simp at hn
    | cons y E=>rfl
   have H:0<a1.length:=by omega
   have I:0<E.length:=by omega
   refine p (λ_=>Qn)<|p (λ_=>Qn)<|pii O (i:=0) (hb.ext hs) O O I λhI h4=>pq (λ_ hc=>Qw (h4.ext hc) O) <|
    p (λ_=>Qn)<|pii O (i:=0) (ha.ext hs) O O H λhJ h5=>pq (λ_ hc=>Qw (h5.ext hc) O)<|p (λ_=>Jj O O) <|
    p (λ_=>Qp O)<|p (λ_=>Qp O)<|p (λ_=>Qf)<|pe ?_
   refine⟨_,La,Step.drew _ _,?_⟩;cases a1 with
   | nil=>simp at H
   | cons y a1=>cases E with
    | nil=>simp at I
    | cons z E=>rfl
  refine p (λ_=>Qn)<|ps<|ps<|ps<|ps<|ps<|ps<|ps<|ps<|ps<|ps<|ps<|ps<|p (λ_=>Qp O)<|p (λ_=>Qf)<|pe ?_;refine⟨false,La,Step.drew _ _,?_⟩;have:E=[]:=Lq (by omega);subst this;rfl
 rintro z g4 w4 ⟨hp,rfl⟩
 replace G:=Qs G hp
 replace hs:=hs.trans hp;refine Qc<|Qe<|QZ (α:=Value) [(0,0),(10,10),(53,58)] (λz=>[(0,z),(10,.int .i64 (bif Xr a1 E then a1.headD 0 else 0))]) (λz w'=>Step [] w4 w'∧QI L w.heap z (tl (Xr a1 E) a1)) (by rfl) ?_ ?_
 ·refine Qc<|Qb<|xe<|QX O (λJ=>?_) (λJ=>?_)
  ·have H:0<a1.length:=by cases a1 with|nil=>simp[Xr]at J|cons y a1=>simp
   refine QU (Step [] w4) [(0,true),(1,true),(2,true),(3,true),(4,true),(5,true),(6,true)] mixed (by rfl) (by kernel_rfl) (Step.drew _ _) ?_;refine p (λ_=>Qn)<|pii O (i:=0) (ha.ext hs) O O H λh6 V=>pq (λ_ hc=>Qw (V.ext hc) O)<|p (λ_=>Qn) <|
    Qkg rfl (lo:=1) ha O O H λv' hv'=>p (λ_=>Qf)<|p (λ_=>Qf)<|pe ?_
   have Y:=QI.drop hv';refine⟨v',⟨O,?_,Z⟩,Step.drew _ _,?_⟩
   ·show Value.int .i64 a1[0]=_;rw[J];cases a1 with|nil=>simp at H|cons y a1=>rfl
   rw[J];simpa[tl]using Y
  refine Qi<|⟨hy,⟨O,by show _=_;rw[J];rfl,Z⟩,Step.refl _ _,?_⟩;rw[J];exact ha
 rintro hq g5 w5 ⟨hr,ht⟩
 replace G:=Qs G hr
 replace hs:=hs.trans hr;refine QZ (α:=Value) [(1,1),(10,10),(59,64)] (λz=>[(1,z),(10,.int .i64 (bif Xr E a1 then E.headD 0 else bif Xr a1 E then a1.headD 0 else 0))]) (λz w'=>Step [] w5 w'∧QI L' w.heap z (tl (Xr E a1) E)) (by rfl) ?_ ?_
 ·refine Qc<|Qb<|xe<|QX O (λT=>?_) (λT=>?_)
  ·have I:0<E.length:=by cases E with|nil=>simp[Xr]at T|cons y E=>simp
   refine QU (Step [] w5) [(0,true),(1,true),(2,true),(3,true),(4,true),(5,true),(6,true)] mixed (by rfl) (by kernel_rfl) (Step.drew _ _) ?_;refine p (λ_=>Qn)<|pii O (i:=0) (hb.ext hs) O O I λh6 V=>pq (λ_ hc=>Qw (V.ext hc) O)<|p (λ_=>Qn) <|
    Qkg rfl (lo:=1) hb O O I λv' hv'=>p (λ_=>Qf)<|p (λ_=>Qf)<|pe ?_
   have Y:=QI.drop hv';refine⟨v',⟨O,?_,Z⟩,Step.drew _ _,?_⟩
   ·show Value.int .i64 E[0]=_;rw[T];cases E with|nil=>simp at I|cons y E=>rfl
   rw[T];simpa[tl]using Y
  refine Qi<|⟨hz,⟨O,by show _=_;rw[T];rfl,Z⟩,Step.refl _ _,?_⟩;rw[T];exact hb
 rintro hu g6 w6 ⟨hv,hw⟩
 replace G:=Qs G hv
 replace hs:=hs.trans hv;have h7:(bif Xr E a1 then E.headD 0 else bif Xr a1 E then a1.headD 0 else 0)=hx a1 E:=by
  unfold hx;cases e:Xr E a1 with
  | true=>rfl
  | false =>
   cases e2:Xr a1 E with
   | true=>rfl
   | false=>rw[e,e2]at hh;simp[tl]at hh
 refine Qc<|Qb<|Qb<|Qb<|xl O<|xc (first:=[]) (capt:=[]) O<|(hk _ _ _).mono ?_;rintro r7 w7 ⟨rfl,rfl⟩;refine xe<|QX rfl (λhe=>?_) (λhe=>?_)
 ·refine Qx ?_;rw[he,cond_true]at hm;refine Qb<|Qb<|xl O<|QJ (us:=[[.int .i64 (hx a1 E)]]) O O (by decide) (by simp) ⟨by rw[←h7];rfl,O,Z⟩ λhK w8 hf hL h8 =>
   xl rfl<|Q5 (news:=[.int .i64 (hx a1 E)]) (L:=[]) (Qs G hf) O O O (h8.at (by simp)) (by simp[Value.oneCell']) (by omega) (by have:=hs.size;have:=hf.size;omega) λv9 w9 h9 hC hM=>Qe ?_
  have hge:=Qq G;refine⟨((tl (Xr a1 E) a1,hq),(tl (Xr E a1) E,hu),(o++[hx a1 E],v9)),by simp only[];omega,⟨O,O,O,Z⟩,ht,hw,?_,(hs.trans hf).then hC (λb hb=>.inr (hge b hb).1),by rw[LC];exact hm,by simp only[List.length_append,List.length_singleton];omega⟩;exact Qt.snoc h9
 rw[he,cond_false,Mi]at hm;refine Qi ?_;exact⟨((tl (Xr a1 E) a1,hq),(tl (Xr E a1) E,hu),(o,vo)),by simp only[];omega,⟨O,O,O,Z⟩,ht,hw,G,hs,hm,by simp only[];omega⟩
theorem QlL (p q:Bool)(w:World):QE prog 140 [.bool p,.bool q] w λr w'=>r=.bool (p || q)∧w'=w:=by
 refine QE.of_W func140 O ntmps140 results140 (by simp) ?_;refine Qc<|Qe<|Qc ?_;cases p
 ·refine Qb<|Qb<|Qb<|x (Qp O)<|Qe ?_;exact Qk ⟨[.bool q],La,O,O⟩
 refine Qb<|Qb<|xs O<|x (Qp O)<|Qe ?_;exact Qk ⟨[.bool true],La,O,O⟩
theorem QfA (p q:Bool)(w:World):QE prog 78 [.bool p,.bool q] w λr w'=>r=.bool (p && !q)∧w'=w:=by
 refine QE.of_W func78 O ntmps78 results78 (by simp) ?_;refine Qc<|Qe<|Qc ?_;cases p
 ·refine Qb<|Qb<|xs O<|xs O<|x (Qp O)<|Qe ?_;exact Qk ⟨[.bool false],La,O,O⟩
 refine Qb<|Qb<|Qb<|x (Zp O)<|x (Qp O)<|Qe ?_;exact Qk ⟨[.bool (!q)],La,O,O⟩
theorem qS {L L':LN}{w:World}{va vb:Value}{a b:LI}(ha:QI L w.heap va a)(hb:QI L' w.heap vb b)(E:a.length+b.length≤1099511627776):
  QE prog 87 [va,vb] w λr w'=>Step [] w w'∧Qt 3 w.heap.size w' r (mrg (· || ·) a b):=by
 refine QE.of_W func87 O ntmps87 results87 (by simp) ?_;refine Qc<|Qe<|Qc<|Qb<|Qb<|xl O<|xf<|(j8 QlL ha hb E).mono ?_;rintro G I ⟨hs,H⟩;refine Qe ?_;exact Qk ⟨[G],La,hs,H⟩
theorem QaV {L L':LN}{w:World}{va vb:Value}{a b:LI}(ha:QI L w.heap va a)(hb:QI L' w.heap vb b)(E:a.length+b.length≤1099511627776):
  QE prog 36 [va,vb] w λr w'=>Step [] w w'∧Qt 3 w.heap.size w' r (mrg (λp q=>p && !q) a b):=by
 refine QE.of_W func36 O ntmps36 results36 (by simp) ?_;refine Qc<|Qe<|Qc<|Qb<|Qb<|xl O<|xf<|(j8 QfA ha hb E).mono ?_;rintro G I ⟨hs,H⟩;refine Qe ?_;exact Qk ⟨[G],La,hs,H⟩
theorem Qeb {L L':LN}{w:World}{va vb:Value}{a b:LI}(ha:QI L w.heap va a)(hb:QI L' w.heap vb b)(E:a.length+b.length≤1099511627776):
  QE prog 174 [va,vb] w λr w'=>Step [] w w'∧r=.bool (decide (mrg (λp q=>p && !q) a b=[])):=by
 refine QE.of_W func174 O ntmps174 results174 (by simp) ?_;refine Qc<|Qe<|Qc<|Qb<|Qb<|xl O<|xf<|(QaV ha hb E).mono ?_;rintro H I ⟨hs,G⟩;have hm:=Uz (λp q=>p && !q) a b;have hi:=Qt.ints (L:=[]) G (by omega) (by simp);refine x (Qu hi O)<|x (Zc O O)<|Qe<|Qk ⟨[.bool (decide (((mrg (λp q=>p && !q) a b).length:Int)=0))],La,hs,?_⟩;simp[tup]
theorem QgS {g:Nat}{fn:Func}[Fu prog g fn](hk:∀(e:Ed) (s:Int) (w:World),0≤e.1→e.1≤1099511627776→0≤s→s≤1099511627776→QE prog g [.agg (QB e).toArray,.int .i64 s] w λr w'=>r=.int .i64 (e.1 - s)∧Step [] w w')
  {L:LN} {w:World} {v:Value} {es:List Ed} (h:UF L w.heap v es) (hi:es.Pairwise (λa b=>a.1≤b.1)) (hb:∀e∈es,0≤e.1∧e.1≤1099511627776) (s:Int) (U:0≤s) (V:s≤1099511627776):
  QE prog 94 [v,.int .i64 s,.func (.func g) #[] #[]] w λr w'=>Step [] w w'∧∃(i:Nat) (b:Bool),r=.tuple #[.int .i64 i,.bool b]∧i≤es.length ∧
   (∀m (hm:m<es.length),m<i→es[m].1<s)∧(∀m (hm:m<es.length),i≤m→s≤es[m].1):=by
 have hy:=h.le;have Y:∀{i j:Nat} (hj:j<es.length) (G:i<j),es[i].1≤es[j].1:=λ{i j} hj G=>List.pairwise_iff_getElem.1 hi i j (by omega) hj G;have ha:∀m (hm:m<es.length),0≤es[m].1∧es[m].1≤1099511627776:=λm hm=>hb _ (Lh hm);refine QE.of_W func94 O ntmps94 results94 (by simp) ?_
 refine Qc<|x Qf<|Qe<|Qc<|Qb<|x (Qu h O)<|Qe<|Qc<|Qb<|x Qf<|Qe<|Qg<|Qh<|Qz (α:=Nat×Nat) [(9,11),(15,34)] (λz=>[(9,.int .i64 z.1),(10,.int .i64 z.2)])
  (λz w'=>Step [] w w'∧z.1≤z.2∧z.2≤es.length∧(∀m (hm:m<es.length),m<z.1→es[m].1<s)∧(∀m (hm:m<es.length),z.2≤m→s≤es[m].1)) (λz=>z.2 - z.1) (by rfl) (0,es.length) ⟨O,O,Z⟩
  ⟨Step.refl _ _,Lk _,Lu _,λm _ H=>absurd H (Nx m),λm h1 H=>absurd h1 (by simp only[]at H;omega)⟩ ?_
 rintro⟨i,j⟩ g1 w1 ⟨E,G,hj,I,J⟩;simp only[]at G hj I J;refine Qg<|Qc<|Qb<|Qb<|x (QA O O)<|xe<|QD rfl (λhg=>?_) (λhg=>?_)
 ·have e:i=j:=by omega
  subst e;refine Qy<|QZ (α:=Bool) [(6,7),(35,48)] (λz=>[(6,.int .i64 i),(7,.bool z)]) (λz w'=>Step [] w1 w') (by rfl) ?_ ?_
  ·refine Qx<|Qb<|Qb<|Qb<|xb (QA O O) (λhl=>?_) (λhl=>?_)
   ·have hc:i<es.length:=by omega
    have hq:=ha i hc;refine Qb<|Qb<|Qb<|Qb<|xie (h.ext E) O O hc λhz hn=>x (QG hn O O)<|Qb<|xl O<|xc (first:=[]) (capt:=[]) O<|(hk es[i] s _ hq.1 hq.2 U V).mono ?_;rintro r2 w2 ⟨rfl,ho⟩;refine x (Zc O O)<|x (Qp O)<|x Qf<|Qe ?_;exact⟨_,⟨O,O,Z⟩,ho⟩
   refine Qb<|xs O<|xs O<|xs O<|xs O<|xs O<|xs O<|xs O<|xs O<|x (Qp O)<|x Qf<|Qe ?_;exact⟨false,⟨O,O,Z⟩,Step.refl _ _⟩
  rintro z g3 w3 hp;exact Qk ⟨[.int .i64 i,.bool z],⟨O,O,Z⟩,E.trans hp,i,z,O,hj,I,J⟩
 refine Qi<|Qh<|Qc<|Qb<|Qb<|QN O O<|x (ZZ O (by exact⟨by omega,by omega⟩))<|x (zH (n:=1) O O (by decide))<|x (ZZ O (by exact⟨by omega,by omega⟩))<|Qe ?_;have hh:(((i:Int)+(j:Int)) / 2 ^ 1)=(((i+j) / 2:Nat):Int):=by omega
 rw[hh];generalize hq:(i+j) / 2=q;have hr:i≤q:=by omega
 have hs:q<j:=by omega
 have T:q<es.length:=by omega
 have he:=ha q T;refine Qc<|Qb<|Qb<|Qb<|xie (h.ext E) O O T λh2 ht=>x (QG ht O O)<|Qb<|xl O<|xc (first:=[]) (capt:=[]) O<|(hk es[q] s _ he.1 he.2 U V).mono ?_;rintro r4 w4 ⟨rfl,hf⟩;refine x (QA O O)<|xe<|QD rfl (λhu=>?_) (λhu=>?_)
 ·refine Qx<|Qb<|Qe<|⟨(i,q),by simp only[];omega,⟨O,O,Z⟩,E.trans hf,hr,by omega,I,λm hm hv=>?_⟩;by_cases e:q=m
  ·subst e;omega
  have:=Y hm (show q<m by simp only[]at hv;omega);omega
 refine Qx<|Qb<|QN O O<|Qe<|⟨(q+1,j),by simp only[];omega,⟨O,O,Z⟩,E.trans hf,hs,hj,λm hm hw=>?_,J⟩;by_cases e:m=q
 ·subst e;omega
 have:=Y T (show m<q by simp only[]at hw;omega);omega
theorem Qh2 (e:Ed)(s:Int)(w:World)(H:0≤e.1)(h1:e.1≤1099511627776)(h2:0≤s)(h3:s≤1099511627776):
  QE prog 95 [.agg (QB e).toArray,.int .i64 s] w λr w'=>r=.int .i64 (e.1 - s)∧Step [] w w':=by
 refine QE.of_W func95 O ntmps95 results95 (by simp) ?_;refine Qc<|xl O<|QP (us:=QB e) O λI J E T G=>Qe<|Qc<|x (Qa O)<|x (Qd G O O)<|Qb<|x (X4 O O ⟨by omega,by omega⟩)<|Qe ?_;exact Qk ⟨[.int .i64 (e.1 - s)],La,O,E⟩
theorem Qh1 (e:Ed)(s:Int)(w:World)(H:0≤e.1)(h1:e.1≤1099511627776)(h2:0≤s)(h3:s≤1099511627776):
  QE prog 96 [.agg (QB e).toArray,.int .i64 s] w λr w'=>r=.int .i64 (e.1 - s)∧Step [] w w':=by
 refine QE.of_W func96 O ntmps96 results96 (by simp) ?_;refine Qc<|xl O<|QP (us:=QB e) O λI J E T G=>Qe<|Qc<|x (Qa O)<|x (Qd G O O)<|Qb<|x (X4 O O ⟨by omega,by omega⟩)<|Qe ?_;exact Qk ⟨[.int .i64 (e.1 - s)],La,O,E⟩
theorem Qbn {L:LN}{w:World}{va vm ve:Value}{st:Int}{es:List Ed}(h:UF L w.heap ve es)(hi:es.Pairwise (λa b=>a.1≤b.1))(hb:∀e∈es,0≤e.1∧e.1≤1099511627776)(s:Int)(ha:0≤s)(hl:s<1099511627776):
  QE prog 45 [.agg #[va,.int .i64 st,vm,ve],.int .i64 s] w λr w'=>Step [] w w'∧UF L w'.heap r (ZI es s):=by
 refine QE.of_W func45 O ntmps45 results45 (by simp) ?_;refine Qc<|xl O<|QP (us:=[va,.int .i64 st,vm,ve]) O λb2 w1 J hn E=>Qe ?_
 replace h:=h.ext J;refine Qc<|x (Qa O)<|x (Qd E O O)<|Qb<|xl O<|xf<|(QgS Qh2 h hi hb s ha (by omega)).mono ?_;rintro r2 w2 ⟨H,lo,b,rfl,ho,T,he⟩
 replace h:=h.ext H
 replace E:=E.ext H;refine Qb<|x (Qj O O)<|x (Qj O O)<|x Qf<|Qe<|Qc<|x (Qa O)<|x (Qd E O O)<|Qb<|QN O O<|xl O<|xf<|(QgS Qh1 h hi hb (s+1) (by omega) (by omega)).mono ?_;rintro r3 w3 ⟨I,G,b',rfl,U,hf,V⟩
 replace h:=h.ext I
 replace E:=E.ext I;refine Qb<|x (Qj O O)<|x (Qj O O)<|x Qf<|Qe ?_;have Y:lo≤G:=by
  rcases Nat.lt_or_ge G lo with hg|hge
  ·have h1:=T G (by omega) hg;have h2:=V G (by omega) (Lu _);omega
  exact hge
 refine Qc<|x (Qa O)<|x (Qd E O O)<|Qb<|Qb<|Qmw h O O O Y U λv' hv'=>Qe<|Qk ⟨[v'],La,(J.trans H).trans I,?_⟩;have hc:=qz (λe:Ed=>decide (e.1=s)) es lo G Y U (λm hm hh=>by have:=T m hm hh;simp;omega) (λm hm h1 h2=>by have:=he m hm h1;have:=hf m hm h2;simp;omega) (λm hm h1=>by have:=V m hm h1;simp;omega)
 have hj:(ZI es s).length=G - lo:=by unfold ZI;rw[←hc,Lx,L9];omega
 show Zv L w3.heap v' (ZI es s).length 3 _;rw[hj];have e1:(ZI es s).flatMap QB=((es.flatMap QB).drop (lo*3)).take ((G - lo)*3):=by
  unfold ZI;rw[←hc];have key:∀(l:List Ed) (k:Nat),(l.flatMap QB).drop (k*3)=(l.drop k).flatMap QB:=by
   intro l;induction l with
   | nil=>intro k;simp
   | cons a l ih=>intro k;cases k with
    | zero=>simp
    | succ k=>simp only[List.flatMap_cons,List.drop_succ_cons,Nat.add_mul,Nat.one_mul];rw[ME,←List.drop_drop,show(QB a++l.flatMap QB).drop 3=l.flatMap QB from rfl,ih]
  have hk:∀(l:List Ed) (k:Nat),(l.flatMap QB).take (k*3)=(l.take k).flatMap QB:=by
   intro l;induction l with
   | nil=>intro k;simp
   | cons a l ih=>intro k;cases k with
    | zero=>simp
    | succ k =>
     simp only[List.flatMap_cons,List.take_succ_cons,Nat.add_mul,Nat.one_mul];rw[Nr,J6,←ih,Lm (by simp[J6])];simp
  rw[key,hk]
 rw[e1];exact hv'
structure Q3 (a:QM):Prop where
 al:∀e∈a.al,0≤e∧e<32
 ali:Yy a.al
 st0:0≤a.st
 st1:a.st≤4096
 mr:∀s∈a.mr,0≤s∧s<a.st
 mri:Yy a.mr
 ed:∀e∈a.ed,0≤e.1∧e.1<a.st∧e.2.1∈a.al∧0≤e.2.2∧e.2.2<a.st
 edi:a.ed.Pairwise λx y=>x.1<y.1∨(x.1=y.1∧x.2.1<y.2.1)
theorem Z4 (n:Int):∀(l:LI) (pr:Option Int),YJ n pr l=0↔(∀x∈l,0≤x∧x<n)∧Yy l∧∀y,pr=some y→∀x∈l,y<x
 | [],pr=>by simp[YJ]
 | a::l,pr=>by
  have ih:=Z4 n l (some a);rw[YJ];by_cases h1:a<0∨n≤a
  ·rw[if_pos h1];simp only[List.forall_mem_cons];constructor
   ·intro h;cases h
   rintro⟨⟨h,_⟩,_⟩;omega
  rw[if_neg h1];by_cases h2:U8 pr a=true
  ·rw[if_pos h2];constructor
   ·intro h;cases h
   rintro⟨_,_,h⟩;cases pr with
   | none=>simp[U8]at h2
   | some y=>simp[U8]at h2;have:=h y O a Lr;omega
  rw[if_neg h2,ih];simp only[List.forall_mem_cons,List.pairwise_cons];constructor
  ·rintro⟨h3,h4,h5⟩;refine⟨⟨by omega,h3⟩,⟨λb hb=>h5 a O b hb,h4⟩,?_⟩;rintro y rfl;simp[U8]at h2;exact⟨h2,λz E=>by have:=h5 a O z E;omega⟩
  rintro⟨⟨_,h3⟩,⟨h4,h5⟩,_⟩;exact⟨h3,h5,λy hy z E=>by cases hy;exact h4 z E⟩
theorem QaE (al:LI)(st:Int):∀(l:List Ed) (pr:Option Ed),ckE al st pr l=0↔(∀e∈l,0≤e.1∧e.1<st∧e.2.1∈al∧0≤e.2.2∧e.2.2<st)∧(l.Pairwise λx y=>x.1<y.1∨(x.1=y.1∧x.2.1<y.2.1)) ∧
  ∀y,pr=some y→∀e∈l,y.1<e.1∨(y.1=e.1∧y.2.1<e.2.1)
 | [],pr=>by simp[ckE]
 | a::l,pr=>by
  have ih:=QaE al st l (some a);rw[ckE];by_cases h1:a.1<0∨st≤a.1∨a.2.2<0∨st≤a.2.2
  ·rw[if_pos h1];simp only[List.forall_mem_cons];constructor
   ·intro h;cases h
   rintro⟨⟨h,_⟩,_⟩;omega
  rw[if_neg h1];by_cases h2:a.2.1∉al
  ·rw[if_pos h2];constructor
   ·intro h;cases h
   rintro⟨h,_⟩;exact absurd (h a Lr).2.2.1 h2
  rw[if_neg h2];by_cases h3:edO pr a=true
  ·rw[if_pos h3];constructor
   ·intro h;cases h
   rintro⟨_,_,h⟩;cases pr with
   | none=>simp[edO]at h3
   | some y=>simp[edO]at h3;have:=h y O a Lr;omega
  rw[if_neg h3,ih];simp only[List.forall_mem_cons,List.pairwise_cons];have H:a.2.1∈al:=Ll.1 h2;constructor
  ·rintro⟨h4,h5,E⟩;refine⟨⟨⟨by omega,by omega,H,by omega,by omega⟩,h4⟩,⟨λb hb=>E a O b hb,h5⟩,?_⟩;rintro y rfl;simp[edO]at h3;have I:y.1<a.1∨y.1=a.1∧y.2.1<a.2.1:=by omega
   exact⟨I,λz G=>by have:=E a O z G;omega⟩
  rintro⟨⟨_,h4⟩,⟨h5,E⟩,_⟩;exact⟨h4,E,λy hy z G=>by cases hy;exact h5 z G⟩
theorem Zw (a:QM):Y6 a=0↔Q3 a:=by
 unfold Y6;by_cases h1:YJ 32 none a.al≠0
 ·rw[if_pos h1];exact⟨λh=>absurd h h1,λh=>absurd ((Z4 32 a.al none).2 ⟨h.al,h.ali,λ_ h=>by cases h⟩) h1⟩
 rw[if_neg h1];have E:=(Z4 32 a.al none).1 (Ll.1 h1);by_cases h2:a.st<0
 ·rw[if_pos h2];exact⟨λh=>(by cases h),λh=>(by have:=h.st0;omega)⟩
 rw[if_neg h2];by_cases h3:4096<a.st
 ·rw[if_pos h3];exact⟨λh=>(by cases h),λh=>(by have:=h.st1;omega)⟩
 rw[if_neg h3];by_cases h4:YJ a.st none a.mr≠0
 ·rw[if_pos h4];exact⟨λh=>absurd h h4,λh=>absurd ((Z4 a.st a.mr none).2 ⟨h.mr,h.mri,λ_ h=>by cases h⟩) h4⟩
 rw[if_neg h4,QaE];have G:=(Z4 a.st a.mr none).1 (Ll.1 h4);exact⟨λh=>⟨E.1,E.2.1,by omega,by omega,G.1,G.2.1,h.1,h.2.1⟩,λh=>⟨h.ed,h.edi,λ_ h=>by cases h⟩⟩
theorem XJ:∀(l:LI) (a n:Int),Yy l→(∀x∈l,a≤x∧x<n)→(l.length:Int)≤max 0 (n - a)
 | [],a,n,_,_=>by simp;omega
 | x::l,a,n,h1,h2=>by
  simp only[List.pairwise_cons,List.forall_mem_cons]at h1 h2;have:=XJ l (x+1) n h1.2 (λy hy=>⟨by have:=h1.1 y hy;omega,(h2.2 y hy).2⟩);simp only[List.length_cons];omega
theorem Q3.al_le {a:QM}(h:Q3 a):a.al.length≤32:=by have:=XJ a.al 0 32 h.ali h.al;omega
theorem Q3.mr_le {a:QM}(h:Q3 a):a.mr.length≤4096:=by have:=XJ a.mr 0 a.st h.mri h.mr;have:=h.st1;omega
theorem Q3.eds {a:QM}(h:Q3 a):a.ed.Pairwise λx y=>x.1≤y.1:=h.edi.imp λh=>by omega
structure Cs where
 ord:LI
 num:LI
 mk':LI
 ed:List Ed
def Zr (l:LI)(k:Int):Int:=l.getD k.toNat 0
def Zn (i:Nat)(c:Cs)(e:Ed):Cs :=
 if Zr c.num e.2.2<0 then⟨c.ord++[e.2.2],c.num.set e.2.2.toNat c.ord.length,c.mk',c.ed++[((i:Int),e.2.1,(c.ord.length:Int))]⟩
 else⟨c.ord,c.num,c.mk',c.ed++[((i:Int),e.2.1,Zr c.num e.2.2)]⟩
def ZT (a:QM)(i:Nat)(c:Cs):Cs:=if Zr c.ord i∈a.mr then⟨c.ord,c.num,c.mk'++[(i:Int)],c.ed⟩else c
def zh (a:QM)(i:Nat)(c:Cs):Cs:=(ZI a.ed (Zr c.ord i)).foldl (Zn i) (ZT a i c)
def XR (a:QM):Nat→Nat→Cs→Cs
 | 0,_,c=>c
 | f+1,i,c=>if i<c.ord.length then XR a f (i+1) (zh a i c)else c
def Yg (a:QM):Cs:=⟨[0],(List.replicate a.st.toNat (-1)).set 0 0,[],[]⟩
def YK (a:QM):QM:=if a.st=0 then⟨a.al,0,[],[]⟩else
 let c:=XR a a.st.toNat 0 (Yg a);⟨a.al,c.ord.length,c.mk',c.ed⟩
def neg (l:LI):Nat:=(l.filter (·<0)).length
theorem Vj:∀(l:LI) (k:Nat) (v:Int) (h:k<l.length),l[k]<0→0≤v→neg (l.set k v)+1=neg l
 | a::l,0,v,_,h1,h2=>by
  have E:a<0:=h1;simp[neg,E,show ¬v<0 by omega]
 | a::l,k+1,v,h,h1,h2=>by
  have ih:=Vj l k v (by simpa using h) h1 h2;unfold neg at *;simp only[List.set_cons_succ,List.filter_cons];split
  ·simp only[List.length_cons];omega
  exact ih
structure KZ (st:Int)(c:Cs):Prop where
 nl:c.num.length=st.toNat
 sum:c.ord.length+neg c.num=st.toNat
 ord:∀s∈c.ord,0≤s∧s<st
 num:∀v∈c.num,v<c.ord.length
 el:c.ed.length≤1000000000
theorem KZ.le {st:Int}{c:Cs}(h:KZ st c):c.ord.length≤st.toNat:=by have:=h.sum;omega
theorem Vu {l:LI}{k:Int}(h:k.toNat<l.length):Zr l k=l[k.toNat]:=by unfold Zr;simp[List.getD,h]
theorem jF {st:Int}{c:Cs}{i:Nat}{e:Ed}(h:KZ st c)(H:0≤e.2.2)(h1:e.2.2<st)(hl:c.ed.length+1≤1000000000):KZ st (Zn i c e):=by
 have hk:e.2.2.toNat<c.num.length:=by rw[h.nl];omega
 unfold Zn;split
 ·rename_i G;rw[Vu hk]at G;refine⟨by simp[h.nl],?_,?_,?_,by simpa using hl⟩
  ·have:=Vj c.num e.2.2.toNat c.ord.length hk G (by omega);have:=h.sum;simp only[List.length_append,List.length_singleton];omega
  ·intro s hs;simp only[List.mem_append,List.mem_singleton]at hs;rcases hs with hs|rfl
   ·exact h.ord s hs
   exact⟨H,h1⟩
  intro v E;simp only[List.length_append,List.length_singleton];rcases Ni E with E|rfl
  ·have:=h.num v E;omega
  omega
 exact⟨h.nl,h.sum,h.ord,h.num,by simpa using hl⟩
theorem jH (i:Nat)(c:Cs)(e:Ed):(Zn i c e).ed.length=c.ed.length+1:=by unfold Zn;split <;> simp
theorem QfC {a:QM}{st:Int}{c:Cs}{i:Nat}(h:KZ st c):KZ st (ZT a i c):=by
 unfold ZT;split
 ·exact⟨h.nl,h.sum,h.ord,h.num,h.el⟩
 exact h
theorem Yi {es:List Ed}{s:Int}{e:Ed}(h:e∈ZI es s):e∈es∧e.1=s:=by unfold ZI at h;simpa using h
theorem Qdc {a:QM}(I:0<a.st):KZ a.st (Yg a):=by
 have G:0<a.st.toNat:=by omega
 refine⟨by simp[Yg],?_,?_,?_,by simp[Yg]⟩
 ·have H:0<(List.replicate a.st.toNat (-1:Int)).length:=by simpa using G
  have h1:=Vj (List.replicate a.st.toNat (-1)) 0 0 H (by simp) (Na _);have h2:neg (List.replicate a.st.toNat (-1))=a.st.toNat:=by
   unfold neg;rw[Nm.2 (by intro b hb;have:=Nl hb;subst this;rfl)];simp
  simp only[Yg,List.length_singleton];omega
 ·intro s hs;simp[Yg]at hs;subst hs;omega
 intro v E;simp only[Yg,List.length_singleton]at *;rcases Ni E with E|rfl
 ·have:=Nl E;omega
 omega
theorem yh {a:QM}{f i:Nat}{c:Cs}(h:¬i<c.ord.length):XR a f i c=c:=by
 cases f with
 | zero=>rfl
 | succ f=>rw[XR,if_neg h]
theorem Q3.ed_le {a:QM}(h:Q3 a):a.ed.length≤131072:=by
 have h1:Yy (a.ed.map λe=>e.1*32+e.2.1):=by
  refine MW.2 (List.Pairwise.imp_of_mem ?_ h.edi);intro x y hx hy G;have h2:=h.al _ (h.ed x hx).2.2.1;have h3:=h.al _ (h.ed y hy).2.2.1;omega
 have h2:=XJ _ 0 131072 h1 (by
  intro v E;obtain⟨e,he,rfl⟩:=Ly.1 E;have h3:=h.ed e he;have h4:=h.al _ h3.2.2.1;have:=h.st1;omega)
 simp only[List.length_map]at h2;omega
theorem Jk (es:List Ed)(s:Int):(ZI es s).length≤es.length:=LU _ _
structure JK (b3 b22:Nat)(r3:Value)(wS:World)(c:Cs)(vo vk ve:Value)(w:World):Prop where
 st:Step [b3,b22] wS w
 B3:QS w.heap b3 50 [r3,.int .i64 0,vk,ve]
 B22:QS w.heap b22 3 (c.num.map (Value.int .i64))
 o:Qt 3 wS.heap.size w vo c.ord
 k:Qt 3 wS.heap.size w vk c.mk'
 e:ZY 129 wS.heap.size w ve c.ed
 d1:Dj vo vk
 d2:Dj vo ve
 d3:Dj vk ve
theorem JK.ext {b3 b22:Nat}{r3:Value}{wS:World}{c:Cs}{vo vk ve:Value}{w w':World}(h:JK b3 b22 r3 wS c vo vk ve w)(hs:Step [] w w'):JK b3 b22 r3 wS c vo vk ve w' :=
 ⟨h.st.trans hs,h.B3.ext hs,h.B22.ext hs,Qs h.o hs,Qs h.k hs,Qs h.e hs,h.d1,h.d2,h.d3⟩
section
variable {b3 b22:Nat}{r3:Value}{wS:World}{c:Cs}{vo vk ve:Value}{w w' w'':World}
theorem JK.setK (h:JK b3 b22 r3 wS c vo vk ve w)(U:b3<wS.heap.size)(J:b22<wS.heap.size)(ne:b3≠b22){G:Value}{m:LI}(hs:Step (ob vk) w w')(H:Qt 3 wS.heap.size w' G m)
  (I:∀b∈ob G,b∈ob vk∨w.heap.size≤b) (E:Step [b3] w' w'') (T:QS w''.heap b3 50 [r3,.int .i64 0,G,ve]):JK b3 b22 r3 wS ⟨c.ord,c.num,m,c.ed⟩ vo G ve w'':=by
 have hge:=Qq h.k;refine⟨(h.st.then hs (λb hb=>.inr (hge b hb).1)).then E (λb hb=>.inl (by simp at hb;simp[hb])),T,(h.B22.step hs (QW h.k J)).step E (by simp;omega),
  Ql (Ql h.o hs h.d1) E (λb hb=>by have:=(Qq h.o b hb).1;simp;omega),Ql H E (λb hb=>by have:=(Qq H b hb).1;simp;omega),
  Ql (Ql h.e hs h.d3.symm) E (λb hb=>by have:=(Qq h.e b hb).1;simp;omega),h.d1.grow I (Q4 h.o),h.d2,(h.d3.symm.grow I (Q4 h.e)).symm⟩
theorem JK.setE (h:JK b3 b22 r3 wS c vo vk ve w)(T:b3<wS.heap.size)(I:b22<wS.heap.size)(ne:b3≠b22){ve':Value}{m:List Ed}(hs:Step (ob ve) w w')(G:ZY 129 wS.heap.size w' ve' m)
  (H:∀b∈ob ve',b∈ob ve∨w.heap.size≤b) (E:Step [b3] w' w'') (J:QS w''.heap b3 50 [r3,.int .i64 0,vk,ve']):JK b3 b22 r3 wS ⟨c.ord,c.num,c.mk',m⟩ vo vk ve' w'':=by
 have hge:=Qq h.e;refine⟨(h.st.then hs (λb hb=>.inr (hge b hb).1)).then E (λb hb=>.inl (by simp at hb;simp[hb])),J,(h.B22.step hs (QW h.e I)).step E (by simp;omega),
  Ql (Ql h.o hs h.d2) E (λb hb=>by have:=(Qq h.o b hb).1;simp;omega),Ql (Ql h.k hs h.d3) E (λb hb=>by have:=(Qq h.k b hb).1;simp;omega),
  Ql G E (λb hb=>by have:=(Qq G b hb).1;simp;omega),h.d1,h.d2.grow H (Q4 h.o),h.d3.grow H (Q4 h.k)⟩
theorem JK.setN (h:JK b3 b22 r3 wS c vo vk ve w)(H:b22<wS.heap.size)(ne:b3≠b22){m:LI}(E:Step [b22] w w')(G:QS w'.heap b22 3 (m.map (Value.int .i64))):JK b3 b22 r3 wS ⟨c.ord,m,c.mk',c.ed⟩ vo vk ve w' :=
 ⟨h.st.then E (λb hb=>.inl (by simp at hb;simp[hb])),h.B3.step E (by simp;omega),G,Ql h.o E (λb hb=>by have:=(Qq h.o b hb).1;simp;omega),
  Ql h.k E (λb hb=>by have:=(Qq h.k b hb).1;simp;omega),Ql h.e E (λb hb=>by have:=(Qq h.e b hb).1;simp;omega),h.d1,h.d2,h.d3⟩
theorem JK.setO (h:JK b3 b22 r3 wS c vo vk ve w)(H:b3<wS.heap.size)(I:b22<wS.heap.size){E:Value}{m:LI}(hs:Step (ob vo) w w')(J:Qt 3 wS.heap.size w' E m)
  (G:∀b∈ob E,b∈ob vo∨w.heap.size≤b):JK b3 b22 r3 wS ⟨m,c.num,c.mk',c.ed⟩ E vk ve w' :=
 ⟨h.st.then hs (λb hb=>.inr (Qq h.o b hb).1),h.B3.step hs (QW h.o H),h.B22.step hs (QW h.o I),J,Ql h.k hs h.d1.symm,Ql h.e hs h.d2.symm,
  (h.d1.symm.grow G (Q4 h.k)).symm,(h.d2.symm.grow G (Q4 h.e)).symm,h.d3⟩
end
def ZW (c:Cs)(e:Ed):Cs:=if Zr c.num e.2.2<0 then⟨c.ord++[e.2.2],c.num.set e.2.2.toNat c.ord.length,c.mk',c.ed⟩else c
theorem Qh6 (c:Cs)(e:Ed):(ZW c e).num.length=c.num.length:=by unfold ZW;split <;> simp
theorem UJ {i:Nat}{c:Cs}{e:Ed}(h:e.2.2.toNat<c.num.length):Zn i c e=⟨(ZW c e).ord,(ZW c e).num,(ZW c e).mk',(ZW c e).ed++[((i:Int),e.2.1,Zr (ZW c e).num e.2.2)]⟩:=by
 unfold Zn ZW;split
 ·simp[Zr,List.getD,h]
 rfl
set_option maxHeartbeats 1000000 in
theorem jj {L:LN}{w:World}{va vm ve:Value}{a:QM}(h:Zq L w.heap va vm ve a)(T:Q3 a):
  QE prog 212 [.agg #[va,.int .i64 a.st,vm,ve]] w λr w'=>Step [] w w'∧Xk w.heap.size w'.heap r (YK a):=by
 have z9:=T.st0;have hst1:=T.st1;refine QE.of_W func212 O ntmps212 results212 (by simp) ?_;refine Qc<|xl O<|QP (us:=[va,.int .i64 a.st,vm,ve]) O λb1 w1 gk hb1 hj=>xl O<|Qr (us:=[nS,.int .i64 0,nS,nS]) O λb2 w2 ha hb2 ho=>xe ?_;have hl1:=hj.lt;have hl2:=ho.lt;refine Qc<|x (Qa O)<|x (Qd (hj.ext ha) O O)<|xl O<|xf<|(Yl ((h.al.ext gk).ext ha)).mono ?_;rintro r3 w3 ⟨U,H⟩
 have hz3:=U.size;refine x (QK ⟨(Qt.ints (L:=[]) H h.al.le (by simp)).cells,Z⟩)<|xl rfl<|Qr (us:=[nS,.int .i64 0,nS,nS]) rfl λb3 w4 kn ko hp =>
  xl rfl<|Qm (us:=[r3,.int .i64 0,nS,nS]) hp O O O O ⟨(Qt.ints (L:=[]) H h.al.le (by simp)).one,rfl,rfl,rfl,Z⟩ λw5 kp hp=>xe ?_
 have G:Step [] w3 w5:=kn.then1 kp ko;have hl3:=hp.lt;have gl:Step [] w w5:=((gk.trans ha).trans U).trans G;refine Qg<|Qc<|x (Qa O)<|x (Qd (((hj.ext ha).ext U).ext G) O O)<|x (Zc O O)<|xe<|Q2 rfl (λhH=>?_) (λhH=>?_)
 ·refine Qc<|x (Qo hp O O)<|xl O<|Qm (us:=[r3,.int .i64 0,nS,nS]) ((ho.ext U).ext G) O O O O ⟨(Qt.ints (L:=[]) H h.al.le (by simp)).one,rfl,rfl,rfl,Z⟩ λw6 gm ho=>xe ?_;refine Qk ⟨[.agg #[r3,.int .i64 0,nS,nS]],⟨⟨_,O,Qv O (ho.at (L:=[]) (by simp)).cells⟩,Z⟩,gl.then1 gm (by omega),?_⟩;have kq:=Ql (Qs H G) gm (λb hb=>by have:=(Qq H b hb).1;simp;omega);unfold YK;rw[if_pos hH]
  exact⟨r3,_,_,O,λL' hr=>⟨Qt.ints kq h.al.le (λb hb=>by have:=hr b hb;omega),Zv.nil _ _ _,Zv.nil _ _ _⟩⟩
 have kr:0<a.st:=by omega
 obtain⟨n,hn⟩:∃n:Nat,a.st=n:=⟨a.st.toNat,by omega⟩;have kt:a.st.toNat=n:=by omega
 refine Qi<|Qc<|x (Qa O)<|x (Qd (((hj.ext ha).ext U).ext G) O O)<|xl O<|Xh (n:=n) (congrArg (Value.int .i64) hn) (congrArg (Value.int .i64) hn) (by omega) λb22 w7 ht hb22 hJ=>Qe ?_;have hl22:=hJ.lt;have ku:=gl.trans ht
 rw[show(List.replicate n (Value.int .i64 0).cells.toList).flatten=((List.replicate n 0).map (Value.int .i64)) by rw[show(Value.int .i64 0).cells.toList=[Value.int .i64 0] from rfl,jT,List.map_replicate]]at hJ;have kv:Step [] w3 w7:=G.trans ht;refine Qg<|Qc<|Qb<|x (KC O)<|Qb<|xe ?_
 refine Qh<|Qz (α:=Nat) [(5,5),(25,31)] (λk=>[(25,.int .i64 k)]) (λk w'=>Step [b22] w7 w'∧k≤n∧QS w'.heap b22 3 ((List.replicate k (-1)++List.replicate (n - k) 0).map (Value.int .i64))) (λk=>n - k) (by rfl) 0 La
  ⟨Step.refl _ _,Lk _,by simpa using hJ⟩ ?_
 rintro k g w8 ⟨hK,hk,hL⟩;refine Qc<|x (QA O O)<|xe<|Qg<|QD O (λkw=>?_) (λkw=>?_)
 rotate_left
 ·have I:k<n:=by omega
  refine Qi<|Qg<|Qh<|Qc<|Qb<|Qe<|Qx<|Qb<|Qb<|x (QR O O I)<|xl O<|XH hL O O (by simp;omega) λw9 h4 gn=>xe ?_;refine Qx<|QN O O<|Qb<|xe<|⟨k+1,by omega,La,hK.trans' h4,by omega,?_⟩;have e:(List.replicate k (-1:Int)++List.replicate (n - k) 0).set k (-1)=List.replicate (k+1) (-1)++List.replicate (n - (k+1)) 0:=by
   rw[List.set_append_right _ _ (by simp)];obtain⟨m,hm⟩:∃m,n - k=m+1:=⟨n - k - 1,by omega⟩;rw[hm,show n - (k+1)=m by omega,List.replicate_succ,List.replicate_succ' (n:=k)];simp
  rw[e]at gn;exact gn
 have kx:n=k:=by omega
 subst kx;simp only[Nat.sub_self,List.replicate_zero,List.append_nil]at hL;refine Qy<|Qc<|Qb<|x (QR (i:=0) O O (by omega))<|xl O<|XH (i:=0) hL O O (by simp;omega) λwS h4 kz=>xe ?_;have hzS:w8.heap.size≤wS.heap.size:=h4.size;have hz8:=hK.size;have hv:Step [b22] w7 wS:=hK.trans' h4;have hM:Step [] w wS:=ku.then1 hv (by omega)
 have hA:Zq [b3,b22] wS.heap va vm ve a:=(h.up (λb hb=>.inr (by simp at hb;omega))).ext hM;have go:QS wS.heap b1 50 [va,.int .i64 a.st,vm,ve]:=((((hj.ext ha).ext U).ext G).ext ht).step hv (by simp;omega);have k0:QS wS.heap b2 50 [nS,.int .i64 0,nS,nS]:=(((ho.ext U).ext G).ext ht).step hv (by simp;omega)
 have k4:QS wS.heap b3 50 [r3,.int .i64 0,nS,nS]:=(hp.ext ht).step hv (by simp;omega);have k5:Qt 3 w2.heap.size wS r3 a.al:=Ql (Qs H kv) hv (λb hb=>by have:=Q4 H b hb;simp;omega);have k6:∀b∈ob r3,b<w3.heap.size:=Q4 H;have hw:b3<wS.heap.size:=by omega
 have hy:b22<wS.heap.size:=by omega
 have hN:b3≠b22:=by omega
 refine Qc<|xl O<|QJ (us:=[[.int .i64 0]]) O O (by decide) (by simp) ⟨rfl,rfl,Z⟩ λgq k7 hO hb34 k8=>Qe ?_;have k9:Qt 3 wS.heap.size k7 (.slice (some ⟨gq,0,none⟩) 1 1) [0]:=k8.own (n:=1) (sz:=1) O (by omega) (by omega);refine Qg<|Qc<|Qe ?_;have hedle:=T.ed_le;have ma:∀e∈a.ed,0≤e.1∧e.1≤1099511627776:=λe he=>by have:=T.ed e he;omega
 refine Qh<|Qz (α:=Nat×Cs×Value×Value×Value) [(6,9),(11,11),(35,100)] (λz=>[(6,z.2.2.1),(7,.int .i64 z.1)])
  (λz w'=>JK b3 b22 r3 wS z.2.1 z.2.2.1 z.2.2.2.1 z.2.2.2.2 w'∧z.1≤z.2.1.ord.length∧KZ a.st z.2.1∧z.2.1.mk'.length≤z.1∧z.2.1.ed.length≤z.1*131072∧XR a (a.st.toNat - z.1) z.1 z.2.1=XR a a.st.toNat 0 (Yg a))
  (λz=>a.st.toNat - z.1) (by rfl) (0,Yg a,.slice (some ⟨gq,0,none⟩) 1 1,nS,nS) ⟨O,O,Z⟩
  ⟨⟨hO.any,k4.ext hO,by show QS _ _ _ (List.map _ ((List.replicate a.st.toNat (-1)).set 0 0));rw[kt];exact kz.ext hO,k9,QQ _ _ _ _,QQ _ _ _ _,Dj.nil' _,Dj.nil' _,Dj.nil' _⟩,Lk _,Qdc kr,Lk _,Lk _,O⟩ ?_
 rintro⟨i,c,vo,vk,ve'⟩ g2 gr ⟨E,hi,hc,mc,mf,hP⟩;simp only[]at E hi hc mc mf hP;have hcle:=hc.le;have hQ:=Qt.ints (L:=[]) E.o (by omega) (by simp);have mg:=hA.st E.st;have mh:=go.step E.st (by simp;omega);refine Qg<|Qc<|Qb<|Qb<|x (Qu hQ O)<|x (QA O O)<|xe<|QD rfl (λmj=>?_) (λmj=>?_)
 ·have mo:c=XR a a.st.toNat 0 (Yg a):=by rw[←hP,yh (by omega)]
  refine Qy<|Qc<|Qb<|x (Qu hQ O)<|x (Qa O)<|xl O<|QC E.B3 O O (by simp) rfl λmq h5 ms=>xe ?_;refine Qc ?_;have mt:=Qt.ints (L:=[]) E.k (by omega) (by simp);have mu:=ZY.eds (L:=[]) E.e (by have:=hc.el;omega) (by simp);have mv:=Qt.ints (L:=[]) H h.al.le (by simp)
  refine x (Qo ms O O)<|xl O<|Qm (us:=[r3,.int .i64 c.ord.length,vk,ve']) (((k0.step E.st (by simp;omega))).step h5 (by simp;omega)) O O O O ⟨mv.one,O,mt.one,mu.one,Z⟩ λmw h6 mx=>xe ?_;have gs:Step [b3,b22] wS mq:=E.st.then h5 (λb hb=>.inl (by simp at hb;simp[hb]));have my:Step [] w mw:=(hM.then gs (λb hb=>.inr (by simp at hb;omega))).then1 h6 (by omega)
  refine Qk ⟨[.agg #[r3,.int .i64 c.ord.length,vk,ve']],⟨⟨_,O,Qv O (mx.at (L:=[]) (by simp)).cells⟩,Z⟩,my,?_⟩;unfold YK;rw[if_neg hH];simp only[];rw[←mo];have k1:=Ql (Ql E.k h5 (λb hb=>by have:=(Qq E.k b hb).1;simp;omega)) h6 (λb hb=>by have:=(Qq E.k b hb).1;simp;omega)
  have k2:=Ql (Ql E.e h5 (λb hb=>by have:=(Qq E.e b hb).1;simp;omega)) h6 (λb hb=>by have:=(Qq E.e b hb).1;simp;omega);have k3:=Ql (Ql k5 gs (λb hb=>by have:=k6 b hb;simp;omega)) h6 (λb hb=>by have:=(Qq H b hb).1;simp;omega)
  exact⟨r3,vk,ve',O,λL' hr=>⟨Qt.ints k3 h.al.le (λb hb=>by have:=hr b hb;omega),Qt.ints k1 (by show c.mk'.length≤_;omega) (λb hb=>by have:=hr b hb;omega),ZY.eds k2 (by show c.ed.length≤_;have:=hc.el;omega) (λb hb=>by have:=hr b hb;omega)⟩⟩
 have I:i<c.ord.length:=by omega
 refine Qi<|Qg<|Qh<|QZ (α:=Value) [(8,9),(41,57)] (λz=>[]) (λz w'=>JK b3 b22 r3 wS (ZT a i c) vo z ve' w') (by rfl) ?_ ?_
 ·refine Qg<|QU (Step [] gr) [(0,true),(1,true),(2,true),(3,true),(4,true),(5,true),(6,false),(7,true),(8,true),(9,true),(10,true),(11,true)] mixed (by rfl) (by kernel_rfl) (Step.drew _ _) ?_;refine p (λ_=>Qa O)<|pq (λ_ hc=>Qd (mh.ext hc) O O)<|p (λ_=>Qn)<|p (λ_=>Qn)<|pii O hQ O O I λa46 mz =>
   pq (λ_ hc=>Qw (mz.ext hc) O)<|pk<|xf<|(qM (mg.mr.ext (Step.drew _ _)) T.mri _).mono ?_
  rintro r14 w14 ⟨rfl,j14,rfl⟩;refine⟨Step.drew _ _,?_⟩;refine p (λ_=>Qn)<|p (λ_=>Qj O O)<|p (λ_=>Qj O O)<|p (λ_=>Qf)<|p (λ_=>Qf)<|pe ?_;have hR:=E.ext (Step.drew [] gr);refine Qc<|Qb<|xe ?_;have h7:Zr c.ord i=c.ord[i]:=Vu (by simpa using I);refine QD O (λhS=>?_) (λhS=>?_)
  ·refine Qi<|⟨vk,Z,?_⟩;unfold ZT;rw[h7,if_neg hS];exact hR
  refine Qx<|x (Qa O)<|x (Qd hR.B3 O O)<|Qb<|xl O<|QJ (us:=[[.int .i64 i]]) O O (by decide) (by simp) ⟨rfl,rfl,Z⟩ λb55 w15 m0 hb55 m1=>?_;have hz:=hR.ext m0;refine xl O<|Q5 (news:=[.int .i64 i]) (L:=[]) hz.k O O O (m1.at (by simp)) (by simp[Value.oneCell']) (by omega) hz.st.size λgt m2 m3 gu m4=>?_;have gv:Qt 3 wS.heap.size m2 gt (c.mk'++[(i:Int)]):=Qt.snoc m3
  refine x (Qa O)<|xl O<|QC (hz.B3.step gu (QW hz.k hw)) O O (by simp) (Qt.ints (L:=[]) gv (by simp;omega) (by simp)).one λw17 m5 m6=>xe ?_;refine⟨gt,Z,?_⟩;unfold ZT;rw[h7,if_pos hS];exact hz.setK hw hy hN gu gv m4 m5 m6
 rintro hT g3 hf hg;have m7:KZ a.st (ZT a i c):=QfC hc;have hU:(ZT a i c).ord=c.ord:=by unfold ZT;split <;> rfl
 have m8:(ZT a i c).ed=c.ed:=by unfold ZT;split <;> rfl
 have m9:(ZT a i c).mk'.length≤i+1:=by
  unfold ZT;split
  ·simp only[List.length_append,List.length_singleton];omega
  omega
 have gx:QI [] hf.heap vo (ZT a i c).ord:=Qt.ints (L:=[]) hg.o (by rw[hU];omega) (by simp);rw[hU]at gx;have pa:Step [] w hf:=hM.then hg.st (λb hb=>.inr (by simp at hb;omega));have pc:Zq (b3::b22::(ob vo++ob ve')) hf.heap va vm ve a:=(h.up (λb hb=>.inr (by
  simp only[List.mem_cons,List.mem_append]at hb;rcases hb with rfl|rfl|hb|hb
  ·omega
  ·omega
  ·have:=(Qq hg.o b hb).1;omega
  have:=(Qq hg.e b hb).1;omega))).ext pa
 have pd:=go.step hg.st (by simp;omega);have hs:=hc.ord c.ord[i] (Lh I);refine Qg<|QU (Step [] hf) [(0,true),(1,true),(2,true),(3,true),(4,true),(7,true),(5,false),(6,true)] mixed (by rfl) (by kernel_rfl) (Step.drew _ _) ?_;refine pq (λ_ hc=>Qo (pd.ext hc) O O)<|p (λ_=>Qn)<|p (λ_=>Qn)<|pii O gx O O I λa61 pf =>
  pq (λ_ hc=>Qw (pf.ext hc) O)<|p (λ_=>Qn)<|pk<|xf<|(Qbn (pc.ed.ext (Step.drew _ _)) T.eds ma c.ord[i] hs.1 (by omega)).mono ?_
 rintro r19 hh ⟨pg,gy⟩;have gz:Step [] hf hh:=(Step.drew [] hf).trans pg;refine⟨gz,?_⟩;refine p (λ_=>Qu gy O)<|pe ?_;have ph:=hg.ext gz;have h7:Zr c.ord i=c.ord[i]:=Vu (by simpa using I);have hol:=Jk a.ed c.ord[i];have pj:zh a i c=(ZI a.ed c.ord[i]).foldl (Zn i) (ZT a i c):=by unfold zh;rw[h7]
 generalize pn:ZI a.ed c.ord[i]=os at *;have po:∀e∈os,0≤e.2.2∧e.2.2<a.st:=λe he=>by rw[←pn]at he;have:=T.ed e (Yi he).1;omega
 refine Qh<|Qz (α:=Nat×Cs×Value×Value) [(6,6),(11,11),(65,100)] (λz=>[(6,z.2.2.1),(65,.int .i64 z.1)])
  (λz w'=>JK b3 b22 r3 wS z.2.1 z.2.2.1 hT z.2.2.2 w'∧Step (b3::b22::(ob vo++ob ve')) hh w'∧(∀b∈ob z.2.2.1,b∈ob vo∨hh.heap.size≤b)∧(∀b∈ob z.2.2.2,b∈ob ve'∨hh.heap.size≤b)∧z.1≤os.length∧KZ a.st z.2.1∧z.2.1.mk'=(ZT a i c).mk'∧z.2.1.ed.length=c.ed.length+z.1∧c.ord.length≤z.2.1.ord.length∧(os.drop z.1).foldl (Zn i) z.2.1=zh a i c)
  (λz=>os.length - z.1) (by rfl) (0,ZT a i c,vo,ve') ⟨O,O,Z⟩
  ⟨ph,Step.refl _ _,λ_ hb=>.inl hb,λ_ hb=>.inl hb,Lk _,m7,O,by simp[m8],by simp[hU],by rw[pj];rfl⟩ ?_
 rintro⟨k,d,g0,h8⟩ g4 pp ⟨V,h9,hB,hV,pt,J,hW,hX,pu,h0⟩;simp only[]at V h9 hB hV pt J hW hX pu h0;refine Qc<|x (QA O O)<|xe<|Qg<|QD O (λpw=>?_) (λpw=>?_)
 ·rw[Ls (by omega),Nu]at h0;subst h0;refine Qy<|Qx<|Qb<|QN O O<|Qe ?_;have pz:=J.le;refine⟨(i+1,zh a i c,g0,hT,h8),by simp only[];omega,⟨O,O,Z⟩,V,by simp only[];omega,J,by simp only[];rw[hW];exact m9,by simp only[];omega,?_⟩;simp only[];rw[←hP];obtain⟨m,hm⟩:∃m,a.st.toNat - i=m+1:=⟨a.st.toNat - i - 1,by omega⟩
  rw[hm,XR,if_pos I,show a.st.toNat - (i+1)=m by omega]
 have hY:k<os.length:=by omega
 have p0:=Q6 hY;rw[p0,LM]at h0;have g1:=po os[k] (Lh hY);have p4:=gy.st h9;have pz:=J.le;have hzS4:=h9.size;have hI4z:=V.st.size;have p5:=Qt.ints (L:=[]) V.o (by omega) (by simp);obtain⟨q,hq⟩:∃q:Nat,os[k].2.2=q:=⟨os[k].2.2.toNat,by omega⟩;have hZ:os[k].2.2.toNat=q:=by omega
 have ga:q<n:=by omega
 have gb:q<d.num.length:=by rw[J.nl];omega
 have g6:Zr d.num os[k].2.2=d.num[q]:=by rw[Vu (by omega)];simp only[hZ]
 have p6:=Q4 V.e;have p7:=Q4 V.o;refine Qi<|Qg<|Qh<|Qc<|xie p4 O O hY λa67 p8=>x (QG p8 O O)<|xl O<|Qr (us:=[.int .i64 0,.int .i64 0,.int .i64 0]) O λb11 w21 p9 qc Y=>xl O<|Qm (us:=QB os[k]) Y O O O O ⟨O,O,O,Z⟩ λqf ql Y=>xe ?_;have g7:Step [] pp qf:=p9.then1 ql qc;have hC:=V.ext g7;have hl11:=Y.lt;have G:=h9.trans g7
 refine QZ (α:=Value) [(6,6),(69,85)] (λz=>[(6,z)]) (λz w'=>JK b3 b22 r3 wS (ZW d os[k]) z hT h8 w'∧Step (b3::b22::(ob vo++ob ve')) hh w'∧(∀b∈ob z,b∈ob vo∨hh.heap.size≤b)∧QS w'.heap b11 129 (QB os[k])) (by rfl) ?_ ?_
 ·refine Qc<|Qb<|x (Qa O)<|x (Qd Y O O)<|x (QR O (congrArg (Value.int .i64) hq) ga)<|x (Kk hC.B22 O gb)<|x (QA O O)<|xe<|QD O (λgc=>?_) (λgc=>?_)
  ·refine Qi<|⟨g0,La,?_,G,hB,Y⟩;unfold ZW;rw[g6,if_neg gc];exact hC
  refine Qc<|Qb<|x (Qa O)<|x (Qd Y O O)<|Qb<|x (Qu p5 O)<|x (QR O (congrArg (Value.int .i64) hq) ga)<|xl O<|XH hC.B22 O O gb λw23 hD qo=>xe ?_;have qr:=hC.setN hy hN hD qo;have g8:=Y.step hD (by simp;omega);refine Qx<|Qb<|x (Qa O)<|x (Qd g8 O O)<|xl O<|QJ (us:=[[.int .i64 os[k].2.2]]) O O (by decide) (by simp) ⟨rfl,rfl,Z⟩ λb84 w24 hE hb84 q0=>?_
  have ge:=qr.ext hE;refine xl O<|Q5 (news:=[.int .i64 os[k].2.2]) (L:=[]) ge.o O O O (q0.at (by simp)) (by simp[Value.oneCell']) (by show d.ord.length+1≤_;omega) ge.st.size λg9 q4 q5 gg ka=>Qe ?_;have q9:Qt 3 wS.heap.size q4 g9 (d.ord++[os[k].2.2]):=Qt.snoc q5;have hz23:=hD.size;have hz24:=hE.size
  refine⟨g9,La,?_,?_,?_,(g8.ext hE).step gg (λhb=>by have:=p7 _ hb;omega)⟩
  ·unfold ZW;rw[g6,if_pos gc,hZ];exact ge.setO hw hy gg q9 ka
  ·refine((G.then hD (λb hb=>.inl ?_)).trans hE).then gg (λb hb=>?_)
   ·simp at hb;simp[hb]
   rcases hB b hb with h1|h1
   ·exact .inl (by simp[h1])
   exact .inr h1
  intro b hb;rcases ka b hb with h1|h1
  ·exact hB b h1
  exact .inr (by omega)
 rintro j1 g5 gh ⟨h2,kb,j2,kc⟩;have gi:Zn i d os[k]=⟨(ZW d os[k]).ord,(ZW d os[k]).num,(ZW d os[k]).mk',(ZW d os[k]).ed++[((i:Int),os[k].2.1,Zr (ZW d os[k]).num os[k].2.2)]⟩:=UJ (by omega);have j3:q<(ZW d os[k]).num.length:=by rw[Qh6];exact gb
 have j4:Zr (ZW d os[k]).num os[k].2.2=(ZW d os[k]).num[q]:=by rw[Vu (by omega)];simp only[hZ]
 have ke:=QW h2.e hw;have za:=QW h2.e hy;have kf:b11∉ob h8:=λhb=>by have:=p6 _ hb;omega
 have kg:(ZW d os[k]).ed=d.ed:=by unfold ZW;split <;> rfl
 have zb:KZ a.st (Zn i d os[k]):=jF J g1.1 g1.2 (by rw[hX];omega);refine QU (Step (ob h8) gh) [(0,true),(1,true),(2,true),(3,true),(4,true),(5,true),(6,true),(7,true),(8,true),(9,true),(10,true),(11,false),(12,false),(13,true),(14,false)] mixed (by rfl) (by kernel_rfl) (Step.drew _ _) ?_
 refine p (λ_=>Qa O)<|pq (λ_ hc=>Qd (h2.B3.step hc ke) O O)<|p (λ_=>Qn)<|p (λ_=>Qa O)<|pq (λ_ hc=>Qd (kc.step hc kf) O O) <|
  p (λ_=>Qn)<|p (λ_=>Qa O)<|pq (λ_ hc=>Qd (kc.step hc kf) O O)<|p (λ_=>QR O (congrArg (Value.int .i64) hq) ga) <|
  pq (λ_ hc=>Kk (h2.B22.step hc za) O j3)<|p (λ_=>QK ⟨O,O,O,Z⟩)<|pk<|QJ (us:=[QB ((i:Int),os[k].2.1,(ZW d os[k]).num[q])]) O O (by decide) (by exact(by decide:1*3≤1000000)) ⟨O,O,Z⟩ λb97 zv z0 hb97 z2=>?_
 have h3:Step [] gh zv:=(Step.drew [] gh).trans z0;refine⟨h3.any,?_⟩;have hF:=h2.ext h3;refine pk<|Q5 (news:=QB ((i:Int),os[k].2.1,(ZW d os[k]).num[q])) (L:=[]) hF.e O O O (z2.at (by simp)) (λu hu=>by simp only[QB,List.mem_cons,List.not_mem_nil,or_false]at hu;rcases hu with rfl|rfl|rfl <;> rfl) (by rw[kg];have:=J.el;omega) hF.st.size λkh z3 z4 hG ki=>?_
 refine⟨h3.any.trans' hG,?_⟩;have kj:ZY 129 wS.heap.size z3 kh ((ZW d os[k]).ed++[((i:Int),os[k].2.1,(ZW d os[k]).num[q])]):=ZY.snoc z4;refine p (λ_=>Qa O)<|pkl (hl:=by kernel_rfl)<|QC (hF.B3.step hG ke) O O (by simp) (ZY.eds (L:=[]) kj (by simp[kg];have:=J.el;omega) (by simp)).one λw29 kk z5=>pe ?_;have gj:=hF.setE hw hy hN hG kj ki kk z5
 rw[←j4]at gj;rw[←gi]at gj;refine Qx<|QN O O<|Qb<|xe ?_;have hz26:=kb.size;have hz27:=h3.size;refine⟨(k+1,Zn i d os[k],j1,kh),by simp only[];omega,⟨O,O,Z⟩,gj,?_,j2,?_,by simp only[];omega,zb,?_,?_,?_,h0⟩
 ·refine(((kb.trans h3)).then hG (λb hb=>?_)).then kk (λb hb=>.inl (by simp at hb;simp[hb]));rcases hV b hb with h1|h1
  ·exact .inl (by simp[h1])
  exact .inr h1
 ·intro b hb;rcases ki b hb with h1|h1
  ·exact hV b h1
  exact .inr (by omega)
 ·simp only[];rw[←hW,gi];simp only[];unfold ZW;split <;> rfl
 ·simp only[];rw[jH,hX];omega
 simp only[];rw[gi];simp only[];unfold ZW;split
 ·simp only[List.length_append];omega
 omega
end Go.Proofs.YtjcgijbhaemldaaGreatDoor
namespace Go.Proofs
open Go.Proofs.Tryz
open Go.Shelf
def Tryz.lays169_ren:Go.Shelf.Ren:=⟨λ|169=>171|n=>n,λ|70=>290|9=>9|0=>0|72=>292|37=>87|127=>335|3=>3|5=>5|n=>n,λ|n=>n⟩
theorem Tryz.lays169:Go.Proofs.Lays.n169 prog Tryz.lays169_ren:={
 mixed:=by kernel_rfl
 f169:=func171.trans (congrArg some (by kernel_rfl))
 t0:=underlying0
 a0:=Tryz.isAgg0
 z0:=Tryz.sizeOf0
 v0:=Tryz.zeroValue0
 t3:=underlying3
 a3:=Tryz.isAgg3
 z3:=Tryz.sizeOf3
 v3:=Tryz.zeroValue3
 t9:=underlying9
 a9:=Tryz.isAgg9
 z9:=Tryz.sizeOf9
 v9:=Tryz.zeroValue9
 t37:=underlying87
 a37:=Tryz.isAgg87
 z37:=Tryz.sizeOf87
 v37:=Tryz.zeroValue87
 t70:=underlying290
 a70:=Tryz.isAgg290
 z70:=Tryz.sizeOf290
 v70:=Tryz.zeroValue290
 t72:=underlying292
 a72:=Tryz.isAgg292
 z72:=Tryz.sizeOf292
 v72:=Tryz.zeroValue292
 t127:=underlying335
 a127:=Tryz.isAgg335
 z127:=Tryz.sizeOf335
 v127:=Tryz.zeroValue335 }
theorem Tryz.Builder_Extra_169:Builder.Extra prog Tryz.lays169_ren:={
 sizeBuilder:=by kernel_rfl
 liesBuilder:=by kernel_rfl
 t5:=underlying5
 a5:=Tryz.isAgg5
 z5:=Tryz.sizeOf5
 v5:=Tryz.zeroValue5
 infoByte:=by kernel_rfl
 cellsByte:=by kernel_rfl
 sizeByte:=by kernel_rfl
 neB5:=by decide }
open Go.RowKit in
open Go.RowKit in
open Go.RowKit in
theorem Tryz.Builder_String_any (B b:Nat)(l:List UInt8)(w:World)(h:Lib.IsBuilder 292 5 B b (Lib.byteCells l) w)(E:B≤w.heap.size):
  Calls prog 171 #[.pointer (some ⟨b,0,none⟩)] w λe w'=>e=.returned (.string ⟨l.toArray⟩)∧Below B w w':=Any.Builder_String_any Tryz.lays169 Tryz.Builder_Extra_169 B b l w h E
def Tryz.laysM171_ren:Go.Shelf.Ren:=⟨λ|171=>169|243=>210|246=>236|283=>247|284=>248|285=>249|286=>250|129=>208|317=>253|318=>254|319=>255|320=>256|337=>257|338=>258|n=>n,λ|3=>3|9=>9|2=>2|4=>4|171=>368|0=>0|53=>334|37=>87|5=>5|173=>370|212=>375|51=>332|20=>20|213=>376|46=>218|232=>377|233=>378|n=>n,λ|17=>0|18=>1|19=>2|n=>n⟩
theorem Tryz.laysM171:Go.Proofs.LaysM.n171 prog Tryz.laysM171_ren:={
 mixed:=by kernel_rfl
 f129:=func208.trans (congrArg some (by kernel_rfl))
 f171:=func169.trans (congrArg some (by kernel_rfl))
 f243:=func210.trans (congrArg some (by kernel_rfl))
 f246:=func236.trans (congrArg some (by kernel_rfl))
 f283:=func247.trans (congrArg some (by kernel_rfl))
 f284:=func248.trans (congrArg some (by kernel_rfl))
 f285:=func249.trans (congrArg some (by kernel_rfl))
 f286:=func250.trans (congrArg some (by kernel_rfl))
 f317:=func253.trans (congrArg some (by kernel_rfl))
 f318:=func254.trans (congrArg some (by kernel_rfl))
 f319:=func255.trans (congrArg some (by kernel_rfl))
 f320:=func256.trans (congrArg some (by kernel_rfl))
 f337:=func257.trans (congrArg some (by kernel_rfl))
 f338:=func258.trans (congrArg some (by kernel_rfl))
 t0:=underlying0
 a0:=Tryz.isAgg0
 z0:=Tryz.sizeOf0
 v0:=Tryz.zeroValue0
 t2:=underlying2
 a2:=Tryz.isAgg2
 z2:=Tryz.sizeOf2
 v2:=Tryz.zeroValue2
 t3:=underlying3
 a3:=Tryz.isAgg3
 z3:=Tryz.sizeOf3
 v3:=Tryz.zeroValue3
 t4:=underlying4
 a4:=Tryz.isAgg4
 z4:=Tryz.sizeOf4
 v4:=Tryz.zeroValue4
 t5:=underlying5
 a5:=Tryz.isAgg5
 z5:=Tryz.sizeOf5
 v5:=Tryz.zeroValue5
 t9:=underlying9
 a9:=Tryz.isAgg9
 z9:=Tryz.sizeOf9
 v9:=Tryz.zeroValue9
 t20:=underlying20
 a20:=Tryz.isAgg20
 z20:=Tryz.sizeOf20
 v20:=Tryz.zeroValue20
 t37:=underlying87
 a37:=Tryz.isAgg87
 z37:=Tryz.sizeOf87
 v37:=Tryz.zeroValue87
 t46:=underlying218
 a46:=Tryz.isAgg218
 z46:=Tryz.sizeOf218
 v46:=Tryz.zeroValue218
 t51:=underlying332
 a51:=Tryz.isAgg332
 z51:=Tryz.sizeOf332
 v51:=Tryz.zeroValue332
 t53:=underlying334
 a53:=Tryz.isAgg334
 z53:=Tryz.sizeOf334
 v53:=Tryz.zeroValue334
 t171:=underlying368
 a171:=Tryz.isAgg368
 z171:=Tryz.sizeOf368
 v171:=Tryz.zeroValue368
 t173:=underlying370
 a173:=Tryz.isAgg370
 z173:=Tryz.sizeOf370
 v173:=Tryz.zeroValue370
 t212:=underlying375
 a212:=Tryz.isAgg375
 z212:=Tryz.sizeOf375
 v212:=Tryz.zeroValue375
 t213:=underlying376
 a213:=Tryz.isAgg376
 z213:=Tryz.sizeOf376
 t232:=underlying377
 a232:=Tryz.isAgg377
 z232:=Tryz.sizeOf377
 v232:=Tryz.zeroValue377
 t233:=underlying378
 a233:=Tryz.isAgg378
 z233:=Tryz.sizeOf378
 v233:=Tryz.zeroValue378
 g17:=by kernel_rfl
 g18:=by kernel_rfl
 g19:=by kernel_rfl
 i0:=by kernel_rfl
 i2:=by kernel_rfl
 i3:=by kernel_rfl
 i4:=by kernel_rfl
 i5:=by kernel_rfl
 i9:=by kernel_rfl
 i20:=by kernel_rfl
 i37:=by kernel_rfl
 i46:=by kernel_rfl
 i51:=by kernel_rfl
 i53:=by kernel_rfl
 i171:=by kernel_rfl
 i173:=by kernel_rfl
 i212:=by kernel_rfl
 i232:=by kernel_rfl
 i233:=by kernel_rfl
 m17:=by kernel_rfl
 m18:=by kernel_rfl
 m19:=by kernel_rfl }
open Go.RowKit Go.Sort Go.Lib in
theorem Tryz.strconv_Itoa (n:Int)(E:-9223372036854775808≤n)(h1:n≤9223372036854775807)(w:World)(G:Lib.TabIs prog w "internal/strconv.uint64pow10" .u64 Lib.pow10Tab):
  Calls prog 169 #[.int .i64 n] w λe w'=>e=.returned (.string ⟨(Lib.itoa n).toArray⟩)∧∃k os,w'=grow (w.drewN k) os:=Any.strconv_Itoa Tryz.laysM171 n E h1 w G
def Tryz.lays171_ren:Go.Shelf.Ren:=⟨λ|171=>169|243=>210|246=>236|283=>247|284=>248|285=>249|286=>250|129=>208|317=>253|318=>254|319=>255|320=>256|337=>257|338=>258|n=>n,λ|3=>3|9=>9|2=>2|4=>4|171=>368|0=>0|53=>334|37=>87|5=>5|173=>370|212=>375|51=>332|20=>20|213=>376|46=>218|232=>377|233=>378|n=>n,λ|17=>0|18=>1|19=>2|n=>n⟩
theorem Tryz.lays171:Go.Proofs.Lays.n171 prog Tryz.lays171_ren:={
 mixed:=by kernel_rfl
 f129:=func208.trans (congrArg some (by kernel_rfl))
 f171:=func169.trans (congrArg some (by kernel_rfl))
 f243:=func210.trans (congrArg some (by kernel_rfl))
 f246:=func236.trans (congrArg some (by kernel_rfl))
 f283:=func247.trans (congrArg some (by kernel_rfl))
 f284:=func248.trans (congrArg some (by kernel_rfl))
 f285:=func249.trans (congrArg some (by kernel_rfl))
 f286:=func250.trans (congrArg some (by kernel_rfl))
 f317:=func253.trans (congrArg some (by kernel_rfl))
 f318:=func254.trans (congrArg some (by kernel_rfl))
 f319:=func255.trans (congrArg some (by kernel_rfl))
 f320:=func256.trans (congrArg some (by kernel_rfl))
 f337:=func257.trans (congrArg some (by kernel_rfl))
 f338:=func258.trans (congrArg some (by kernel_rfl))
 t0:=underlying0
 a0:=Tryz.isAgg0
 z0:=Tryz.sizeOf0
 v0:=Tryz.zeroValue0
 t2:=underlying2
 a2:=Tryz.isAgg2
 z2:=Tryz.sizeOf2
 v2:=Tryz.zeroValue2
 t3:=underlying3
 a3:=Tryz.isAgg3
 z3:=Tryz.sizeOf3
 v3:=Tryz.zeroValue3
 t4:=underlying4
 a4:=Tryz.isAgg4
 z4:=Tryz.sizeOf4
 v4:=Tryz.zeroValue4
 t5:=underlying5
 a5:=Tryz.isAgg5
 z5:=Tryz.sizeOf5
 v5:=Tryz.zeroValue5
 t9:=underlying9
 a9:=Tryz.isAgg9
 z9:=Tryz.sizeOf9
 v9:=Tryz.zeroValue9
 t20:=underlying20
 a20:=Tryz.isAgg20
 z20:=Tryz.sizeOf20
 v20:=Tryz.zeroValue20
 t37:=underlying87
 a37:=Tryz.isAgg87
 z37:=Tryz.sizeOf87
 v37:=Tryz.zeroValue87
 t46:=underlying218
 a46:=Tryz.isAgg218
 z46:=Tryz.sizeOf218
 v46:=Tryz.zeroValue218
 t51:=underlying332
 a51:=Tryz.isAgg332
 z51:=Tryz.sizeOf332
 v51:=Tryz.zeroValue332
 t53:=underlying334
 a53:=Tryz.isAgg334
 z53:=Tryz.sizeOf334
 v53:=Tryz.zeroValue334
 t171:=underlying368
 a171:=Tryz.isAgg368
 z171:=Tryz.sizeOf368
 v171:=Tryz.zeroValue368
 t173:=underlying370
 a173:=Tryz.isAgg370
 z173:=Tryz.sizeOf370
 v173:=Tryz.zeroValue370
 t212:=underlying375
 a212:=Tryz.isAgg375
 z212:=Tryz.sizeOf375
 v212:=Tryz.zeroValue375
 t213:=underlying376
 a213:=Tryz.isAgg376
 z213:=Tryz.sizeOf376
 t232:=underlying377
 a232:=Tryz.isAgg377
 z232:=Tryz.sizeOf377
 v232:=Tryz.zeroValue377
 t233:=underlying378
 a233:=Tryz.isAgg378
 z233:=Tryz.sizeOf378
 v233:=Tryz.zeroValue378
 g17:=by kernel_rfl
 g18:=by kernel_rfl
 g19:=by kernel_rfl }
open Go.RowKit Go.Sort Go.Lib in
theorem Tryz.strconv_Itoa_small (i:Nat)(hi:i<100)(w:World):
  Calls prog 169 #[.int .i64 i] w λe w'=>e=.returned (.string ⟨(Lib.decDigits i).toArray⟩)∧w'=w:=Any.strconv_Itoa_small Tryz.lays171 i hi w
end Go.Proofs
namespace Go.Lg
open Go.RowKit
section
variable {P:Program}{K:Fr→World→Prop}{f:Fr}{w:World}{d:Option Nat}{ty:Nat}{ps:String}{af:Array Edge}{gd:Option (Nat×Bool)}
theorem Qct {t te E:Nat}(hp:P.underlying t=some (.pointer te)){x y:Operand}{a:Option Addr}(hx:ev f x=.pointer a)(hy:ev f y=.pointer none):
  (execOp (ev f) ⟨d,.binOp .eql t x y E,ty,ps,af,gd⟩).run P w=.ok (.value (.bool a.isNone)) w:=by
 have G:(eqGuard .eql t x y (.pointer a) (.pointer none)).run P w=.ok () w:=by simp[eqGuard]
 have key:∀m,(Op.equalIn (m+1) t (.pointer a) (.pointer none)).run P w=.ok a.isNone w:=by
  intro m;unfold Op.equalIn;cases a <;> simp[run_underlying hp]
 have he:(Op.equal t (.pointer a) (.pointer none)).run P w=.ok a.isNone w:=key 9999;simp only[execOp,hx,hy,Sem.run_bind,G,Result.andThen_ok,binOp,he,Sem.run_pure]
theorem QdD {t te E:Nat}{j:TypeInfo}(hp:P.underlying t=some (.pointer te))(hj:P.info? te=some j){x y:Operand}{a:Addr}(hx:ev f x=.pointer (some a))(hy:ev f y=.pointer (some a)):
  (execOp (ev f) ⟨d,.binOp .neq t x y E,ty,ps,af,gd⟩).run P w=.ok (.value (.bool false)) w:=by
 have G:(eqGuard .neq t x y (.pointer (some a)) (.pointer (some a))).run P w=.ok () w:=by simp[eqGuard]
 simp only[execOp,hx,hy,Sem.run_bind,G,Result.andThen_ok,Lib.run_neq_ptr_same w a hp hj,Sem.run_pure]
theorem Uw {t E:Nat}{x:Operand}{v v':Value}(hx:ev f x=v)(h:(convert t E v).run P w=.ok v' w):
  (execOp (ev f) ⟨d,.convert t E x,ty,ps,af,gd⟩).run P w=.ok (.value v') w:=by
 simp[execOp,hx,h]
theorem Qfd {g:Nat}{fn:Func}{e:Array Value→Sem Value}{x:Operand}{v:Value}{ts:Array Nat}(E:P.funcs[g]?=some fn)(G:(fn.name == "runtime.NumGoroutine")=false)
  (hb:fn.body.isNone=true) (H:Extern.findNext fn=none) (he:Extern.find fn=some e) (h:(e #[ev f x]).run P w=.ok v w):
  (execOp (ev f) ⟨d,.call ⟨.value (.func g),#[x],ts⟩,ty,ps,af,gd⟩).run P w=.ok (.value v) w:=by
 have hc:=run_callFunc_extern E G hb H he #[ev f x] w;rw[h]at hc;have I:ev f (.func g)=.func (.func g) #[] #[]:=rfl;simp[execOp,resolve,I,Deferred.ofValue,invoke,hc,Result.andThen]
theorem Qkk {t e u:Nat}[h:Sl P t e 1 1 (.int .u8 0)](hu:P.underlying u=some .string){s y:Operand}{base:Nat}{v:Value}{n:Nat}{cs:LV}(E:w.ownsRow base e 1 v n cs)(hs:ev f s=v)
  {b:ByteArray} (hy:ev f y=.string b) (hb:n+b.size≤1099511627776) (G:base≤w.heap.size)
  (H:∀v' w',w'.ownsRow base e 1 v' (n+b.size) (cs++Lib.strCells b)→Step (ob v) w w'→K (QY f d v') w'):
  XO P ⟨d,.call ⟨.builtin .append,#[s,y],#[t,u]⟩,ty,ps,af,gd⟩ f w K:=by
 obtain⟨i,hi,I,J,T⟩:=Sl.info h;obtain⟨v',w',U,h2,h3,_⟩:=Lib.run_append_own_string (P:=P) w base t u ty e i h.u hu hi I J T v n cs E b (by simp only[maxLen];omega) (by omega) G;have V:(execOp (ev f) ⟨d,.call ⟨.builtin .append,#[s,y],#[t,u]⟩,ty,ps,af,gd⟩).run P w=.ok (.value v') w':=by
  simp[execOp,resolve,invoke,builtin,hs,hy,U]
 exact xv V (H v' w' h2 (by rw[Qbp];exact Step.of_grown h3))
theorem Qfa {x:Operand}{u:Nat}(hu:P.underlying u=some .string){b:ByteArray}(hx:ev f x=.string b):
  (execOp (ev f) ⟨d,.call ⟨.builtin .len,#[x],#[u]⟩,ty,ps,af,gd⟩).run P w=.ok (.value (.int .i64 b.size)) w:=by
 simp[execOp,resolve,invoke,builtin,Builtin.len_,hx,run_underlying hu,goInt]
end
end Go.Lg
namespace Go.Proofs.YtjcgijbhaemldaaGreatDoor
open Go.Proofs.Tryz
open Go.Lg
def Bl (p:Value)(b:Nat)(E:List UInt8)(w:World):Prop:=∃v,QS w.heap b 292 [p,v]∧w.ownsRow (b+1) 5 1 v E.length (Lib.byteCells E)
def me (b:Nat):Value:=.pointer (some ⟨b,0,none⟩)
theorem Qiy {P:Program}{t n:Nat}(h:(P.info? t).map (·.size)=some n):∃j,P.info? t=some j∧j.size=n:=by
 simpa using h
theorem yk {w:World}{b T:Nat}{cs:LV}(h:QS w.heap b T cs):w.shape? b=some (T,cs.length):=by
 unfold QS at h;simp[World.shape?,h]
theorem VC {G w:World}{b:Nat}{I:List UInt8}{p:Value}(J:Step [] G w)(hb:G.heap.size≤b)(hp:p=.pointer none∨p=me b)(h:Bl p b I w):
  QE prog 209 [me b] w λr w'=>r=.tuple #[]∧Step [] G w'∧Bl (me b) b I w':=by
 obtain⟨v,E,H⟩:=h;obtain⟨j,hj,U⟩:=Qiy (P:=prog) (t:=292) (n:=2) (by kernel_rfl);refine QE.of_W func209 O ntmps209 results209 (by simp) ?_;refine Qc ?_;rcases hp with rfl|rfl
 ·refine Qb<|x (QF O)<|x (Qa O)<|x (Qd E O O)<|x (Qct underlying290 O O)<|xe<|qR O ?_;refine Qx<|Qb<|Qb<|x (Uw (v':=me b) O (Lib.run_to_unsafe w ⟨b,0,none⟩ underlying290 underlying357 hj (by rw[U];decide) (yk E) (by simp))) <|
   x (Qfd (v:=me b) func235 (by kernel_rfl) (by kernel_rfl) (by kernel_rfl) (e:=Extern.AbiNoEscape.same) (by kernel_rfl) O) <|
   x (Uw (v':=me b) O (Lib.run_from_unsafe w ⟨b,0,none⟩ underlying357 underlying290 hj (yk E) (by kernel_rfl)))<|x (QF O) <|
   x (Qa rfl)<|xl O<|QC E O O (by simp) rfl λY T V=>xe ?_
  exact⟨[],Z,O,J.then1 T hb,v,V,Ql H T (λc hc=>by have:=(Qq H c hc).1;simp;omega)⟩
 refine Qb<|x (QF O)<|x (Qa O)<|x (Qd E O O)<|x (Qct underlying290 O O)<|xe<|Yf O ?_;refine Qc<|Qb<|x (QF O)<|x (Qa O)<|x (Qd E O O)<|Qb<|x (QdD underlying290 hj O O)<|xe<|Yf O ?_;refine Qi ?_;exact⟨[],Z,O,J,v,E,H⟩
theorem yu {H w:World}{b:Nat}{E:List UInt8}{p:Value}(h0:Step [] H w)(hb:H.heap.size≤b)(hp:p=.pointer none∨p=me b)(h:Bl p b E w)(c:UInt8)(hl:E.length+1≤1000000000):
  QE prog 170 [me b,.int .u8 c.toNat] w λ_ w'=>Step [] H w'∧Bl (me b) b (E++[c]) w':=by
 refine QE.of_W func170 O ntmps170 results170 (by simp) ?_;refine Qc<|Qe<|Qc<|Qb<|xl O<|xf<|(VC h0 hb hp h).mono ?_;rintro r1 w1 ⟨rfl,ha,v,I,J⟩;refine xe ?_;have hj:=I.lt;refine Qc<|Qb<|Qb<|x (QF O)<|x (Qa O)<|x (Qd I O O)<|Qb<|xl O<|QJ (us:=[[.int .u8 c.toNat]]) O O (by decide) (by simp) ⟨rfl,rfl,Z⟩ λhk w2 G hm he=>?_;have hn:=G.size;have hf:=Qs J G
 refine xl rfl<|Q5 (news:=[.int .u8 c.toNat]) (L:=[]) hf O O O (he.at (by simp)) (by simp[Value.oneCell']) (by omega) (by omega) λU w3 hg V hq=>?_;have hh:=(I.ext G).step V (λhc=>by have:=(Qq J b hc).1;omega);have T:w3.ownsRow (b+1) 5 1 U (E++[c]).length (Lib.byteCells (E++[c])):=by simpa[Lib.byteCells]using hg
 refine x (QF O)<|x (Qa O)<|xl O<|QC hh O O (by simp) (QV (L:=[]) T (by simp;omega) (by simp)).one λw4 Y hi=>xe ?_;refine Qc<|Qe<|Qk ⟨[.nilIface],La,(((ha.trans G).then V (λc hc=>.inr ?_)).then1 Y hb),U,hi,Ql T Y (λc hc=>by have:=(Qq T c hc).1;simp;omega)⟩;have:=(Qq J c hc).1;omega
theorem JV {G w:World}{b:Nat}{E:List UInt8}{p:Value}(h0:Step [] G w)(hb:G.heap.size≤b)(hp:p=.pointer none∨p=me b)(h:Bl p b E w)(s:ByteArray)(hl:E.length+s.size≤1000000000):
  QE prog 168 [me b,.string s] w λ_ w'=>Step [] G w'∧Bl (me b) b (E++s.data.toList) w':=by
 refine QE.of_W func168 O ntmps168 results168 (by simp) ?_;refine Qc<|x Qf<|Qe<|Qc<|Qb<|xl O<|xf<|(VC h0 hb hp h).mono ?_;rintro r1 w1 ⟨rfl,ha,v,H,I⟩;refine xe ?_;have hh:=H.lt;refine Qc<|Qb<|Qb<|x (QF O)<|x (Qa O)<|x (Qd H O O)<|Qb<|xl O<|Qkk underlying9 I O O (by omega) (by omega) λT w3 he U=>?_;have hf:=H.step U (λhc=>by have:=(Qq I b hc).1;omega)
 have V:s.size=s.data.toList.length:=rfl;have J:w3.ownsRow (b+1) 5 1 T (E++s.data.toList).length (Lib.byteCells (E++s.data.toList)):=by
  rw[Lj,←V,show Lib.byteCells (E++s.data.toList)=Lib.byteCells E++Lib.strCells s by simp[Lib.byteCells,Lib.strCells_eq]];exact he
 refine x (QF O)<|x (Qa O)<|xl O<|QC hf O O (by simp) (QV (L:=[]) J (by rw[Lj,←V];omega) (by simp)).one λw4 Y hg=>xe ?_;refine Qc<|Qb<|x (Qfa underlying9 O)<|x Qf<|Qe<|Qk ⟨[.int .i64 s.size,.nilIface],⟨O,O,Z⟩,((ha.then U (λc hc=>.inr ?_)).then1 Y hb),T,hg,Ql J Y (λc hc=>by have:=(Qq J c hc).1;simp;omega)⟩;have:=(Qq I c hc).1;omega
theorem zy {I w:World}{b:Nat}{H:List UInt8}{p:Value}(E:Step [] I w)(hb:I.heap.size≤b)(hp:p=.pointer none∨p=me b)(h:Bl p b H w):
  QE prog 171 [me b] w λr w'=>r=.string ⟨H.toArray⟩∧Step [] I w':=by
 obtain⟨v,J,T⟩:=h;have Y:=J.lt;have U:Lib.BuilderAt 292 5 b b p (Lib.byteCells H) w:=⟨Lu _,v,J,by rw[Lib.byteCells_length];exact Za T (by omega),λe=>by
  have:b∈ob v:=by rw[Qbp,e];simp
  have:=(Qq T b this).1;omega⟩
 unfold QE;refine Calls.mono (Tryz.Builder_String_any b b H w (by rcases hp with rfl|rfl;exact .inl U;exact .inr U) (by omega)) ?_
 rintro e w' ⟨rfl,G⟩;exact⟨O,⟨G.os.trans E.os,G.tape.trans E.tape,G.output.trans E.output,LJ E.size G.size,λk hk V=>(G.block k (by omega)).trans (E.block k hk V)⟩⟩
def Tb (w:World):Prop:=Lib.TabIs prog w "internal/strconv.uint64pow10" .u64 Lib.pow10Tab
theorem Qeq {P:Program}{w w':World}{name:String}{v:Array Value}(h:w.var? P name=some v)(hs:Step [] w w'):w'.var? P name=some v:=by
 unfold World.var? at *;rw[Mk]at *;obtain⟨g,h1,h2⟩:=h;refine⟨g,h1,?_⟩;cases E:w.heap[g]? with
 | none=>rw[E]at h2;cases h2
 | some o =>
  have G:g<w.heap.size:=(LB.1 E).1;rw[hs.block g G (by simp)];exact h2
theorem Tb.ext {w w':World}(h:Tb w)(hs:Step [] w w'):Tb w':=Qeq h hs
def Kb (w:World)(m:Int):Prop:=m≤100∨(m≤1000000∧Tb w)
theorem Kb.ext {w w':World}{m:Int}(h:Kb w m)(hs:Step [] w w'):Kb w' m:=h.imp id λh=>⟨h.1,h.2.ext hs⟩
theorem Kb.le {w:World}{m:Int}(h:Kb w m):m≤1000000:=by rcases h with h|h <;> omega
theorem Qba {w:World}{k:Nat}{os:Array Obj}:Step [] w (Sort.grow (w.drewN k) os):=by
 refine⟨O,O,O,?_,λi hi _=>?_⟩
 ·show w.heap.size≤(w.heap++os).size;simp
 show(w.heap++os)[i]?=w.heap[i]?;rw[Array.getElem?_append_left hi]
theorem QcR {m:Int}(i:Nat)(hi:(i:Int)<m)(w:World)(hk:Kb w m):QE prog 169 [.int .i64 i] w λr w'=>r=.string ⟨(Lib.decDigits i).toArray⟩∧Step [] w w':=by
 unfold QE;rcases hk with hk|hk
 ·refine Calls.mono (Tryz.strconv_Itoa_small i (by omega) w) ?_;rintro e w' ⟨rfl,rfl⟩;exact⟨O,Step.refl _ _⟩
 refine Calls.mono (Tryz.strconv_Itoa i (by omega) (by omega) w hk.2) ?_;rintro e w' ⟨rfl,k,os,rfl⟩;refine⟨?_,Qba⟩;unfold Lib.itoa;rw[if_neg (by omega),Mm]
def XX (l:LI):List UInt8:=l.flatMap λn=>Lib.decDigits n.toNat++[32]
theorem V2:∀(k u:Nat),u<10 ^ k→(Lib.decDigits u).length≤max 1 k
 | 0,u,h=>by
  unfold Lib.decDigits;rw[dif_pos (by simp at h;omega)];simp
 | k+1,u,h=>by
  unfold Lib.decDigits;split
  ·simp
  rename_i hu;have ih:=V2 k (u / 10) (by rw[Nat.pow_succ]at h;omega);rw[Lj];simp only[List.length_singleton];have h1:k≠0:=λe=>by subst e;simp at h;omega
  omega
theorem Bl.ext {w w':World}{p:Value}{b:Nat}{E:List UInt8}(h:Bl p b E w)(hs:Step [] w w'):Bl p b E w':=by
 obtain⟨v,h1,h2⟩:=h;exact⟨v,h1.ext hs,Qs h2 hs⟩
theorem yX {L:LN}{w:World}{v:Value}{l:LI}{m:Int}(h:QI L w.heap v l)(T:Kb w m)(hb:∀n∈l,0≤n∧n<m)(hl:l.length≤1000000):
  QE prog 130 [v] w λr w'=>r=.string ⟨(XX l).toArray⟩∧Step [] w w':=by
 refine QE.of_W func130 O ntmps130 results130 (by simp) ?_;refine Qc<|Qe<|Qc<|xl O<|Qr (us:=[.pointer none,nS]) O λH w1 Y I ha=>xe ?_;refine Qg<|Qc<|Qb<|x (Qu h O)<|Qb<|xe ?_
 refine Qh<|Qz (α:=Nat×Value) [(5,5),(8,16)] (λz=>[(8,.int .i64 z.1)]) (λz w'=>z.1≤l.length∧Step [] w w'∧(z.2=.pointer none∨z.2=me H)∧Bl z.2 H (XX (l.take z.1)) w'∧(XX (l.take z.1)).length≤8*z.1) (λz=>l.length - z.1) (by rfl) (0,.pointer none) La
  ⟨Lk _,Y,.inl O,⟨_,ha,QQ _ _ _ _⟩,Lu _⟩ ?_
 rintro⟨k,p⟩ g w2 ⟨hk,E,hp,G,hc⟩;simp only[]at hk hp G hc;refine Qc<|x (QA O O)<|xe<|Qg<|QD O (λh9=>?_) (λh9=>?_)
 ·refine Qy<|Qc ?_;rw[Lm (by omega)]at G;refine xl O<|xf<|(zy E I hp G).mono ?_;rintro r3 w3 ⟨rfl,he⟩;refine Qe ?_;exact Qk ⟨[.string ⟨(XX l).toArray⟩],La,O,he⟩
 have J:k<l.length:=by omega
 have hn:=hb l[k] (Lh J);obtain⟨q,hq⟩:∃q:Nat,l[k]=q:=⟨l[k].toNat,by omega⟩;have hf:l[k].toNat=q:=by omega
 have ho:=V2 7 q (by have:=T.le;omega);have U:XX (l.take (k+1))=XX (l.take k)++Lib.decDigits q++[32]:=by
  rw[Le J];unfold XX;rw[LD,List.flatMap_singleton,hf,LC]
 refine Qi<|Qg<|Qh<|Qc<|xii (h.ext E) O O J λhr hg=>x (Qw hg O)<|Qe<|Qc<|Qb<|xl O<|xf ?_;refine(show QE _ _ [.int .i64 l[k]] _ _ by rw[hq];exact(QcR q (by omega) w2 (T.ext E))).mono ?_;rintro r4 w4 ⟨rfl,V⟩;refine xl rfl<|xf<|(JV (E.trans V) I hp (G.ext V) ⟨(Lib.decDigits q).toArray⟩ (by show _+(Lib.decDigits q).toArray.size≤_;simp;omega)).mono ?_;rintro r5 w5 ⟨hh,hi⟩
 refine xe<|Qx<|xl O<|xf<|(yu hh I (.inr O) hi 32 (by simp;omega)).mono ?_;rintro r6 w6 ⟨hj,hm⟩;refine xe<|Qx<|QN O O<|Qb<|xe<|⟨(k+1,me H),by simp only[];omega,La,by simp only[];omega,hj,.inr O,?_,?_⟩
 ·simp only[];rw[U];simpa using hm
 simp only[];rw[U];simp;omega
end Go.Proofs.YtjcgijbhaemldaaGreatDoor
namespace Go.Lg
section
variable {P:Program}{ops:List Oper}{K:Fr→World→Prop}{f:Fr}{w:World}{d:Option Nat}{ty:Nat}{ps:String}{af:Array Edge}{gd:Option (Nat×Bool)}{l:List Oper}{C:World→Prop}{pl:List (Nat×Bool)}{i0:Nat}
theorem xig {α:Type}{g:α→LV}{x y:Operand}{t e sz bys:Nat}{z:Value}[Sl P t e sz bys z](E:∀x,(g x).length=sz){L:LN}{es:List α}{v:Value}{k:IntKind}{i:Nat}
  (h:Zv L w.heap v es.length sz (es.flatMap g)) (G:ev f x=v) (hy:ev f y=.int k i) (hi:i<es.length)
  (H:∀a,At L w.heap a (g es[i])→XL P ops K l (QY f d (.pointer (some a))) w) (I:Z2 ops f ⟨d,.indexAddr t x y,ty,ps,af,gd⟩=true:=by rfl):
  XL P ops K (⟨d,.indexAddr t x y,ty,ps,af,gd⟩::l) f w:=by
 obtain⟨a,cap,h1,h2⟩:=Zv.at h hi;rw[JF g sz E es i hi]at h2;refine xl I (xv (X6 (G.trans h1) hy (by omega) (by omega)) (H _ ?_));simpa using h2
theorem pig {α:Type}{g:α→LV}{x y:Operand}{t e sz bys:Nat}{z:Value}[Sl P t e sz bys z](E:QO ops i0=⟨d,.indexAddr t x y,ty,ps,af,gd⟩)(G:∀x,(g x).length=sz){L:LN}{es:List α}{v:Value}{H:Array Obj}{k:IntKind}{i:Nat}
  (h:Zv L H v es.length sz (es.flatMap g)) (I:ev f x=v) (hy:ev f y=.int k i) (hi:i<es.length)
  (J:∀a,At L H a (g es[i])→XP P ops C K pl (QY f d (.pointer (some a))) w) (T:Z2 ops f (QO ops i0)=true:=by rfl):
  XP P ops C K ((i0,true)::pl) f w:=by
 obtain⟨a,cap,h1,h2⟩:=Zv.at h hi;rw[JF g sz G es i hi]at h2;refine Lg.p (λw'=>by rw[E];exact X6 (I.trans h1) hy (by omega) (by omega)) ?_ T;rw[E];refine J _ ?_;simpa using h2
end
theorem Zv.grow {X X' Y:LN}{w w':World}{v:Value}{n sz:Nat}{cs:LV}(h:Zv X w.heap v n sz cs)(hs:Step Y w w')(E:∀b∈Y,b∈X)(G:∀b∈X',b∈X∨w.heap.size≤b):Zv X' w'.heap v n sz cs:=by
 have h1:Zv (X++X') w.heap v n sz cs:=h.up (λb hb=>by
  rcases Lp.1 hb with h1|h1
  ·exact .inl h1
  exact G b h1)
 have h2:=h1.step hs (λb hb=>Lp.2 (.inl (E b hb)));exact h2.up (λb hb=>.inl (Lp.2 (.inr hb)))
structure AV where
 va:Value
 vm:Value
 ve:Value
 a:QM
abbrev Q9 (p:AV):LV:=[p.va,.int .i64 p.a.st,p.vm,p.ve]
structure YH (L:LN)(H:Array Obj)(v:Value)(ps:List AV):Prop where
 arr:Zv L H v ps.length 4 (ps.flatMap Q9)
 each:∀p∈ps,Zq L H p.va p.vm p.ve p.a
theorem YH.ext {L:LN}{w w':World}{v:Value}{ps:List AV}(h:YH L w.heap v ps)(hs:Step [] w w'):YH L w'.heap v ps:=⟨h.arr.ext hs,λp hp=>(h.each p hp).ext hs⟩
theorem YH.st {L:LN}{w w':World}{v:Value}{ps:List AV}(h:YH L w.heap v ps)(hs:Step L w w'):YH L w'.heap v ps:=⟨h.arr.st hs,λp hp=>(h.each p hp).st hs⟩
theorem YH.up {L L':LN}{H:Array Obj}{v:Value}{ps:List AV}(h:YH L H v ps)(E:∀b∈L',b∈L∨H.size≤b):YH L' H v ps:=⟨h.arr.up E,λp hp=>(h.each p hp).up E⟩
abbrev TV:=Value×LI
abbrev Yq (p:TV):LV:=[p.1]
structure Jg (L:LN)(H:Array Obj)(v:Value)(ps:List TV):Prop where
 arr:Zv L H v ps.length 1 (ps.flatMap Yq)
 each:∀p∈ps,QI L H p.1 p.2
theorem Jg.ext {L:LN}{w w':World}{v:Value}{ps:List TV}(h:Jg L w.heap v ps)(hs:Step [] w w'):Jg L w'.heap v ps:=⟨h.arr.ext hs,λp hp=>(h.each p hp).ext hs⟩
theorem Jg.st {L:LN}{w w':World}{v:Value}{ps:List TV}(h:Jg L w.heap v ps)(hs:Step L w w'):Jg L w'.heap v ps:=⟨h.arr.st hs,λp hp=>(h.each p hp).st hs⟩
theorem Jg.up {L L':LN}{H:Array Obj}{v:Value}{ps:List TV}(h:Jg L H v ps)(E:∀b∈L',b∈L∨H.size≤b):Jg L' H v ps:=⟨h.arr.up E,λp hp=>(h.each p hp).up E⟩
def QbW (N:Nat)(H:Array Obj)(v:Value)(l:List (LI)):Prop:=∃ps:List TV,ps.map (·.2)=l∧∀L:LN,(∀b∈L,b<N)→Jg L H v ps
theorem QbW.mono {N M:Nat}{H:Array Obj}{v:Value}{l:List (LI)}(h:QbW N H v l)(E:M≤N):QbW M H v l:=let⟨ps,h1,h2⟩:=h;⟨ps,h1,λL G=>h2 L (λb hb=>L8 (G b hb) E)⟩
abbrev QbV (e base:Nat)(w:World)(v:Value)(ps:List TV):Prop:=w.ownsRow base e 1 v ps.length (ps.flatMap Yq)
theorem QbV.snoc {e base:Nat}{w:World}{v:Value}{ps:List TV}{p:TV}(h:w.ownsRow base e 1 v (ps.length+1) (ps.flatMap Yq++[p.1])):QbV e base w v (ps++[p]):=by
 unfold QbV;rw[Lj,LD];simpa using h
theorem VS {w:World}{base e sz n:Nat}{v:Value}{cs:LV}(h:w.ownsRow base e sz v n cs)(E:0<n):∃g cap,v=.slice (some ⟨g,0,none⟩) n cap:=by
 rcases h.2 with⟨_,G⟩|⟨g,cap,cur,h1,_⟩
 ·omega
 exact⟨g,cap,h1⟩
section
variable {P:Program}{ops:List Oper}{K:Fr→World→Prop}{f:Fr}{w:World}{d:Option Nat}{ty:Nat}{ps:String}{af:Array Edge}{gd:Option (Nat×Bool)}{l:List Oper}
theorem jY {t:Nat}[h1:Xj P t]{x y:Operand}{base e n g cap i:Nat}{cs:LV}{u:Value}(h:w.ownsRow base e 1 (.slice (some ⟨g,0,none⟩) n cap) n cs)(hx:ev f x=.pointer (some ⟨g,0+i*1,none⟩))(hy:ev f y=u)(hi:i<n)(hu:u.oneCell'=true)
  (G:∀w',Step [g] w w'→w'.ownsRow base e 1 (.slice (some ⟨g,0,none⟩) n cap) n (cs.set i u)→K (QY f d undef) w'):XO P ⟨d,.store t x y,ty,ps,af,gd⟩ f w K:=by
 obtain⟨hl,h⟩:=h;rcases h with⟨H,_⟩|⟨g',cap',cur,e1,hb,I,J,hm,E,T⟩
 ·cases H
 cases e1
 have U:QS w.heap g e cur.toList:=by unfold QS;simpa using I
 refine QC (j:=i) U (by rw[hx];simp) hy (by simp[E];omega) hu λw' hs V=>G w' hs ⟨by simpa using hl,.inr ⟨g,cap,(cur.toList.set i u).toArray,rfl,hb,V,J,hm,by simpa using E,?_⟩⟩;rw[←T];simp[List.take_set]
end
section
variable {P:Program}{f:Fr}{w:World}{d:Option Nat}{ty:Nat}{ps:String}{af:Array Edge}{gd:Option (Nat×Bool)}{κ:Type}[DecidableEq κ]
theorem zI {t kt et:Nat}{z:Value}[hm:Mp P t kt et z]{enc:κ→Value}[hk:Key P kt enc]{x y:Operand}{b:Nat}{m:List (κ×Value)}{k:κ}{u:Value}(h:ZG enc w.heap b m)(hx:ev f x=.map (some b))(hy:ev f y=enc k)(E:mget m k=some u):
  (execOp (ev f) ⟨d,.lookup t x y true,ty,ps,af,gd⟩).run P w=.ok (.value (.tuple #[u,.bool true])) w:=by
 have:=J0 (P:=P) (t:=t) (d:=d) (ty:=ty) (ps:=ps) (af:=af) (gd:=gd) h hx hy;rw[E]at this;exact this
theorem QdE {t kt et:Nat}{z:Value}[hm:Mp P t kt et z]{enc:κ→Value}[hk:Key P kt enc]{x y:Operand}{b:Nat}{m:List (κ×Value)}{k:κ}(h:ZG enc w.heap b m)(hx:ev f x=.map (some b))(hy:ev f y=enc k)(E:mget m k=none):
  (execOp (ev f) ⟨d,.lookup t x y true,ty,ps,af,gd⟩).run P w=.ok (.value (.tuple #[z,.bool false])) w:=by
 have:=J0 (P:=P) (t:=t) (d:=d) (ty:=ty) (ps:=ps) (af:=af) (gd:=gd) h hx hy;rw[E]at this;exact this
end
end Go.Lg
namespace Go.Proofs.YtjcgijbhaemldaaGreatDoor
open Go.Lg
def ckL:List QM→Int
 | []=>0
 | a::l=>if Y6 a≠0 then Y6 a else ckL l
def JM (l:List QM):Int:=if 12<l.length then 3 else ckL l
theorem VD:∀(l:List QM),ckL l=0↔∀a∈l,Q3 a
 | []=>by simp[ckL]
 | a::l=>by
  rw[ckL];by_cases h:Y6 a=0
  ·rw[if_neg (by simpa using h),VD l];simp[(Zw a).1 h]
  rw[if_pos h];simp only[List.forall_mem_cons];exact⟨λe=>absurd e h,λe=>absurd ((Zw a).2 e.1) h⟩
def evs (l:List QM):LI:=l.foldl (λacc a=>mrg (· || ·) acc a.al) []
def JL (m:List ((Int×Int)×Value))(es:List Ed):List ((Int×Int)×Value):=es.foldl (λm e=>mput m (e.1,e.2.1) (.int .i64 e.2.2)) m
def eget:List Ed→Int→Int→Option Int
 | [],_,_=>none
 | e::l,s,v=>if e.1=s∧e.2.1=v then some e.2.2 else eget l s v
theorem Ju {l:List Ed}{s v:Int}(h:∀e∈l,¬(e.1=s∧e.2.1=v)):eget l s v=none:=by
 induction l with
 | nil=>rfl
 | cons e l ih =>
  rw[eget,if_neg (h e Lr)];exact ih λe he=>h e (Ln _ he)
theorem VZ:∀(es:List Ed) (m:List ((Int×Int)×Value)) (s v:Int),(es.Pairwise λx y=>x.1<y.1∨(x.1=y.1∧x.2.1<y.2.1)) →
  mget (JL m es) (s,v)=match eget es s v with|some t=>some (.int .i64 t)|none=>mget m (s,v)
 | [],m,s,v,_=>rfl
 | e::es,m,s,v,h=>by
  simp only[List.pairwise_cons]at h;have ih:=VZ es (mput m (e.1,e.2.1) (.int .i64 e.2.2)) s v h.2;unfold JL at *;rw[LM,ih,eget];by_cases hk:e.1=s∧e.2.1=v
  ·rw[if_pos hk,Ju (λx hx E=>by have:=h.1 x hx;omega)];simp only[Jo];rw[if_pos (by rw[hk.1,hk.2])]
  rw[if_neg hk];cases eget es s v with
  | some t=>rfl
  | none =>
   simp only[Jo];rw[if_neg (λhe=>hk (by simpa using he))]
def Zt (ev:Int):List QM→LI→Option (LI)
 | a::bs,t::ts=>if ev∉a.al then(Zt ev bs ts).map (t::·)else match eget a.ed t ev with|none=>none|some u=>(Zt ev bs ts).map (u::·)
 | _,_=>some []
def Xm:List QM→LI→Bool
 | a::bs,t::ts=>decide (t∈a.mr) && Xm bs ts
 | _,_=>true
structure Sy where
 tup:List (LI)
 mk':LI
 ed:List Ed
def syE (aa:List QM)(i:Nat)(t:LI)(s:Sy)(v:Int):Option Sy :=
 match Zt v aa t with
 | none=>some s
 | some u=>if u∈s.tup then some ⟨s.tup,s.mk',s.ed++[((i:Int),v,(s.tup.idxOf u:Int))]⟩
  else if s.tup.length=4096 then none else some ⟨s.tup++[u],s.mk',s.ed++[((i:Int),v,(s.tup.length:Int))]⟩
def KK (aa:List QM)(i:Nat)(t:LI):LI→Sy→Option Sy
 | [],s=>some s
 | v::vs,s=>(syE aa i t s v).bind (KK aa i t vs)
def ZC (aa:List QM)(i:Nat)(t:LI)(s:Sy):Sy:=if Xm aa t=true then⟨s.tup,s.mk'++[(i:Int)],s.ed⟩else s
def Ub (s:Sy)(i:Nat):LI:=s.tup.getD i []
def jA (aa:List QM):Nat→Nat→Sy→Option Sy
 | 0,_,s=>some s
 | f+1,i,s=>if i<s.tup.length then(KK aa i (Ub s i) (evs aa) (ZC aa i (Ub s i) s)).bind (jA aa f (i+1))else some s
def Un (aa:List QM):Sy:=⟨[List.replicate aa.length 0],[],[]⟩
def sync (aa:List QM):Option (QM×List (LI)):=
 if ∃a∈aa,a.st=0 then some (⟨evs aa,0,[],[]⟩,[])else(jA aa 4096 0 (Un aa)).map λs=>(⟨evs aa,s.tup.length,s.mk',s.ed⟩,s.tup)
theorem QeB {aa:List QM}{f i:Nat}{s:Sy}(h:¬i<s.tup.length):jA aa f i s=some s:=by
 cases f with
 | zero=>rfl
 | succ f=>rw[jA,if_neg h]
def Vt (aa:List QM)(t:LI):Prop:=t.length=aa.length∧∀i (h:i<t.length) (h':i<aa.length),0≤t[i]∧t[i]<aa[i].st
theorem Vt.cons {a:QM}{aa:List QM}{u:Int}{t:LI}(E:0≤u)(h1:u<a.st)(h:Vt aa t):Vt (a::aa) (u::t):=by
 refine⟨by simp[h.1],λi h2 h3=>?_⟩;cases i with
 | zero=>exact⟨E,h1⟩
 | succ i=>exact h.2 i (by simpa using h2) (by simpa using h3)
theorem VA {l:List Ed}{s v u:Int}(h:eget l s v=some u):(s,v,u)∈l:=by
 induction l with
 | nil=>cases h
 | cons e l ih =>
  rw[eget]at h;split at h
  ·rename_i he;obtain⟨e1,e2⟩:=he;cases h
   obtain⟨a,b,c⟩:=e;simp only[]at e1 e2;subst e1 e2;exact Lr
  exact Ln _ (ih h)
theorem X1 {v:Int}:∀{aa:List QM}{t u:LI},(∀a∈aa,Q3 a)→Vt aa t→Zt v aa t=some u→Vt aa u
 | [],t,u,_,h,hs=>by
  cases t with
  | nil=>simp[Zt]at hs;subst hs;exact h
  | cons x t=>have:=h.1;simp at this
 | a::aa,[],u,_,h,hs=>by have:=h.1;simp at this
 | a::aa,x::t,u,E,h,hs=>by
  have hx:=h.2 0 (by simp) (by simp);have ht:Vt aa t:=⟨by have:=h.1;simpa using this,λi h2 h3=>h.2 (i+1) (by simpa using h2) (by simpa using h3)⟩;have G:∀a∈aa,Q3 a:=λa ha=>E a (Ln _ ha);rw[Zt]at hs;split at hs
  ·obtain⟨H,h1,rfl⟩:=MG.1 hs;exact Vt.cons hx.1 hx.2 (X1 G ht h1)
  split at hs
  ·cases hs
  rename_i q hq;obtain⟨H,h1,rfl⟩:=MG.1 hs;have:=(E a Lr).ed _ (VA hq);exact Vt.cons this.2.2.2.1 this.2.2.2.2 (X1 G ht h1)
structure V8 (aa:List QM)(s:Sy):Prop where
 v:∀t∈s.tup,Vt aa t
 le:s.tup.length≤4096
theorem zw {aa:List QM}{i:Nat}{t:LI}{s:Sy}(h:V8 aa s):V8 aa (ZC aa i t s):=by
 unfold ZC;split
 ·exact⟨h.v,h.le⟩
 exact h
theorem QeF {aa:List QM}{i:Nat}{t:LI}{s E:Sy}{v:Int}(G:∀a∈aa,Q3 a)(h:V8 aa s)(ht:Vt aa t)(hs:syE aa i t s v=some E):V8 aa E:=by
 unfold syE at hs;split at hs
 ·cases hs;exact h
 rename_i u hu;have H:=X1 G ht hu;split at hs
 ·cases hs;exact⟨h.v,h.le⟩
 split at hs
 ·cases hs
 cases hs
 have:=h.le;refine⟨λt ht=>?_,by simp;omega⟩;simp only[List.mem_append,List.mem_singleton]at ht;rcases ht with ht|rfl
 ·exact h.v t ht
 exact H
open Go.Proofs.Tryz
theorem Jf (p:AV):(Q9 p).length=4:=rfl
theorem yx (p:TV):(Yq p).length=1:=rfl
theorem YH.le {L:LN}{H:Array Obj}{v:Value}{ps:List AV}(h:YH L H v ps):ps.length≤1099511627776:=h.arr.le
theorem QgI {l:List QM}{k:Nat}(h:k<l.length):ckL (l.drop k)=if Y6 l[k]≠0 then Y6 l[k]else ckL (l.drop (k+1)):=by
 rw[LH h,ckL]
theorem zK {L:LN}{w:World}{v:Value}{ps:List AV}(h:YH L w.heap v ps):
  QE prog 52 [v] w λr w'=>r=.int .i64 (JM (ps.map (·.a)))∧Step [] w w':=by
 have hi:=YH.le h;refine QE.of_W func52 O ntmps52 results52 (by simp) ?_;refine Qc<|Qe<|Qg<|Qc<|Qb<|x (Qu h.arr O)<|x (ZP O O)<|xe<|Q2 rfl (λV=>?_) (λV=>?_)
 ·refine Qc<|Qe<|Qk ⟨[.int .i64 3],La,?_,Step.refl _ _⟩;unfold JM;rw[if_pos (by simp;omega)];rfl
 refine Qi ?_;have Y:JM (ps.map (·.a))=ckL (ps.map (·.a)):=by unfold JM;rw[if_neg (by simp;omega)]
 rw[Y];refine Qg<|Qc<|Qb<|x (Qu h.arr O)<|Qb<|xe<|Qh<|Qz (α:=Nat) [(2,2),(4,5),(11,20)] (λz=>[(11,.int .i64 z)]) (λz w'=>z≤ps.length∧Step [] w w'∧ckL (ps.map (·.a))=ckL ((ps.map (·.a)).drop z)) (λz=>ps.length - z) (by rfl) 0 La
  ⟨Lk _,Step.refl _ _,O⟩ ?_
 rintro k g w1 ⟨hk,E,hck⟩;refine Qc<|x (QA O O)<|xe<|Qg<|QD O (λha=>?_) (λha=>?_)
 ·refine Qy<|Qc<|Qe<|Qk ⟨[.int .i64 0],La,?_,E⟩;rw[hck,Ls (by simp;omega)];rfl
 have G:k<ps.length:=by omega
 have hb:k<(ps.map (·.a)).length:=by simpa using G
 rw[QgI hb,MS]at hck;refine Qi<|Qg<|Qh<|Qc<|xig Jf (h.ext E).arr O O G λhj hc=>x (QG hc O O)<|xl O<|Qr (us:=[nS,.int .i64 0,nS,nS]) O λb4 w2 he hf I=>?_;have H:=h.each ps[k] (Lh G);refine xl rfl<|Qm (us:=Q9 ps[k]) I O O O O ⟨H.al.one,O,H.mr.one,H.ed.one,Z⟩ λw3 hg I=>xe ?_;have T:Step [] w1 w3:=he.then1 hg hf
 refine Qc<|x (Qo I O O)<|xl O<|xf<|(YP ((H.ext E).ext T)).mono ?_;rintro r4 w4 ⟨rfl,hh⟩;refine Qe ?_;have U:=(E.trans T).trans hh;refine Qc<|Qb<|x (Q7 O O)<|xe<|Q2 rfl (λJ=>?_) (λJ=>?_)
 ·refine Qc<|Qb<|Qe<|Qk ⟨[.int .i64 (Y6 ps[k].a)],La,?_,U⟩;rw[hck,if_pos J];rfl
 refine Qi<|Qx<|QN O O<|Qb<|xe<|⟨k+1,by omega,La,G,U,?_⟩;rw[hck,if_neg J]
theorem Qgn {l:List QM}{k:Nat}(h:k<l.length):evs (l.take (k+1))=mrg (· || ·) (evs (l.take k)) l[k].al:=by
 unfold evs;rw[Le h,Mj];rfl
theorem UC (l:List QM)(h:∀a∈l,a.al.length≤32):(evs l).length≤32*l.length:=by
 have key:∀(l:List QM) (acc:LI),(∀a∈l,a.al.length≤32)→(l.foldl (λacc a=>mrg (· || ·) acc a.al) acc).length≤acc.length+32*l.length:=by
  intro l;induction l with
  | nil=>intro acc _;simp
  | cons a l ih =>
   intro acc h;have h1:=ih (mrg (· || ·) acc a.al) (λa ha=>h a (Ln _ ha));have h2:=Uz (· || ·) acc a.al;have h3:=h a Lr;simp only[List.foldl_cons,List.length_cons];omega
 have:=key l [] h;unfold evs;simpa using this
theorem ya {L:LN}{w:World}{v:Value}{ps:List AV}(h:YH L w.heap v ps)(hn:ps.length≤12)(U:∀p∈ps,p.a.al.length≤32):
  QE prog 53 [v] w λr w'=>Step [] w w'∧Qt 3 w.heap.size w' r (evs (ps.map (·.a))):=by
 refine QE.of_W func53 O ntmps53 results53 (by simp) ?_;refine Qc<|Qe<|Qc<|Qe<|Qg<|Qc<|Qb<|x (Qu h.arr O)<|Qb<|xe<|Qh<|Qz (α:=Nat×Value) [(3,3),(5,5),(8,16)] (λz=>[(3,z.2),(8,.int .i64 z.1)]) (λz w'=>z.1≤ps.length∧Step [] w w'∧Qt 3 w.heap.size w' z.2 (evs ((ps.map (·.a)).take z.1))) (λz=>ps.length - z.1) (by rfl) (0,nS) ⟨O,O,Z⟩
  ⟨Lk _,Step.refl _ _,QQ _ _ _ _⟩ ?_
 rintro⟨k,vo⟩ g Y ⟨hk,I,G⟩;simp only[]at hk G;have hi:=UC ((ps.map (·.a)).take k) (λa ha=>by obtain⟨p,hp,rfl⟩:=Ly.1 (LO ha);exact U p hp);have hj:((ps.map (·.a)).take k).length≤12:=by simp;omega
 refine Qc<|x (QA O O)<|xe<|Qg<|QD O (λh9=>?_) (λh9=>?_)
 ·refine Qy<|Qc<|Qb<|Qe<|Qk ⟨[vo],La,I,?_⟩;rw[Lm (by simp;omega)]at G;exact G
 have E:k<ps.length:=by omega
 refine Qi<|Qg<|Qh<|Qc<|xig Jf (h.ext I).arr O O E λhl hb=>x (QG hb O O)<|xl O<|Qr (us:=[nS,.int .i64 0,nS,nS]) O λb5 w2 hc he J=>?_;have H:=h.each ps[k] (Lh E);have hm:=U ps[k] (Lh E);refine xl rfl<|Qm (us:=Q9 ps[k]) J O O O O ⟨H.al.one,O,H.mr.one,H.ed.one,Z⟩ λw3 hf J=>xe ?_;have V:Step [] Y w3:=hc.then1 hf he
 have T:=I.trans V;refine Qx<|Qb<|x (Qa O)<|x (Qd J O O)<|xl O<|xf<|(qS (Qt.ints (L:=[]) (Qs G V) (by omega) (by simp)) (H.al.ext T) (by omega)).mono ?_;rintro r4 w4 ⟨hg,hh⟩;refine Qe<|Qx<|QN O O<|Qb<|xe<|⟨(k+1,r4),by simp only[];omega,⟨O,O,Z⟩,E,T.trans hg,?_⟩;simp only[];rw[Qgn (by simpa using E),MS];exact Za hh T.size
abbrev Qab (b:Nat):LV:=[.map (some b)]
structure Ke (L:LN)(H:Array Obj)(vl ve vs:Value)(ps:List AV)(ms:LN):Prop where
 al:YH L H vl ps
 ev:QI L H ve (evs (ps.map (·.a)))
 ml:ms.length=ps.length
 sl:Zv L H vs ms.length 1 (ms.flatMap Qab)
 mp:∀i (h:i<ms.length) (h':i<ps.length),ZG ZQ H ms[i] (JL [] ps[i].a.ed)∧ms[i]∉L
theorem Ke.ext {L:LN}{w w':World}{vl ve vs:Value}{ps:List AV}{E:LN}(h:Ke L w.heap vl ve vs ps E)(hs:Step [] w w'):Ke L w'.heap vl ve vs ps E :=
 ⟨h.al.ext hs,h.ev.ext hs,h.ml,h.sl.ext hs,λi h1 h2=>⟨(h.mp i h1 h2).1.ext hs,(h.mp i h1 h2).2⟩⟩
theorem Ke.st {L:LN}{w w':World}{vl ve vs:Value}{ps:List AV}{E:LN}(h:Ke L w.heap vl ve vs ps E)(hs:Step L w w'):Ke L w'.heap vl ve vs ps E :=
 ⟨h.al.st hs,h.ev.st hs,h.ml,h.sl.st hs,λi h1 h2=>⟨(h.mp i h1 h2).1.step hs (h.mp i h1 h2).2,(h.mp i h1 h2).2⟩⟩
theorem Ke.up {L L':LN}{H:Array Obj}{vl ve vs:Value}{ps:List AV}{G:LN}(h:Ke L H vl ve vs ps G)(E:∀b∈L',b∈L∨H.size≤b):Ke L' H vl ve vs ps G :=
 ⟨h.al.up E,h.ev.up E,h.ml,h.sl.up E,λi h1 h2=>⟨(h.mp i h1 h2).1,λhm=>by rcases E _ hm with h3|h3;exact(h.mp i h1 h2).2 h3;have:=(h.mp i h1 h2).1.lt;omega⟩⟩
theorem qw {m:List ((Int×Int)×Value)}{es:List Ed}{k:Nat}(h:k<es.length):JL m (es.take (k+1))=mput (JL m (es.take k)) (es[k].1,es[k].2.1) (.int .i64 es[k].2.2):=by
 unfold JL;rw[Le h,Mj];rfl
theorem QcA {L:LN}{w:World}{vl:Value}{ps:List AV}(h:YH L w.heap vl ps)(hn:ps.length≤12)(hE:∀p∈ps,p.a.al.length≤32)(hL:∀b∈L,b<w.heap.size):
  QE prog 106 [vl] w λr w'=>Step [] w w'∧∃ve vs E,r=.agg #[vl,ve,vs]∧Ke L w'.heap vl ve vs ps E∧Qt 3 w.heap.size w' ve (evs (ps.map (·.a))):=by
 refine QE.of_W func106 O ntmps106 results106 (by simp) ?_;refine Qc<|xl O<|Qr (us:=[nS,nS,nS]) O λb2 w1 hu hQ hv=>xe ?_;refine Qc<|Qb<|Qb<|xl O<|xf<|(ya (h.ext hu) hn hE).mono ?_;rintro ve w2 ⟨Y,hc⟩;have hR:=UC (ps.map (·.a)) (λa ha=>by obtain⟨p,hp,rfl⟩:=Ly.1 ha;exact hE p hp);have ka:(evs (ps.map (·.a))).length≤1000:=by simp at hR;omega
 have hw:=Qt.ints (L:=[]) hc (by omega) (by simp);refine x (QK ⟨h.arr.cells,hw.cells,Z⟩)<|xl O<|Qr (us:=[nS,nS,nS]) O λb3 w3 hS hT he =>
  xl rfl<|Qm (us:=[vl,ve,nS]) he O O O O ⟨h.arr.one,hw.one,O,Z⟩ λG hU he=>xe ?_
 have hV:=hu.size;have kb:=Y.size;have hf:Step [] w2 G:=hS.then1 hU hT;have kc:=hv.lt;have ke:=he.lt;have hW:Step [] w G:=(hu.trans Y).trans hf;have hX:=Qs hc hf;refine Qg<|Qc<|Qb<|x (Qu h.arr O)<|Qb<|xe ?_;have hY:=Q4 hc;refine Qh<|Qz (α:=Nat×LN×Value) [(5,6),(8,8),(15,42)] (λz=>[(15,.int .i64 z.1)])
  (λz w'=>z.1≤ps.length∧z.2.1.length=z.1∧Step [b3] G w'∧QS w'.heap b3 215 [vl,ve,z.2.2]∧w'.ownsRow G.heap.size 217 1 z.2.2 z.2.1.length (z.2.1.flatMap Qab) ∧
   (∀i (h:i<z.2.1.length) (h':i<ps.length),ZG ZQ w'.heap z.2.1[i] (JL [] ps[i].a.ed)∧G.heap.size≤z.2.1[i]∧z.2.1[i]∉ob z.2.2)) (λz=>ps.length - z.1) (by rfl) (0,[],nS) La
  ⟨Lk _,O,Step.refl _ _,he,QQ _ _ _ _,λi h=>by simp at h⟩ ?_
 rintro⟨k,E,vs⟩ g w5 ⟨hk,hg,H,hy,I,hh⟩;simp only[]at hk hg H hy I hh;have hl:Step [] w w5:=hW.then1 H (by omega);have kf:=H.size;have ho:=Qq I;refine Qc<|x (QA O O)<|xe<|Qg<|QD O (λhZ=>?_) (λhZ=>?_)
 ·have ga:k=ps.length:=by omega
  subst ga;refine Qy<|Qc ?_;have gb:=QV (L:=[]) I (by omega) (by simp);refine x (Qo hy O O)<|xl O<|Qm (us:=[vl,ve,vs]) (((hv.ext Y).ext hf).step H (by simp;omega)) O O O O ⟨h.arr.one,hw.one,gb.one,Z⟩ λw6 hr gc=>xe ?_;have hF:=hl.then1 hr hQ
  have hG:Qt 3 w1.heap.size w6 ve _:=Ql (Ql hX H (λb hb=>by have:=hY b hb;simp;omega)) hr (λb hb=>by have:=(Qq hc b hb).1;simp;omega);have hH:=Ql I hr (λb hb=>by have:=(ho b hb).1;simp;omega)
  refine Qk ⟨[.agg #[vl,ve,vs]],⟨⟨_,O,Qv O (gc.at (L:=[]) (by simp)).cells⟩,Z⟩,hF,ve,vs,E,rfl,⟨h.ext hF,Qt.ints hG (by omega) (λb hb=>by have:=hL b hb;omega),hg,QV hH (by omega) (λb hb hz=>by have:=hL b hz;have:=(Qq hH b hb).1;omega),λi h1 h2=>⟨?_,λhz=>by have:=hL _ hz;have:=(hh i h1 h2).2.1;omega⟩⟩,Za hG hV⟩;obtain⟨J,m2,_⟩:=hh i h1 h2;exact J.step hr (λhb=>by
   simp only[List.mem_singleton]at hb;have h7:=(((hv.ext Y).ext hf).step H (by simp;omega));rw[hb]at J;obtain⟨es,c,m4,_⟩:=J;unfold QS at h7;rw[h7]at m4;cases m4)
 have h0:k<ps.length:=by omega
 have T:=h.each ps[k] (Lh h0);refine Qi<|Qg<|Qh<|Qc<|xig Jf (h.ext hl).arr O O h0 λkg ge=>x (QG ge O O)<|xl O<|Qr (us:=[nS,.int .i64 0,nS,nS]) O λb5 w7 gg gh gi =>
  xl rfl<|Qm (us:=Q9 ps[k]) gi O O O O ⟨T.al.one,O,T.mr.one,T.ed.one,Z⟩ λw8 gj hI=>xe ?_
 have gk:Step [] w5 w8:=gg.then1 gj gh;have kh:=hI.lt;refine Qc<|xl O<|ZV ZQ λbm w9 hJ ki hK=>Qe ?_;have kj:=hK.lt;have hM:=gk.trans hJ;have gl:=hl.trans hM;refine Qg<|Qc<|x (Qa O)<|x (Qd (hI.ext hJ) O O)<|x (Qu T.ed O)<|Qb<|xe ?_;have gm:=(T.ed.up (L':=[bm]) (λb hb=>.inr (by simp at hb;have:=hl.size;omega))).ext gl;have kk:=T.ed.le
 refine Qh<|Qz (α:=Nat) [(8,8),(23,35)] (λz=>[(23,.int .i64 z)]) (λz w'=>z≤ps[k].a.ed.length∧Step [bm] w9 w'∧ZG ZQ w'.heap bm (JL [] (ps[k].a.ed.take z))) (λz=>ps[k].a.ed.length - z) (by rfl) 0 La
  ⟨Lk _,Step.refl _ _,hK⟩ ?_
 rintro j g2 U ⟨hj,hs,h3⟩;have kn:=hs.size;refine Qc<|x (QA O O)<|xe<|Qg<|QD O (λgn=>?_) (λgn=>?_)
 ·refine Qy ?_;rw[Lm (by omega)]at h3;have h4:Step [] w5 U:=hM.then1 hs (by omega);have hN:QS U.heap b3 215 [vl,ve,vs]:=hy.ext h4;refine Qx<|x (Qa O)<|x (Qd hN O O)<|Qb<|xl O<|QJ (us:=[[.map (some bm)]]) O O (by decide) (by simp) ⟨rfl,rfl,Z⟩ λko go ht kp gq=>?_;have h6:=h4.trans ht;have gr:=Qs I h6;have kq:=h6.size
  refine xl O<|Q5 (news:=[.map (some bm)]) (L:=[]) gr O O O (gq.at (by simp)) (by simp[Value.oneCell']) (by omega) (by omega) λh8 gs gt h9 hO=>?_;have hB:gs.ownsRow G.heap.size 217 1 h8 (E++[bm]).length ((E++[bm]).flatMap Qab):=by
   rw[Lj,LD];simpa using gt
  have gu:=(hN.ext ht).step h9 (QW I (by omega));refine x (Qa O)<|xl O<|QC gu O O (by simp) (QV (L:=[]) hB (by simp;omega) (by simp)).one λgv hC gx=>xe ?_;refine Qx<|QN O O<|Qb<|xe ?_;have gy:∀b∈ob h8,G.heap.size≤b:=λb hb=>(Qq hB b hb).1;have kr:U.heap.size≤go.heap.size:=ht.size
  refine⟨(k+1,E++[bm],h8),by simp only[];omega,La,h0,by simp[hg],?_,gx,Ql hB hC (λb hb=>by have:=gy b hb;simp;omega),?_⟩
  ·exact((H.trans h6).then h9 (λb hb=>.inr (ho b hb).1)).trans' hC
  intro i h1 h2;simp only[List.length_append,List.length_singleton]at h1;have keep:∀(c:Nat) (m:List ((Int×Int)×Value)),ZG ZQ U.heap c m→c≠b3→c∉ob vs→ZG ZQ gv.heap c m:=λc m hm gz g0 =>
   ((hm.ext ht).step h9 g0).step hC (by simpa using gz)
  by_cases hi:i<E.length
  ·obtain⟨J,m2,m3⟩:=hh i hi h2;simp only[List.getElem_append_left hi];refine⟨keep _ _ (J.ext h4) (by omega) m3,m2,λhb=>?_⟩;have kt:=J.lt;rcases hO _ hb with h5|h5
   ·exact m3 h5
   omega
  have g1:i=E.length:=by omega
  subst g1;simp only[List.getElem_append_right (Nat.le_refl _),Nat.sub_self,List.getElem_singleton];have hq:E.length=k:=hg;have e2:ps[E.length]=ps[k]:=by simp only[hq]
  rw[e2];refine⟨keep _ _ h3 (by omega) (λhb=>by have:=(ho _ hb).2;omega),by omega,λhb=>?_⟩;rcases hO _ hb with h5|h5
  ·have:=(ho _ h5).2;omega
  omega
 have hD:j<ps[k].a.ed.length:=by omega
 refine Qi<|Qg<|Qh<|Qc<|xie (gm.st hs) O O hD λku g3=>x (QG g3 O O)<|xl O<|Qr (us:=[.int .i64 0,.int .i64 0,.int .i64 0]) O λb8 kv g4 g5 V=>xl O<|Qm (us:=QB ps[k].a.ed[j]) V O O O O ⟨O,O,O,Z⟩ λg6 g7 V=>xe ?_;have hP:Step [] U g6:=g4.then1 g7 g5;refine Qx<|Qb<|x (Qa O)<|x (Qd V O O)<|x (Qa O)<|x (Qd V O O)<|x (QK ⟨O,O,Z⟩)<|x (Qa O) <|
  x (Qd V O O)<|xl O<|Yw (k:=(ps[k].a.ed[j].1,ps[k].a.ed[j].2.1)) (h3.ext hP) O O λkw g8 g9=>xe ?_
 refine Qx<|QN O O<|Qb<|xe<|⟨j+1,by omega,La,hD,(hs.trans hP).trans' g8,?_⟩;rw[qw hD];exact g9
theorem Qby {L:LN}{w:World}{vl ve vs:Value}{ps:List AV}{ms:LN}(h:Ke L w.heap vl ve vs ps ms)(hn:ps.length≤12):
  QE prog 129 [.agg #[vl,ve,vs]] w λr w'=>Step [] w w' ∧
   if ∃p∈ps,p.a.st=0 then r=.tuple #[nS,.bool false]else ∃v,r=.tuple #[v,.bool true]∧Qt 3 w.heap.size w' v (List.replicate ps.length 0):=by
 refine QE.of_W func129 O ntmps129 results129 (by simp) ?_;refine Qc<|xl O<|QP (us:=[vl,ve,vs]) O λb1 w1 G hl U=>x Qf<|Qe<|Qg<|Qc<|x (Qa O)<|x (Qd U O O)<|x (Qu h.al.arr O)<|Qb<|xe<|Qh<|Qz (α:=Nat) [(2,3),(5,5),(9,16)] (λz=>[(9,.int .i64 z)]) (λz w'=>z≤ps.length∧Step [] w1 w'∧∀i (h:i<ps.length),i<z→ps[i].a.st≠0) (λz=>ps.length - z) (by rfl) 0 La
  ⟨Lk _,Step.refl _ _,λi _ h=>by omega⟩ ?_
 rintro k g w2 ⟨hk,E,V⟩;refine Qc<|x (QA O O)<|xe<|Qg<|QD O (λhb=>?_) (λhb=>?_)
 ·refine Qy<|Qc<|x (Qa O)<|x (Qd (U.ext E) O O)<|x (Qu h.al.arr O)<|xl O<|Xh (n:=ps.length) O O (by omega) λhc w3 he hm Y=>x Qf<|Qe ?_;rw[show(List.replicate ps.length (Value.int .i64 0).cells.toList).flatten=((List.replicate ps.length 0).map (Value.int .i64)) by rw[show(Value.int .i64 0).cells.toList=[Value.int .i64 0] from rfl,jT,List.map_replicate]]at Y
  have hz:=(G.trans E).size;refine Qk ⟨[.slice (some ⟨hc,0,none⟩) ps.length ps.length,.bool true],⟨O,O,Z⟩,(G.trans E).trans he,?_⟩;rw[if_neg (by
   rintro⟨p,hp,h0⟩;obtain⟨i,hi,rfl⟩:=LG hp;exact V i hi (by omega) h0)]
  refine⟨_,O,?_⟩;have:=Y.own (n:=ps.length) (sz:=1) (base:=w.heap.size) (by simp) (by omega) (by omega);unfold Qt;rw[List.length_replicate];exact this
 have H:k<ps.length:=by omega
 have I:=h.al.each ps[k] (Lh H);refine Qi<|Qg<|Qh<|Qc<|xig Jf ((h.al.ext G).ext E).arr O O H λho hf=>x (QG hf O O)<|xl O<|Qr (us:=[nS,.int .i64 0,nS,nS]) O λb5 w4 hg hh J =>
  xl rfl<|Qm (us:=Q9 ps[k]) J O O O O ⟨I.al.one,O,I.mr.one,I.ed.one,Z⟩ λw5 hj J=>xe ?_
 have ha:Step [] w2 w5:=hg.then1 hj hh;refine Qc<|x (Qa O)<|x (Qd J O O)<|x (Zc O O)<|xe<|Q2 rfl (λT=>?_) (λT=>?_)
 ·refine Qc<|x Qf<|Qe<|Qk ⟨[nS,.bool false],⟨O,O,Z⟩,(G.trans E).trans ha,?_⟩;rw[if_pos ⟨ps[k],Lh H,T⟩];rfl
 refine Qi<|Qx<|QN O O<|Qb<|xe<|⟨k+1,by omega,La,H,E.trans ha,λi hi hq=>?_⟩;by_cases e:i=k
 ·subst e;exact T
 exact V i hi (by omega)
theorem Qbt {aa:List QM}{ts:LI}{k:Nat}(h:k<aa.length)(h':k<ts.length):Xm (aa.drop k) (ts.drop k)=(decide (ts[k]∈aa[k].mr) && Xm (aa.drop (k+1)) (ts.drop (k+1))):=by
 rw[LH h,LH h',Xm]
theorem QdM {L:LN}{w:World}{vl ve vs vt:Value}{ps:List AV}{ms:LN}{ts:LI}(h:Ke L w.heap vl ve vs ps ms)(ht:QI L w.heap vt ts)(hl:ts.length=ps.length)(hi:∀p∈ps,Yy p.a.mr)(hn:ps.length≤12):
  QE prog 131 [.agg #[vl,ve,vs],vt] w λr w'=>r=.bool (Xm (ps.map (·.a)) ts)∧Step [] w w':=by
 refine QE.of_W func131 O ntmps131 results131 (by simp) ?_;refine Qc<|xl O<|QP (us:=[vl,ve,vs]) O λb2 w1 hb hq he=>Qe<|Qg<|Qc<|x (Qa O)<|x (Qd he O O)<|x (Qu h.al.arr O)<|Qb<|xe<|Qh<|Qz (α:=Nat) [(4,6),(10,23)] (λz=>[(10,.int .i64 z)]) (λz w'=>z≤ps.length∧Step [] w w'∧Xm (ps.map (·.a)) ts=Xm ((ps.map (·.a)).drop z) (ts.drop z)) (λz=>ps.length - z) (by rfl) 0 La
  ⟨Lk _,hb,O⟩ ?_
 rintro k g w2 ⟨hk,I,G⟩;refine Qc<|x (QA O O)<|xe<|Qg<|QD O (λhf=>?_) (λhf=>?_)
 ·refine Qy<|Qc<|Qe<|Qk ⟨[.bool true],La,?_,I⟩;rw[G,Ls (by simp;omega)];rfl
 have E:k<ps.length:=by omega
 have Y:k<ts.length:=by omega
 have H:=h.al.each ps[k] (Lh E);rw[Qbt (by simpa using E) Y,MS]at G;refine Qi<|Qg<|Qh<|Qc<|Qb<|xig Jf (h.al.ext I).arr O O E λhr hg=>x (QG hg O O)<|xl O<|Qr (us:=[nS,.int .i64 0,nS,nS]) O λb6 w3 hh hj J=>x Qf <|
  xl rfl<|Qm (us:=Q9 ps[k]) J O O O O ⟨H.al.one,O,H.mr.one,H.ed.one,Z⟩ λT hm J=>xe ?_
 have ho:Step [] w2 T:=hh.then1 hm hj;have U:=I.trans ho;refine Qg<|QU (Step [] T) [(0,true),(1,true),(2,true),(3,true),(4,true),(5,true),(6,false),(7,true)] mixed (by rfl) (by kernel_rfl) (Step.drew _ _) ?_;refine p (λ_=>Qa O)<|pq (λ_ hc=>Qd (J.ext hc) O O)<|p (λ_=>Qn)<|p (λ_=>Qn)<|pii O (ht.ext U) O O Y λhs hp =>
  pq (λ_ hc=>Qw (hp.ext hc) O)<|pk<|xf<|(Yx ((H.mr.ext U).ext (Step.drew _ _)) (hi ps[k] (Lh E)) _).mono ?_
 rintro r5 w5 ⟨rfl,rfl⟩;refine⟨Step.drew _ _,?_⟩;refine p (λ_=>Zp O)<|pe ?_;have ha:=U.trans (Step.drew [] T);refine QX rfl (λV=>?_) (λV=>?_)
 ·refine Qc<|Qe<|Qk ⟨[.bool false],La,?_,ha⟩;rw[G,show decide (ts[k]∈ps[k].a.mr)=false by simpa using V];rfl
 refine Qi<|Qx<|QN O O<|Qb<|xe<|⟨k+1,by omega,La,E,ha,?_⟩;rw[G,show decide (ts[k]∈ps[k].a.mr)=true by simpa using V,Bool.true_and]
theorem Qbb {aa:List QM}{ts:LI}{k:Nat}{v:Int}(h:k<aa.length)(h':k<ts.length):Zt v (aa.drop k) (ts.drop k) =
  if v∉aa[k].al then(Zt v (aa.drop (k+1)) (ts.drop (k+1))).map (ts[k]::·)else match eget aa[k].ed ts[k] v with|none=>none|some u=>(Zt v (aa.drop (k+1)) (ts.drop (k+1))).map (u::·):=by
 rw[LH h,LH h'];show(if v∉aa[k].al then _ else _)=_
 split
 ·rfl
 cases eget aa[k].ed ts[k] v <;> rfl
theorem Qfg {L:LN}{w:World}{vl ve vs vt:Value}{ps:List AV}{ms:LN}{ts:LI}(h:Ke L w.heap vl ve vs ps ms)(ht:QI L w.heap vt ts)(hl:ts.length=ps.length)(hi:∀p∈ps,Yy p.a.al)
  (hz:∀p∈ps,p.a.ed.Pairwise λx y=>x.1<y.1∨(x.1=y.1∧x.2.1<y.2.1)) (hn:ps.length≤12) (v:Int):
  QE prog 132 [.agg #[vl,ve,vs],vt,.int .i64 v] w λr w'=>Step [] w w' ∧
   match Zt v (ps.map (·.a)) ts with|none=>r=.tuple #[nS,.bool false]|some u=>∃v',r=.tuple #[v',.bool true]∧Qt 3 w.heap.size w' v' u:=by
 refine QE.of_W func132 O ntmps132 results132 (by simp) ?_;refine Qc<|xl O<|QP (us:=[vl,ve,vs]) O λb3 w1 ha hL hf=>x Qf<|Qe<|Qc<|Qb<|xl O<|xf<|(Yl (ht.ext ha)).mono ?_;rintro vx w2 ⟨hg,hr⟩;refine Qe ?_;have h0:=ha.size;have hM:=hf.lt;have hh:=ha.trans hg;refine Qg<|Qc<|x (Qa O)<|x (Qd (hf.ext hg) O O)<|x (Qu h.al.arr O)<|Qb<|xe ?_;have hge:=Qq hr
 have h1:Ke (ob vx) w2.heap vl ve vs ps ms:=((h.up (L':=ob vx) (λb hb=>.inr (by have:=(hge b hb).1;omega))).ext hh);have h2:QI (ob vx) w2.heap vt ts:=((ht.up (L':=ob vx) (λb hb=>.inr (by have:=(hge b hb).1;omega))).ext hh);refine Qh<|Qz (α:=Nat×LI) [(6,7),(9,12),(18,49)] (λz=>[(18,.int .i64 z.1)])
  (λz w'=>z.1≤ps.length∧z.2.length=z.1∧Step (ob vx) w2 w'∧Qt 3 w1.heap.size w' vx (z.2++ts.drop z.1)∧Zt v (ps.map (·.a)) ts=(Zt v ((ps.map (·.a)).drop z.1) (ts.drop z.1)).map (z.2++·)) (λz=>ps.length - z.1) (by rfl) (0,[]) La
  ⟨Lk _,O,Step.refl _ _,hr,by simp⟩ ?_
 rintro⟨k,pre⟩ g w3 ⟨hk,T,I,J,E⟩;simp only[]at hk T J E;have hj:Step [] w w3:=hh.then I (λb hb=>.inr (by have:=(hge b hb).1;omega));refine Qc<|x (QA O O)<|xe<|Qg<|QD O (λh3=>?_) (λh3=>?_)
 ·refine Qy<|Qc<|Qb<|x Qf<|Qe<|Qk ⟨[vx,.bool true],⟨O,O,Z⟩,hj,?_⟩;rw[Ls (by simp;omega),Ls (by omega)]at E;rw[Ls (by omega)]at J;rw[E];simp only[Zt,Option.map_some];exact⟨vx,O,Za J h0⟩
 have G:k<ps.length:=by omega
 have hm:k<ts.length:=by omega
 have hs:k<ms.length:=by rw[h.ml];exact G
 have U:=h.al.each ps[k] (Lh G);rw[Qbb (by simpa using G) hm,MS]at E;have hu:=h1.st I;have h4:=h2.st I;refine Qi<|Qg<|Qh<|Qc<|Qb<|xig Jf hu.al.arr O O G λhN h5=>x (QG h5 O O)<|xl O<|Qr (us:=[nS,.int .i64 0,nS,nS]) O λb10 w4 h6 h7 ho=>x Qf <|
  xl rfl<|Qm (us:=Q9 ps[k]) ho O O O O ⟨U.al.one,O,U.mr.one,U.ed.one,Z⟩ λw5 h8 ho=>xe ?_
 have H:Step [] w3 w5:=h6.then1 h8 h7;have h9:=hj.trans H;refine Qg<|Qc<|x (Qa O)<|x (Qd ho O O)<|Qb<|xl O<|xf<|(Yx (U.al.ext h9) (hi ps[k] (Lh G)) v).mono ?_;rintro r6 V ⟨rfl,rfl⟩;refine x (Zp O)<|xe ?_;have hv:=Q6 hm;refine QX rfl (λhp=>?_) (λhp=>?_)
 ·have hB:v∉ps[k].a.al:=by simpa using hp
  refine Qy<|Qx<|QN O O<|Qb<|xe<|⟨(k+1,pre++[ts[k]]),by simp only[];omega,La,G,by simp[T],I.trans H,?_,?_⟩
  ·simp only[List.append_assoc,List.singleton_append];rw[←hv];exact Qs J H
  simp only[];rw[E,if_pos hB,Option.map_map];congr 1;funext l;simp
 have hC:¬(v∉ps[k].a.al):=by simpa using hp
 rw[if_neg hC]at E;refine Qi ?_;have hD:=(hf.ext hg).step I (λhb=>by have:=(hge b3 hb).1;omega);have hw:=hu.ext H;obtain⟨hE,hO⟩:=hw.mp k hs G
 refine Qg<|QU (Step [] V) [(0,true),(1,true),(2,true),(3,true),(4,true),(5,true),(6,true),(7,true),(8,true),(9,true),(10,true),(11,true),(12,true),(13,true),(14,true),(15,true),(16,true)] mixed (by rfl) (by kernel_rfl) (Step.drew _ _) ?_;refine p (λ_=>Qa O)<|pq (λ_ hc=>Qd ((hD.ext H).ext hc) O O)<|p (λ_=>Qn)<|pig O (g:=Qab) (λ_=>O) hw.sl O O hs λhP hF =>
  pq (λ_ hc=>Qw (hF.ext hc) O)<|p (λ_=>Qn)<|p (λ_=>Qn)<|pii O (h4.ext H) O O hm λhQ hG=>pq (λ_ hc=>Qw (hG.ext hc) O) <|
  p (λ_=>Qn)<|p (λ_=>QK ⟨O,O,Z⟩)<|pq (λ_ hc=>J0 (k:=(ts[k],v)) (hE.ext hc) O O)<|?_
 rw[VZ ps[k].a.ed [] ts[k] v (hz ps[k] (Lh G))];have hq:Step [] w3 { V with drawn:=V.drawn+1 }:=H.trans (Step.drew [] V)
 cases he:eget ps[k].a.ed ts[k] v with
 | none =>
  rw[he]at E;refine p (λ_=>Qn)<|p (λ_=>Qj O O)<|p (λ_=>Qj O O)<|p (λ_=>Qf)<|p (λ_=>Qf)<|pe ?_;refine Qg<|Qc<|Qb<|x (Zp O)<|xe<|qR O ?_;refine Qc<|x Qf<|Qe<|Qk ⟨[nS,.bool false],⟨O,O,Z⟩,hj.trans hq,?_⟩;rw[E];rfl
 | some u =>
  rw[he]at E;refine p (λ_=>Qn)<|p (λ_=>Qj O O)<|p (λ_=>Qj O O)<|p (λ_=>Qf)<|p (λ_=>Qf)<|pe ?_;refine Qg<|Qc<|Qb<|x (Zp O)<|xe<|Yf O ?_;refine Qi ?_;have hy:=Qs J hq;have hR:(pre++ts.drop k).length=ts.length:=by simp;omega
  obtain⟨gx,cx,Y⟩:=VS J (by omega);have hH:ob vx=[gx]:=by rw[Y];rfl
  refine Qx<|Qb<|Qb<|Qb<|x (QR Y O (by omega))<|xl O<|jY (u:=.int .i64 u) (by rw[Y]at hy;exact hy) O O (by omega) O λw7 hI hJ=>xe ?_;refine Qx<|QN O O<|Qb<|xe ?_;have hK:(pre++ts.drop k).set k u=(pre++[u])++ts.drop (k+1):=by
   rw[hv,List.set_append_right _ _ (by omega),T,Nat.sub_self,List.set_cons_zero,LC];rfl
  refine⟨(k+1,pre++[u]),by simp only[];omega,La,G,by simp[T],(I.trans hq).then hI (λb hb=>.inl (by rw[hH];exact hb)),?_,?_⟩
  ·simp only[];rw[←hK];unfold Qt;rw[ML,Nw,Y];exact hJ
  simp only[];rw[E,Option.map_map];congr 1;funext l;simp
theorem K7 {n:Nat}(h:n<256):(UInt8.ofNat n).toNat=n:=by
 simp[Nat.mod_eq_of_lt h]
theorem Qaw (u:Nat):(32:UInt8)∉Lib.decDigits u:=by
 induction u using Nat.strongRecOn with
 | _ u ih =>
  unfold Lib.decDigits;split
  ·intro h;simp only[List.mem_singleton]at h;have:=congrArg UInt8.toNat h;rw[K7 (by omega)]at this;have E:(32:UInt8).toNat=32:=rfl;omega
  intro h;rcases Lp.1 h with h|h
  ·exact ih _ (by omega) h
  simp only[List.mem_singleton]at h;have:=congrArg UInt8.toNat h;rw[K7 (by omega)]at this;have E:(32:UInt8).toNat=32:=rfl;omega
def dval (l:List UInt8):Nat:=l.foldl (λa b=>a*10+(b.toNat - 48)) 0
theorem Qau (u:Nat):dval (Lib.decDigits u)=u:=by
 induction u using Nat.strongRecOn with
 | _ u ih =>
  unfold Lib.decDigits;split
  ·simp only[dval,List.foldl_cons,List.foldl_nil];rw[K7 (by omega)];omega
  have:=ih (u / 10) (by omega);unfold dval at *;rw[Mj,this];simp only[List.foldl_cons,List.foldl_nil];rw[K7 (by omega)];omega
theorem Qck:∀{a b r E:List UInt8},(32:UInt8)∉a→(32:UInt8)∉b→a++32::r=b++32::E→a=b∧r=E
 | [],[],_,_,_,_,h=>by simpa using h
 | [],y::b,_,_,_,hb,h=>by simp at h;exact absurd h.1 (by intro e;exact hb (by simp[e]))
 | x::a,[],_,_,ha,_,h=>by simp at h;exact absurd h.1 (by intro e;exact ha (by simp[e]))
 | x::a,y::b,_,_,ha,hb,h=>by
  simp only[List.cons_append,List.cons.injEq]at h;have:=Qck (λe=>ha (Ln _ e)) (λe=>hb (Ln _ e)) h.2;exact⟨by rw[h.1,this.1],this.2⟩
theorem Qaf:∀{l l':LI},(∀n∈l,0≤n)→(∀n∈l',0≤n)→XX l=XX l'→l=l'
 | [],[],_,_,_=>rfl
 | [],y::b,_,_,h=>by simp[XX]at h
 | x::a,[],_,_,h=>by simp[XX]at h
 | x::a,y::b,ha,hb,h=>by
  have h':Lib.decDigits x.toNat++32::XX a=Lib.decDigits y.toNat++32::XX b:=by simpa[XX]using h
  obtain⟨h1,h2⟩:=Qck (Qaw _) (Qaw _) h';have h3:x.toNat=y.toNat:=by rw[←Qau x.toNat,←Qau y.toNat,h1]
  have h4:=Qaf (λn E=>ha n (Ln _ E)) (λn E=>hb n (Ln _ E)) h2;have h5:=ha x Lr;have G:=hb y Lr;rw[h4,show x=y by omega]
def Ky (l:LI):ByteArray:=⟨(XX l).toArray⟩
theorem QfL {l l':LI}(h1:∀n∈l,0≤n)(h2:∀n∈l',0≤n)(h:Ky l=Ky l'):l=l':=by
 refine Qaf h1 h2 ?_;have:=congrArg (λb:ByteArray=>b.data.toList) h;simpa[Ky]using this
def V9 (n:Nat)(m:List (ByteArray×Value))(tup:List (LI)):Prop :=
 ∀u:LI,u.length=n→(∀x∈u,0≤x)→mget m (Ky u)=if u∈tup then some (.int .i64 (tup.idxOf u:Int))else none
theorem V9.add {n:Nat}{m:List (ByteArray×Value)}{tup:List (LI)}(h:V9 n m tup){u:LI}(hu:u∉tup)(E:∀x∈u,0≤x):V9 n (mput m (Ky u) (.int .i64 (tup.length:Int))) (tup++[u]):=by
 intro v G h1;rw[Jo];by_cases e:u=v
 ·subst e;rw[if_pos rfl,if_pos (by simp),Mr,if_neg hu];simp
 rw[if_neg (λhk=>e (QfL E h1 hk)),h v G h1];by_cases hm:v∈tup
 ·rw[if_pos hm,if_pos (by simp[hm]),Mr,if_pos hm]
 rw[if_neg hm,if_neg (by simp[hm,Ne.symm e])]
structure yo (N b2 b38 b37:Nat)(ve:Value)(wS:World)(s:Sy)(m:List (ByteArray×Value))(qs:List TV)(vt vk vd:Value)(w:World):Prop where
 st:Step [b2,b38,b37] wS w
 A:QS w.heap b2 50 [ve,.int .i64 0,vk,vd]
 M:ZG XI w.heap b38 m
 t:QbV 39 N w vt qs
 tb:∀b∈ob vt,b=b37∨wS.heap.size≤b
 k:Qt 3 wS.heap.size w vk s.mk'
 e:ZY 129 wS.heap.size w vd s.ed
 q:qs.map (·.2)=s.tup
 el:∀p∈qs,Qt 3 N w p.1 p.2
 sep:∀p∈qs,∀b∈ob p.1,b≠b38∧b∉ob vt∧b∉ob vk∧b∉ob vd
 d1:Dj vt vk
 d2:Dj vt vd
 d3:Dj vk vd
section
variable {N b2 b38 b37:Nat}{ve:Value}{wS:World}{s:Sy}{m:List (ByteArray×Value)}{qs:List TV}{vt vk vd:Value}{w w' w'':World}
theorem yo.ext (h:yo N b2 b38 b37 ve wS s m qs vt vk vd w)(hs:Step [] w w'):yo N b2 b38 b37 ve wS s m qs vt vk vd w' :=
 ⟨h.st.trans hs,h.A.ext hs,h.M.ext hs,Qs h.t hs,h.tb,Qs h.k hs,Qs h.e hs,h.q,λp hp=>Qs (h.el p hp) hs,h.sep,h.d1,h.d2,h.d3⟩
structure SyN (N b2 b38 b37:Nat)(wS:World):Prop where
 l2:b2<N
 l38:b38<wS.heap.size
 l37:b37<wS.heap.size
 n37:N≤b37
 n38:b37<b38
 nS:N≤wS.heap.size
theorem yo.setK (h:yo N b2 b38 b37 ve wS s m qs vt vk vd w)(n:SyN N b2 b38 b37 wS){G:Value}{l:LI}(hs:Step (ob vk) w w')(I:Qt 3 wS.heap.size w' G l)
  (H:∀b∈ob G,b∈ob vk∨w.heap.size≤b) (E:Step [b2] w' w'') (J:QS w''.heap b2 50 [ve,.int .i64 0,G,vd]):yo N b2 b38 b37 ve wS ⟨s.tup,l,s.ed⟩ m qs vt G vd w'':=by
 have hge:=Qq h.k;have l2:=n.l2;have l38:=n.l38;have n37:=n.n37;have n38:=n.n38;have nS:=n.nS;refine⟨(h.st.then hs (λb hb=>.inr (hge b hb).1)).then E (λb hb=>.inl (by simp at hb;simp[hb])),J,(h.M.step hs (QW h.k (by omega))).step E (by simp;omega),
  Ql (Ql h.t hs h.d1) E (λb hb=>by have:=(Qq h.t b hb).1;simp;omega),h.tb,Ql I E (λb hb=>by have:=(Qq I b hb).1;simp;omega),
  Ql (Ql h.e hs h.d3.symm) E (λb hb=>by have:=(Qq h.e b hb).1;simp;omega),h.q,
  λp hp=>Ql (Ql (h.el p hp) hs (λb hb=>(h.sep p hp b hb).2.2.1)) E (λb hb=>by have:=(Qq (h.el p hp) b hb).1;simp;omega),
  λp hp b hb=>⟨(h.sep p hp b hb).1,(h.sep p hp b hb).2.1,λhb'=>?_,(h.sep p hp b hb).2.2.2⟩,h.d1.grow H (Q4 h.t),h.d2,(h.d3.symm.grow H (Q4 h.e)).symm⟩
 rcases H b hb' with h1|h1
 ·exact(h.sep p hp b hb).2.2.1 h1
 have:=Q4 (h.el p hp) b hb;omega
theorem yo.setE (h:yo N b2 b38 b37 ve wS s m qs vt vk vd w)(n:SyN N b2 b38 b37 wS){G:Value}{l:List Ed}(hs:Step (ob vd) w w')(I:ZY 129 wS.heap.size w' G l)
  (H:∀b∈ob G,b∈ob vd∨w.heap.size≤b) (E:Step [b2] w' w'') (J:QS w''.heap b2 50 [ve,.int .i64 0,vk,G]):yo N b2 b38 b37 ve wS ⟨s.tup,s.mk',l⟩ m qs vt vk G w'':=by
 have hge:=Qq h.e;have l2:=n.l2;have l38:=n.l38;have n37:=n.n37;have n38:=n.n38;have nS:=n.nS;refine⟨(h.st.then hs (λb hb=>.inr (hge b hb).1)).then E (λb hb=>.inl (by simp at hb;simp[hb])),J,(h.M.step hs (QW h.e (by omega))).step E (by simp;omega),
  Ql (Ql h.t hs h.d2) E (λb hb=>by have:=(Qq h.t b hb).1;simp;omega),h.tb,Ql (Ql h.k hs h.d3) E (λb hb=>by have:=(Qq h.k b hb).1;simp;omega),
  Ql I E (λb hb=>by have:=(Qq I b hb).1;simp;omega),h.q,
  λp hp=>Ql (Ql (h.el p hp) hs (λb hb=>(h.sep p hp b hb).2.2.2)) E (λb hb=>by have:=(Qq (h.el p hp) b hb).1;simp;omega),
  λp hp b hb=>⟨(h.sep p hp b hb).1,(h.sep p hp b hb).2.1,(h.sep p hp b hb).2.2.1,λhb'=>?_⟩,h.d1,h.d2.grow H (Q4 h.t),h.d3.grow H (Q4 h.k)⟩
 rcases H b hb' with h1|h1
 ·exact(h.sep p hp b hb).2.2.2 h1
 have:=Q4 (h.el p hp) b hb;omega
theorem yo.setM (h:yo N b2 b38 b37 ve wS s m qs vt vk vd w)(n:SyN N b2 b38 b37 wS){E:List (ByteArray×Value)}(hs:Step [b38] w w')(hm:ZG XI w'.heap b38 E):yo N b2 b38 b37 ve wS s E qs vt vk vd w':=by
 have l2:=n.l2;have l38:=n.l38;have n37:=n.n37;have n38:=n.n38;have nS:=n.nS;exact⟨h.st.then hs (λb hb=>.inl (by simp at hb;simp[hb])),h.A.step hs (by simp;omega),hm,Ql h.t hs (λb hb=>by have:=h.tb b hb;simp;omega),h.tb,
  Ql h.k hs (λb hb=>by have:=(Qq h.k b hb).1;simp;omega),Ql h.e hs (λb hb=>by have:=(Qq h.e b hb).1;simp;omega),h.q,
  λp hp=>Ql (h.el p hp) hs (λb hb=>by have:=(h.sep p hp b hb).1;simpa using this),h.sep,h.d1,h.d2,h.d3⟩
theorem yo.setT (h:yo N b2 b38 b37 ve wS s m qs vt vk vd w)(n:SyN N b2 b38 b37 wS){E vx:Value}{u:LI}(hx:Qt 3 wS.heap.size w vx u)(H:∀b∈ob vx,b∉ob vt∧b∉ob vk∧b∉ob vd)(hs:Step (ob vt) w w')
  (I:QbV 39 N w' E (qs++[(vx,u)])) (G:∀b∈ob E,b∈ob vt∨w.heap.size≤b):yo N b2 b38 b37 ve wS ⟨s.tup++[u],s.mk',s.ed⟩ m (qs++[(vx,u)]) E vk vd w':=by
 have l2:=n.l2;have l38:=n.l38;have n37:=n.n37;have n38:=n.n38;have nS:=n.nS;have T:=h.st.size;have nott:∀c,c<w.heap.size→c∉ob vt→c∉ob E:=λc hc J hv'=>by
  rcases G c hv' with h1|h1
  ·exact J h1
  omega
 refine⟨h.st.then hs (λb hb=>by have:=h.tb b hb;simp;omega),h.A.step hs (λhb=>by have:=h.tb b2 hb;omega),h.M.step hs (λhb=>by have:=h.tb b38 hb;omega),I,
  λb hb=>?_,Ql h.k hs h.d1.symm,Ql h.e hs h.d2.symm,by rw[Lv,h.q];rfl,λp hp=>?_,λp hp b hb=>?_,(h.d1.symm.grow G (Q4 h.k)).symm,(h.d2.symm.grow G (Q4 h.e)).symm,h.d3⟩
 ·rcases G b hb with h1|h1
  ·exact h.tb b h1
  exact .inr (by omega)
 ·rcases Lp.1 hp with hp|hp
  ·exact Ql (h.el p hp) hs (λb hb=>(h.sep p hp b hb).2.1)
  simp only[List.mem_singleton]at hp;subst hp;exact Za (Ql hx hs (λb hb=>(H b hb).1)) nS
 rcases Lp.1 hp with hp|hp
 ·have:=h.sep p hp b hb;exact⟨this.1,nott b (Q4 (h.el p hp) b hb) this.2.1,this.2.2⟩
 simp only[List.mem_singleton]at hp;subst hp;have h1:=(Qq hx b hb);have h2:=H b hb;exact⟨by omega,nott b h1.2 h2.1,h2.2⟩
end
end Go.Proofs.YtjcgijbhaemldaaGreatDoor
