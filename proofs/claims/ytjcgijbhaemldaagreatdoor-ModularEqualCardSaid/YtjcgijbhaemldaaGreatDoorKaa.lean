/- Merged out of 23 texts. -/
import Derived.Orders
import Derived.Below
import Derived.WalkKit
import Derived.Laws.AppendOwn
import Derived.Laws.Rows
import Derived.Laws.Tables
import Derived.Great.BuildSlice
import Derived.Deep.OwnRows
import Derived.MapKept
import Derived.Test.YtjcgijbhaemldaaGreatDoorProg
import Derived.Shelf.Strings.Builder1
import Derived.Shelf.Small.Bits
import Derived.Shelf.Small.Wraps
import Derived.Shelf.Strings.BuilderF
import Derived.Shelf.Strings.BuilderK
import Derived.Shelf.Strconv.Itoa0
import Derived.Shelf.Strconv.Itoa1
import Derived.Shelf.LaysM
import Derived.Shelf.Strconv.Itoa2
import Derived.Shelf.Strconv.Itoa3
import Derived.Shelf.Sort.Plain
import Derived.Shelf.Strings.BuilderCap
import Derived.Ground.SlgfProg
import Derived.Lib.Builder
import Derived.Laws.Externs
namespace Go
abbrev nS:Value:=.slice none 0 0
abbrev LI:=List Int
abbrev LN:=List Nat
abbrev LV:=List Value
theorem Z.{u}{α:Sort u}{a:α}:a=a:=rfl
theorem La:True:=trivial
theorem Lb.{u}{α:Sort u}{a:α}:a=a∧True:=⟨rfl,trivial⟩
abbrev Lc:=@List.mem_singleton
abbrev Le:=@List.getElem_mem
abbrev Lh:=@List.mem_cons
abbrev Li:=@List.length_map
abbrev Lj:=@List.take_succ_eq_append_getElem
abbrev Lk:=@List.mem_cons_of_mem
abbrev Ll:=@List.length_append
abbrev Lm:=@List.mem_cons_self
abbrev Ln:=@Nat.zero_le
abbrev Lo:=@Decidable.not_not
abbrev Lp:=@List.mem_append
abbrev Lq:=@List.mem_map
abbrev Lr:=@List.not_mem_nil
abbrev Ls:=@List.take_of_length_le
abbrev Lt:=@List.eq_nil_of_length_eq_zero
abbrev Lu:=@Bool.and_eq_true
abbrev Lv:=@Nat.le_refl
abbrev Lx:=@List.drop_of_length_le
abbrev Ly:=@List.map_append
abbrev Lz:=@List.mem_append_left
abbrev LA:=@List.getD_eq_getElem?_getD
abbrev LB:=@List.getElem_of_mem
abbrev LC:=@List.append_assoc
abbrev LD:=@List.length_take
abbrev LE:=@List.getElem?_eq_getElem
abbrev LF:=@List.length_cons
abbrev LG:=@List.length_singleton
abbrev LH:=@List.flatMap_append
abbrev LJ:=@List.getElem_map
abbrev LK:=@Array.getElem?_eq_some_iff
abbrev LL:=@List.mem_filter
abbrev LM:=@List.foldl_cons
abbrev LO:=@Int.toNat_natCast
abbrev LP:=@Option.map_eq_some_iff
abbrev LQ:=@List.drop_eq_getElem_cons
abbrev LR:=@Nat.zero_add
abbrev LS:=@List.append_nil
abbrev LT:=@Nat.le_trans
abbrev LU:=@List.idxOf_lt_length_of_mem
abbrev LW:=@List.mem_map_of_mem
abbrev LX:=@List.ext_getElem
abbrev LY:=@List.flatMap_cons
abbrev LZ:=@List.all_eq_true
abbrev L1:=@List.map_cons
abbrev L2:=@List.mem_of_mem_take
abbrev L3:=@List.pairwise_cons
abbrev L4:=@List.mem_append_right
abbrev L5:=@List.mem_range'_1
abbrev L6:=@Option.bind_eq_some_iff
abbrev L7:=@List.getElem_append_left
abbrev L8:=@List.mem_range
abbrev L9:=@List.getElem?_append_left
abbrev Ma:=@List.getElem?_eq_some_iff
abbrev Mb:=@List.filter_append
abbrev Mc:=@Nat.lt_of_lt_of_le
abbrev Md:=@List.getElem?_toArray
abbrev Me:=@Nat.not_lt_zero
abbrev Mf:=@List.map_map
abbrev Mg:=@List.all_cons
abbrev Mh:=@Option.isSome_iff_exists
abbrev Mi:=@List.range'_1_concat
abbrev Mj:=@List.idxOf_append
abbrev Mk:=@List.any_eq_true
abbrev Ml:=@List.filter_cons
abbrev Mm:=@List.cons_append
abbrev Mn:=@List.getElem_range
abbrev Mo:=@List.getElem?_take
abbrev Mq:=@List.getElem_cons_zero
abbrev Mr:=@List.mem_of_getElem?
abbrev Ms:=@List.length_drop
abbrev Mt:=@List.nil_append
abbrev Mu:=@List.nodup_append
abbrev Mv:=@List.foldl_append
abbrev Mw:=@List.getElem?_append_right
abbrev Mx:=@List.map_singleton
abbrev My:=@List.length_filter_le
abbrev Mz:=@List.filterMap_cons
abbrev MA:=@Nat.mod_eq_of_lt
abbrev MB:=@Nat.add_mul
abbrev MC:=@List.nodup_nil
abbrev MD:=@List.mem_filterMap
abbrev ME:=@List.pairwise_map
abbrev MF:=@List.pairwise_append
abbrev MG:=@Bool.or_eq_false_iff
abbrev MH:=@List.getElem_append_right
abbrev MI:=@List.filter_eq_nil_iff
abbrev MJ:=@List.mem_flatMap
abbrev MK:=@List.map_congr_left
abbrev ML:=@List.take_append_drop
abbrev MM:=@List.size_toArray
abbrev MN:=@List.getElem?_set_ne
abbrev MO:=@List.mem_of_mem_drop
abbrev MP:=@Nat.add_comm
abbrev MQ:=@Int.le_refl
abbrev MR:=@Nat.exists_eq_succ_of_ne_zero
abbrev MS:=@List.length_set
abbrev MT:=@List.headD_cons
abbrev MU:=@List.getElem_set
abbrev MW:=@Nat.mul_le_mul_right
abbrev MX:=@List.forall_mem_cons
abbrev MY:=@Bool.not_eq_true'
abbrev MZ:=@List.tail_cons
abbrev M0:=@List.pairwise_iff_getElem
abbrev M1:=@List.getElem?_eq_none
abbrev M2:=@List.getElem?_drop
abbrev M4:=@List.getElem_idxOf
abbrev M5:=@Nat.add_zero
abbrev M6:=@Nat.one_mul
abbrev M7:=@List.length_range
abbrev M8:=@List.any_eq_false
abbrev M9:=@List.pairwise_singleton
abbrev Na:=@List.pairwise_lt_range'
abbrev Nb:=@List.getElem_take
abbrev Nc:=@List.getElem_replicate
abbrev Nd:=@List.range'_succ
abbrev Nf:=@List.singleton_append
abbrev Ng:=@List.length_replicate
abbrev Nh:=@List.mem_or_eq_of_mem_set
abbrev Ni:=@Nat.min_eq_left
abbrev Nj:=@List.filter_nil
abbrev Nk:=@List.getElem?_map
abbrev Nl:=@List.eq_of_mem_replicate
abbrev Nm:=@List.filter_eq_self
abbrev Nn:=@List.take_succ_cons
abbrev Np:=@List.filter_sublist
abbrev Nq:=@List.flatMap_nil
abbrev Nr:=@List.foldl_nil
abbrev Ns:=@Nat.add_sub_cancel_left
abbrev Nt:=@List.take_length
abbrev Nu:=@List.map_set
abbrev Nv:=@Bool.false_eq_true
abbrev Nw:=@Nat.lt_of_le_of_lt
abbrev Nx:=@List.any_cons
end Go
namespace Go.Lg
open Go.RowKit
abbrev Fr:=Nat→Value
def upd (f:Fr) (d:Nat) (v:Value):Fr:=λt=>bif Nat.beq t d then v else f t
def ev (f:Fr):Operand→Value
 | .tmp t=>f t
 | .const v=>v
 | .global g=>.pointer (some ⟨g,0,none⟩)
 | .func g=>.func (.func g) #[] #[]
def QV (f:Fr):Option Nat→Value→Fr
 | some d,v=>upd f d v
 | none,_=>f
structure Rel (n:Nat) (a:Act) (f:Fr):Prop where
 size:a.tmps.size=n
 defers:a.defers=[]
 get:∀t,a.tmps.getD t undef=f t
theorem Y0 (f:Fr) (d:Nat) (v:Value):upd f d v d=v:=by simp[upd]
theorem JR (f:Fr) {d t:Nat}(v:Value) (h:t≠d):upd f d v t=f t:=by
 have:Nat.beq t d=false:=by
  cases e:Nat.beq t d with
  | false=>rfl
  | true=>exact absurd (Nat.eq_of_beq_eq_true e) h
 simp[upd,this]
theorem Rel.eval {n:Nat}{a:Act}{f:Fr}(h:Rel n a f):a.eval=ev f:=by
 funext x;cases x with
 | tmp t=>exact h.get t
 | _=>rfl
theorem Rel.put {n:Nat}{a:Act}{f:Fr}(h:Rel n a f) {dst:Option Nat}(hd:∀d,dst=some d→d<n) (v:Value):Rel n (a.put dst v) (QV f dst v):=by
 cases dst with
 | none=>exact h
 | some d =>
  have E:d<a.tmps.size:=by rw[h.size];exact hd d Z
  refine ⟨by simp[Act.put,h.size],h.defers,λt=>?_⟩;by_cases e:t=d
  ·subst e;rw[QV,Y0];simp[Act.put,E]
  rw[QV,JR _ _ e,←h.get t];simp[Act.put,Array.getElem?_setIfInBounds_ne (Ne.symm e)]
def ZW (l:List Oper) (t:Nat):Bool:=l.any λo=>match o.dst with | some d=>Nat.beq d t | none=>false
def wrs:Code→Nat→Bool
 | .region _ ops _,t=>ZW ops.toList t
 | .seq a b,t=>wrs a t || wrs b t
 | .cond _ a b,t=>wrs a t || wrs b t
 | .block _ a,t=>wrs a t
 | .loop a,t=>wrs a t
 | .skip,_ | .exit _,_ | .label _,_ | .goto _,_ | .ret,_=>false
 | _,_=>true
def Xp (D:List (Nat×Nat)) (t:Nat):Bool:=match D with
 | []=>false
 | (lo,hi)::D=>bif (Nat.ble lo t && Nat.ble t hi) then true else Xp D t
def inD (D:List (Nat×Nat)) (d:Option Nat):Bool:=match d with | none=>true | some d=>Xp D d
def QeM (D:List (Nat×Nat)) (l:List Oper):Bool:=l.all λo=>inD D o.dst
def wr (D:List (Nat×Nat)):Code→Bool
 | .region _ ops _=>QeM D ops.toList
 | .seq a b=>wr D a && wr D b
 | .cond _ a b=>wr D a && wr D b
 | .block _ a=>wr D a
 | .loop a=>wr D a
 | .skip | .exit _ | .label _ | .goto _ | .ret=>true
 | _=>false
theorem jo {D:List (Nat×Nat)}{l:List Oper}(h:QeM D l=true) {t:Nat}(ht:Xp D t=false):ZW l t=false:=by
 unfold QeM at h;unfold ZW;rw[M8];intro o E;have h1:=LZ.1 h o E;cases hd:o.dst with
 | none=>simp
 | some d =>
  rw[hd] at h1;simp only[inD] at h1;intro e;have:=Nat.eq_of_beq_eq_true e;subst this;rw[h1] at ht;cases ht
theorem KL {D:List (Nat×Nat)}{t:Nat}(ht:Xp D t=false):∀c:Code,wr D c=true→wrs c t=false
 | .region _ ops _,h=>jo h ht
 | .seq a b,h=>by simp only[wr,Bool.and_eq_true] at h;simp[wrs,KL ht a h.1,KL ht b h.2]
 | .cond _ a b,h=>by simp only[wr,Bool.and_eq_true] at h;simp[wrs,KL ht a h.1,KL ht b h.2]
 | .block _ a,h=>KL ht a (by simpa[wr] using h)
 | .loop a,h=>KL ht a (by simpa[wr] using h)
 | .skip,_=>rfl
 | .exit _,_=>rfl
 | .label _,_=>rfl
 | .goto _,_=>rfl
 | .ret,_=>rfl
 | .rangeFunc ..,h=>by simp[wr] at h
 | .scope _,h=>by simp[wr] at h
 | .refuse _,h=>by simp[wr] at h
def mix (D:List (Nat×Nat)) (f g:Fr):Fr:=λt=>bif Xp D t then g t else f t
theorem Xk {D:List (Nat×Nat)}{f g:Fr}(h:∀t,Xp D t=false→g t=f t):mix D f g=g:=by
 funext t;unfold mix;cases e:Xp D t with
 | false=>exact (h t e).symm
 | true=>rfl
def VP (S:List (Nat×Value)) (f:Fr):Fr:=match S with
 | []=>f
 | (t,v)::S=>upd (VP S f) t v
def Y4 (f:Fr):List (Nat×Value)→Prop
 | []=>True
 | (t,v)::S=>f t=v∧Y4 f S
theorem YB {f:Fr}:∀{S:List (Nat×Value)},Y4 f S→VP S f=f
 | [],_=>rfl
 | (t,v)::S,h=>by
  funext s;simp only[VP,YB h.2];by_cases e:s=t
  ·subst e;rw[Y0];exact h.1.symm
  exact JR _ _ e
def W (P:Program) (n:Nat) (c:Code) (Q:Exit→Fr→World→Prop) (f:Fr) (w:World):Prop :=
 ∀a,Rel n a f→c.wp P (λe E w'=>∃f',Rel n E f'∧(∀t,wrs c t=false→f' t=f t)∧Q e f' w') a w
def thn (K:Fr→World→Prop) (Q:Exit→Fr→World→Prop):Exit→Fr→World→Prop
 | .normal,f,w=>K f w
 | e,f,w=>Q e f w
def blk (id:Nat) (Q:Exit→Fr→World→Prop):Exit→Fr→World→Prop
 | .exit i,f,w=>bif Nat.beq i id then Q .normal f w else Q (.exit i) f w
 | e,f,w=>Q e f w
section
variable {P:Program} {n:Nat} {Q:Exit→Fr→World→Prop} {f:Fr} {w:World}
theorem W.mono {c:Code}{Q':Exit→Fr→World→Prop}(h:W P n c Q f w) (hq:∀e f w,Q e f w→Q' e f w):W P n c Q' f w :=
 λa ha=>wp_mono (h a ha) λ_ _ _ ⟨E,h1,h2,h3⟩=>⟨E,h1,h2,hq _ _ _ h3⟩
theorem W.keeps {c:Code}(h:W P n c Q f w):W P n c (λe E w'=>(∀t,wrs c t=false→E t=f t)∧Q e E w') f w :=
 λa ha=>wp_mono (h a ha) λ_ _ _ ⟨E,h1,h2,h3⟩=>⟨E,h1,h2,h2,h3⟩
theorem Qi (h:Q .normal f w):W P n .skip Q f w:=λ_ ha=>wp_skip ⟨f,ha,λ_ _=>Z,h⟩
theorem Qy {i:Nat}(h:Q (.exit i) f w):W P n (.exit i) Q f w:=λ_ ha=>wp_exit ⟨f,ha,λ_ _=>Z,h⟩
theorem Ql (h:Q .ret f w):W P n .ret Q f w:=λ_ ha=>wp_ret ⟨f,ha,λ_ _=>Z,h⟩
theorem Qg {x y:Code}(h:W P n x (thn (λf w=>W P n y Q f w) Q) f w):W P n (.seq x y) Q f w:=by
 intro a ha;refine wp_seq (wp_mono (h a ha) ?_);rintro e H w' ⟨E,h1,h2,h3⟩;have k1:∀t,wrs (.seq x y) t=false→E t=f t:=λt ht=>h2 t (by simp only[wrs,Bool.or_eq_false_iff] at ht;exact ht.1);cases e with
 | normal =>
  refine wp_mono (h3 H h1) λ_ _ _ ⟨I,J,U,V⟩=>⟨I,J,λt ht=>(U t ?_).trans (k1 t ht),V⟩;simp only[wrs,Bool.or_eq_false_iff] at ht;exact ht.2
 | exit id=>exact ⟨E,h1,k1,h3⟩
 | goto l=>exact ⟨E,h1,k1,h3⟩
 | ret=>exact ⟨E,h1,k1,h3⟩
 | panic ch=>exact ⟨E,h1,k1,h3⟩
 | outgrown=>exact ⟨E,h1,k1,h3⟩
theorem QZ {α:Type}{x y:Code}(D:List (Nat×Nat)) (S:α→List (Nat×Value)) (I:α→World→Prop) (hD:wr D x=true)
  (h1:W P n x (thn (λE w'=>∃z,Y4 E (S z)∧I z w') Q) f w)
  (h2:∀z g w',I z w'→W P n y Q (VP (S z) (mix D f g)) w'):W P n (.seq x y) Q f w:=by
 refine Qg (h1.keeps.mono ?_);rintro e E w' ⟨hk,hq⟩;cases e with
 | normal =>
  obtain ⟨z,hs,hi⟩:=hq;have h3:=h2 z E w' hi;rw[Xk (λt ht=>hk t (KL ht x hD)),YB hs] at h3;exact h3
 | exit id=>exact hq
 | goto l=>exact hq
 | ret=>exact hq
 | panic ch=>exact hq
 | outgrown=>exact hq
theorem QW {c:Operand}{x y:Code}{t:Bool}(hc:ev f c=.bool t) (ht:t=true→W P n x Q f w) (E:t=false→W P n y Q f w) :
  W P n (.cond c x y) Q f w:=by
 intro a ha;have H:a.eval c=.bool t:=by rw[ha.eval];exact hc
 refine wp_cond_split H (λe=>wp_mono (ht e a ha) ?_) (λe=>wp_mono (E e a ha) ?_) <;>
  (rintro e J w' ⟨I,h1,h2,h3⟩
   refine ⟨I,h1,λt ht=>h2 t ?_,h3⟩;simp only[wrs,Bool.or_eq_false_iff] at ht
   first | exact ht.1 | exact ht.2)
theorem Q3 {c:Operand}{x y:Code}{p:Prop}[Decidable p] (hc:ev f c=.bool (decide p)) (ht:p→W P n x Q f w) (E:¬p→W P n y Q f w) :
  W P n (.cond c x y) Q f w :=
 QW hc (λe=>ht (of_decide_eq_true e)) (λe=>E (of_decide_eq_false e))
theorem QC {c:Operand}{x y:Code}{p:Prop}[Decidable p] (hc:ev f c=.bool (decide p)) (E:¬p→W P n y Q f w) (ht:p→W P n x Q f w) :
  W P n (.cond c x y) Q f w:=Q3 hc ht E
theorem yL {c:Operand}{x y:Code}(hc:ev f c=.bool true) (h:W P n x Q f w):W P n (.cond c x y) Q f w:=QW hc (λ_=>h) (λe=>by cases e)
theorem YT {c:Operand}{x y:Code}(hc:ev f c=.bool false) (h:W P n y Q f w):W P n (.cond c x y) Q f w:=QW hc (λe=>by cases e) (λ_=>h)
theorem Qh {id:Nat}{c:Code}(h:W P n c (blk id Q) f w):W P n (.block id c) Q f w:=by
 intro a ha;refine wp_block (wp_mono (h a ha) ?_);rintro e H w' ⟨E,h1,h2,h3⟩;have k1:∀t,wrs (.block id c) t=false→E t=f t:=λt ht=>h2 t (by simpa[wrs] using ht);cases e with
 | exit i =>
  simp only[Exit.inBlock];simp only[blk] at h3;by_cases hi:i=id
  ·subst hi;simp only[Nat.beq_refl,cond_true] at h3;simp only[if_true];exact ⟨E,h1,k1,h3⟩
  have hb:Nat.beq i id=false:=by
   cases e:Nat.beq i id with
   | false=>rfl
   | true=>exact absurd (Nat.eq_of_beq_eq_true e) hi
  rw[hb] at h3;rw[if_neg hi];exact ⟨E,h1,k1,h3⟩
 | normal=>exact ⟨E,h1,k1,h3⟩
 | goto l=>exact ⟨E,h1,k1,h3⟩
 | ret=>exact ⟨E,h1,k1,h3⟩
 | panic ch=>exact ⟨E,h1,k1,h3⟩
 | outgrown=>exact ⟨E,h1,k1,h3⟩
theorem Qz {α:Type}{c:Code}(D:List (Nat×Nat)) (S:α→List (Nat×Value)) (I:α→World→Prop) (m:α→Nat) (hD:wr D c=true) (z:α)
  (h0:Y4 f (S z)) (hI:I z w)
  (round:∀x g w',I x w'→W P n c (thn (λH hb=>∃V,m V<m x∧Y4 H (S V)∧I V hb) Q) (VP (S x) (mix D f g)) w'):W P n (.loop c) Q f w:=by
 intro a ha;refine wp_loop_ghost (λ(x:α) Y w'=>∃H,Rel n Y H∧(∀t,wrs c t=false→H t=f t)∧Y4 H (S x)∧I x w') m z ⟨f,ha,λ_ _=>Z,h0,hI⟩ ?_;rintro x Y w' ⟨H,h1,h2,h3,h4⟩;have h5:=round x H w' h4;rw[Xk (λt ht=>h2 t (KL ht c hD)),YB h3] at h5;refine wp_mono (h5 Y h1) ?_;rintro e hc hb ⟨E,J,g2,U⟩;have k1:∀t,wrs c t=false→E t=f t:=λt ht=>(g2 t ht).trans (h2 t ht)
 have k2:∀t,wrs (.loop c) t=false→E t=f t:=λt ht=>k1 t (by simpa[wrs] using ht);cases e with
 | normal=>obtain ⟨V,hm,hs,hi⟩:=U;exact ⟨V,hm,E,J,k1,hs,hi⟩
 | exit id=>exact ⟨E,J,k2,U⟩
 | goto l=>exact ⟨E,J,k2,U⟩
 | ret=>exact ⟨E,J,k2,U⟩
 | panic ch=>exact ⟨E,J,k2,U⟩
 | outgrown=>exact ⟨E,J,k2,U⟩
 where
 wp_loop_ghost {α:Type} {P:Program} {c:Code} {Q:Exit→Act→World→Prop} {a:Act} {w:World} (J:α→Act→World→Prop) (m:α→Nat) (z:α) (h₀:J z a w)
   (round:∀x a w,J x a w→c.wp P (Exit.then (λa' w'=>∃x',m x'<m x∧J x' a' w') Q) a w):(Code.loop c).wp P Q a w:=by
  intro b k cs
  have key:∀i x a w,m x=i→J x a w →
    ∃e a' w',Q e a' w'∧Arrives P (lone (b.at a (.code c::.inLoop c::k)) cs w) b k cs e a' w':=by
   intro i
   induction i using Nat.strongRecOn with
   | _ i ih =>
    intro x a w hx hJ
    obtain ⟨e,a₁,w₁,hq,harr⟩:=round x a w hJ b (.inLoop c::k) cs
    cases e with
    | normal =>
     obtain ⟨x',hlt,hJ'⟩:=hq
     obtain ⟨e₂,a₂,w₂,hq₂,harr₂⟩:=ih (m x') (hx ▸ hlt) x' a₁ w₁ rfl hJ'
     exact ⟨e₂,a₂,w₂,hq₂,.of_steps (Steps.trans harr (.one step_inLoop)) harr₂⟩
    | exit id=>exact ⟨_,a₁,w₁,hq,.pass (x:=.inLoop c) rfl (λ_ _=>.inl (by simp)) harr⟩
    | goto l=>exact ⟨_,a₁,w₁,hq,.pass (x:=.inLoop c) rfl (λ_ _=>.inl (by simp)) harr⟩
    | ret=>exact ⟨_,a₁,w₁,hq,.pass (x:=.inLoop c) rfl (λ_ _=>.inl (by simp)) harr⟩
    | panic ch=>exact ⟨_,a₁,w₁,hq,.pass (x:=.inLoop c) rfl (λ_ _=>.inl (by simp)) harr⟩
    | outgrown=>exact ⟨_,a₁,w₁,hq,.pass (x:=.inLoop c) rfl (λ_ _=>.inl (by simp)) harr⟩
  obtain ⟨e,a',w',hq,harr⟩:=key _ z a w rfl h₀
  exact ⟨e,a',w',hq,.of_steps (.one step_loop) harr⟩
end
def upF (P:Program) (dst:Option Nat) (f:Fr) (K:Fr→World→Prop):Result Next→Prop
 | .ok (.value v) w'=>K (QV f dst v) w'
 | .ok .skip w'=>K (QV f dst undef) w'
 | .ok (.enter g args) w'=>Calls P g args w' λe E=>match e with | .returned v=>K (QV f dst v) E | _=>False
 | _=>False
def XO (P:Program) (o:Oper) (f:Fr) (w:World) (K:Fr→World→Prop):Prop:=upF P o.dst f K ((execOp (ev f) o).run P w)
def Yi (ops:List Oper) (f:Fr) (o:Oper):Bool:=match o.guard with
 | none=>true
 | some (j,want)=>match (ops[j]?).bind (·.dst) with
  | some d=>(match f d with | .bool b=>bif want then b else !b | _=>false)
  | none=>false
def XL (P:Program) (ops:List Oper) (K:Fr→World→Prop):List Oper→Fr→World→Prop
 | [],f,w=>K f w
 | o::l,f,w=>bif Yi ops f o then XO P o f w (XL P ops K l) else XL P ops K l (QV f o.dst undef) w
theorem UU {n:Nat}{l:List Oper}{a:Act}{f:Fr}(h:Rel n a f) (I:∀o∈l,∀d,o.dst=some d→d<n) (o:Oper):Region.wanted o (yielded l.toArray a.tmps)=Yi l f o:=by
 unfold Region.wanted Yi;cases o.guard with
 | none=>rfl
 | some p =>
  obtain ⟨j,want⟩:=p;simp only[yielded,List.getElem?_toArray];cases hj:(l[j]?) with
  | none=>simp
  | some o' =>
   cases hd:o'.dst with
   | none=>simp[hd]
   | some d =>
    have E:d<a.tmps.size:=by rw[h.size];exact I o' (Mr hj) d hd
    have H:=h.get d;simp only[Option.bind_some,hd,Array.getElem?_eq_getElem E];simp[E] at H;rw[H];cases f d <;> simp
    cases want <;> simp
theorem Qm8 {P:Program}{n:Nat}{o:Oper}{a:Act}{f:Fr}{w:World}{K:Fr→World→Prop}{K':Act→World→Prop}{Q:Exit→Act→World→Prop}(h:Rel n a f)
  (E:∀v w',K (QV f o.dst v) w'→K' (a.put o.dst v) w') (hx:XO P o f w K):o.wp P a w K' Q:=by
 unfold XO at hx;unfold Oper.wp;rw[h.eval];generalize (execOp (ev f) o).run P w=r at hx;cases r with
 | ok nx w' =>
  cases nx <;> simp only[upF] at hx <;> simp only[Oper.upon]
  case value v=>exact E v w' hx
  case skip=>exact E _ w' hx
  case enter g args =>
   refine Calls.mono hx λe H he=>?_;cases e with
   | returned v=>exact E v H he
   | panicked c=>exact he.elim
   | outgrown=>exact he.elim
 | halt x w'=>exact hx.elim
theorem XO.mono {P:Program}{o:Oper}{f:Fr}{w:World}{K K':Fr→World→Prop}(E:∀v w',K (QV f o.dst v) w'→K' (QV f o.dst v) w') (hx:XO P o f w K):XO P o f w K':=by
 unfold XO at *;generalize (execOp (ev f) o).run P w=r at *;cases r with
 | ok nx w' =>
  cases nx <;> simp only[upF] at hx ⊢
  case value v=>exact E v w' hx
  case skip=>exact E _ w' hx
  case enter g args =>
   refine Calls.mono hx λe H he=>?_;cases e with
   | returned v=>exact E v H he
   | panicked c=>exact he.elim
   | outgrown=>exact he.elim
 | halt x w'=>exact hx.elim
def Xs (n:Nat) (l:List Oper):Bool:=l.all λo=>match o.dst with | some d=>Nat.blt d n | none=>true
theorem Xa {n:Nat}{l:List Oper}(h:Xs n l=true):∀o∈l,∀d,o.dst=some d→d<n:=by
 intro o E d hd;have:=LZ.1 h o E;simp only[hd,Nat.blt_eq] at this;exact this
theorem Jo {l:List Oper}{o:Oper}(E:o∈l) {t:Nat}(h:ZW l t=false):o.dst≠some t:=by
 intro e;have:=M8.1 h o E;simp[e] at this
theorem Z1 {f:Fr}{dst:Option Nat}{t:Nat}(h:dst≠some t) (v:Value):QV f dst v t=f t:=by
 cases dst with
 | none=>rfl
 | some d=>exact JR _ _ (λe=>h (by rw[e]))
section
variable {P:Program} {n:Nat} {Q:Exit→Fr→World→Prop} {f:Fr} {w:World}
theorem Qm9 {all:List Oper}(H:∀o∈all,∀d,o.dst=some d→d<n) (I:Fr) :
  ∀(l:List Oper) (k:Nat) (a:Act) (f:Fr) (w:World),(∀j,l[j]?=all[k+j]?)→Rel n a f→(∀t,ZW all t=false→f t=I t) →
   XL P all (λf w=>Q .normal f w) l f w →
   wpOps P all.toArray (λe Y w'=>∃f',Rel n Y f'∧(∀t,ZW all t=false→f' t=I t)∧Q e f' w') (List.range' k l.length) a w
 | [],_,a,f,w,_,E,hk,h=>⟨f,E,hk,h⟩
 | o::l,k,a,f,w,hl,E,hk,h=>by
  have U:all[k]?=some o:=by simpa using (hl 0).symm
  have J:o∈all:=Mr U;have ih:=λa f w=>Qm9 H I l (k+1) a f w (λj=>by have:=hl (j+1);simpa[Nat.add_assoc,Nat.add_comm 1 j] using this);have next:∀v,(∀t,ZW all t=false→QV f o.dst v t=I t):=λv t ht=>(Z1 (Jo J ht) v).trans (hk t ht);simp only[List.length_cons,List.range'_succ,wpOps,List.getElem?_toArray,U];rw[UU E H o];simp only[XL] at h;cases V:Yi all f o with
  | false =>
   rw[V] at h;exact ih _ _ _ (E.put (H o J) _) (next _) h
  | true =>
   rw[V] at h;exact .inl (Qm8 E (λv w' hx=>ih _ _ _ (E.put (H o J) v) (next v) hx) h)
theorem Qdn {id:Nat}{l:List Oper}(E:Xs n l=true) (h:XL P l (λf w=>Q .normal f w) l f w):W P n (.region id l.toArray false) Q f w:=by
 intro a ha;refine wp_region ?_;have:=Qm9 (Xa E) f l 0 a f w (by simp) ha (λ_ _=>rfl) h;simpa[List.range_eq_range',wrs] using this
end
def yV (o:Oper):Bool:=match o.op with
 | .move _ | .assign _ | .pick .. | .alloc _ | .box .. | .build .. | .buildSlice .. | .store .. | .nilCheck _ | .binOp .. | .unOp .. | .makeFunc .. | .makeMap .. | .makeSlice .. | .fieldAddr .. | .field .. | .indexAddr .. | .index .. | .extract .. | .insert .. | .mapUpdate ..=>false
 | .slice ..=>false
 | .call ⟨.builtin .append,_,_⟩=>false
 | .call ⟨.builtin .min,_,_⟩=>false
 | .call ⟨.builtin .max,_,_⟩=>false
 | .call ⟨.value _,_,_⟩=>false
 | _=>true
def Ur (all:List Oper) (j:Nat):Bool:=match all[j]? with
 | none=>false
 | some o=>(List.range all.length).all λi=>match all[i]? with
  | none=>true
  | some oi=>!yV oi || i == j || o.after.any λe=>Region.binds .any e && e.on == i
def XA (P:Program) (all:List Oper) (C:World→Prop) (K:Fr→World→Prop):Nat→Array Bool→Fr→World→Prop
 | 0,ls,f,w=>Region.ready .any all.toArray ls=[]∧K f w
 | k+1,ls,f,w=>(Region.ready .any all.toArray ls=[]→K f w) ∧
  ∀i∈Region.ready .any all.toArray ls,∀o,all[i]?=some o →
   bif Yi all f o then XO P o f w (λE w'=>(Ur all i=true∨w'=w∨C w')∧XA P all C K k (ls.setIfInBounds i true) E w') else XA P all C K k (ls.setIfInBounds i true) (QV f o.dst undef) w
section
variable {P:Program} {n:Nat} {f:Fr} {w:World} {all:List Oper} {C:World→Prop} {K:Fr→World→Prop}
theorem Qgp {Q:Exit→Act→World→Prop}(H:∀o∈all,∀d,o.dst=some d→d<n) (I:Fr)
  (J:∀a f w,Rel n a f→(∀t,ZW all t=false→f t=I t)→K f w→Q .normal a w) :
  ∀(k:Nat) (ls:Array Bool) (a:Act) (f:Fr) (w:World),Rel n a f→(∀t,ZW all t=false→f t=I t)→XA P all C K k ls f w→wpAny P .any all.toArray Q k ls a w
 | 0,_,a,f,w,E,hk,h=>⟨h.1,J a f w E hk h.2⟩
 | k+1,ls,a,f,w,E,hk,h=>by
  refine ⟨λh0=>J a f w E hk (h.1 h0),λi hi=>?_⟩;unfold wpOp;simp only[List.getElem?_toArray];cases U:all[i]? with
  | none =>
   exfalso;obtain ⟨_,o,ha,_⟩:=mem_ready.1 hi;simp[U] at ha
  | some o =>
   have V:o∈all:=Mr U;have h1:=h.2 i hi o U;have next:∀v,(∀t,ZW all t=false→QV f o.dst v t=I t):=λv t ht=>(Z1 (Jo V ht) v).trans (hk t ht);simp only[];rw[UU E H o];cases Y:Yi all f o with
   | false =>
    rw[Y] at h1;exact Qgp H I J k _ _ _ _ (E.put (H o V) _) (next _) h1
   | true =>
    rw[Y] at h1;exact .inl (Qm8 E (λv w' hx=>Qgp H I J k _ _ _ _ (E.put (H o V) v) (next v) hx.2) h1)
theorem Vr (f:Fr) {x y:Option Nat}(v u:Value) (h:∀d,x=some d→y≠some d):QV (QV f x v) y u=QV (QV f y u) x v:=by
 cases x with
 | none=>rfl
 | some d =>
  cases y with
  | none=>rfl
  | some e =>
   have E:d≠e:=λhe=>h d Z (he ▸ Z);funext t;simp only[QV];by_cases h1:t=d
   ·subst h1;rw[JR _ _ E,Y0,Y0]
   by_cases h2:t=e
   ·subst h2;rw[Y0,JR _ _ h1,Y0]
   rw[JR _ _ h2,JR _ _ h1,JR _ _ h1,JR _ _ h2]
theorem Qmk {f:Fr}{dst:Option Nat}{v:Value}{x:Operand}(h:∀d,dst=some d→x≠.tmp d):ev (QV f dst v) x=ev f x:=by
 cases dst with
 | none=>rfl
 | some d =>
  cases x with
  | tmp t=>exact JR _ _ (λe=>h d Z (by rw[e]))
  | _=>rfl
theorem XW {o:Oper}(hs:∀cs b,o.op≠.select cs b) (f:Fr) (dst:Option Nat) (v:Value) (h:∀d,dst=some d→d∉o.looksAt all.toArray) :
  execOp (ev (QV f dst v)) o=execOp (ev f) o :=
 execOp_congr o hs λx hx=>Qmk λd hd E=>h d hd (by
  subst E;exact Lz _ (MD.2 ⟨.tmp d,by simpa using hx,rfl⟩))
theorem J8 (o:Oper) (f:Fr) (dst:Option Nat) (v:Value) (h:∀d,dst=some d→d∉o.looksAt all.toArray):Yi all (QV f dst v) o=Yi all f o:=by
 unfold Yi;cases E:o.guard with
 | none=>rfl
 | some gw =>
  obtain ⟨g,want⟩:=gw;simp only[];cases ht:(all[g]?).bind (·.dst) with
  | none=>rfl
  | some t =>
   have H:dst≠some t:=λe=>h t e (by simp[Oper.looksAt,E,ht]);simp only[];rw[Z1 H]
def Qgs (P:Program) (all:List Oper) (D:World→Prop) (o:Oper) (v:Value) (f:Fr):Prop :=
 (Yi all f o=true∧∀w,D w→(execOp (ev f) o).run P w=.ok (.value v) w)∨(Yi all f o=false∧v=undef)
theorem QlK {i j:Nat}{oi oj:Oper}(hi:all[i]?=some oi) (hj:all[j]?=some oj) (E:yV oi=true) (H:j≠i) (hl:Ur all j=true) (I:∀e∈oj.after,Region.binds .any e=true→e.on≠i):False:=by
 simp only[Ur,hj,List.all_eq_true,List.mem_range] at hl;have J:i<all.length:=(Ma.1 hi).1;have h1:=hl i J;simp only[hi,E,Bool.not_true,Bool.false_or,Bool.or_eq_true,beq_iff_eq,Array.any_eq_true',Bool.and_eq_true] at h1;rcases h1 with h1 | ⟨e,he,hb,U⟩
 ·exact H h1.symm
 exact I e he hb U
theorem XX {i:Nat}{oi:Oper}{v:Value}{D:World→Prop}(hi:all[i]?=some oi) (hD:∀w,(yV oi=true→C w)→D w) (Y:∀(j:Nat) (o:Oper) cs b,all[j]?=some o→o.op≠.select cs b) :
  ∀(fuel:Nat) (ls:Array Bool) (f:Fr) (w:World),(yV oi=true→C w) →
   (∀j oj,all[j]?=some oj→j≠i→ls.getD j true=false→(∀e∈oj.after,Region.binds .any e=true→e.on≠i)→oi.apart all.toArray oj=true) →
   i∈Region.ready .any all.toArray ls→Qgs P all D oi v f →
   XA P all C K fuel (ls.setIfInBounds i true) (QV f oi.dst v) w→XA P all C K (fuel+1) ls f w:=by
 have ha:∀(fuel:Nat) (ls:Array Bool) (f:Fr) (w:World),(yV oi=true→C w)→Qgs P all D oi v f→XA P all C K fuel (ls.setIfInBounds i true) (QV f oi.dst v) w→∀o,all[i]?=some o →
   bif Yi all f o then XO P o f w (λf' w'=>(Ur all i=true∨w'=w∨C w')∧XA P all C K fuel (ls.setIfInBounds i true) f' w') else XA P all C K fuel (ls.setIfInBounds i true) (QV f o.dst undef) w:=by
  intro fuel ls f w hC hy H o ho;rw[hi] at ho;cases ho
  rcases hy with ⟨U,hv⟩ | ⟨U,rfl⟩
  ·rw[U];simp only[cond_true,XO,hv w (hD w hC),upF];exact ⟨.inr (.inl La),H⟩
  rw[U];exact H
 intro fuel;induction fuel with
 | zero =>
  intro ls f w hC _ J hy H;refine ⟨λh=>(by rw[h] at J;cases J),λj hj=>?_⟩;by_cases I:j=i
  ·subst I;exact ha _ _ _ _ hC hy H
  have:=ready_mono hj I;rw[H.1] at this;cases this
 | succ fuel ih =>
  intro ls f w hC hc J hy H;refine ⟨λh=>(by rw[h] at J;cases J),λj hj=>?_⟩;by_cases I:j=i
  ·subst I;exact ha _ _ _ _ hC hy H
  intro oj V;have h1:=H.2 j (ready_mono hj I) oj V;obtain ⟨hf,E,hh,hs⟩:=mem_ready.1 hj;have ht:E=oj:=by rw[Md,V] at hh;exact (Option.some.inj hh).symm
  subst ht;have hm:∀e∈E.after,Region.binds .any e=true→e.on≠i:=λe he hb hu=>by
   have h1:=hs e he hb;have h0:=(mem_ready.1 J).1;rw[hu] at h1;rcases Nat.lt_or_ge i ls.size with h' | h'
   ·simp[h'] at h0 h1;rw[h0] at h1;cases h1
   simp[Array.getElem?_eq_none h'] at h1
  obtain ⟨a1,a2,a3⟩:=Oper.apart_spec (hc j E V I hf hm);have hw:∀k ok,all[k]?=some ok→k≠i→(ls.setIfInBounds j true).getD k true=false →
    (∀e∈ok.after,Region.binds .any e=true→e.on≠i)→oi.apart all.toArray ok=true:=λk ok hk hz hn h2=>by
   refine hc k ok hk hz ?_ h2;by_cases hp:j=k
   ·subst hp;exact hf
   rw[getD_set_ne true hp] at hn;exact hn
  have keep:∀u,Qgs P all D oi v (QV f E.dst u):=λu=>by
   unfold Qgs at *;rw[J8 oi f E.dst u a3,XW (all:=all) (Y i oi · · hi) f E.dst u a3];exact hy
  have dOf:∀w',(Ur all j=true∨w'=w∨C w')→(yV oi=true→C w'):=λw' hl hq=>by
   rcases hl with hl | rfl | hl
   ·exact (QlK hi V hq I hl hm).elim
   ·exact hC hq
   exact hl
  have go:∀u w',(yV oi=true→C w')→XA P all C K fuel ((ls.setIfInBounds i true).setIfInBounds j true) (QV (QV f oi.dst v) E.dst u) w' →
    XA P all C K (fuel+1) (ls.setIfInBounds j true) (QV f E.dst u) w':=λu w' h3 hx=>by
   refine ih _ _ _ h3 hw (ready_mono J (Ne.symm I)) (keep u) ?_;rw[Array.setIfInBounds_comm _ _ I,←Vr f v u a2];exact hx
  rw[J8 E f oi.dst v a1] at h1;cases U:Yi all f E with
  | false=>rw[U] at h1;exact go _ _ hC h1
  | true =>
   rw[U] at h1;simp only[cond_true] at h1 ⊢;unfold XO at *;rw[XW (all:=all) (Y j E · · V) f oi.dst v a1] at h1;generalize (execOp (ev f) E).run P w=r at *;cases r with
   | ok nx w' =>
    cases nx <;> simp only[upF] at h1 ⊢
    case value u=>exact ⟨h1.1,go _ _ (dOf _ h1.1) h1.2⟩
    case skip=>exact ⟨h1.1,go _ _ (dOf _ h1.1) h1.2⟩
    case enter g args =>
     refine Calls.mono h1 λe h4 he=>?_;cases e with
     | returned u=>exact ⟨he.1,go _ _ (dOf _ he.1) he.2⟩
     | panicked c=>exact he.elim
     | outgrown=>exact he.elim
   | halt x w'=>exact h1.elim
def Y9 (all:Array Oper):List (Nat×Bool)→Array Bool→Bool
 | [],ls=>(Region.ready .any all ls).isEmpty
 | (i,true)::pl,ls=>(Region.ready .any all ls).contains i && Region.free .any all ls i && Y9 all pl (ls.setIfInBounds i true)
 | (i,false)::pl,ls=>Region.ready .any all ls == [i] && Y9 all pl (ls.setIfInBounds i true)
def QaV (all:List Oper) (pl:List (Nat×Bool)):Bool:=Region.noSelect all.toArray && pl.length == all.length && Y9 all.toArray pl (Array.replicate all.length false)
def QK:List Oper→Nat→Oper
 | [],_=>default
 | o::_,0=>o
 | _::l,i+1=>QK l i
theorem Zd {l:List Oper}{i:Nat}{o:Oper}(h:l[i]?=some o):QK l i=o:=by
 induction l generalizing i with
 | nil=>simp at h
 | cons a l ih=>cases i with
  | zero=>simp at h;subst h;rfl
  | succ i=>exact ih (by simpa using h)
def XP (P:Program) (all:List Oper) (C:World→Prop) (K:Fr→World→Prop):List (Nat×Bool)→Fr→World→Prop
 | [],f,w=>K f w
 | (i,q)::pl,f,w=>bif Yi all f (QK all i) then
    (bif q then ∃v,(∀w',(yV (QK all i)=true→C w')→(execOp (ev f) (QK all i)).run P w'=.ok (.value v) w')∧XP P all C K pl (QV f (QK all i).dst v) w
     else XO P (QK all i) f w λE w'=>(Ur all i=true∨w'=w∨C w')∧XP P all C K pl E w')
   else XP P all C K pl (QV f (QK all i).dst undef) w
def Qdj (all:List Oper) (ls:Array Bool):Prop:=∀i o,all[i]?=some o→yV o=true→ls.getD i false=true
theorem Qdj.set {ls:Array Bool}(h:Qdj all ls) (i:Nat):Qdj all (ls.setIfInBounds i true):=λj o E H=>getD_set_true (h j o E H)
theorem Zy (hs:Region.noSelect all.toArray=true):∀(pl:List (Nat×Bool)) (ls:Array Bool) (f:Fr) (w:World),ls.size=all.length→(C w∨Qdj all ls)→Y9 all.toArray pl ls=true→XP P all C K pl f w →
  XA P all C K pl.length ls f w
 | [],ls,f,w,_,_,hp,h=>⟨by simpa[Y9] using hp,h⟩
 | (i,true)::pl,ls,f,w,U,hC,hp,h=>by
  simp only[Y9,Bool.and_eq_true] at hp;obtain ⟨⟨I,hf⟩,V⟩:=hp;simp only[XP] at h;have J:i∈Region.ready .any all.toArray ls:=by simpa using I
  cases E:all[i]? with
  | none =>
   exfalso;obtain ⟨_,o,hz,_⟩:=mem_ready.1 J;simp[E] at hz
  | some o =>
   rw[Zd E] at h;have hm:∀(j:Nat) (o:Oper) cs b,all[j]?=some o→o.op≠.select cs b:=λj o cs b hj=>Region.noSelect_spec hs j o cs b (by simpa using hj);have hn:=λj oj hj=>Region.free_spec (ops:=all.toArray) (md:=.any) (i:=i) (oi:=o) (listed:=ls) (by simpa using E) hf j oj (by simpa using hj);have hq:=(mem_ready.1 J).1;have ht:yV o=true→C w:=λha=>hC.resolve_right (λhh=>by
    have h1:=hh i o E ha;have hi:i<ls.size:=by rw[U];exact (Ma.1 E).1
    simp[hi] at hq h1;rw[hq] at h1;cases h1)
   have hu:C w∨Qdj all (ls.setIfInBounds i true):=hC.imp id (λh=>h.set i);have Y:(ls.setIfInBounds i true).size=all.length:=by simpa using U
   cases H:Yi all f o with
   | false =>
    rw[H] at h;exact XX (v:=undef) (D:=λw=>yV o=true→C w) E (λ_ h=>h) hm pl.length ls f w ht hn J (.inr ⟨H,Z⟩) (Zy hs pl _ _ _ Y hu V h)
   | true =>
    rw[H] at h;simp only[cond_true] at h;obtain ⟨v,hv,hx⟩:=h;exact XX (v:=v) (D:=λw=>yV o=true→C w) E (λ_ h=>h) hm pl.length ls f w ht hn J (.inl ⟨H,hv⟩) (Zy hs pl _ _ _ Y hu V hx)
 | (i,false)::pl,ls,f,w,U,hC,hp,h=>by
  simp only[Y9,Bool.and_eq_true,beq_iff_eq] at hp;obtain ⟨I,V⟩:=hp;refine ⟨λh0=>(by rw[h0] at I;cases I),?_⟩;have J:i∈Region.ready .any all.toArray ls:=by rw[I];simp
  rw[I];intro j hj o E;have:j=i:=by simpa using hj
  subst this;have Y:(ls.setIfInBounds j true).size=all.length:=by simpa using U
  simp only[XP,Zd E] at h;cases H:Yi all f o with
  | false=>rw[H] at h;exact Zy hs pl _ _ _ Y (hC.imp id (λh=>h.set j)) V h
  | true =>
   rw[H] at h;simp only[cond_true,cond_false] at h ⊢;refine h.mono λv w' hx=>⟨hx.1,Zy hs pl _ _ _ Y ?_ V hx.2⟩;rcases hx.1 with hl | rfl | hc
   ·right;intro k ok hk ha;by_cases hw:k=j
    ·subst hw;have hi:k<ls.size:=by rw[U];exact (Ma.1 hk).1
     simp[hi]
    simp only[Ur,E,List.all_eq_true,List.mem_range] at hl;have h1:=hl k (Ma.1 hk).1;simp only[hk,ha,Bool.not_true,Bool.false_or,Bool.or_eq_true,beq_iff_eq,Array.any_eq_true',Bool.and_eq_true] at h1;rcases h1 with h1 | ⟨e,he,hb,h2⟩
    ·exact absurd h1 hw
    obtain ⟨_,o',hy,hh⟩:=mem_ready.1 J;have:o'=o:=by rw[Md,E] at hy;exact (Option.some.inj hy).symm
    subst this;have:=hh e he hb;rw[h2] at this;exact getD_set_true this
   ·exact hC.imp id (λh=>h.set j)
   exact .inl hc
theorem QU {Q:Exit→Fr→World→Prop}{id:Nat}(C:World→Prop) (pl:List (Nat×Bool)) (hm:P.follows .mixedOrders=true) (H:Xs n all=true) (hp:QaV all pl=true)
  (hC:C { w with drawn:=w.drawn+1 }) (h:XP P all C (λf w=>Q .normal f w) pl f { w with drawn:=w.drawn+1 }):W P n (.region id all.toArray true) Q f w:=by
 intro a ha;simp only[QaV,Bool.and_eq_true,beq_iff_eq] at hp;obtain ⟨⟨hs,hl⟩,hp⟩:=hp;refine wp_region_any hm ?_;have h1:=Zy hs pl _ _ _ (by simp) (.inl hC) hp h;rw[hl] at h1;have h2:=Qgp (n:=n) (Q:=λe I w'=>∃E,Rel n I E∧(∀t,ZW all t=false→E t=f t)∧Q e E w') (Xa H) f
  (λa E w J hk hq=>⟨E,J,hk,hq⟩) _ _ a f _ ha (λ_ _=>Z) h1
 simpa[wrs] using h2
theorem Xe {Q:Exit→Fr→World→Prop}{id:Nat}(C:World→Prop) (hm:P.follows .mixedOrders=true) (H:Xs n all=true)
  (h:XA P all C (λf w=>Q .normal f w) all.length (Array.replicate all.length false) f { w with drawn:=w.drawn+1 }):W P n (.region id all.toArray true) Q f w:=by
 intro a ha;refine wp_region_any hm ?_;have h2:=Qgp (n:=n) (Q:=λe I w'=>∃E,Rel n I E∧(∀t,ZW all t=false→E t=f t)∧Q e E w') (Xa H) f
  (λa E w J hk hq=>⟨E,J,hk,hq⟩) _ _ a f _ ha (λ_ _=>Z) h
 simpa[wrs] using h2
end
theorem Y7 {P:Program}{all:List Oper}{C:World→Prop}{K:Fr→World→Prop}{k:Nat}{ls:Array Bool}{f:Fr}{w:World}(E:Region.ready .any all.toArray ls=[]→K f w)
  (h:∀i∈Region.ready .any all.toArray ls,∀o,all[i]?=some o →
   bif Yi all f o then XO P o f w (λH w'=>(Ur all i=true∨w'=w∨C w')∧XA P all C K k (ls.setIfInBounds i true) H w') else XA P all C K k (ls.setIfInBounds i true) (QV f o.dst undef) w):XA P all C K (k+1) ls f w:=⟨E,h⟩
attribute [irreducible] W XL XP XO XA
class Sl (P:Program) (t:Nat) (e sz bys:outParam Nat) (z:outParam Value):Prop where
 u:P.underlying t=some (.slice e)
 i:(P.info? e).map (λi=>(i.zero,i.size,i.bytes))=some (some z,sz,bys)
 zs:z.cells.size=sz
 pos:0<sz
def QpG (P:Program) (t j:Nat):Option Nat:=match P.underlying t with
 | some (.struct fs)=>match fs[j]? with
  | some fd=>match P.info? fd.type with
   | some i=>if i.size=0 then none else some fd.offset
   | none=>none
  | none=>none
 | _=>none
class Za (P:Program) (t j:Nat) (off:outParam Nat):Prop where
 h:QpG P t j=some off
class X7 (P:Program) (t:Nat):Prop where
 u:∃d,P.underlying t=some d∧(match d with | .struct _ | .array ..=>false | _=>true)=true
 i:(P.info? t).map (·.size)=some 1
class Ag (P:Program) (t:Nat) (sz:outParam Nat):Prop where
 u:∃d,P.underlying t=some d∧(match d with | .struct _ | .array ..=>true | _=>false)=true
 i:(P.info? t).map (·.size)=some sz
class Ze (P:Program) (t:Nat) (z:outParam Value):Prop where
 i:(P.info? t).map (·.zero)=some (some z)
class Fu (P:Program) (g:Nat) (fn:outParam Func):Prop where
 f:P.funcs[g]?=some fn
 b:fn.body.isNone=false
 nm:(fn.name == "runtime.NumGoroutine")=false
section
variable {P:Program} {ops:List Oper} {K:Fr→World→Prop} {f:Fr} {w:World}
theorem xe (h:K f w):XL P ops K [] f w:=by simp only[XL];exact h
theorem xl {o:Oper}{l:List Oper}(E:Yi ops f o=true) (h:XO P o f w (XL P ops K l)):XL P ops K (o::l) f w:=by
 simp only[XL,E,cond_true];exact h
theorem xs {o:Oper}{l:List Oper}(E:Yi ops f o=false) (h:XL P ops K l (QV f o.dst undef) w):XL P ops K (o::l) f w:=by
 simp only[XL,E,cond_false];exact h
theorem xv {o:Oper}{v:Value}{w':World}(E:(execOp (ev f) o).run P w=.ok (.value v) w') (h:K (QV f o.dst v) w'):XO P o f w K:=by
 simp only[XO,E,upF];exact h
theorem xk {o:Oper}{w':World}(E:(execOp (ev f) o).run P w=.ok .skip w') (h:K (QV f o.dst undef) w'):XO P o f w K:=by
 simp only[XO,E,upF];exact h
theorem x {o:Oper}{l:List Oper}{v:Value}(E:(execOp (ev f) o).run P w=.ok (.value v) w) (h:XL P ops K l (QV f o.dst v) w) (H:Yi ops f o=true:=by rfl):XL P ops K (o::l) f w :=
 xl H (xv E h)
theorem xb {o:Oper}{l:List Oper}{q:Prop}[Decidable q] (E:(execOp (ev f) o).run P w=.ok (.value (.bool (decide q))) w) (ht:q→XL P ops K l (QV f o.dst (.bool true)) w) (I:¬q→XL P ops K l (QV f o.dst (.bool false)) w)
  (H:Yi ops f o=true:=by rfl):XL P ops K (o::l) f w:=by
 by_cases h:q
 ·rw[decide_eq_true h] at E;exact x E (ht h) H
 rw[decide_eq_false h] at E;exact x E (I h) H
variable {C:World→Prop}
theorem pe (h:K f w):XP P ops C K [] f w:=by simp only[XP];exact h
theorem pq {i:Nat}{pl:List (Nat×Bool)}{v:Value}(E:∀w',C w'→(execOp (ev f) (QK ops i)).run P w'=.ok (.value v) w') (h:XP P ops C K pl (QV f (QK ops i).dst v) w)
  (hd:yV (QK ops i)=true:=by rfl) (H:Yi ops f (QK ops i)=true:=by rfl):XP P ops C K ((i,true)::pl) f w:=by
 simp only[XP,H,cond_true];exact ⟨v,λw' hc=>E w' (hc hd),h⟩
theorem p {i:Nat}{pl:List (Nat×Bool)}{v:Value}(E:∀w',(execOp (ev f) (QK ops i)).run P w'=.ok (.value v) w') (h:XP P ops C K pl (QV f (QK ops i).dst v) w)
  (H:Yi ops f (QK ops i)=true:=by rfl):XP P ops C K ((i,true)::pl) f w:=by
 simp only[XP,H,cond_true];exact ⟨v,λw' _=>E w',h⟩
theorem ps {i:Nat}{q:Bool}{pl:List (Nat×Bool)}(h:XP P ops C K pl (QV f (QK ops i).dst undef) w)
  (E:Yi ops f (QK ops i)=false:=by rfl):XP P ops C K ((i,q)::pl) f w:=by
 simp only[XP,E,cond_false];exact h
theorem pb {i:Nat}{pl:List (Nat×Bool)}{q:Prop}[Decidable q] (E:∀w',(execOp (ev f) (QK ops i)).run P w'=.ok (.value (.bool (decide q))) w') (ht:q→XP P ops C K pl (QV f (QK ops i).dst (.bool true)) w) (I:¬q→XP P ops C K pl (QV f (QK ops i).dst (.bool false)) w)
  (H:Yi ops f (QK ops i)=true:=by rfl):XP P ops C K ((i,true)::pl) f w:=by
 by_cases h:q
 ·rw[decide_eq_true h] at E;exact p E (ht h) H
 rw[decide_eq_false h] at E;exact p E (I h) H
theorem pk {i:Nat}{pl:List (Nat×Bool)}(h:XO P (QK ops i) f w λE w'=>C w'∧XP P ops C K pl E w')
  (H:Yi ops f (QK ops i)=true:=by rfl):XP P ops C K ((i,false)::pl) f w:=by
 simp only[XP,H,cond_true,cond_false];exact h.mono λ_ _ hx=>⟨.inr (.inr hx.1),hx.2⟩
theorem pkl {i:Nat}{pl:List (Nat×Bool)}(h:XO P (QK ops i) f w λE w'=>XP P ops C K pl E w')
  (hl:Ur ops i=true:=by rfl) (H:Yi ops f (QK ops i)=true:=by rfl):XP P ops C K ((i,false)::pl) f w:=by
 simp only[XP,H,cond_true,cond_false];exact h.mono λ_ _ hx=>⟨.inl hl,hx⟩
end
section
variable {P:Program} {f:Fr} {w:World} {d:Option Nat} {ty:Nat} {ps:String} {af:Array Edge} {gd:Option (Nat×Bool)}
theorem Qm {x:Operand}:(execOp (ev f) ⟨d,.move x,ty,ps,af,gd⟩).run P w=.ok (.value (ev f x)) w:=by simp[execOp]
theorem Qe {x:Operand}:(execOp (ev f) ⟨d,.assign x,ty,ps,af,gd⟩).run P w=.ok (.value (ev f x)) w:=by simp[execOp]
theorem Qo {c a b:Operand}{t:Bool}(h:ev f c=.bool t):(execOp (ev f) ⟨d,.pick c a b,ty,ps,af,gd⟩).run P w=.ok (.value (bif t then ev f a else ev f b)) w:=by
 cases t <;> simp[execOp,h,asBool]
theorem Qj {x:Operand}{j:Nat}{vs:LV}{v:Value}(h:ev f x=.tuple vs.toArray) (hj:vs[j]?=some v):(execOp (ev f) ⟨d,.extract x j,ty,ps,af,gd⟩).run P w=.ok (.value v) w:=by
 simp[execOp,h,Instr.extract,hj]
theorem QcN {op:BinOp}{t:TypeId}{x y:Operand}{k k':IntKind}{a b:Int}:(eqGuard op t x y (.int k a) (.int k' b)).run P w=.ok () w:=by
 simp only[eqGuard];split <;> simp
theorem X4 {op:BinOp}{t E:Nat}{x y:Operand}{k k':IntKind}{a b:Int}{v:Value}(hx:ev f x=.int k a) (hy:ev f y=.int k' b)
  (h:(binOp op t (.int k a) (.int k' b)).run P w=.ok v w):(execOp (ev f) ⟨d,.binOp op t x y E,ty,ps,af,gd⟩).run P w=.ok (.value v) w:=by
 simp[execOp,hx,hy,QcN,h]
def inK (k:IntKind) (n:Int):Prop:=match k with
 | .i64=>-9223372036854775808≤n∧n≤9223372036854775807
 | .u8=>0≤n∧n≤255
 | .u16=>0≤n∧n≤65535
 | .u32=>0≤n∧n≤4294967295
 | .u64=>0≤n∧n≤18446744073709551615
 | .i32=>-2147483648≤n∧n≤2147483647
 | _=>False
theorem XC {k:IntKind}{n:Int}(h:inK k n):k.wrap n=n:=by
 cases k <;> simp only[inK] at h <;> simp only[IntKind.wrap,IntKind.bits,IntKind.signed] <;> first | exact h.elim | (simp;omega)
theorem JL {t E:Nat}{x y:Operand}{k:IntKind}{a b:Int}(hx:ev f x=.int k a) (hy:ev f y=.int k b) (h:inK k (a+b)) :
  (execOp (ev f) ⟨d,.binOp .add t x y E,ty,ps,af,gd⟩).run P w=.ok (.value (.int k (a+b))) w:=X4 hx hy (by simp[binOp,Op.intArith,XC h])
theorem J2 {t E:Nat}{x y:Operand}{k:IntKind}{a b:Int}(hx:ev f x=.int k a) (hy:ev f y=.int k b) (h:inK k (a - b)) :
  (execOp (ev f) ⟨d,.binOp .sub t x y E,ty,ps,af,gd⟩).run P w=.ok (.value (.int k (a - b))) w:=X4 hx hy (by simp[binOp,Op.intArith,XC h])
theorem Qpl {t E:Nat}{x y:Operand}{k:IntKind}{a b:Int}(hx:ev f x=.int k a) (hy:ev f y=.int k b) (h:inK k (a*b)) :
  (execOp (ev f) ⟨d,.binOp .mul t x y E,ty,ps,af,gd⟩).run P w=.ok (.value (.int k (a*b))) w:=X4 hx hy (by simp[binOp,Op.intArith,XC h])
theorem QA {t E:Nat}{x y:Operand}{k:IntKind}{a b:Int}(hx:ev f x=.int k a) (hy:ev f y=.int k b) :
  (execOp (ev f) ⟨d,.binOp .lss t x y E,ty,ps,af,gd⟩).run P w=.ok (.value (.bool (decide (a<b)))) w:=X4 hx hy (by simp[binOp,Op.intCmp])
theorem Kw {t E:Nat}{x y:Operand}{k:IntKind}{a b:Int}(hx:ev f x=.int k a) (hy:ev f y=.int k b) :
  (execOp (ev f) ⟨d,.binOp .leq t x y E,ty,ps,af,gd⟩).run P w=.ok (.value (.bool (decide (a≤b)))) w:=X4 hx hy (by simp[binOp,Op.intCmp])
theorem ZY {t E:Nat}{x y:Operand}{k:IntKind}{a b:Int}(hx:ev f x=.int k a) (hy:ev f y=.int k b) :
  (execOp (ev f) ⟨d,.binOp .gtr t x y E,ty,ps,af,gd⟩).run P w=.ok (.value (.bool (decide (b<a)))) w:=X4 hx hy (by simp[binOp,Op.intCmp])
theorem ZZ {t E:Nat}{x y:Operand}{k:IntKind}{a b:Int}(hx:ev f x=.int k a) (hy:ev f y=.int k b) :
  (execOp (ev f) ⟨d,.binOp .geq t x y E,ty,ps,af,gd⟩).run P w=.ok (.value (.bool (decide (b≤a)))) w:=X4 hx hy (by simp[binOp,Op.intCmp])
theorem Zr {t E:Nat}{x y:Operand}{k:IntKind}{a b:Int}(hx:ev f x=.int k a) (hy:ev f y=.int k b) :
  (execOp (ev f) ⟨d,.binOp .eql t x y E,ty,ps,af,gd⟩).run P w=.ok (.value (.bool (decide (a=b)))) w :=
 X4 hx hy (by simp[binOp,Op.intCmp];by_cases h:a=b <;> simp[h])
theorem Q8 {t E:Nat}{x y:Operand}{k:IntKind}{a b:Int}(hx:ev f x=.int k a) (hy:ev f y=.int k b) :
  (execOp (ev f) ⟨d,.binOp .neq t x y E,ty,ps,af,gd⟩).run P w=.ok (.value (.bool (decide (¬a=b)))) w :=
 X4 hx hy (by simp[binOp,Op.intCmp];by_cases h:a=b <;> simp[h])
theorem Zs {t:Nat}{x:Operand}{b:Bool}(hx:ev f x=.bool b):(execOp (ev f) ⟨d,.unOp .not t x,ty,ps,af,gd⟩).run P w=.ok (.value (.bool (!b))) w:=by
 simp[execOp,hx,Op.unary]
theorem Qie {x:Operand}{t e sz bys:Nat}{z:Value}[h:Sl P t e sz bys z] {a:Option Addr}{n c:Nat}(hx:ev f x=.slice a n c) :
  (execOp (ev f) ⟨d,.call ⟨.builtin .len,#[x],#[t]⟩,ty,ps,af,gd⟩).run P w=.ok (.value (.int .i64 n)) w:=by
 simp[execOp,resolve,invoke,builtin,Builtin.len_,hx,run_underlying h.u,goInt]
theorem Sl.info {t e sz bys:Nat}{z:Value}(h:Sl P t e sz bys z):∃i,P.info? e=some i∧i.zero=some z∧i.size=sz∧i.bytes=bys:=by
 have:=h.i;cases hi:P.info? e with
 | none=>simp[hi] at this
 | some i=>simp[hi] at this;exact ⟨i,Z,this.1,this.2.1,this.2.2⟩
theorem Jc {x y:Operand}{t e sz bys:Nat}{z:Value}[h:Sl P t e sz bys z] {a:Addr}{n c:Nat}{k:IntKind}{i:Int}(hx:ev f x=.slice (some a) n c) (hy:ev f y=.int k i) (E:0≤i) (h1:i<n) :
  (execOp (ev f) ⟨d,.indexAddr t x y,ty,ps,af,gd⟩).run P w=.ok (.value (.pointer (some (a.add (i.toNat*sz))))) w:=by
 obtain ⟨ii,hi,_,hs,_⟩:=Sl.info h;simp[execOp,hx,hy,Instr.indexAt,asIntOf,run_underlying h.u,E,h1,sizeOf,typeInfo,hi,hs]
theorem jR {t:Nat}[h:X7 P t]:(isAgg t).run P w=.ok false w:=by
 obtain ⟨d,hu,hd⟩:=h.u;unfold isAgg;cases d <;> simp at hd <;> simp[run_underlying hu]
theorem Qja {t sz:Nat}[h:Ag P t sz]:(isAgg t).run P w=.ok true w:=by
 obtain ⟨d,hu,hd⟩:=h.u;unfold isAgg;cases d <;> simp at hd <;> simp[run_underlying hu]
theorem Y6 {t:Nat}[h:X7 P t] {a:Addr}{v:Value}(hc:w.cell? a=some v):(loadVar t a).run P w=.ok v w:=by
 simp[loadVar,jR,hc]
theorem zq {t:Nat}[h:X7 P t]:(sizeOf t).run P w=.ok 1 w:=by
 have:=h.i;cases hi:P.info? t with
 | none=>simp[hi] at this
 | some i=>simp[hi] at this;simp[sizeOf,typeInfo,hi,this]
theorem UZ {t sz:Nat}[h:Ag P t sz]:(sizeOf t).run P w=.ok sz w:=by
 have:=h.i;cases hi:P.info? t with
 | none=>simp[hi] at this
 | some i=>simp[hi] at this;simp[sizeOf,typeInfo,hi,this]
theorem JJ {a:Addr}:∀(vs:LV) (i:Nat) (acc:Array Value),(∀j v,vs[j]?=some v→w.cell? (a.add (i+j))=some v)→(loadCellsFrom a i vs.length acc).run P w=.ok (acc++vs.toArray) w
 | [],_,acc,_=>by simp[loadCellsFrom]
 | v::vs,i,acc,h=>by
  have E:=h 0 v Z;have ih:=JJ vs (i+1) (acc.push v) (λj u hu=>by have:=h (j+1) u (by simpa using hu);simpa[Nat.add_assoc,Nat.add_comm 1 j] using this);simp only[Nat.add_zero] at E;simp[loadCellsFrom,E,ih]
theorem Qw {t sz:Nat}[h:Ag P t sz] {a:Addr}{vs:LV}(hl:vs.length=sz) (hc:∀j v,vs[j]?=some v→w.cell? (a.add j)=some v):(loadVar t a).run P w=.ok (.agg vs.toArray) w:=by
 have:=JJ (P:=P) (w:=w) (a:=a) vs 0 #[] (by simpa using hc);subst hl;simp[loadVar,Qja,UZ (sz:=vs.length),loadCells,this]
theorem Qic {t:Nat}[h:X7 P t] {x:Operand}{a:Addr}{v:Value}(hx:ev f x=.pointer (some a)) (hc:w.cell? a=some v) :
  (execOp (ev f) ⟨d,.load t x,ty,ps,af,gd⟩).run P w=.ok (.value v) w:=by
 simp[execOp,hx,Instr.loadAt,Instr.sureAddr,Y6 hc]
theorem qS {t sz:Nat}[h:Ag P t sz] {x:Operand}{a:Addr}{vs:LV}(hx:ev f x=.pointer (some a)) (hl:vs.length=sz) (hc:∀j v,vs[j]?=some v→w.cell? (a.add j)=some v) :
  (execOp (ev f) ⟨d,.load t x,ty,ps,af,gd⟩).run P w=.ok (.value (.agg vs.toArray)) w:=by
 simp[execOp,hx,Instr.loadAt,Instr.sureAddr,Qw hl hc]
theorem Zj {t j off:Nat}[h:Za P t j off] {x:Operand}{a:Addr}(hx:ev f x=.pointer (some a)) :
  (execOp (ev f) ⟨d,.fieldAddr t x j,ty,ps,af,gd⟩).run P w=.ok (.value (.pointer (some (a.add off)))) w:=by
 have E:=h.h;unfold QpG at E;cases hu:P.underlying t with
 | none=>simp[hu] at E
 | some dd =>
  cases dd <;> simp[hu] at E
  rename_i fs;cases H:fs[j]? with
  | none=>simp[H] at E
  | some fd =>
   cases hi:P.info? fd.type with
   | none=>simp[H,hi] at E
   | some i =>
    simp[H,hi] at E;simp[execOp,hx,Instr.fieldAt,run_underlying hu,H,Instr.sureAddr,fieldPlace,sizeOf,typeInfo,hi,E]
theorem QE {x:Operand}{a:Addr}(hx:ev f x=.pointer (some a)):(execOp (ev f) ⟨d,.nilCheck x,ty,ps,af,gd⟩).run P w=.ok (.value (.pointer (some a))) w:=by
 simp[execOp,hx]
theorem Zo {fn:Fn}{l l':List Operand}:(execOp (ev f) ⟨d,.makeFunc fn l.toArray l'.toArray,ty,ps,af,gd⟩).run P w=.ok (.value (.func fn (l.map (ev f)).toArray (l'.map (ev f)).toArray)) w:=by
 simp[execOp,Instr.makeFunc]
end
def QG (P:Program) (g:Nat) (args:LV) (w:World) (R:Value→World→Prop):Prop :=
 Calls P g args.toArray w λe w'=>match e with | .returned v=>R v w' | _=>False
theorem QG.mono {P:Program}{g:Nat}{args:LV}{w:World}{R R':Value→World→Prop}(h:QG P g args w R) (E:∀v w',R v w'→R' v w'):QG P g args w R' :=
 Calls.mono h λe w' he=>by cases e <;> first | exact E _ _ he | exact he
theorem xc {P:Program}{f:Fr}{w:World}{K:Fr→World→Prop}{d:Option Nat}{ty:Nat}{ps:String}{af:Array Edge}{gd:Option (Nat×Bool)}{x:Operand}{l:List Operand}{at_:Array Nat}
  {g:Nat} {fn:Func} {first capt:LV} [hF:Fu P g fn] (hx:ev f x=.func (.func g) first.toArray capt.toArray) (h:QG P g (first++l.map (ev f)++capt) w λv w'=>K (QV f d v) w') :
  XO P ⟨d,.call ⟨.value x,l.toArray,at_⟩,ty,ps,af,gd⟩ f w K:=by
 have E:(execOp (ev f) ⟨d,.call ⟨.value x,l.toArray,at_⟩,ty,ps,af,gd⟩).run P w=.ok (.enter g (first++l.map (ev f)++capt).toArray) w:=by
  have h1:¬fn.name = "runtime.NumGoroutine" := by simpa using hF.nm
  have h2:¬fn.body=none:=by have:=hF.b;intro e;rw[e] at this;cases this
  simp[execOp,resolve,hx,Deferred.ofValue,invoke,callFunc,hF.f,h1,h2]
 simp only[XO,E,upF];exact h
theorem xf {P:Program}{f:Fr}{w:World}{K:Fr→World→Prop}{d:Option Nat}{ty:Nat}{ps:String}{af:Array Edge}{gd:Option (Nat×Bool)}{l:List Operand}{at_:Array Nat}
  {g:Nat} {fn:Func} [hF:Fu P g fn] (h:QG P g (l.map (ev f)) w λv w'=>K (QV f d v) w') :
  XO P ⟨d,.call ⟨.value (.func g),l.toArray,at_⟩,ty,ps,af,gd⟩ f w K :=
 xc (first:=[]) (capt:=[]) (g:=g) (fn:=fn) Z (by simpa using h)
def ent:LV→Fr
 | [],_=>undef
 | v::_,0=>v
 | _::l,t+1=>ent l t
def UR (P:Program) (f:Fr) (w:World):List ResultVar→LV→Prop
 | [],[]=>True
 | .tmp t::rs,v::vs=>f t=v∧UR P f w rs vs
 | .cell a t::rs,v::vs=>(∃ad,f a=.pointer (some ad)∧(loadVar t ad).run P w=.ok v w)∧UR P f w rs vs
 | _,_=>False
def tup:LV→Value
 | [v]=>v
 | vs=>.tuple vs.toArray
def rq (P:Program) (rs:List ResultVar) (R:Value→World→Prop):Exit→Fr→World→Prop
 | .ret,f,w=>∃vs,UR P f w rs vs∧R (tup vs) w
 | .normal,f,w=>∃vs,UR P f w rs vs∧R (tup vs) w
 | _,_,_=>False
theorem JI {P:Program}{n:Nat}{a:Act}{f:Fr}{w:World}(H:Rel n a f) (g:ResultVar→Sem Value) (I:∀t,g (.tmp t)=pure (a.tmps.getD t undef))
  (J:∀ad t,g (.cell ad t)=(do loadVar t (←asAddr (a.tmps.getD ad undef)))):∀(rs:List ResultVar) (vs:LV),UR P f w rs vs→(rs.mapM g).run P w=.ok vs w
 | [],[],_=>by simp
 | [],_::_,h=>h.elim
 | .tmp t::rs,[],h=>h.elim
 | .cell _ _::rs,[],h=>h.elim
 | .tmp t::rs,v::vs,h=>by
  have ih:=JI H g I J rs vs h.2;have E:=H.get t;rw[h.1] at E;simp only[List.mapM_cons,Sem.run_bind,Sem.run_pure,Result.andThen_ok,ih,E,I]
 | .cell ad t::rs,v::vs,h=>by
  have ih:=JI H g I J rs vs h.2;obtain ⟨⟨U,h1,h2⟩,_⟩:=h;have E:=H.get ad;rw[h1] at E;have h5:(asAddr (.pointer (some U))).run P w=.ok U w:=rfl;simp only[List.mapM_cons,Sem.run_bind,J,E,h5,Sem.run_pure,Result.andThen_ok,h2,ih]
theorem QG.of_W {P:Program}{g:Nat}{fn:Func}{c:Code}{args:LV}{w:World}{R:Value→World→Prop}{n:Nat}{rs:List ResultVar}
  (H:P.funcs[g]?=some fn) (hb:fn.body=some c) (I:fn.ntmps=n) (J:fn.results=rs.toArray) (hl:args.length≤n)
  (h:W P n c (rq P rs R) (ent args) w):QG P g args w R:=by
 unfold W at h;refine calls_of_wp H hb (wp_mono (h _ ?_) ?_)
 ·refine ⟨by simp[I];omega,Z,λt=>?_⟩;have key:∀(l:LV) (t:Nat),l[t]?.getD undef=ent l t:=by
   intro l;induction l with
   | nil=>intro t;rfl
   | cons v l ih=>intro t;cases t with | zero=>rfl | succ t=>simpa[ent] using ih t
  rw[←key];simp only[Array.getD_eq_getD_getElem?,Array.getElem?_append,List.size_toArray,List.getElem?_toArray];by_cases ht:t<args.length
  ·simp[ht]
  simp[ht,Array.getElem?_replicate];split <;> rfl
 rintro e E w' ⟨U,h1,_,h3⟩;have fin:(∃vs,UR P U w' rs vs∧R (tup vs) w')→E.defers=[]∧∃v,(results fn E.tmps).run P w'=.ok v w'∧R v w':=by
  rintro ⟨vs,V,hR⟩;refine ⟨h1.defers,tup vs,?_,hR⟩;simp only[results,J,List.mapM_toArray,Sem.run_bind,Sem.run_map];rw[JI h1 _ (λ_=>rfl) (λ_ _=>rfl) rs vs V];cases vs with
  | nil=>rfl
  | cons v vs=>cases vs with | nil=>rfl | cons u us=>rfl
 cases e with
 | normal=>exact fin h3
 | ret=>exact fin h3
 | exit id=>exact h3.elim
 | goto l=>exact h3.elim
 | panic c=>exact h3.elim
 | outgrown=>exact h3.elim
attribute [irreducible] QG
theorem Zl {P:Program}{g:Nat}{fn:Func}(f:P.funcs[g]?=some fn) (b:fn.body.isNone=false:=by kernel_rfl) (nm:(fn.name == "runtime.NumGoroutine")=false:=by kernel_rfl):Fu P g fn:=⟨f,b,nm⟩
theorem Qc {P:Program}{n:Nat}{f:Fr}{w:World}{Q:Exit→Fr→World→Prop}{id:Nat}{l:List Oper}{y:Code}(h:XL P l (λf w=>thn (λf w=>W P n y Q f w) Q .normal f w) l f w) (E:Xs n l=true:=by rfl):W P n (.seq (.region id l.toArray false) y) Q f w:=Qg (Qdn E h)
theorem Qx {P:Program}{n:Nat}{f:Fr}{w:World}{Q:Exit→Fr→World→Prop}{id:Nat}{l:List Oper}(h:XL P l (λf w=>Q .normal f w) l f w) (E:Xs n l=true:=by rfl):W P n (.region id l.toArray false) Q f w:=Qdn E h
section
variable {P:Program} {ops:List Oper} {K:Fr→World→Prop} {f:Fr} {w:World} {d:Option Nat} {ty:Nat} {ps:String} {af:Array Edge} {gd:Option (Nat×Bool)} {l:List Oper} {y:Operand}
theorem Qb (h:XL P ops K l (QV f d (ev f y)) w) (E:Yi ops f ⟨d,.move y,ty,ps,af,gd⟩=true:=by rfl):XL P ops K (⟨d,.move y,ty,ps,af,gd⟩::l) f w:=x Qm h E
theorem QQ {t I:Nat}{E H:Operand}{k:IntKind}{a b:Int}(hx:ev f E=.int k a) (hy:ev f H=.int k b) (h:XL P ops K l (QV f d (.int k (a+b))) w) (hk:inK k (a+b):=by exact ⟨by omega,by omega⟩)
  (J:Yi ops f ⟨d,.binOp .add t E H I,ty,ps,af,gd⟩=true:=by rfl):XL P ops K (⟨d,.binOp .add t E H I,ty,ps,af,gd⟩::l) f w:=x (JL hx hy hk) h J
theorem Qf (h:K (QV f d (ev f y)) w) (E:Yi ops f ⟨d,.assign y,ty,ps,af,gd⟩=true:=by rfl):XL P ops K [⟨d,.assign y,ty,ps,af,gd⟩] f w:=x Qe (xe h) E
end
structure Step (L:LN) (w w':World):Prop where
 os:w'.os=w.os
 tape:w'.tape=w.tape
 output:w'.output=w.output
 size:w.heap.size≤w'.heap.size
 block:∀k,k<w.heap.size→k∉L→w'.heap[k]?=w.heap[k]?
theorem Step.refl (L:LN) (w:World):Step L w w:=⟨Z,Z,Z,Lv _,λ_ _ _=>Z⟩
theorem Step.drew (L:LN) (w:World):Step L w { w with drawn:=w.drawn+1 }:=⟨Z,Z,Z,Lv _,λ_ _ _=>Z⟩
theorem Step.mono {L L':LN}{w w':World}(h:Step L w w') (E:∀b∈L,b∈L'):Step L' w w' :=
 ⟨h.os,h.tape,h.output,h.size,λk hk H=>h.block k hk (λhm=>H (E k hm))⟩
theorem Step.any {L:LN}{w w':World}(h:Step [] w w'):Step L w w':=h.mono (λ_ hb=>by cases hb)
theorem Step.then {L L':LN}{E w w':World}(h:Step L E w) (k:Step L' w w') (I:∀b∈L',b∈L∨E.heap.size≤b):Step L E w' :=
 ⟨k.os.trans h.os,k.tape.trans h.tape,k.output.trans h.output,LT h.size k.size,λi hi H =>
  (k.block i (Mc hi h.size) (λhm=>by rcases I i hm with h1 | h1;exact H h1;omega)).trans (h.block i hi H)⟩
theorem Step.trans {L:LN}{E w w':World}(h:Step L E w) (k:Step [] w w'):Step L E w':=h.then k (λ_ hb=>by cases hb)
theorem Step.trans' {L:LN}{E w w':World}(h:Step L E w) (k:Step L w w'):Step L E w':=h.then k (λ_ hb=>.inl hb)
theorem Step.below {w w':World}(h:Step [] w w'):Below w.heap.size w w':=⟨h.os,h.tape,h.output,h.size,λk hk=>h.block k hk (by simp)⟩
theorem Step.of_below {w w':World}(h:Below w.heap.size w w'):Step [] w w':=⟨h.os,h.tape,h.output,h.size,λk hk _=>h.block k hk⟩
theorem Step.of_grown {w w':World}{row:Option Nat}(h:w.grownBy w' row):Step row.toList w w' :=
 ⟨h.os,h.tape,h.output,h.size,λk hk E=>h.block k hk (λe=>E (by simp[←e]))⟩
theorem Qex (w:World) (o:Obj) (k:Nat) (h:k<w.heap.size):(w.alloc o).heap[k]?=w.heap[k]?:=by
 show (w.heap.push o)[k]?=_;rw[Array.getElem?_push,if_neg (by omega)]
theorem Vg (w:World) (o:Obj):(w.alloc o).heap[w.heap.size]?=some o:=by
 show (w.heap.push o)[w.heap.size]?=_;simp
theorem Qbx (w:World) (o:Obj):(w.alloc o).heap.size=w.heap.size+1:=by show (w.heap.push o).size=_;simp
theorem Step.alloc (w:World) (o:Obj):Step [] w (w.alloc o):=⟨Z,Z,Z,by rw[Qbx];omega,λk hk _=>Qex w o k hk⟩
theorem Step.setRow (w:World) (g:Nat) (cs:Array Value):Step [g] w (w.setRow g cs) :=
 ⟨Z,Z,Z,by simp[World.setRow],λk _ E=>setRow_other w g k cs (λe=>E (by simp[e]))⟩
def cel (H:Array Obj) (a:Addr):Option Value:=match H[a.block]? with
 | some (.cells c _ _)=>if a.spot.isSome then none else c[a.off]?
 | _=>none
theorem Jm (w:World) (a:Addr):w.cell? a=cel w.heap a:=rfl
structure At (L:LN) (H:Array Obj) (a:Addr) (us:LV):Prop where
 out:∀u∈us,a.block∉L
 lt:∀u∈us,a.block<H.size
 cell:∀j u,us[j]?=some u→cel H (a.add j)=some u
theorem Ym (a:Addr) (j:Nat):(a.add j).block=a.block:=by unfold Addr.add;split <;> rfl
theorem Qj6 {L:LN}{w w':World}(h:Step L w w') {a:Addr}(E:a.block∉L) (hl:a.block<w.heap.size):cel w'.heap a=cel w.heap a:=by
 unfold cel;rw[h.block _ hl E]
theorem At.step {L X:LN}{w w':World}{a:Addr}{us:LV}(h:At L w.heap a us) (hs:Step X w w') (E:∀b∈X,b∈L):At L w'.heap a us :=
 ⟨h.out,λu hu=>Mc (h.lt u hu) hs.size,λj u hu=>by
  have hm:=Mr hu;rw[Qj6 (L:=X) hs (by rw[Ym];exact λhx=>h.out u hm (E _ hx)) (by rw[Ym];exact h.lt u hm)];exact h.cell j u hu⟩
theorem At.ext {L:LN}{w w':World}{a:Addr}{us:LV}(h:At L w.heap a us) (hs:Step [] w w'):At L w'.heap a us:=h.step hs (λ_ hb=>by cases hb)
theorem At.st {L:LN}{w w':World}{a:Addr}{us:LV}(h:At L w.heap a us) (hs:Step L w w'):At L w'.heap a us:=h.step hs (λ_ hb=>hb)
theorem At.one {L:LN}{w:World}{a:Addr}{u:Value}(h:At L w.heap a [u]):w.cell? a=some u:=by
 have:=h.cell 0 u Z;simp only[Addr.add,if_true] at this;exact this
theorem At.cells {L:LN}{w:World}{a:Addr}{us:LV}(h:At L w.heap a us):∀j v,us[j]?=some v→w.cell? (a.add j)=some v:=h.cell
theorem Addr.add_add (a:Addr) (i j:Nat):(a.add i).add j=a.add (i+j):=by
 unfold Addr.add;by_cases hi:i=0
 ·subst hi;simp
 by_cases hj:j=0
 ·subst hj;simp
 simp[hi,hj,Nat.add_assoc]
theorem At.fld {L:LN}{H:Array Obj}{a:Addr}{us:LV}(h:At L H a us) (j:Nat) (u:Value) (hu:us[j]?=some u):At L H (a.add j) [u] :=
 ⟨λ_ _=>by rw[Ym];exact h.out u (Mr hu),λ_ _=>by rw[Ym];exact h.lt u (Mr hu),λi v E=>by
  cases i with
  | zero=>simp at E;subst E;rw[Addr.add_add,M5];exact h.cell j u hu
  | succ i=>simp at E⟩
theorem At.up {L L':LN}{H:Array Obj}{a:Addr}{us:LV}(h:At L H a us) (E:∀b∈L',b∈L∨H.size≤b):At L' H a us :=
 ⟨λu hu hm=>by rcases E _ hm with h1 | h1;exact h.out u hu h1;have:=h.lt u hu;omega,h.lt,h.cell⟩
def ZA (L:LN) (H:Array Obj) (v:Value) (n sz:Nat) (cs:LV):Prop :=
 cs.length=n*sz∧n≤1099511627776∧((v=nS∧n=0)∨∃a cap,v=.slice (some a) n cap∧n≤cap∧At L H a cs)
theorem ZA.step {L X:LN}{w w':World}{v:Value}{n sz:Nat}{cs:LV}(h:ZA L w.heap v n sz cs) (hs:Step X w w') (E:∀b∈X,b∈L):ZA L w'.heap v n sz cs :=
 ⟨h.1,h.2.1,h.2.2.imp id λ⟨a,cap,h1,h2,h3⟩=>⟨a,cap,h1,h2,h3.step hs E⟩⟩
theorem ZA.ext {L:LN}{w w':World}{v:Value}{n sz:Nat}{cs:LV}(h:ZA L w.heap v n sz cs) (hs:Step [] w w'):ZA L w'.heap v n sz cs:=h.step hs (λ_ hb=>by cases hb)
theorem ZA.st {L:LN}{w w':World}{v:Value}{n sz:Nat}{cs:LV}(h:ZA L w.heap v n sz cs) (hs:Step L w w'):ZA L w'.heap v n sz cs:=h.step hs (λ_ hb=>hb)
theorem ZA.up {L L':LN}{H:Array Obj}{v:Value}{n sz:Nat}{cs:LV}(h:ZA L H v n sz cs) (E:∀b∈L',b∈L∨H.size≤b):ZA L' H v n sz cs :=
 ⟨h.1,h.2.1,h.2.2.imp id λ⟨a,cap,h1,h2,h3⟩=>⟨a,cap,h1,h2,h3.up E⟩⟩
theorem ZA.nil (L:LN) (H:Array Obj) (sz:Nat):ZA L H (nS) 0 sz []:=⟨by simp,by omega,.inl ⟨rfl,rfl⟩⟩
theorem ZA.shape {L:LN}{H:Array Obj}{v:Value}{n sz:Nat}{cs:LV}(h:ZA L H v n sz cs):∃a cap,v=.slice a n cap:=by
 rcases h.2.2 with ⟨h1,h2⟩ | ⟨a,cap,h1,_⟩
 ·exact ⟨none,0,by rw[h1,h2]⟩
 exact ⟨some a,cap,h1⟩
theorem ZA.one {L:LN}{H:Array Obj}{v:Value}{n sz:Nat}{cs:LV}(h:ZA L H v n sz cs):v.oneCell'=true:=by obtain ⟨a,cap,rfl⟩:=h.shape;rfl
theorem ZA.cells {L:LN}{H:Array Obj}{v:Value}{n sz:Nat}{cs:LV}(h:ZA L H v n sz cs):v.cells=[v].toArray:=by obtain ⟨a,cap,rfl⟩:=h.shape;rfl
theorem ZA.le {L:LN}{H:Array Obj}{v:Value}{n sz:Nat}{cs:LV}(h:ZA L H v n sz cs):n≤1099511627776:=h.2.1
theorem ZA.at {L:LN}{H:Array Obj}{v:Value}{n sz:Nat}{cs:LV}(h:ZA L H v n sz cs) {i:Nat}(hi:i<n) :
  ∃a cap,v=.slice (some a) n cap∧At L H (a.add (i*sz)) ((cs.drop (i*sz)).take sz):=by
 rcases h.2.2 with ⟨_,h2⟩ | ⟨a,cap,h1,_,h3⟩
 ·omega
 refine ⟨a,cap,h1,λu hu=>by rw[Ym];exact h3.out u (MO (L2 hu)),λu hu=>by rw[Ym];exact h3.lt u (MO (L2 hu)),λj u hu=>?_⟩;rw[Addr.add_add];refine h3.cell _ u ?_;rw[Mo] at hu;split at hu
 ·simpa using hu
 cases hu
abbrev QL (L:LN) (H:Array Obj) (v:Value) (l:LI):Prop:=ZA L H v l.length 1 (l.map (.int .i64))
theorem QL.at {L:LN}{H:Array Obj}{v:Value}{l:LI}(h:QL L H v l) {i:Nat}(hi:i<l.length) :
  ∃a cap,v=.slice (some a) l.length cap∧At L H (a.add (i*1)) [.int .i64 l[i]]:=by
 obtain ⟨a,cap,h1,h2⟩:=ZA.at h hi;refine ⟨a,cap,h1,?_⟩;have:((l.map (Value.int .i64)).drop (i*1)).take 1=[.int .i64 l[i]]:=by
  rw[Nat.mul_one,LQ (by simpa using hi)];simp
 rw[this] at h2;exact h2
def QT (H:Array Obj) (b T:Nat) (cs:LV):Prop:=H[b]?=some (.cells cs.toArray T (0,0))
theorem QT.lt {H:Array Obj}{b T:Nat}{cs:LV}(h:QT H b T cs):b<H.size:=(LK.1 h).1
theorem QT.step {X:LN}{w w':World}{b T:Nat}{cs:LV}(h:QT w.heap b T cs) (hs:Step X w w') (hb:b∉X):QT w'.heap b T cs:=by
 unfold QT;rw[hs.block b h.lt hb];exact h
theorem QT.ext {w w':World}{b T:Nat}{cs:LV}(h:QT w.heap b T cs) (hs:Step [] w w'):QT w'.heap b T cs:=h.step hs (by simp)
theorem QT.cell {H:Array Obj}{b T:Nat}{cs:LV}(h:QT H b T cs) (j:Nat):cel H ⟨b,j,none⟩=cs[j]?:=by
 unfold QT at h;simp[cel,h]
theorem Qfu (b j:Nat):(⟨b,0,none⟩:Addr).add j=⟨b,j,none⟩:=by unfold Addr.add;split <;> simp_all
theorem YM (b i j:Nat):(⟨b,i,none⟩:Addr).add j=⟨b,i+j,none⟩:=by unfold Addr.add;split <;> simp_all
theorem QT.at {L:LN}{H:Array Obj}{b T:Nat}{cs:LV}(h:QT H b T cs) (hb:b∉L):At L H ⟨b,0,none⟩ cs :=
 ⟨λ_ _=>hb,λ_ _=>h.lt,λj u hu=>by rw[Qfu,h.cell];exact hu⟩
theorem QT.arr {L:LN}{H:Array Obj}{b T:Nat}{cs:LV}(h:QT H b T cs) (hb:b∉L) {n cap sz:Nat}(hl:cs.length=n*sz) (E:n≤1099511627776) (hc:n≤cap) :
  ZA L H (.slice (some ⟨b,0,none⟩) n cap) n sz cs:=⟨hl,E,.inr ⟨_,_,Z,hc,h.at hb⟩⟩
def ob:Value→LN
 | .slice (some a) _ _=>[a.block]
 | _=>[]
theorem QdY (v:Value):ob v=v.ownBlock.toList:=by
 cases v <;> try rfl
 rename_i a _ _;cases a <;> rfl
theorem Qk {X:LN}{w w':World}{base e sz n:Nat}{v:Value}{cs:LV}(h:w.ownsRow base e sz v n cs) (hs:Step X w w') (E:∀b∈ob v,b∉X):w'.ownsRow base e sz v n cs:=by
 refine ⟨h.1,h.2.imp id λ⟨g,cap,cur,h1,h2,h3,h4⟩=>⟨g,cap,cur,h1,h2,?_,h4⟩⟩;rw[hs.block g (LK.1 h3).1 (E g (by rw[h1];simp[ob]))];exact h3
theorem Qt {w w':World}{base e sz n:Nat}{v:Value}{cs:LV}(h:w.ownsRow base e sz v n cs) (hs:Step [] w w'):w'.ownsRow base e sz v n cs:=Qk h hs (λ_ _=>by simp)
theorem Qq {w:World}{base e sz n:Nat}{v:Value}{cs:LV}(h:w.ownsRow base e sz v n cs):∀b∈ob v,base≤b∧b<w.heap.size:=by
 intro b hb;rcases h.2 with ⟨h1,_⟩ | ⟨g,cap,cur,h1,h2,h3,_⟩
 ·subst h1;simp[ob] at hb
 subst h1;simp[ob] at hb;subst hb;exact ⟨h2,(LK.1 h3).1⟩
theorem Zi {w:World}{base base' e sz n:Nat}{v:Value}{cs:LV}(h:w.ownsRow base e sz v n cs) (hb:base'≤base):w.ownsRow base' e sz v n cs :=
 ⟨h.1,h.2.imp id λ⟨g,cap,cur,h1,h2,h3⟩=>⟨g,cap,cur,h1,LT hb h2,h3⟩⟩
theorem QX {L:LN}{w:World}{base e sz n:Nat}{v:Value}{cs:LV}(h:w.ownsRow base e sz v n cs) (E:n≤1099511627776) (H:∀b∈ob v,b∉L):ZA L w.heap v n sz cs:=by
 refine ⟨h.1,E,?_⟩;rcases h.2 with h1 | ⟨g,cap,cur,h1,h2,h3,h4,h5,h6,I⟩
 ·exact .inl h1
 refine .inr ⟨_,_,h1,h4,λ_ _=>H g (by rw[h1];simp[ob]),λ_ _=>(LK.1 h3).1,λj u hu=>?_⟩;rw[Qfu];unfold cel;simp only[h3];rw[←I,Mo] at hu;split at hu
 ·simpa using hu
 cases hu
theorem QP (w:World) (base e sz:Nat):w.ownsRow base e sz (nS) 0 []:=World.ownsRow_nil w base e sz
theorem QT.own {w:World}{b T sz n:Nat}{cs:LV}(h:QT w.heap b T cs) (hl:cs.length=n*sz) (E:n≤1099511627776) {base:Nat}(hb:base≤b):w.ownsRow base T sz (.slice (some ⟨b,0,none⟩) n n) n cs :=
 ⟨hl,.inr ⟨b,n,cs.toArray,Z,hb,h,Lv _,by simp only[maxLen];omega,by simp[hl],by simp[←hl]⟩⟩
section
variable {P:Program} {ops:List Oper} {K:Fr→World→Prop} {f:Fr} {w:World} {d:Option Nat} {ty:Nat} {ps:String} {af:Array Edge} {gd:Option (Nat×Bool)} {l:List Oper}
theorem Qr {x:Operand}{t e sz' bys:Nat}{z:Value}[Sl P t e sz' bys z] {L:LN}{n sz:Nat}{cs:LV}{v:Value}{H:Array Obj}(h:ZA L H v n sz cs) (E:ev f x=v) :
  (execOp (ev f) ⟨d,.call ⟨.builtin .len,#[x],#[t]⟩,ty,ps,af,gd⟩).run P w=.ok (.value (.int .i64 n)) w:=by
 obtain ⟨a,cap,h1⟩:=h.shape;exact Qie (E.trans h1)
theorem xi {x y:Operand}{t e sz bys:Nat}{z:Value}[Sl P t e sz bys z] {L:LN}{n:Nat}{cs:LV}{v:Value}{k:IntKind}{i:Nat}
  (h:ZA L w.heap v n sz cs) (E:ev f x=v) (hy:ev f y=.int k i) (hi:i<n)
  (H:∀a,At L w.heap a ((cs.drop (i*sz)).take sz)→XL P ops K l (QV f d (.pointer (some a))) w) (I:Yi ops f ⟨d,.indexAddr t x y,ty,ps,af,gd⟩=true:=by rfl) :
  XL P ops K (⟨d,.indexAddr t x y,ty,ps,af,gd⟩::l) f w:=by
 obtain ⟨a,cap,h1,h2⟩:=h.at hi;refine xl I (xv (Jc (E.trans h1) hy (by omega) (by omega)) (H _ ?_));simpa using h2
theorem xii {x y:Operand}{t e bys:Nat}{z:Value}[Sl P t e 1 bys z] {L:LN}{li:LI}{v:Value}{k:IntKind}{i:Nat}
  (h:QL L w.heap v li) (E:ev f x=v) (hy:ev f y=.int k i) (hi:i<li.length)
  (H:∀a,At L w.heap a [.int .i64 li[i]]→XL P ops K l (QV f d (.pointer (some a))) w) (I:Yi ops f ⟨d,.indexAddr t x y,ty,ps,af,gd⟩=true:=by rfl) :
  XL P ops K (⟨d,.indexAddr t x y,ty,ps,af,gd⟩::l) f w:=by
 obtain ⟨a,cap,h1,h2⟩:=QL.at h hi;refine xl I (xv (Jc (E.trans h1) hy (by omega) (by omega)) (H _ ?_));simpa using h2
theorem Qv {t:Nat}[X7 P t] {x:Operand}{a:Addr}{L:LN}{u:Value}(h:At L w.heap a [u]) (hx:ev f x=.pointer (some a)) :
  (execOp (ev f) ⟨d,.load t x,ty,ps,af,gd⟩).run P w=.ok (.value u) w:=Qic hx h.one
theorem QJ {t sz:Nat}[Ag P t sz] {x:Operand}{a:Addr}{L:LN}{us:LV}(h:At L w.heap a us) (hx:ev f x=.pointer (some a)) (hl:us.length=sz) :
  (execOp (ev f) ⟨d,.load t x,ty,ps,af,gd⟩).run P w=.ok (.value (.agg us.toArray)) w:=qS hx hl h.cells
theorem Qd {t:Nat}[X7 P t] {x:Operand}{b T j:Nat}{cs:LV}{u:Value}(h:QT w.heap b T cs) (hx:ev f x=.pointer (some ⟨b,j,none⟩)) (hj:cs[j]?=some u) :
  (execOp (ev f) ⟨d,.load t x,ty,ps,af,gd⟩).run P w=.ok (.value u) w:=Qic hx (by rw[Jm,h.cell];exact hj)
theorem Qp {t sz:Nat}[Ag P t sz] {x:Operand}{b T:Nat}{cs:LV}(h:QT w.heap b T cs) (hx:ev f x=.pointer (some ⟨b,0,none⟩)) (hl:cs.length=sz) :
  (execOp (ev f) ⟨d,.load t x,ty,ps,af,gd⟩).run P w=.ok (.value (.agg cs.toArray)) w:=qS hx hl (h.at (L:=[]) (by simp)).cells
theorem Qa {t j off:Nat}[Za P t j off] {x:Operand}{b o:Nat}(hx:ev f x=.pointer (some ⟨b,o,none⟩)) :
  (execOp (ev f) ⟨d,.fieldAddr t x j,ty,ps,af,gd⟩).run P w=.ok (.value (.pointer (some ⟨b,o+off,none⟩))) w:=by
 rw[←YM];exact Zj hx
end
section
variable {P:Program} {K:Fr→World→Prop} {f:Fr} {w:World} {d:Option Nat} {ty:Nat} {ps:String} {af:Array Edge} {gd:Option (Nat×Bool)}
theorem QR {t:Nat}{x:Operand}{us:LV}(hx:(ev f x).cells=us.toArray)
  (E:∀b w',Step [] w w'→w.heap.size≤b→QT w'.heap b t us→K (QV f d (.pointer (some ⟨b,0,none⟩))) w'):XO P ⟨d,.box t x,ty,ps,af,gd⟩ f w K:=by
 have H:(execOp (ev f) ⟨d,.box t x,ty,ps,af,gd⟩).run P w=.ok (.value (.pointer (some ⟨w.heap.size,0,none⟩))) (w.alloc (.cells us.toArray t)):=by
  simp[execOp,Instr.box,newVar,newRow,hx]
 exact xv H (E _ _ (Step.alloc w _) (Lv _) (Vg w _))
theorem Qu {t:Nat}{z:Value}[h:Ze P t z] {us:LV}(E:z.cells=us.toArray)
  (H:∀b w',Step [] w w'→w.heap.size≤b→QT w'.heap b t us→K (QV f d (.pointer (some ⟨b,0,none⟩))) w'):XO P ⟨d,.alloc t,ty,ps,af,gd⟩ f w K:=by
 have I:(execOp (ev f) ⟨d,.alloc t,ty,ps,af,gd⟩).run P w=.ok (.value (.pointer (some ⟨w.heap.size,0,none⟩))) (w.alloc (.cells us.toArray t)):=by
  have hi:=h.i;cases hq:P.info? t with
  | none=>simp[hq] at hi
  | some i =>
   simp[hq] at hi;simp[execOp,Instr.alloc,newVar,newRow,zeroValue,typeInfo,hq,hi,E]
 exact xv I (H _ _ (Step.alloc w _) (Lv _) (Vg w _))
def QbH (sz:Nat):LV→List (LV)→Prop
 | [],[]=>True
 | v::vs,u::us=>v.cells=u.toArray∧u.length=sz∧QbH sz vs us
 | _,_=>False
theorem yk {sz:Nat}:∀(vs:LV) (us:List (LV)) (E:Nat) (pre rest:LV),QbH sz vs us→pre.length=E*sz→rest.length=vs.length*sz →
  Instr.fill (λi=>some (i*sz,sz)) (pre++rest).toArray ((vs.zipIdx E).map λx=>(x.2,x.1))=some (pre++us.flatten).toArray
 | [],[],E,pre,rest,_,_,H=>by
  have:rest=[]:=Lt (by simpa using H);subst this;simp[Instr.fill]
 | [],_::_,_,_,_,h,_,_=>h.elim
 | _::_,[],_,_,_,h,_,_=>h.elim
 | v::vs,u::us,E,pre,rest,h,hp,H=>by
  obtain ⟨h1,h2,h3⟩:=h;have V:sz≤rest.length:=by rw[H];simp[Nat.add_mul]
  have ih:=yk vs us (E+1) (pre++u) (rest.drop sz) h3 (by simp[hp,h2,Nat.add_mul]) (by simp only[List.length_drop,H,List.length_cons,Nat.add_mul,Nat.one_mul];omega);simp only[List.zipIdx_cons,List.map_cons];unfold Instr.fill;have I:v.cells.size=sz:=by rw[h1];simp[h2]
  simp only[I];rw[if_neg (by simp;omega)];have key:v.cells.zipIdx.foldl (λcs (x:Value×Nat)=>cs.setIfInBounds (E*sz+x.2) x.1) (pre++rest).toArray=(pre++u++rest.drop sz).toArray:=by
   rw[←Array.foldl_toList,Array.toList_zipIdx,h1];obtain ⟨Y,J⟩:=Great.foldl_set (E*sz) u 0 (pre++rest).toArray;apply Array.ext';apply List.ext_getElem?;intro k;have U:=J k;simp only[Array.getElem?_toList];rw[U];simp only[Nat.add_zero,List.size_toArray,List.length_append,List.getElem?_toArray];split
   ·rename_i hc;rw[LC,Mw (by omega),L9 (by omega),←hp]
   rename_i hc;by_cases hk:k<pre.length
   ·rw[LC,L9 hk,L9 hk]
   rw[LC,Mw (by omega),Mw (by omega)];by_cases ha:k<pre.length+sz
   ·exfalso;apply hc;omega
   rw[Mw (by omega),M2];congr 1;omega
  have hb:=ih;rw[LC pre u] at key;rw[show (v.cells.zipIdx.foldl (λcs (x:Value×Nat)=>cs.setIfInBounds (E*sz+x.2) x.1) (pre++rest).toArray)=(pre++u++rest.drop sz).toArray by rw[key,LC]];rw[ih];simp
theorem jn (f:Fr):∀(ps:List (Nat×Operand)) (i:Nat),ps.map (·.1)=List.range' i ps.length→(ps.map λx=>(x.1,ev f x.2))=((ps.map λx=>ev f x.2).zipIdx i).map λx=>(x.2,x.1)
 | [],_,_=>rfl
 | p::ps,i,h=>by
  simp only[List.map_cons,List.length_cons,List.range'_succ,List.cons.injEq] at h;simp only[List.map_cons,List.zipIdx_cons];rw[jn f ps (i+1) h.2,h.1]
theorem QH {t e sz bys:Nat}{z:Value}[h:Sl P t e sz bys z] {n:Nat}{parts:List (Nat×Operand)}{us:List (LV)}(hp:parts.map (·.1)=List.range' 0 n) (H:parts.length=n) (I:0<n) (hs:n*sz≤1000000)
  (hc:QbH sz (parts.map λx=>ev f x.2) us)
  (J:∀b w',Step [] w w'→w.heap.size≤b→QT w'.heap b e us.flatten→K (QV f d (.slice (some ⟨b,0,none⟩) n n)) w'):XO P ⟨d,.buildSlice t n parts.toArray,ty,ps,af,gd⟩ f w K:=by
 obtain ⟨ie,U,V,E,_⟩:=Sl.info h;subst H;have Y:=h.pos;have hm:0<parts.length*sz:=Nat.mul_pos I Y;have ha:Instr.fill (λi=>some (i*ie.size,ie.size)) ((Array.range (parts.length*ie.size)).map (z.cells[· % z.cells.size]!)) (parts.toArray.map λ(i,x)=>(i,ev f x)).toList=some us.flatten.toArray:=by
  rw[E];have:=yk (parts.map λx=>ev f x.2) us 0 [] ((Array.range (parts.length*sz)).map (z.cells[· % z.cells.size]!)).toList hc (by simp) (by simp);simp only[List.nil_append,Array.toArray_toList] at this;rw[←this,←jn f parts 0 hp];simp
 have hr:(execOp (ev f) ⟨d,.buildSlice t parts.length parts.toArray,ty,ps,af,gd⟩).run P w=.ok (.value (.slice (some ⟨w.heap.size,0,none⟩) parts.length parts.length)) (w.alloc (.cells us.flatten.toArray e)):=by
  have:=run_buildSlice (P:=P) w t e parts.length (parts.toArray.map λ(i,x)=>(i,ev f x)) us.flatten.toArray ie z h.u U V (by rw[E];omega) (by rw[E];omega) ha;simp only[execOp,Sem.run_bind,this,Result.andThen_ok,Sem.run_pure]
 exact xv hr (J _ _ (Step.alloc w _) (Lv _) (Vg w _))
theorem ja {base t ty e:Nat}{sz bys:Nat}{z:Value}[h:Sl P t e sz bys z] {v:Value}{n:Nat}{cs:LV}(E:w.ownsRow base e sz v n cs)
  {a:Addr} {m c:Nat} {news:LV} (hl:news.length=m*sz) (U:∀j u,news[j]?=some u→w.cell? (a.add j)=some u) (h1:∀u∈news,u.oneCell'=true)
  (hb:n+m≤1099511627776) (hs:bys≤128) (he:base≤w.heap.size) :
  ∃v' w',(Builtin.append_ #[t,t] ty #[v,.slice (some a) m c]).run P w=.ok v' w'∧w'.ownsRow base e sz v' (n+m) (cs++news)∧Step (ob v) w w'∧(∀b∈ob v',b∈ob v∨w.heap.size≤b):=by
 obtain ⟨i,hi,Y,J,ha⟩:=Sl.info h;have hc:(n+m)*bys≤140737488355328:=LT (Nat.mul_le_mul hb hs) (by omega);have hf:n+m≤maxLen:=by simp only[maxLen];omega
 by_cases hg:∃g cap cur,v=.slice (some ⟨g,0,none⟩) n cap∧w.heap[g]?=some (.cells cur e (0,0))∧n+m≤cap
 ·obtain ⟨v',w',H,ho,ht,_⟩:=run_append_own (P:=P) w base t ty e i z sz bys h.u hi Y J ha h.zs h.pos v n cs E a m c news hl U h1 hf hc he;refine ⟨v',w',H,ho,by rw[QdY];exact Step.of_grown ht,?_⟩;obtain ⟨g,cap,cur,rfl,hh,hroom⟩:=hg;rcases E.2 with ⟨h2,_⟩ | ⟨g2,cap2,hj,h2,h3,h4,h5,h6,h7,h8⟩
  ·cases h2
  cases h2
  have hu:n*i.size+news.length≤hj.size:=by rw[hl,h7,J,←MB];exact MW _ hroom
  have hv:=run_append_room (P:=P) w t ty e i h.u hi g n cap hj h4 a m c news (by rw[J];exact hl) U h1 hroom hu;rw[hv] at H;cases H
  intro b hb';exact .inl hb'
 have new:∀(old:Nat),old<n+m→∀I,I=(Obj.cells (cs.toArray++news.toArray++Builtin.zeroCells z.cells (grownCap w (n+m) old e - (n+m))) e) →
   (w.drew.alloc I).ownsRow base e sz (.slice (some ⟨w.heap.size,0,none⟩) (n+m) (grownCap w (n+m) old e)) (n+m) (cs++news):=by
  intro old ho I hw;subst hw;have hge:=grownCap_ge w (n+m) old e;have hp:grownCap w (n+m) old e≤maxLen:=grownCap_le_maxLen w (n+m) old e hf;have hq:(cs++news).length=(n+m)*sz:=by rw[Ll,E.1,hl,MB]
  refine ⟨hq,.inr ⟨w.heap.size,_,_,Z,he,Vg w.drew _,hge,hp,?_,?_⟩⟩
  ·simp only[Array.size_append,List.size_toArray,size_zeroCells,h.zs,E.1,hl,←Nat.add_mul];congr 1;omega
  simp only[Array.toList_append,List.append_assoc];rw[←LC,←hq];exact List.take_left
 have stp:∀I,Step (ob v) w (w.drew.alloc I):=λI=>⟨Z,Z,Z,by rw[Qbx];exact Nat.le_succ _,λk hk _=>Qex w.drew I k hk⟩;have fin:∀(b:Nat),b∈ob (.slice (some ⟨w.heap.size,0,none⟩) (n+m) 0)→b∈ob v∨w.heap.size≤b:=λb hb'=>by simp[ob] at hb';omega
 rcases E.2 with ⟨rfl,rfl⟩ | ⟨g,cap,cur,rfl,hA,hh,hB,hp,hC,hD⟩
 ·have hx:cs=[]:=Lt (by simpa using E.1);subst hx;by_cases hm:m=0
  ·subst hm;have V:news=[]:=Lt (by simpa using hl);subst V;refine ⟨nS,w,?_,QP _ _ _ _,Step.refl _ _,λb hb'=>by simp[ob] at hb'⟩;simp[Builtin.append_,run_underlying h.u,sizeOf,typeInfo,hi,Builtin.lenOf,Builtin.firstCells,loadCells,loadCellsFrom]
  have H:=run_append_nil (P:=P) w t ty e i z h.u hi Y a m c news (by rw[J];exact hl) U (by omega) (by omega) (by rw[ha];have hy:=hc;simp only[Nat.zero_add] at hy;omega);have V:=new 0 (by omega) _ Z;simp only[Nat.zero_add,List.nil_append,Array.empty_append] at V ⊢;exact ⟨_,_,H,V,stp _,λb hb'=>fin b hb'⟩
 have hroom:cap<n+m:=by
  rcases Nat.lt_or_ge cap (n+m) with h0 | hge
  ·exact h0
  exact absurd ⟨g,cap,cur,Z,hh,hge⟩ hg
 have h9:∀j u,cs[j]?=some u→w.cell? ((⟨g,0,none⟩:Addr).add j)=some u:=E.cells (g:=g) Z;have H:=run_append_grow (P:=P) w t ty e i z h.u hi Y ⟨g,0,none⟩ n cap cs (by rw[J];exact E.1) h9 a m c news (by rw[J];exact hl) U hroom (by omega) (growslice_fits hroom (by rw[ha];exact hc));exact ⟨_,_,H,new cap hroom _ Z,stp _,λb hb'=>fin b hb'⟩
theorem Q6 {t e sz bys:Nat}{z:Value}[h:Sl P t e sz bys z] {s y:Operand}{base:Nat}{v:Value}{n:Nat}{cs:LV}(E:w.ownsRow base e sz v n cs) (hs:ev f s=v)
  {a:Addr} {m c:Nat} {news:LV} (hy:ev f y=.slice (some a) m c) (hl:news.length=m*sz) {L:LN} (H:At L w.heap a news) (h1:∀u∈news,u.oneCell'=true)
  (hb:n+m≤1099511627776) (I:base≤w.heap.size)
  (J:∀v' w',w'.ownsRow base e sz v' (n+m) (cs++news)→Step (ob v) w w'→(∀b∈ob v',b∈ob v∨w.heap.size≤b)→K (QV f d v') w') (U:bys≤128:=by decide) :
  XO P ⟨d,.call ⟨.builtin .append,#[s,y],#[t,t]⟩,ty,ps,af,gd⟩ f w K:=by
 obtain ⟨v',w',V,h2,h3,h4⟩:=ja (P:=P) (t:=t) (ty:=ty) E hl H.cells h1 hb U I (c:=c);have Y:(execOp (ev f) ⟨d,.call ⟨.builtin .append,#[s,y],#[t,t]⟩,ty,ps,af,gd⟩).run P w=.ok (.value v') w':=by
  simp[execOp,resolve,invoke,builtin,hs,hy,V]
 exact xv Y (J v' w' h2 h3 h4)
end
def QoF (P:Program) (t:Nat):Option (LV×LN):=match P.info? t,P.underlying t with
 | some it,some (.struct fs)=>match it.zero,fs.toList.mapM (λf=>(P.info? f.type).bind λi=>if i.size=1 then some f.offset else none) with
  | some (.agg zs),some offs=>some (zs.toList,offs)
  | _,_=>none
 | some it,some (.array n e)=>match it.zero,P.info? e with
  | some (.agg zs),some ie=>if ie.size=1 then some (zs.toList,List.range n) else none
  | _,_=>none
 | _,_=>none
class Bs (P:Program) (t:Nat) (zs:outParam (LV)) (offs:outParam (LN)):Prop where
 h:QoF P t=some (zs,offs)
 b:offs.all (·<zs.length)=true
def bld (offs:LN) (zs:LV):List (Nat×Value)→LV
 | []=>zs
 | (j,v)::ps=>bld offs (zs.set (offs.getD j 0) v) ps
def QmP:LV→Prop
 | []=>True
 | v::vs=>v.cells=[v].toArray∧QmP vs
theorem yj {place:Nat→Option (Nat×Nat)}{offs:LN}(hp:∀j,j<offs.length→place j=some (offs.getD j 0,1)):∀(ps:List (Nat×Value)) (zs:LV),QmP (ps.map (·.2))→ps.all (λp=>p.1<offs.length)=true →
  (∀o∈offs,o<zs.length)→Instr.fill place zs.toArray ps=some (bld offs zs ps).toArray
 | [],zs,_,_,_=>rfl
 | (j,v)::ps,zs,h1,h2,h3=>by
  simp only[List.all_cons,Bool.and_eq_true,decide_eq_true_eq] at h2;have hj:=hp j h2.1;have H:offs.getD j 0<zs.length:=h3 _ (by simp[List.getD,List.getElem?_eq_getElem h2.1]);unfold Instr.fill;simp only[hj];have hc:v.cells=#[v]:=h1.1;simp only[hc]
  rw[if_neg (by rw[show (#[v]:Array Value).size=1 from rfl,MM];simp only[ne_eq,not_true,decide_false,Bool.false_or,decide_eq_true_eq];omega)];have:(#[v]:Array Value).zipIdx.foldl (λcs (x:Value×Nat)=>cs.setIfInBounds (offs.getD j 0+x.2) x.1) zs.toArray=(zs.set (offs.getD j 0) v).toArray:=by
   simp[Array.zipIdx]
  rw[this];exact yj hp ps _ h1.2 h2.2 (λo E=>by rw[MS];exact h3 o E)
theorem Qew {P:Program}{t:Nat}{zs:LV}{offs:LN}(h:QoF P t=some (zs,offs)) (hb:offs.all (·<zs.length)=true) (ps:List (Nat×Value)) (h1:QmP (ps.map (·.2))) (h2:ps.all (λp=>p.1<offs.length)=true) :
  P.built t ps=some (bld offs zs ps).toArray:=by
 have h3:∀o∈offs,o<zs.length:=λo J=>by simpa using LZ.1 hb o J
 unfold QoF at h;unfold Program.built;cases hi:P.info? t with
 | none=>simp[hi] at h
 | some it =>
  cases hu:P.underlying t with
  | none=>simp[hi,hu] at h
  | some dd =>
   simp only[hi,hu] at h;cases dd <;> simp only[] at h <;> try (cases h)
   case struct fs =>
    cases E:it.zero with
    | none=>simp[E] at h
    | some z =>
     cases z <;> simp only[E] at h <;> try (cases h)
     rename_i za;cases hm:fs.toList.mapM (λf=>(P.info? f.type).bind λi=>if i.size=1 then some f.offset else none) with
     | none=>simp[hm] at h
     | some offs' =>
      simp only[hm,Option.some.injEq,Prod.mk.injEq] at h;obtain ⟨rfl,rfl⟩:=h;have key:∀(l:List Field) (offs:LN),l.mapM (λf=>(P.info? f.type).bind λi=>if i.size=1 then some f.offset else none)=some offs →
        l.mapM (λf=>(P.info? f.type).map λi=>(f.offset,i.size))=some (offs.map λo=>(o,1)):=by
       intro l;induction l with
       | nil=>intro offs h;simp at h;subst h;rfl
       | cons f l ih =>
        intro offs h;simp only[List.mapM_cons] at h ⊢;cases H:P.info? f.type with
        | none=>simp[H] at h
        | some i =>
         by_cases hs:i.size=1
         ·simp only[H,Option.bind_some,hs,if_true,Option.bind_eq_bind] at h;cases hl:l.mapM (λf=>(P.info? f.type).bind λi=>if i.size=1 then some f.offset else none) with
          | none=>simp[hl] at h
          | some os =>
           simp[hl] at h;subst h;simp[ih os hl,hs]
         simp[H,hs] at h
      have U:=key _ _ hm;simp only[E,U,Value.cells];rw[←yj (place:=λj=>((offs'.map λo=>(o,1)).toArray)[j]?) (λj hj=>by simp[List.getElem?_eq_getElem hj,List.getD]) ps za.toList h1 h2 h3]
   case array n e =>
    cases E:it.zero with
    | none=>simp[E] at h
    | some z =>
     cases z <;> simp only[E] at h <;> try (cases h)
     rename_i za;cases I:P.info? e with
     | none=>simp[I] at h
     | some ie =>
      simp only[I] at h;split at h
      ·rename_i hs;simp only[Option.some.injEq,Prod.mk.injEq] at h;obtain ⟨rfl,rfl⟩:=h;simp only[E,I,Value.cells];rw[←yj (place:=λi=>some (i*ie.size,ie.size)) (λj hj=>by simp at hj;simp[hs,List.getD,hj]) ps za.toList h1 h2 h3]
      cases h
theorem QN {P:Program}{f:Fr}{w:World}{d:Option Nat}{ty:Nat}{ps:String}{af:Array Edge}{gd:Option (Nat×Bool)}{t:Nat}{zs:LV}{offs:LN}[h:Bs P t zs offs] {parts:List (Nat×Operand)}
  (h1:QmP (parts.map λx=>ev f x.2)) (h2:parts.all (λp=>p.1<offs.length)=true:=by rfl) :
  (execOp (ev f) ⟨d,.build t parts.toArray,ty,ps,af,gd⟩).run P w=.ok (.value (.agg (bld offs zs (parts.map λx=>(x.1,ev f x.2))).toArray)) w:=by
 have hb:=Qew h.h h.b (parts.map λx=>(x.1,ev f x.2)) (by rw[Mf];exact h1) (by rw[List.all_map];exact h2);have E:=run_build (P:=P) w t (parts.toArray.map λ(i,x)=>(i,ev f x)) _ (by simpa using hb);simp only[execOp,Sem.run_bind,E,Result.andThen_ok,Sem.run_pure]
section
variable {κ:Type} [DecidableEq κ]
def mget:List (κ×Value)→κ→Option Value
 | [],_=>none
 | (k',v)::m,k=>if k'=k then some v else mget m k
def mput:List (κ×Value)→κ→Value→List (κ×Value)
 | [],k,v=>[(k,v)]
 | (k',v')::m,k,v=>if k'=k then (k',v)::m else (k',v')::mput m k v
theorem J6 (m:List (κ×Value)) (k k':κ) (v:Value):mget (mput m k v) k'=if k=k' then some v else mget m k':=by
 induction m with
 | nil=>simp[mget,mput]
 | cons p m ih =>
  obtain ⟨q,u⟩:=p;simp only[mput];by_cases h:q=k
  ·subst h;simp[mget];by_cases h2:q=k' <;> simp[h2]
  simp only[h,if_false,mget,ih];by_cases h2:q=k'
  ·subst h2;simp[Ne.symm h]
  simp[h2]
def fnd (k:κ):List κ→List MapEntry→Nat→Option (Nat×Value)
 | q::ks,e::es,i=>if k=q then some (i,e.val) else fnd k ks es (i+1)
 | _,_,_=>none
end
class Key (P:Program) (kt:Nat) {κ:Type} [DecidableEq κ] (enc:κ→Value):Prop where
 check:∀(w:World) (em:Bool) (k:κ),(Instr.checkKey em 10000 kt (enc k)).run P w=.ok () w
 find:∀(w:World) (k:κ) (ks:List κ) (es:List MapEntry),es.map (·.key)=ks.map enc→(Instr.findKey kt (enc k) es).run P w=.ok (fnd k ks es 0) w
 same:∀k,Instr.sameBits 10000 (enc k) (enc k)=true
abbrev JV (n:Int):Value:=.int .i64 n
abbrev Z4 (p:Int×Int):Value:=.agg #[.int .i64 p.1,.int .i64 p.2]
abbrev Js (s:ByteArray):Value:=.string s
theorem QlM {P:Program}{kt:Nat}(hu:P.underlying kt=some (.int .i64)):Key P kt JV:=by
 refine ⟨λw em k=>?_,λw k ks es h=>?_,λk=>by simp[Instr.sameBits]⟩
 ·have hck:∀n,(Instr.checkKey em (n+1) kt (JV k)).run P w=.ok () w:=λn=>by simp[Instr.checkKey,run_underlying hu]
  exact hck 9999
 have key:∀(ks:LI) (es:List MapEntry) (i:Nat),es.map (·.key)=ks.map JV→Instr.findNow (.int .i64) (JV k) es i=some (fnd k ks es i):=by
  intro ks;induction ks with
  | nil=>intro es i h;simp at h;subst h;rfl
  | cons q ks ih =>
   intro es i h;cases es with
   | nil=>simp at h
   | cons e es =>
    simp only[List.map_cons,List.cons.injEq] at h;have E:=ih es (i+1) h.2;simp only[Instr.findNow,h.1,Instr.sameNow,JV,if_true,fnd];by_cases hq:k=q
    ·subst hq;simp
    have:(k == q)=false:=by simpa using hq
    simp[hq,this,E]
 simp[Instr.findKey,run_underlying hu,key ks es 0 h]
theorem QlL {P:Program}{kt:Nat}(hu:P.underlying kt=some .string):Key P kt Js:=by
 refine ⟨λw em k=>?_,λw k ks es h=>?_,λk=>by simp[Instr.sameBits,(MapKept.bytes_beq k k).2 rfl]⟩
 ·have hck:∀n,(Instr.checkKey em (n+1) kt (Js k)).run P w=.ok () w:=λn=>by simp[Instr.checkKey,run_underlying hu]
  exact hck 9999
 have key:∀(ks:List ByteArray) (es:List MapEntry) (i:Nat),es.map (·.key)=ks.map Js→Instr.findNow .string (Js k) es i=some (fnd k ks es i):=by
  intro ks;induction ks with
  | nil=>intro es i h;simp at h;subst h;rfl
  | cons q ks ih =>
   intro es i h;cases es with
   | nil=>simp at h
   | cons e es =>
    simp only[List.map_cons,List.cons.injEq] at h;have E:=ih es (i+1) h.2;simp only[Instr.findNow,h.1,Instr.sameNow,Js,fnd];by_cases hq:k=q
    ·subst hq;simp[(MapKept.bytes_beq k k).2 rfl]
    have:(k == q)=false:=by
     cases hb:(k == q) with
     | false=>rfl
     | true=>exact absurd ((MapKept.bytes_beq k q).1 hb) hq
    simp[hq,this,E]
 simp[Instr.findKey,run_underlying hu,key ks es 0 h]
theorem zw {P:Program}{kt e:Nat}(hu:P.underlying kt=some (.array 2 e)) (he:P.underlying e=some (.int .i64)) (hs:(P.info? e).map (·.size)=some 1) (w:World) (p q:Int×Int) :
  (Op.equal kt (Z4 p) (Z4 q)).run P w=.ok (decide (p=q)) w:=by
 obtain ⟨a,b⟩:=p;obtain ⟨c,d⟩:=q;cases hi:P.info? e with
 | none=>simp[hi] at hs
 | some ie =>
  simp[hi] at hs;have H:∀w,(isAgg e).run P w=.ok false w:=λw=>by simp[isAgg,run_underlying he]
  have hp:∀(x y:Int) (w:World),(part e #[.int .i64 x,.int .i64 y] 0).run P w=.ok (.int .i64 x) w:=λx y w=>by simp[part,H]
  have I:∀(x y:Int) (w:World),(part e #[.int .i64 x,.int .i64 y] 1).run P w=.ok (.int .i64 y) w:=λx y w=>by simp[part,H]
  have E:∀(m:Nat) (x y:Int) (w:World),(Op.equalIn (m+1) e (.int .i64 x) (.int .i64 y)).run P w=.ok (x == y) w:=λm x y w=>by simp[Op.equalIn,run_underlying he]
  simp only[Op.equal,Op.maxDepth,Z4];unfold Op.equalIn;simp only[Sem.run_bind,run_underlying hu,Result.andThen_ok,sizeOf,typeInfo,run_program,hi,Sem.run_pure,hs];simp only[Std.Legacy.Range.forIn_eq_forIn_range',Std.Legacy.Range.size,Nat.sub_zero,Nat.add_sub_cancel,Nat.div_one,List.range'_succ,List.range'_zero,List.forIn_cons,List.forIn_nil,Nat.zero_mul,Nat.one_mul,Nat.zero_add];by_cases h1:a=c
  ·subst h1;by_cases h2:b=d
   ·subst h2;simp[hp,I,E]
   simp[hp,I,E,h2]
  simp[hp,E,h1]
theorem Qcx {P:Program}{kt e:Nat}(hu:P.underlying kt=some (.array 2 e)) (he:P.underlying e=some (.int .i64)) (hs:(P.info? e).map (·.size)=some 1):Key P kt Z4:=by
 refine ⟨λw em k=>?_,λw k ks es h=>?_,λk=>?_⟩
 ·obtain ⟨a,b⟩:=k;cases hi:P.info? e with
  | none=>simp[hi] at hs
  | some ie =>
   simp[hi] at hs;have E:∀w,(isAgg e).run P w=.ok false w:=λw=>by simp[isAgg,run_underlying he]
   have hp:∀(x y:Int) (w:World),(part e #[.int .i64 x,.int .i64 y] 0).run P w=.ok (.int .i64 x) w:=λx y w=>by simp[part,E]
   have H:∀(x y:Int) (w:World),(part e #[.int .i64 x,.int .i64 y] 1).run P w=.ok (.int .i64 y) w:=λx y w=>by simp[part,E]
   have hck:∀(m:Nat) (x:Int) (w:World),(Instr.checkKey em (m+1) e (.int .i64 x)).run P w=.ok () w:=λm x w=>by simp[Instr.checkKey,run_underlying he]
   simp only[Z4];unfold Instr.checkKey;simp only[Sem.run_bind,run_underlying hu,Result.andThen_ok,sizeOf,typeInfo];simp[Std.Legacy.Range.forIn_eq_forIn_range',Std.Legacy.Range.size,List.range'_succ,hi,hs,hp,H,hck]
 ·have I:∀es i,es.map (·.key)=ks.map Z4→Instr.findNow (.array 2 e) (Z4 k) es i=none∨es=[]:=by
   intro es i h;cases es with
   | nil=>exact .inr Z
   | cons e es=>left;simp[Instr.findNow,Instr.sameNow]
  have ask:∀(ks:List (Int×Int)) (es:List MapEntry) (i:Nat),es.map (·.key)=ks.map Z4→(Instr.findAsking kt (Z4 k) es i).run P w=.ok (fnd k ks es i) w:=by
   intro ks;induction ks with
   | nil=>intro es i h;simp at h;subst h;simp[Instr.findAsking,fnd]
   | cons q ks ih =>
    intro es i h;cases es with
    | nil=>simp at h
    | cons e es =>
     simp only[List.map_cons,List.cons.injEq] at h;have J:=ih es (i+1) h.2;simp only[Instr.findAsking,h.1,Sem.run_bind,zw hu he hs,Result.andThen_ok,fnd];by_cases hq:k=q
     ·subst hq;simp
     simp[hq,J]
  rcases I es 0 h with h1 | h1
  ·simp[Instr.findKey,run_underlying hu,h1,ask ks es 0 h]
  subst h1;have:ks=[]:=by simpa using h.symm
  subst this;simp[Instr.findKey,run_underlying hu,Instr.findNow,fnd]
 simp[Instr.sameBits]
class Mp (P:Program) (t:Nat) (kt et:outParam Nat) (z:outParam Value):Prop where
 u:P.underlying t=some (.map kt et)
 z:(P.info? et).map (·.zero)=some (some z)
def ZN {κ:Type}(enc:κ→Value) (H:Array Obj) (b:Nat) (m:List (κ×Value)):Prop :=
 ∃es clock,H[b]?=some (.map es clock)∧es.toList.map (λe=>(e.key,e.val))=m.map (λp=>(enc p.1,p.2))
section
variable {κ:Type} {enc:κ→Value}
theorem ZN.lt {H:Array Obj}{b:Nat}{m:List (κ×Value)}(h:ZN enc H b m):b<H.size:=by
 obtain ⟨es,c,h1,_⟩:=h;exact (LK.1 h1).1
theorem ZN.step {X:LN}{w w':World}{b:Nat}{m:List (κ×Value)}(h:ZN enc w.heap b m) (hs:Step X w w') (hb:b∉X):ZN enc w'.heap b m:=by
 have hl:=h.lt;obtain ⟨es,c,h1,h2⟩:=h;exact ⟨es,c,by rw[hs.block b hl hb];exact h1,h2⟩
theorem ZN.ext {w w':World}{b:Nat}{m:List (κ×Value)}(h:ZN enc w.heap b m) (hs:Step [] w w'):ZN enc w'.heap b m:=h.step hs (by simp)
theorem Qa8 {m:List (κ×Value)}{es:List MapEntry}(h:es.map (λe=>(e.key,e.val))=m.map (λp=>(enc p.1,p.2))):es.map (·.key)=(m.map (·.1)).map enc:=by
 have:=congrArg (List.map Prod.fst) h;simp only[List.map_map] at this ⊢;exact this
variable [DecidableEq κ]
theorem UA {k:κ}:∀{m:List (κ×Value)}{es:List MapEntry}{i:Nat},es.map (λe=>(e.key,e.val))=m.map (λp=>(enc p.1,p.2))→mget m k=none→fnd k (m.map (·.1)) es i=none
 | [],es,i,h,_=>by simp[fnd]
 | (q,u)::m,[],i,h,_=>by simp at h
 | (q,u)::m,e::es,i,h,hm=>by
  simp only[List.map_cons,List.cons.injEq] at h;simp only[mget] at hm;by_cases hq:q=k
  ·simp[hq] at hm
  simp only[hq,if_false] at hm;simp only[List.map_cons,fnd,Ne.symm hq,if_false];exact UA h.2 hm
theorem Uz {k:κ}{u:Value}:∀{m:List (κ×Value)}{es:List MapEntry}{i:Nat},es.map (λe=>(e.key,e.val))=m.map (λp=>(enc p.1,p.2))→mget m k=some u →
  ∃j,fnd k (m.map (·.1)) es i=some (i+j,u)∧j<es.length∧(∃e,es[j]?=some e∧e.key=enc k) ∧
   ∀v,(es.modify j λe=>{ e with key:=enc k,val:=v }).map (λe=>(e.key,e.val))=(mput m k v).map (λp=>(enc p.1,p.2))
 | [],es,i,_,h=>by simp[mget] at h
 | (q,x)::m,[],i,h,_=>by simp at h
 | (q,x)::m,e::es,i,h,hm=>by
  simp only[List.map_cons,List.cons.injEq,Prod.mk.injEq] at h;simp only[mget] at hm;by_cases hq:q=k
  ·subst hq;simp at hm;subst hm;refine ⟨0,by simp[fnd,h.1.2],by simp,⟨e,rfl,h.1.1⟩,λv=>?_⟩;simp[mput,h.2]
  simp only[hq,if_false] at hm;obtain ⟨j,h1,h2,⟨E,h3,H⟩,h4⟩:=Uz (i:=i+1) h.2 hm;refine ⟨j+1,?_,by simp;omega,⟨E,by simpa using h3,H⟩,λv=>?_⟩
  ·simp only[List.map_cons,fnd,Ne.symm hq,if_false,h1];congr 2;omega
  simp only[mput,hq,if_false,List.modify_succ_cons,List.map_cons,h4 v,h.1]
end
section
variable {P:Program} {K:Fr→World→Prop} {f:Fr} {w:World} {d:Option Nat} {ty:Nat} {ps:String} {af:Array Edge} {gd:Option (Nat×Bool)} {κ:Type} [DecidableEq κ]
omit [DecidableEq κ] in
theorem Ya {t:Nat}(enc:κ→Value)
  (E:∀b w',Step [] w w'→w.heap.size≤b→ZN enc w'.heap b []→K (QV f d (.map (some b))) w'):XO P ⟨d,.makeMap t none,ty,ps,af,gd⟩ f w K:=by
 have H:(execOp (ev f) ⟨d,.makeMap t none,ty,ps,af,gd⟩).run P w=.ok (.value (.map (some w.heap.size))) (w.alloc (.map #[] 0)):=by
  simp[execOp,Instr.makeMap]
 exact xv H (E _ _ (Step.alloc w _) (Lv _) ⟨#[],0,Vg w _,Z⟩)
theorem XH {b:Nat}{es:Array MapEntry}{c:Nat}(h:w.heap[b]?=some (.map es c)):(getObj b).run P w=.ok (.map es c) w:=by
 simp[getObj,Sem.run,h]
theorem VK {b:Nat} {es E:Array MapEntry} {c H:Nat} (h:w.heap[b]?=some (.map es c)):(setObj b (.map E H)).run P w=.ok () { w with heap:=w.heap.setIfInBounds b (.map E H) }:=by
 simp[setObj,Sem.run,h]
theorem KT {t kt et:Nat}{z:Value}[hm:Mp P t kt et z] {enc:κ→Value}[hk:Key P kt enc] {x y:Operand}{b:Nat}{m:List (κ×Value)}{k:κ}(h:ZN enc w.heap b m) (hx:ev f x=.map (some b)) (hy:ev f y=enc k) :
  (execOp (ev f) ⟨d,.lookup t x y true,ty,ps,af,gd⟩).run P w=.ok (.value (match mget m k with | some u=>.tuple #[u,.bool true] | none=>.tuple #[z,.bool false])) w:=by
 obtain ⟨es,c,h1,h2⟩:=h;have H:=hk.find w k (m.map (·.1)) es.toList (Qa8 h2);have I:(zeroValue et).run P w=.ok z w:=by
  have:=hm.z;cases hi:P.info? et with
  | none=>simp[hi] at this
  | some i=>simp[hi] at this;simp[zeroValue,typeInfo,hi,this]
 simp only[execOp,Sem.run_bind,Instr.lookup,run_underlying hm.u,Result.andThen_ok,hx,hy,XH h1,Sem.run_pure,hk.check,H];cases E:mget m k with
 | none=>rw[UA h2 E];simp[I]
 | some u =>
  obtain ⟨j,hj,_⟩:=Uz (i:=0) h2 E;rw[hj];simp
theorem J3 {t kt et:Nat}{z:Value}[hm:Mp P t kt et z] {enc:κ→Value}[hk:Key P kt enc] {x y:Operand}{b:Nat}{m:List (κ×Value)}{k:κ}(h:ZN enc w.heap b m) (hx:ev f x=.map (some b)) (hy:ev f y=enc k) :
  (execOp (ev f) ⟨d,.lookup t x y false,ty,ps,af,gd⟩).run P w=.ok (.value (match mget m k with | some u=>u | none=>z)) w:=by
 obtain ⟨es,c,h1,h2⟩:=h;have H:=hk.find w k (m.map (·.1)) es.toList (Qa8 h2);have I:(zeroValue et).run P w=.ok z w:=by
  have:=hm.z;cases hi:P.info? et with
  | none=>simp[hi] at this
  | some i=>simp[hi] at this;simp[zeroValue,typeInfo,hi,this]
 simp only[execOp,Sem.run_bind,Instr.lookup,run_underlying hm.u,Result.andThen_ok,hx,hy,XH h1,Sem.run_pure,hk.check,H];cases E:mget m k with
 | none=>rw[UA h2 E];simp[I]
 | some u =>
  obtain ⟨j,hj,_⟩:=Uz (i:=0) h2 E;rw[hj];simp
theorem zu {t kt et:Nat}{z:Value}[hm:Mp P t kt et z] {enc:κ→Value}[hk:Key P kt enc] {b:Nat}{m:List (κ×Value)}{k:κ}{u:Value}(h:ZN enc w.heap b m) :
  ∃w',(Instr.mapUpdate t (.map (some b)) (enc k) u).run P w=.ok () w'∧Step [b] w w'∧ZN enc w'.heap b (mput m k u):=by
 have hl:=h.lt;obtain ⟨es,c,h1,h2⟩:=h;have E:=hk.find w k (m.map (·.1)) es.toList (Qa8 h2);have stp:∀I J,Step [b] w { w with heap:=w.heap.setIfInBounds b (.map I J) }:=λI J =>
  ⟨rfl,rfl,rfl,by simp,λi hi U=>by
   have:b≠i:=λe=>U (by simp[e]);simp[Array.getElem?_setIfInBounds_ne this]⟩
 cases H:mget m k with
 | none =>
  rw[UA h2 H] at E;refine ⟨_,?_,stp (es.push { key:=enc k,val:=u,born:=c }) (c+1),es.push { key:=enc k,val:=u,born:=c },c+1,?_,?_⟩
  ·simp only[Instr.mapUpdate,Sem.run_bind,run_underlying hm.u,Result.andThen_ok,XH h1,hk.check,E,VK h1]
  ·simp[hl]
  have V:mput m k u=m++[(k,u)]:=by
   clear h2 E;induction m with
   | nil=>rfl
   | cons p m ih =>
    obtain ⟨q,x⟩:=p;by_cases hq:q=k
    ·simp[mget,hq] at H
    simp only[mget,hq,if_false] at H;simp[mput,hq,ih H]
  simp[V,h2]
 | some u0 =>
  obtain ⟨j,hj,hh,⟨e,he,Y⟩,ha⟩:=Uz (i:=0) h2 H;rw[hj] at E;simp only[Nat.zero_add] at E;have hb:∀w,(Instr.keyThatStays (enc k) (enc k)).run P w=.ok (enc k) w:=λw=>by simp[Instr.keyThatStays,hk.same]
  have hc:((es[j]?).map (·.key)).getD (enc k)=enc k:=by
   have:es[j]?=some e:=by simpa using he
   simp[this,Y]
  refine ⟨_,?_,stp (es.modify j λe=>{ e with key:=enc k,val:=u }) c,es.modify j λe=>{ e with key:=enc k,val:=u },c,?_,?_⟩
  ·simp only[Instr.mapUpdate,Sem.run_bind,run_underlying hm.u,Result.andThen_ok,XH h1,hk.check,E,hc,hb,VK h1]
  ·simp[hl]
  rw[Array.toList_modify];exact ha u
theorem Y1 {t kt et:Nat}{z:Value}[hm:Mp P t kt et z] {enc:κ→Value}[hk:Key P kt enc] {x y v:Operand}{b:Nat}{m:List (κ×Value)}{k:κ}(h:ZN enc w.heap b m) (hx:ev f x=.map (some b)) (hy:ev f y=enc k)
  (E:∀w',Step [b] w w'→ZN enc w'.heap b (mput m k (ev f v))→K (QV f d undef) w'):XO P ⟨d,.mapUpdate t x y v,ty,ps,af,gd⟩ f w K:=by
 obtain ⟨w',h1,h2,h3⟩:=zu (P:=P) (t:=t) (k:=k) (u:=ev f v) h;exact xk (w':=w') (by simp[execOp,hx,hy,h1]) (E w' h2 h3)
theorem Yz {t kt et:Nat}{z:Value}[hm:Mp P t kt et z] {enc:κ→Value}[hk:Key P kt enc] {x y v:Operand}{b:Nat}{m:List (κ×Value)}{k:κ}(h:ZN enc w.heap b m) (hx:ev f x=.map (some b)) (hy:ev f y=enc k)
  (E:∀w',Step [b] w w'→ZN enc w'.heap b (mput m k (ev f v))→K (QV f d undef) w'):XO P ⟨d,.insert t x y v,ty,ps,af,gd⟩ f w K:=by
 obtain ⟨w',h1,h2,h3⟩:=zu (P:=P) (t:=t) (k:=k) (u:=ev f v) h;exact xk (w':=w') (by simp[execOp,hx,hy,h1]) (E w' h2 h3)
end
section
variable {P:Program} {ops:List Oper} {K:Fr→World→Prop} {f:Fr} {w:World} {d:Option Nat} {ty:Nat} {ps:String} {af:Array Edge} {gd:Option (Nat×Bool)} {l:List Oper}
theorem VU {b T:Nat}{cs E:LV}(h:QT w.heap b T cs):QT (w.setRow b E.toArray).heap b T E:=setRow_heap w b cs.toArray E.toArray T (0,0) h
theorem y9 (cs:LV) (j:Nat) (u:Value) (h:j<cs.length):cs.take j++[u]++cs.drop (j+1)=cs.set j u:=by
 rw[List.set_eq_take_append_cons_drop,if_pos h];simp
theorem QF {t:Nat}[h1:X7 P t] {x y:Operand}{b T j:Nat}{cs:LV}{u:Value}(E:QT w.heap b T cs) (hx:ev f x=.pointer (some ⟨b,j,none⟩)) (hy:ev f y=u) (hj:j<cs.length) (hu:u.oneCell'=true)
  (J:∀w',Step [b] w w'→QT w'.heap b T (cs.set j u)→K (QV f d undef) w'):XO P ⟨d,.store t x y,ty,ps,af,gd⟩ f w K:=by
 have hc:u.cells=#[u]:=by cases u <;> first | rfl | cases hu
 have I:=run_storeCells_at P b j T [u] 0 cs.toArray w E (by simp;omega) (by simp[hu]);simp only[Nat.add_zero,List.length_singleton,y9 cs j u hj] at I;refine xk (w':=w.setRow b (cs.set j u).toArray) ?_ (J _ (Step.setRow _ _ _) (VU E));simp[execOp,hx,hy,Instr.storeAt,Instr.sureAddr,storeVar,zq,hc,I]
def ZP:LV→Prop
 | []=>True
 | u::us=>u.oneCell'=true∧ZP us
theorem ZP.all:∀{us:LV},ZP us→∀u∈us,u.oneCell'=true
 | [],_,u,hu=>by cases hu
 | v::us,h,u,hu=>by
  rcases Lh.1 hu with rfl | hu
  ·exact h.1
  exact ZP.all h.2 u hu
theorem Qn {t sz:Nat}[h1:Ag P t sz] {x y:Operand}{b T:Nat}{cs us:LV}(E:QT w.heap b T cs) (hx:ev f x=.pointer (some ⟨b,0,none⟩)) (hy:ev f y=.agg us.toArray) (hl:us.length=sz) (hj:cs.length=sz) (hu:ZP us)
  (J:∀w',Step [b] w w'→QT w'.heap b T us→K (QV f d undef) w'):XO P ⟨d,.store t x y,ty,ps,af,gd⟩ f w K:=by
 have I:=run_storeCells_at P b 0 T us 0 cs.toArray w E (by simp;omega) hu.all;have e:(cs.take 0++us++cs.drop us.length)=us:=by rw[hl,←hj];simp
 simp only[Nat.add_zero,Nat.zero_add,e] at I;refine xk (w':=w.setRow b us.toArray) ?_ (J _ (Step.setRow _ _ _) (VU E));subst hl;simp[execOp,hx,hy,Instr.storeAt,Instr.sureAddr,storeVar,UZ (sz:=us.length),Value.cells,I]
theorem QS {x y:Operand}{t e sz bys:Nat}{z:Value}[h:Sl P t e sz bys z] {b o n c:Nat}{k:IntKind}{i:Nat}(hx:ev f x=.slice (some ⟨b,o,none⟩) n c) (hy:ev f y=.int k i) (h1:i<n) :
  (execOp (ev f) ⟨d,.indexAddr t x y,ty,ps,af,gd⟩).run P w=.ok (.value (.pointer (some ⟨b,o+i*sz,none⟩))) w:=by
 have:=Jc (P:=P) (w:=w) (d:=d) (ty:=ty) (ps:=ps) (af:=af) (gd:=gd) (t:=t) hx hy (by omega) (by omega);rw[YM] at this;simpa using this
theorem XZ {t e sz bys:Nat}{z:Value}[h:Sl P t e sz bys z] {x y:Operand}{k k':IntKind}{n:Nat}(hx:ev f x=.int k n) (hy:ev f y=.int k' n) (J:n≤1099511627776)
  (U:∀b w',Step [] w w'→w.heap.size≤b→QT w'.heap b e (List.replicate n z.cells.toList).flatten→K (QV f d (.slice (some ⟨b,0,none⟩) n n)) w') (V:bys≤128:=by decide) :
  XO P ⟨d,.makeSlice t x y,ty,ps,af,gd⟩ f w K:=by
 obtain ⟨i,hi,Y,ha,hc⟩:=Sl.info h;have hb:i.bytes*n≤281474976710656:=by
  rw[hc];exact LT (Nat.mul_le_mul V J) (by omega)
 have hb':(i.bytes:Int)*(n:Int)≤281474976710656:=by
  have h:((i.bytes*n:Nat):Int)≤281474976710656:=by omega
  rwa [Int.natCast_mul] at h
 have E:=run_make (P:=P) w t e i z h.u hi Y k k' n n (by omega) (MQ _) hb' (by omega);simp only[Int.toNat_natCast] at E;have he:madeCells z.cells (n*i.size)=(List.replicate n z.cells.toList).flatten.toArray:=by
  have hf:z.cells.size=i.size:=by rw[h.zs,ha]
  apply Array.ext';apply List.ext_getElem?;intro j;simp only[madeCells,←hf,Array.toList_map,Array.toList_range,List.getElem?_map];have hg:∀n,(List.replicate n z.cells.toList).flatten.length=n*z.cells.size:=λn=>by simp
  have key:∀n j,j<n*z.cells.size→(List.replicate n z.cells.toList).flatten[j]?=some z.cells[j % z.cells.size]!:=by
   intro n;induction n with
   | zero=>intro j hj;omega
   | succ n ih =>
    intro j hj;rw[List.replicate_succ,List.flatten_cons];by_cases I:j<z.cells.size
    ·rw[L9 (by simpa using I),MA I];simp[I]
    rw[Mw (by simp;omega)];have:=ih (j - z.cells.size) (by rw[MB] at hj;omega);rw[Array.length_toList,this];rw[←Nat.mod_eq_sub_mod (by omega)]
  by_cases hj:j<n*z.cells.size
  ·rw[key n j hj];simp[hj]
  rw[M1 (by simpa using Nat.le_of_not_lt hj),List.getElem?_eq_none (by rw[hg];omega)];rfl
 rw[he] at E;refine xv (w':=w.alloc (.cells (List.replicate n z.cells.toList).flatten.toArray e)) (v:=.slice (some ⟨w.heap.size,0,none⟩) n n) ?_ (U _ _ (Step.alloc w _) (Lv _) (Vg w _));simp[execOp,hx,hy,E]
theorem YK {k:IntKind}{i y:Nat}{c:BoundsCode}(h:i≤y):(Instr.sliceBound (.int k i) y c).run P w=.ok i w:=by
 simp[Instr.sliceBound,asIntOf,h]
theorem ZA.cut {L:LN}{H:Array Obj}{a:Addr}{n cap sz:Nat}{cs:LV}(h:ZA L H (.slice (some a) n cap) n sz cs) {lo hi:Nat}(h1:lo≤hi) (h2:hi≤n) :
  ZA L H (.slice (if cap=lo then some a else some (a.add (lo*sz))) (hi - lo) (cap - lo)) (hi - lo) sz ((cs.drop (lo*sz)).take ((hi - lo)*sz)):=by
 obtain ⟨h3,h4,h5⟩:=h;rcases h5 with ⟨h6,_⟩ | ⟨a',cap',h6,I,E⟩
 ·cases h6
 cases h6
 refine ⟨?_,by omega,.inr ?_⟩
 ·simp only[List.length_take,List.length_drop,h3,←Nat.sub_mul];rw[Ni];exact MW _ (by omega)
 split
 ·rename_i hc;have:hi - lo=0:=by omega
  refine ⟨a,cap - lo,by rw[this],by omega,λu hu=>?_,λu hu=>?_,λj u hu=>?_⟩
  ·simp[this] at hu
  ·simp[this] at hu
  simp[this] at hu
 refine ⟨a.add (lo*sz),cap - lo,Z,by omega,λu hu=>by rw[Ym];exact E.out u (MO (L2 hu)),λu hu=>by rw[Ym];exact E.lt u (MO (L2 hu)),λj u hu=>?_⟩;rw[Addr.add_add];rw[Mo] at hu;split at hu
 ·exact E.cell _ u (by simpa using hu)
 cases hu
theorem Qe9 {t e sz bys:Nat}{z:Value}[h:Sl P t e sz bys z] {x y1 y2:Operand}{L:LN}{v:Value}{n:Nat}{cs:LV}{H:Array Obj}{k k':IntKind}{lo hi:Nat}(I:ZA L H v n sz cs) (hx:ev f x=v) (hl:ev f y1=.int k lo) (J:ev f y2=.int k' hi)
  (h1:lo≤hi) (h2:hi≤n):∃v',ZA L H v' (hi - lo) sz ((cs.drop (lo*sz)).take ((hi - lo)*sz))∧∀w,(execOp (ev f) ⟨d,.slice t x (some y1) (some y2) none,ty,ps,af,gd⟩).run P w=.ok (.value v') w:=by
 obtain ⟨i,U,_,V,_⟩:=Sl.info h;rcases I.2.2 with ⟨E,Y⟩ | ⟨a,cap,E,hc,ha⟩
 ·have e1:hi=0:=by omega
  have e2:lo=0:=by omega
  subst e1 e2;refine ⟨nS,⟨by simp,by omega,.inl ⟨rfl,rfl⟩⟩,λw=>?_⟩;simp[execOp,hx,E,hl,J,Instr.sliceAt,Instr.slice,run_underlying h.u,Instr.sliceBounds,Instr.sliceBound,asIntOf,sizeOf,typeInfo,U]
 subst E;refine ⟨_,I.cut h1 h2,λw=>?_⟩;have e1:(Instr.sliceBound (.int k' hi) cap .sliceAcap).run P w=.ok hi w:=YK (by omega);have e2:(Instr.sliceBound (.int k lo) hi .sliceB).run P w=.ok lo w:=YK (by omega);simp[execOp,hx,hl,J,Instr.sliceAt,Instr.slice,run_underlying h.u,Instr.sliceBounds,e1,e2,sizeOf,typeInfo,U,V]
theorem Qh9 {t e sz bys:Nat}{z:Value}[h:Sl P t e sz bys z] {x y1:Operand}{L:LN}{v:Value}{n:Nat}{cs:LV}{H:Array Obj}{k:IntKind}{lo:Nat}(E:ZA L H v n sz cs) (hx:ev f x=v) (hl:ev f y1=.int k lo)
  (h1:lo≤n):∃v',ZA L H v' (n - lo) sz (cs.drop (lo*sz))∧∀w,(execOp (ev f) ⟨d,.slice t x (some y1) none none,ty,ps,af,gd⟩).run P w=.ok (.value v') w:=by
 obtain ⟨i,J,_,V,_⟩:=Sl.info h;rcases E.2.2 with ⟨I,Y⟩ | ⟨a,cap,I,hc,ha⟩
 ·have e2:lo=0:=by omega
  subst e2 Y;have:cs=[]:=Lt (by simpa using E.1);subst this;refine ⟨nS,⟨by simp,by omega,.inl ⟨rfl,rfl⟩⟩,λw=>?_⟩;simp[execOp,hx,I,hl,Instr.sliceAt,Instr.slice,run_underlying h.u,Instr.sliceBounds,Instr.sliceBound,asIntOf,sizeOf,typeInfo,J]
 subst I;have U:=E.cut h1 (Lv n);have e:(cs.drop (lo*sz)).take ((n - lo)*sz)=cs.drop (lo*sz):=Ls (by rw[Ms,E.1,←Nat.sub_mul];exact Lv _);rw[e] at U;refine ⟨_,U,λw=>?_⟩;have e2:(Instr.sliceBound (.int k lo) n .sliceB).run P w=.ok lo w:=YK h1
 simp[execOp,hx,hl,Instr.sliceAt,Instr.slice,run_underlying h.u,Instr.sliceBounds,e2,sizeOf,typeInfo,J,V]
theorem Qia {t e sz bys:Nat}{z:Value}[h:Sl P t e sz bys z] {x y2:Operand}{L:LN}{v:Value}{n:Nat}{cs:LV}{H:Array Obj}{k:IntKind}{hi:Nat}(I:ZA L H v n sz cs) (hx:ev f x=v) (J:ev f y2=.int k hi)
  (h1:hi≤n):∃v',ZA L H v' hi sz (cs.take (hi*sz))∧∀w,(execOp (ev f) ⟨d,.slice t x none (some y2) none,ty,ps,af,gd⟩).run P w=.ok (.value v') w:=by
 obtain ⟨i,U,_,Y,_⟩:=Sl.info h;rcases I.2.2 with ⟨E,hn⟩ | ⟨a,cap,E,hc,ha⟩
 ·have e2:hi=0:=by omega
  subst e2;refine ⟨nS,⟨by simp,by omega,.inl ⟨rfl,rfl⟩⟩,λw=>?_⟩;simp[execOp,hx,E,J,Instr.sliceAt,Instr.slice,run_underlying h.u,Instr.sliceBounds,Instr.sliceBound,asIntOf,sizeOf,typeInfo,U]
 subst E;have V:=I.cut (Ln hi) h1;simp only[Nat.zero_mul,List.drop_zero,Nat.sub_zero] at V;refine ⟨_,V,λw=>?_⟩;have e2:(Instr.sliceBound (.int k hi) cap .sliceAcap).run P w=.ok hi w:=YK (by omega);simp[execOp,hx,J,Instr.sliceAt,Instr.slice,run_underlying h.u,Instr.sliceBounds,e2,sizeOf,typeInfo,U]
end
section
variable {P:Program} {ops:List Oper} {K:Fr→World→Prop} {C:World→Prop} {f:Fr} {w w0:World} {d:Option Nat} {ty:Nat} {ps:String} {af:Array Edge} {gd:Option (Nat×Bool)} {pl:List (Nat×Bool)} {i0:Nat}
theorem pi {x y:Operand}{t e sz bys:Nat}{z:Value}[Sl P t e sz bys z] {L:LN}{n:Nat}{cs:LV}{v:Value}{H:Array Obj}{k:IntKind}{i:Nat}
  (E:QK ops i0=⟨d,.indexAddr t x y,ty,ps,af,gd⟩) (h:ZA L H v n sz cs) (I:ev f x=v) (hy:ev f y=.int k i) (hi:i<n)
  (J:∀a,At L H a ((cs.drop (i*sz)).take sz)→XP P ops C K pl (QV f d (.pointer (some a))) w) (U:Yi ops f (QK ops i0)=true:=by rfl) :
  XP P ops C K ((i0,true)::pl) f w:=by
 obtain ⟨a,cap,h1,h2⟩:=h.at hi;refine Lg.p (λw'=>by rw[E];exact Jc (I.trans h1) hy (by omega) (by omega)) ?_ U;rw[E];refine J _ ?_;simpa using h2
theorem pii {x y:Operand}{t e bys:Nat}{z:Value}[Sl P t e 1 bys z] {L:LN}{li:LI}{v:Value}{H:Array Obj}{k:IntKind}{i:Nat}
  (E:QK ops i0=⟨d,.indexAddr t x y,ty,ps,af,gd⟩) (h:QL L H v li) (I:ev f x=v) (hy:ev f y=.int k i) (hi:i<li.length)
  (J:∀a,At L H a [.int .i64 li[i]]→XP P ops C K pl (QV f d (.pointer (some a))) w) (U:Yi ops f (QK ops i0)=true:=by rfl) :
  XP P ops C K ((i0,true)::pl) f w:=by
 obtain ⟨a,cap,h1,h2⟩:=QL.at h hi;refine Lg.p (λw'=>by rw[E];exact Jc (I.trans h1) hy (by omega) (by omega)) ?_ U;rw[E];refine J _ ?_;simpa using h2
end
abbrev Ed:=Int×Int×Int
def QB (e:Ed):LV:=[.int .i64 e.1,.int .i64 e.2.1,.int .i64 e.2.2]
abbrev zf (L:LN) (H:Array Obj) (v:Value) (es:List Ed):Prop:=ZA L H v es.length 3 (es.flatMap QB)
theorem Ko {α:Type}(g:α→LV) (sz:Nat) (E:∀x,(g x).length=sz):∀(l:List α) (i:Nat) (h:i<l.length),((l.flatMap g).drop (i*sz)).take sz=g l[i]
 | x::l,0,_=>by simp[E]
 | x::l,i+1,h=>by
  have:=Ko g sz E l i (by simpa using h);simp only[List.flatMap_cons,List.getElem_cons_succ];rw[←this,MB,M6,MP,List.drop_append,E];simp[Nat.add_sub_cancel_left,List.drop_eq_nil_of_le,E]
theorem yg {α:Type}(g:α→LV) (sz:Nat) (E:∀x,(g x).length=sz) (l:List α):(l.flatMap g).length=l.length*sz:=by
 induction l with
 | nil=>simp
 | cons x l ih=>simp[ih,E,Nat.add_mul,Nat.add_comm]
theorem K9 (e:Ed):(QB e).length=3:=rfl
structure QD where
 al:LI
 st:Int
 mr:LI
 ed:List Ed
structure Zq (L:LN) (H:Array Obj) (va vm ve:Value) (a:QD):Prop where
 al:QL L H va a.al
 mr:QL L H vm a.mr
 ed:zf L H ve a.ed
def QqM (L:LN) (H:Array Obj) (v:Value) (a:QD):Prop:=∃va vm ve,v=.agg #[va,.int .i64 a.st,vm,ve]∧Zq L H va vm ve a
theorem Zq.ext {L:LN}{w w':World}{va vm ve:Value}{a:QD}(h:Zq L w.heap va vm ve a) (hs:Step [] w w'):Zq L w'.heap va vm ve a:=⟨h.al.ext hs,h.mr.ext hs,h.ed.ext hs⟩
theorem Zq.st {L:LN}{w w':World}{va vm ve:Value}{a:QD}(h:Zq L w.heap va vm ve a) (hs:Step L w w'):Zq L w'.heap va vm ve a:=⟨h.al.st hs,h.mr.st hs,h.ed.st hs⟩
theorem Zq.up {L L':LN}{H:Array Obj}{va vm ve:Value}{a:QD}(h:Zq L H va vm ve a) (E:∀b∈L',b∈L∨H.size≤b):Zq L' H va vm ve a:=⟨h.al.up E,h.mr.up E,h.ed.up E⟩
section
variable {P:Program} {f:Fr} {w:World} {d:Option Nat} {ty:Nat} {ps:String} {af:Array Edge} {gd:Option (Nat×Bool)}
class Ik (P:Program) (t:Nat) (k:outParam IntKind):Prop where
 u:P.underlying t=some (.int k)
theorem Xy {t E:Nat}{k k':IntKind}[h:Ik P t k] [h':Ik P E k'] {x:Operand}{n:Int}{I:IntKind}(hx:ev f x=.int I n) (J:inK k' n) :
  (execOp (ev f) ⟨d,.convert t E x,ty,ps,af,gd⟩).run P w=.ok (.value (.int k' n)) w:=by
 simp[execOp,hx,convert,run_underlying h.u,run_underlying h'.u,Conv.intToInt,XC J]
class Bk (P:Program) (t:Nat):Prop where
 u:P.underlying t=some .bool
class St (P:Program) (t:Nat):Prop where
 u:P.underlying t=some .string
end
theorem Q7 {α:Type}{l:List α}{k:Nat}(h:k<l.length):l.drop k=l[k]::l.drop (k+1):=LQ h
theorem zf.at {L:LN}{H:Array Obj}{v:Value}{es:List Ed}(h:zf L H v es) {i:Nat}(hi:i<es.length) :
  ∃a cap,v=.slice (some a) es.length cap∧At L H (a.add (i*3)) (QB es[i]):=by
 obtain ⟨a,cap,h1,h2⟩:=ZA.at h hi;rw[Ko QB 3 K9 es i hi] at h2;exact ⟨a,cap,h1,h2⟩
section
variable {P:Program} {ops:List Oper} {K:Fr→World→Prop} {f:Fr} {w:World} {d:Option Nat} {ty:Nat} {ps:String} {af:Array Edge} {gd:Option (Nat×Bool)} {l:List Oper} {C:World→Prop} {pl:List (Nat×Bool)} {i0:Nat}
theorem xie {x y:Operand}{t e bys:Nat}{z:Value}[Sl P t e 3 bys z] {L:LN}{es:List Ed}{v:Value}{k:IntKind}{i:Nat}
  (h:zf L w.heap v es) (E:ev f x=v) (hy:ev f y=.int k i) (hi:i<es.length)
  (I:∀a,At L w.heap a (QB es[i])→XL P ops K l (QV f d (.pointer (some a))) w) (J:Yi ops f ⟨d,.indexAddr t x y,ty,ps,af,gd⟩=true:=by rfl) :
  XL P ops K (⟨d,.indexAddr t x y,ty,ps,af,gd⟩::l) f w:=by
 obtain ⟨a,cap,h1,h2⟩:=zf.at h hi;refine xl J (xv (Jc (E.trans h1) hy (by omega) (by omega)) (I _ ?_));simpa using h2
theorem pie {x y:Operand}{t e bys:Nat}{z:Value}[Sl P t e 3 bys z] {L:LN}{es:List Ed}{v:Value}{H:Array Obj}{k:IntKind}{i:Nat}
  (E:QK ops i0=⟨d,.indexAddr t x y,ty,ps,af,gd⟩) (h:zf L H v es) (I:ev f x=v) (hy:ev f y=.int k i) (hi:i<es.length)
  (J:∀a,At L H a (QB es[i])→XP P ops C K pl (QV f d (.pointer (some a))) w) (U:Yi ops f (QK ops i0)=true:=by rfl) :
  XP P ops C K ((i0,true)::pl) f w:=by
 obtain ⟨a,cap,h1,h2⟩:=zf.at h hi;refine Lg.p (λw'=>by rw[E];exact Jc (I.trans h1) hy (by omega) (by omega)) ?_ U;rw[E];refine J _ ?_;simpa using h2
end
section
variable {P:Program} {f:Fr} {w:World} {d:Option Nat} {ty:Nat} {ps:String} {af:Array Edge} {gd:Option (Nat×Bool)}
theorem zz {t E:Nat}{x y:Operand}{k k':IntKind}{a:Int}{n:Nat}(hx:ev f x=.int k a) (hy:ev f y=.int k' n) (I:n≤k.bits) :
  (execOp (ev f) ⟨d,.binOp .shr t x y E,ty,ps,af,gd⟩).run P w=.ok (.value (.int k (a / 2 ^ n))) w:=by
 refine X4 hx hy ?_;have h1:¬((n:Int)<0):=by omega
 simp only[binOp,Op.shift,h1,if_false,Int.toNat_natCast,Nat.min_eq_left I,Sem.run_pure];rw[Int.fdiv_eq_ediv_of_nonneg _ (Int.le_of_lt (Int.pow_pos (by decide)))]
class S3 (P:Program) (t:Nat):Prop where
 u:∃f0 f1 f2,P.underlying t=some (.struct #[f0,f1,f2])∧f0.name ≠ "_" ∧ f1.name ≠ "_" ∧ f2.name ≠ "_" ∧ f0.offset=0∧f1.offset=1∧f2.offset=2 ∧
  P.underlying f0.type=some (.int .i64)∧P.underlying f1.type=some (.int .i64)∧P.underlying f2.type=some (.int .i64)
 s:P.stoodInHeld t=false
 g:P.eqGuardType P.depth t=false
theorem QaC {t:Nat}[h:S3 P t] (w:World) (p q:Ed):(Op.equal t (.agg (QB p).toArray) (.agg (QB q).toArray)).run P w=.ok (decide (p=q)) w:=by
 obtain ⟨a,b,c⟩:=p;obtain ⟨Y,b',c'⟩:=q;obtain ⟨f0,f1,f2,hu,U,n1,n2,V,o1,o2,I,J,u2⟩:=h.u;have ha:∀e w,P.underlying e=some (.int .i64)→(isAgg e).run P w=.ok false w:=λe w he=>by simp[isAgg,run_underlying he]
 have hp:∀e (x y z:Int) (w:World),P.underlying e=some (.int .i64)→(part e #[.int .i64 x,.int .i64 y,.int .i64 z] 0).run P w=.ok (.int .i64 x) w:=λe x y z w he=>by simp[part,ha e w he]
 have hb:∀e (x y z:Int) (w:World),P.underlying e=some (.int .i64)→(part e #[.int .i64 x,.int .i64 y,.int .i64 z] 1).run P w=.ok (.int .i64 y) w:=λe x y z w he=>by simp[part,ha e w he]
 have hc:∀e (x y z:Int) (w:World),P.underlying e=some (.int .i64)→(part e #[.int .i64 x,.int .i64 y,.int .i64 z] 2).run P w=.ok (.int .i64 z) w:=λe x y z w he=>by simp[part,ha e w he]
 have E:∀e (m:Nat) (x y:Int) (w:World),P.underlying e=some (.int .i64)→(Op.equalIn (m+1) e (.int .i64 x) (.int .i64 y)).run P w=.ok (x == y) w:=λe m x y w he=>by simp[Op.equalIn,run_underlying he]
 have key:∀m,(Op.equalIn (m+2) t (.agg (QB (a,b,c)).toArray) (.agg (QB (Y,b',c')).toArray)).run P w=.ok (decide ((a,b,c)=(Y,b',c'))) w:=by
  intro m;simp only[QB];unfold Op.equalIn;simp only[Sem.run_bind,run_underlying hu,Result.andThen_ok];by_cases e1:a=Y
  ·subst e1;by_cases e2:b=b'
   ·subst e2;by_cases e3:c=c'
    ·subst e3;simp[h.s,U,n1,n2,V,o1,o2,hp _ _ _ _ _ I,hb _ _ _ _ _ J,hc _ _ _ _ _ u2,E _ _ _ _ _ I,E _ _ _ _ _ J,E _ _ _ _ _ u2]
    simp[h.s,U,n1,n2,V,o1,o2,hp _ _ _ _ _ I,hb _ _ _ _ _ J,hc _ _ _ _ _ u2,E _ _ _ _ _ I,E _ _ _ _ _ J,E _ _ _ _ _ u2,e3]
   simp[h.s,U,n1,V,o1,hp _ _ _ _ _ I,hb _ _ _ _ _ J,E _ _ _ _ _ I,E _ _ _ _ _ J,e2]
  simp[h.s,U,V,hp _ _ _ _ _ I,E _ _ _ _ _ I,e1]
 exact key 9998
theorem QaO {t E:Nat}[h:S3 P t] {x y:Operand}{p q:Ed}(hx:ev f x=.agg (QB p).toArray) (hy:ev f y=.agg (QB q).toArray) :
  (execOp (ev f) ⟨d,.binOp .neq t x y E,ty,ps,af,gd⟩).run P w=.ok (.value (.bool (decide (¬p=q)))) w:=by
 have I:(eqGuard .neq t x y (.agg (QB p).toArray) (.agg (QB q).toArray)).run P w=.ok () w:=by simp[eqGuard,h.g]
 simp only[execOp,hx,hy,Sem.run_bind,I,Result.andThen_ok,binOp,QaC,Sem.run_pure];by_cases e:p=q <;> simp[e]
end
theorem Step.then1 {L:LN}{w0 w w':World}{b:Nat}(h:Step L w0 w) (k:Step [b] w w') (hb:w0.heap.size≤b):Step L w0 w':=h.then k (λc hc=>.inr (by simp at hc;omega))
section
variable {P:Program} {K:Fr→World→Prop} {f:Fr} {w:World} {d:Option Nat} {ty:Nat} {ps:String} {af:Array Edge} {gd:Option (Nat×Bool)}
theorem Uh {t E e sz bys:Nat}{z:Value}[h:Sl P t e sz bys z] {x y:Operand}{a:Option Addr}{n c:Nat}(hx:ev f x=.slice a n c) (hy:ev f y=nS) :
  (execOp (ev f) ⟨d,.binOp .eql t x y E,ty,ps,af,gd⟩).run P w=.ok (.value (.bool a.isNone)) w:=by
 have I:(eqGuard .eql t x y (.slice a n c) (nS)).run P w=.ok () w:=by simp[eqGuard]
 have key:∀m,(Op.equalIn (m+1) t (.slice a n c) (nS)).run P w=.ok a.isNone w:=by
  intro m;unfold Op.equalIn;cases a <;> simp[run_underlying h.u]
 have he:(Op.equal t (.slice a n c) (nS)).run P w=.ok a.isNone w:=key 9999;simp only[execOp,hx,hy,Sem.run_bind,I,Result.andThen_ok,binOp,he,Sem.run_pure]
theorem U6 {t e sz bys:Nat}{z:Value}[h:Sl P t e sz bys z]
  (E:∀b w',Step [] w w'→w.heap.size≤b→QT w'.heap b e []→K (QV f d (.slice (some ⟨b,0,none⟩) 0 0)) w'):XO P ⟨d,.buildSlice t 0 #[],ty,ps,af,gd⟩ f w K:=by
 obtain ⟨ie,I,U,V,_⟩:=Sl.info h;have J:(execOp (ev f) ⟨d,.buildSlice t 0 #[],ty,ps,af,gd⟩).run P w=.ok (.value (.slice (some ⟨w.heap.size,0,none⟩) 0 0)) (w.alloc (.cells #[] e)):=by
  simp[execOp,Instr.buildSlice,run_underlying h.u,sizeOf,typeInfo,I,Instr.fill,newRow];have e0:Array.map (λ_=>(default:Value)) (Array.range 0)=#[]:=by apply Array.ext';simp
  rw[e0]
 exact xv J (E _ _ (Step.alloc w _) (Lv _) (Vg w _))
end
abbrev Qs (e base:Nat) (w:World) (v:Value) (l:LI):Prop:=w.ownsRow base e 1 v l.length (l.map (.int .i64))
theorem Qs.ints {e base:Nat}{w:World}{v:Value}{l:LI}{L:LN}(h:Qs e base w v l) (E:l.length≤1099511627776) (I:∀b∈L,b<base):QL L w.heap v l :=
 QX h E (λb hb J=>by have:=(Qq h b hb).1;have:=I b J;omega)
theorem Qch (l:LI):∀u∈l.map (Value.int .i64),u.oneCell'=true:=by
 intro u hu;obtain ⟨n,_,rfl⟩:=Lq.1 hu;rfl
section
variable {P:Program} {ops:List Oper} {K:Fr→World→Prop} {f:Fr} {w:World} {d:Option Nat} {ty:Nat} {ps:String} {af:Array Edge} {gd:Option (Nat×Bool)} {l:List Oper} {C:World→Prop} {pl:List (Nat×Bool)} {i0:Nat}
 {t e sz bys:Nat} {z:Value} {x y1 y2:Operand} {L:LN} {v:Value} {n:Nat} {cs:LV} {H:Array Obj} {k k':IntKind} {lo hi:Nat}
theorem QnH [h:Sl P t e sz bys z] (E:QK ops i0=⟨d,.slice t x (some y1) none none,ty,ps,af,gd⟩) (I:ZA L H v n sz cs) (hx:ev f x=v) (hl:ev f y1=.int k lo) (h1:lo≤n) (J:∀v',ZA L H v' (n - lo) sz (cs.drop (lo*sz))→XP P ops C K pl (QV f d v') w)
  (U:Yi ops f (QK ops i0)=true:=by rfl):XP P ops C K ((i0,true)::pl) f w:=by
 obtain ⟨v',h2,h3⟩:=Qh9 (P:=P) (d:=d) (ty:=ty) (ps:=ps) (af:=af) (gd:=gd) (t:=t) I hx hl h1;exact Lg.p (λw'=>by rw[E];exact h3 w') (by rw[E];exact J v' h2) U
theorem Qqf [h:Sl P t e sz bys z] (E:ZA L H v n sz cs) (hx:ev f x=v) (hl:ev f y1=.int k lo) (I:ev f y2=.int k' hi) (h1:lo≤hi) (h2:hi≤n) (J:∀v',ZA L H v' (hi - lo) sz ((cs.drop (lo*sz)).take ((hi - lo)*sz))→XL P ops K l (QV f d v') w)
  (U:Yi ops f ⟨d,.slice t x (some y1) (some y2) none,ty,ps,af,gd⟩=true:=by rfl):XL P ops K (⟨d,.slice t x (some y1) (some y2) none,ty,ps,af,gd⟩::l) f w:=by
 obtain ⟨v',h3,h4⟩:=Qe9 (P:=P) (d:=d) (ty:=ty) (ps:=ps) (af:=af) (gd:=gd) (t:=t) E hx hl I h1 h2;exact xl U (xv (h4 w) (J v' h3))
theorem Qpb [h:Sl P t e sz bys z] (E:ZA L H v n sz cs) (hx:ev f x=v) (I:ev f y2=.int k hi) (h1:hi≤n) (J:∀v',ZA L H v' hi sz (cs.take (hi*sz))→XL P ops K l (QV f d v') w)
  (U:Yi ops f ⟨d,.slice t x none (some y2) none,ty,ps,af,gd⟩=true:=by rfl):XL P ops K (⟨d,.slice t x none (some y2) none,ty,ps,af,gd⟩::l) f w:=by
 obtain ⟨v',h2,h3⟩:=Qia (P:=P) (d:=d) (ty:=ty) (ps:=ps) (af:=af) (gd:=gd) (t:=t) E hx I h1;exact xl U (xv (h3 w) (J v' h2))
end
theorem QL.drop {L:LN}{H:Array Obj}{v:Value}{l:LI}{lo:Nat}(h:ZA L H v (l.length - lo) 1 ((l.map (Value.int .i64)).drop (lo*1))):QL L H v (l.drop lo):=by
 rw[Nat.mul_one,←List.map_drop] at h;have e:(l.drop lo).length=l.length - lo:=Ms;unfold QL;rw[e];exact h
theorem Qs.snoc {e base:Nat}{w:World}{v:Value}{l:LI}{n:Int}(h:w.ownsRow base e 1 v (l.length+1) (l.map (Value.int .i64)++[.int .i64 n])):Qs e base w v (l++[n]):=by
 unfold Qs;rw[Ll,Ly];exact h
def Dj (u v:Value):Prop:=∀b∈ob u,b∉ob v
theorem Dj.symm {u v:Value}(h:Dj u v):Dj v u:=λb hb hu=>h b hu hb
theorem Dj.nil (v:Value):Dj (nS) v:=λb hb=>by simp[ob] at hb
theorem Dj.nil' (v:Value):Dj v (nS):=(Dj.nil v).symm
theorem Dj.grow {u v v':Value}{N:Nat}(h:Dj u v) (E:∀b∈ob v',b∈ob v∨N≤b) (hu:∀b∈ob u,b<N):Dj u v' :=
 λb hb I=>by rcases E b I with h1 | h1;exact h b hb h1;have:=hu b hb;omega
theorem Q2 {w:World}{base e sz n:Nat}{v:Value}{cs:LV}(h:w.ownsRow base e sz v n cs):∀b∈ob v,b<w.heap.size:=λb hb=>(Qq h b hb).2
theorem QY {w:World}{base e sz n:Nat}{v:Value}{cs:LV}(h:w.ownsRow base e sz v n cs) {b:Nat}(hb:b<base):b∉ob v:=λhm=>by have:=(Qq h b hm).1;omega
abbrev Ye (e base:Nat) (w:World) (v:Value) (l:List Ed):Prop:=w.ownsRow base e 3 v l.length (l.flatMap QB)
theorem Ye.snoc {e base:Nat}{w:World}{v:Value}{l:List Ed}{n:Ed}(h:w.ownsRow base e 3 v (l.length+1) (l.flatMap QB++QB n)):Ye e base w v (l++[n]):=by
 unfold Ye;rw[Ll,LH];simpa using h
theorem Ye.eds {e base:Nat}{w:World}{v:Value}{l:List Ed}{L:LN}(h:Ye e base w v l) (E:l.length≤1099511627776) (I:∀b∈L,b<base):zf L w.heap v l :=
 QX h E (λb hb J=>by have:=(Qq h b hb).1;have:=I b J;omega)
def JY (N:Nat) (H:Array Obj) (v:Value) (a:QD):Prop:=∃va vm ve,v=.agg #[va,.int .i64 a.st,vm,ve]∧∀L:LN,(∀b∈L,b<N)→Zq L H va vm ve a
theorem JY.v {N:Nat}{H:Array Obj}{v:Value}{a:QD}(h:JY N H v a) {L:LN}(E:∀b∈L,b<N):QqM L H v a:=let ⟨va,vm,ve,h1,h2⟩:=h;⟨va,vm,ve,h1,h2 L E⟩
theorem JY.ext {N:Nat}{w w':World}{v:Value}{a:QD}(h:JY N w.heap v a) (hs:Step [] w w'):JY N w'.heap v a:=let ⟨va,vm,ve,h1,h2⟩:=h;⟨va,vm,ve,h1,λL E=>(h2 L E).ext hs⟩
theorem JY.mono {N M:Nat}{H:Array Obj}{v:Value}{a:QD}(h:JY N H v a) (E:M≤N):JY M H v a:=let ⟨va,vm,ve,h1,h2⟩:=h;⟨va,vm,ve,h1,λL I=>h2 L (λb hb=>Mc (I b hb) E)⟩
section
variable {P:Program} {K:Fr→World→Prop} {f:Fr} {w:World} {d:Option Nat} {ty:Nat} {ps:String} {af:Array Edge} {gd:Option (Nat×Bool)}
theorem Vq {t:Nat}[X7 P t] {x:Operand}{b T i:Nat}{l:LI}(h:QT w.heap b T (l.map (.int .i64))) (hx:ev f x=.pointer (some ⟨b,0+i*1,none⟩)) (hi:i<l.length) :
  (execOp (ev f) ⟨d,.load t x,ty,ps,af,gd⟩).run P w=.ok (.value (.int .i64 l[i])) w:=Qd h hx (by simp[hi])
theorem Jr {t:Nat}[h1:X7 P t] {x y:Operand}{b T i:Nat}{l:LI}{u:Int}(E:QT w.heap b T (l.map (.int .i64))) (hx:ev f x=.pointer (some ⟨b,0+i*1,none⟩)) (hy:ev f y=.int .i64 u) (hi:i<l.length)
  (I:∀w',Step [b] w w'→QT w'.heap b T ((l.set i u).map (.int .i64))→K (QV f d undef) w'):XO P ⟨d,.store t x y,ty,ps,af,gd⟩ f w K:=by
 refine QF E hx hy (by simpa using hi) rfl λw' hs J=>I w' hs ?_;rw[Nu];simpa using J
end
theorem Qcc (n:Nat) (u:Value):(List.replicate n [u]).flatten=List.replicate n u:=by
 induction n with
 | zero=>rfl
 | succ n ih=>simp[List.replicate_succ,ih]
end Go.Lg
namespace Go.Proofs
open Go.Proofs.Tryz
open Go.Lg
instance:Sl prog 27 94 28 28 (.agg #[.int .u8 0,.int .u8 0,.int .u8 0,.int .u8 0,.int .u8 0,.int .u8 0,.int .u8 0,.int .u8 0,.int .u8 0,.int .u8 0,.int .u8 0,.int .u8 0,.int .u8 0,.int .u8 0,.int .u8 0,.int .u8 0,.int .u8 0,.int .u8 0,.int .u8 0,.int .u8 0,.int .u8 0,.int .u8 0,.int .u8 0,.int .u8 0,.int .u8 0,.int .u8 0,.int .u8 0,.int .u8 0]):=⟨underlying27,by kernel_rfl,Z,by decide⟩
instance:Sl prog 32 89 5 32 (.agg #[.string ByteArray.empty,.bool false,.bool false,.bool false,.int .i64 0]):=⟨underlying32,by kernel_rfl,Z,by decide⟩
instance:Sl prog 33 92 5 96 (.agg #[.string ByteArray.empty,nS,.int .i64 0,nS,nS]):=⟨underlying33,by kernel_rfl,Z,by decide⟩
instance:Sl prog 34 99 2 40 (.agg #[.string ByteArray.empty,nS]):=⟨underlying34,by kernel_rfl,Z,by decide⟩
instance:Sl prog 35 153 3 48 (.agg #[.string ByteArray.empty,nS,.int .i64 0]):=⟨underlying35,by kernel_rfl,Z,by decide⟩
instance:Sl prog 39 3 1 8 (.int .i64 0):=⟨underlying39,by kernel_rfl,Z,by decide⟩
instance:Sl prog 48 129 3 24 (.agg #[.int .i64 0,.int .i64 0,.int .i64 0]):=⟨underlying48,by kernel_rfl,Z,by decide⟩
instance:Sl prog 53 39 1 24 (nS):=⟨underlying53,by kernel_rfl,Z,by decide⟩
instance:Sl prog 56 50 4 80 (.agg #[nS,.int .i64 0,nS,nS]):=⟨underlying56,by kernel_rfl,Z,by decide⟩
instance:Sl prog 87 5 1 1 (.int .u8 0):=⟨underlying87,by kernel_rfl,Z,by decide⟩
instance:Sl prog 97 101 2 16 (.agg #[.int .i64 0,.int .i64 0]):=⟨underlying97,by kernel_rfl,Z,by decide⟩
instance:Sl prog 113 190 4 32 (.agg #[.int .i64 0,.int .i64 0,.int .i64 0,.int .i64 0]):=⟨underlying113,by kernel_rfl,Z,by decide⟩
instance:Sl prog 116 269 4 32 (.agg #[.int .i64 0,.int .i64 0,.int .i64 0,.int .i64 0]):=⟨underlying116,by kernel_rfl,Z,by decide⟩
instance:Sl prog 131 135 3 40 (.agg #[.int .i64 0,.int .i64 0,nS]):=⟨underlying131,by kernel_rfl,Z,by decide⟩
instance:Sl prog 151 155 2 16 (.agg #[.int .i64 0,.int .i64 0]):=⟨underlying151,by kernel_rfl,Z,by decide⟩
instance:Sl prog 175 4 1 1 (.bool false):=⟨underlying175,by kernel_rfl,Z,by decide⟩
instance:Sl prog 196 200 3 24 (.agg #[.int .i64 0,.int .i64 0,.nilFunc]):=⟨underlying196,by kernel_rfl,Z,by decide⟩
instance:Sl prog 205 202 1 2 (.int .u16 0):=⟨underlying205,by kernel_rfl,Z,by decide⟩
instance:Sl prog 213 217 1 8 (.map none):=⟨underlying213,by kernel_rfl,Z,by decide⟩
instance:Sl prog 244 243 3 24 (.agg #[.int .i64 0,.int .i64 0,.int .i64 0]):=⟨underlying244,by kernel_rfl,Z,by decide⟩
instance:Sl prog 253 252 4 32 (.agg #[.int .i64 0,.int .i64 0,.int .i64 0,.int .i64 0]):=⟨underlying253,by kernel_rfl,Z,by decide⟩
instance:Sl prog 311 339 1 8 (.nilFunc):=⟨underlying311,by kernel_rfl,Z,by decide⟩
instance:Sl prog 315 48 1 24 (nS):=⟨underlying315,by kernel_rfl,Z,by decide⟩
instance:Sl prog 320 319 2 32 (.agg #[nS,.int .i64 0]):=⟨underlying320,by kernel_rfl,Z,by decide⟩
instance:Za prog 25 0 0:=⟨by kernel_rfl⟩
instance:Za prog 25 1 1:=⟨by kernel_rfl⟩
instance:Za prog 25 2 2:=⟨by kernel_rfl⟩
instance:Za prog 30 0 0:=⟨by kernel_rfl⟩
instance:Za prog 30 1 81:=⟨by kernel_rfl⟩
instance:Za prog 30 2 82:=⟨by kernel_rfl⟩
instance:Za prog 30 3 83:=⟨by kernel_rfl⟩
instance:Za prog 30 4 85:=⟨by kernel_rfl⟩
instance:Za prog 37 0 0:=⟨by kernel_rfl⟩
instance:Za prog 37 1 1:=⟨by kernel_rfl⟩
instance:Za prog 37 2 2:=⟨by kernel_rfl⟩
instance:Za prog 37 3 3:=⟨by kernel_rfl⟩
instance:Za prog 37 4 4:=⟨by kernel_rfl⟩
instance:Za prog 41 0 0:=⟨by kernel_rfl⟩
instance:Za prog 41 1 1:=⟨by kernel_rfl⟩
instance:Za prog 41 2 2:=⟨by kernel_rfl⟩
instance:Za prog 41 3 3:=⟨by kernel_rfl⟩
instance:Za prog 41 4 4:=⟨by kernel_rfl⟩
instance:Za prog 41 5 5:=⟨by kernel_rfl⟩
instance:Za prog 41 6 6:=⟨by kernel_rfl⟩
instance:Za prog 41 7 7:=⟨by kernel_rfl⟩
instance:Za prog 50 0 0:=⟨by kernel_rfl⟩
instance:Za prog 50 1 1:=⟨by kernel_rfl⟩
instance:Za prog 50 2 2:=⟨by kernel_rfl⟩
instance:Za prog 50 3 3:=⟨by kernel_rfl⟩
instance:Za prog 89 0 0:=⟨by kernel_rfl⟩
instance:Za prog 89 1 1:=⟨by kernel_rfl⟩
instance:Za prog 89 2 2:=⟨by kernel_rfl⟩
instance:Za prog 89 4 4:=⟨by kernel_rfl⟩
instance:Za prog 92 0 0:=⟨by kernel_rfl⟩
instance:Za prog 92 1 1:=⟨by kernel_rfl⟩
instance:Za prog 94 0 0:=⟨by kernel_rfl⟩
instance:Za prog 94 1 1:=⟨by kernel_rfl⟩
instance:Za prog 99 0 0:=⟨by kernel_rfl⟩
instance:Za prog 99 1 1:=⟨by kernel_rfl⟩
instance:Za prog 101 0 0:=⟨by kernel_rfl⟩
instance:Za prog 101 1 1:=⟨by kernel_rfl⟩
instance:Za prog 103 0 0:=⟨by kernel_rfl⟩
instance:Za prog 103 1 1:=⟨by kernel_rfl⟩
instance:Za prog 103 2 5:=⟨by kernel_rfl⟩
instance:Za prog 115 0 0:=⟨by kernel_rfl⟩
instance:Za prog 115 1 4:=⟨by kernel_rfl⟩
instance:Za prog 115 2 5:=⟨by kernel_rfl⟩
instance:Za prog 115 3 6:=⟨by kernel_rfl⟩
instance:Za prog 115 4 7:=⟨by kernel_rfl⟩
instance:Za prog 118 0 0:=⟨by kernel_rfl⟩
instance:Za prog 118 1 1:=⟨by kernel_rfl⟩
instance:Za prog 118 2 2:=⟨by kernel_rfl⟩
instance:Za prog 120 0 0:=⟨by kernel_rfl⟩
instance:Za prog 120 1 3:=⟨by kernel_rfl⟩
instance:Za prog 120 2 4:=⟨by kernel_rfl⟩
instance:Za prog 120 3 8:=⟨by kernel_rfl⟩
instance:Za prog 129 0 0:=⟨by kernel_rfl⟩
instance:Za prog 129 1 1:=⟨by kernel_rfl⟩
instance:Za prog 129 2 2:=⟨by kernel_rfl⟩
instance:Za prog 135 0 0:=⟨by kernel_rfl⟩
instance:Za prog 135 1 1:=⟨by kernel_rfl⟩
instance:Za prog 135 2 2:=⟨by kernel_rfl⟩
instance:Za prog 153 0 0:=⟨by kernel_rfl⟩
instance:Za prog 153 1 1:=⟨by kernel_rfl⟩
instance:Za prog 153 2 2:=⟨by kernel_rfl⟩
instance:Za prog 155 0 0:=⟨by kernel_rfl⟩
instance:Za prog 155 1 1:=⟨by kernel_rfl⟩
instance:Za prog 171 0 0:=⟨by kernel_rfl⟩
instance:Za prog 171 1 4:=⟨by kernel_rfl⟩
instance:Za prog 190 0 0:=⟨by kernel_rfl⟩
instance:Za prog 200 0 0:=⟨by kernel_rfl⟩
instance:Za prog 200 1 1:=⟨by kernel_rfl⟩
instance:Za prog 200 2 2:=⟨by kernel_rfl⟩
instance:Za prog 215 0 0:=⟨by kernel_rfl⟩
instance:Za prog 215 1 1:=⟨by kernel_rfl⟩
instance:Za prog 215 2 2:=⟨by kernel_rfl⟩
instance:Za prog 240 0 0:=⟨by kernel_rfl⟩
instance:Za prog 240 1 1:=⟨by kernel_rfl⟩
instance:Za prog 240 2 2:=⟨by kernel_rfl⟩
instance:Za prog 243 0 0:=⟨by kernel_rfl⟩
instance:Za prog 243 1 1:=⟨by kernel_rfl⟩
instance:Za prog 243 2 2:=⟨by kernel_rfl⟩
instance:Za prog 250 0 0:=⟨by kernel_rfl⟩
instance:Za prog 250 1 1:=⟨by kernel_rfl⟩
instance:Za prog 250 2 2:=⟨by kernel_rfl⟩
instance:Za prog 252 0 0:=⟨by kernel_rfl⟩
instance:Za prog 252 1 2:=⟨by kernel_rfl⟩
instance:Za prog 252 2 3:=⟨by kernel_rfl⟩
instance:Za prog 259 0 0:=⟨by kernel_rfl⟩
instance:Za prog 259 1 5:=⟨by kernel_rfl⟩
instance:Za prog 259 2 9:=⟨by kernel_rfl⟩
instance:Za prog 259 3 10:=⟨by kernel_rfl⟩
instance:Za prog 259 4 14:=⟨by kernel_rfl⟩
instance:Za prog 259 5 15:=⟨by kernel_rfl⟩
instance:Za prog 259 6 18:=⟨by kernel_rfl⟩
instance:Za prog 269 0 0:=⟨by kernel_rfl⟩
instance:Za prog 273 0 0:=⟨by kernel_rfl⟩
instance:Za prog 273 1 4:=⟨by kernel_rfl⟩
instance:Za prog 273 2 5:=⟨by kernel_rfl⟩
instance:Za prog 273 3 6:=⟨by kernel_rfl⟩
instance:Za prog 281 0 0:=⟨by kernel_rfl⟩
instance:Za prog 281 1 1:=⟨by kernel_rfl⟩
instance:Za prog 281 2 2:=⟨by kernel_rfl⟩
instance:Za prog 281 3 3:=⟨by kernel_rfl⟩
instance:Za prog 292 0 0:=⟨by kernel_rfl⟩
instance:Za prog 292 1 1:=⟨by kernel_rfl⟩
instance:Za prog 319 0 0:=⟨by kernel_rfl⟩
instance:Za prog 319 1 1:=⟨by kernel_rfl⟩
instance:X7 prog 3:=⟨⟨_,underlying3,Z⟩,by kernel_rfl⟩
instance:X7 prog 4:=⟨⟨_,underlying4,Z⟩,by kernel_rfl⟩
instance:X7 prog 5:=⟨⟨_,underlying5,Z⟩,by kernel_rfl⟩
instance:X7 prog 9:=⟨⟨_,underlying9,Z⟩,by kernel_rfl⟩
instance:X7 prog 27:=⟨⟨_,underlying27,Z⟩,by kernel_rfl⟩
instance:X7 prog 32:=⟨⟨_,underlying32,Z⟩,by kernel_rfl⟩
instance:X7 prog 33:=⟨⟨_,underlying33,Z⟩,by kernel_rfl⟩
instance:X7 prog 34:=⟨⟨_,underlying34,Z⟩,by kernel_rfl⟩
instance:X7 prog 35:=⟨⟨_,underlying35,Z⟩,by kernel_rfl⟩
instance:X7 prog 39:=⟨⟨_,underlying39,Z⟩,by kernel_rfl⟩
instance:X7 prog 42:=⟨⟨_,underlying42,Z⟩,by kernel_rfl⟩
instance:X7 prog 48:=⟨⟨_,underlying48,Z⟩,by kernel_rfl⟩
instance:X7 prog 53:=⟨⟨_,underlying53,Z⟩,by kernel_rfl⟩
instance:X7 prog 56:=⟨⟨_,underlying56,Z⟩,by kernel_rfl⟩
instance:X7 prog 65:=⟨⟨_,underlying65,Z⟩,by kernel_rfl⟩
instance:X7 prog 87:=⟨⟨_,underlying87,Z⟩,by kernel_rfl⟩
instance:X7 prog 97:=⟨⟨_,underlying97,Z⟩,by kernel_rfl⟩
instance:X7 prog 113:=⟨⟨_,underlying113,Z⟩,by kernel_rfl⟩
instance:X7 prog 116:=⟨⟨_,underlying116,Z⟩,by kernel_rfl⟩
instance:X7 prog 151:=⟨⟨_,underlying151,Z⟩,by kernel_rfl⟩
instance:X7 prog 175:=⟨⟨_,underlying175,Z⟩,by kernel_rfl⟩
instance:X7 prog 178:=⟨⟨_,underlying178,Z⟩,by kernel_rfl⟩
instance:X7 prog 180:=⟨⟨_,underlying180,Z⟩,by kernel_rfl⟩
instance:X7 prog 198:=⟨⟨_,underlying198,Z⟩,by kernel_rfl⟩
instance:X7 prog 202:=⟨⟨_,underlying202,Z⟩,by kernel_rfl⟩
instance:X7 prog 213:=⟨⟨_,underlying213,Z⟩,by kernel_rfl⟩
instance:X7 prog 217:=⟨⟨_,underlying217,Z⟩,by kernel_rfl⟩
instance:X7 prog 233:=⟨⟨_,underlying233,Z⟩,by kernel_rfl⟩
instance:X7 prog 244:=⟨⟨_,underlying244,Z⟩,by kernel_rfl⟩
instance:X7 prog 248:=⟨⟨_,underlying248,Z⟩,by kernel_rfl⟩
instance:X7 prog 255:=⟨⟨_,underlying255,Z⟩,by kernel_rfl⟩
instance:X7 prog 271:=⟨⟨_,underlying271,Z⟩,by kernel_rfl⟩
instance:X7 prog 290:=⟨⟨_,underlying290,Z⟩,by kernel_rfl⟩
instance:X7 prog 339:=⟨⟨_,underlying339,Z⟩,by kernel_rfl⟩
instance:Ag prog 25 27:=⟨⟨_,underlying25,Z⟩,by kernel_rfl⟩
instance:Ag prog 30 86:=⟨⟨_,underlying30,Z⟩,by kernel_rfl⟩
instance:Ag prog 37 5:=⟨⟨_,underlying37,Z⟩,by kernel_rfl⟩
instance:Ag prog 41 8:=⟨⟨_,underlying41,Z⟩,by kernel_rfl⟩
instance:Ag prog 50 4:=⟨⟨_,underlying50,Z⟩,by kernel_rfl⟩
instance:Ag prog 89 5:=⟨⟨_,underlying89,Z⟩,by kernel_rfl⟩
instance:Ag prog 92 5:=⟨⟨_,underlying92,Z⟩,by kernel_rfl⟩
instance:Ag prog 99 2:=⟨⟨_,underlying99,Z⟩,by kernel_rfl⟩
instance:Ag prog 101 2:=⟨⟨_,underlying101,Z⟩,by kernel_rfl⟩
instance:Ag prog 103 6:=⟨⟨_,underlying103,Z⟩,by kernel_rfl⟩
instance:Ag prog 115 8:=⟨⟨_,underlying115,Z⟩,by kernel_rfl⟩
instance:Ag prog 120 9:=⟨⟨_,underlying120,Z⟩,by kernel_rfl⟩
instance:Ag prog 129 3:=⟨⟨_,underlying129,Z⟩,by kernel_rfl⟩
instance:Ag prog 135 3:=⟨⟨_,underlying135,Z⟩,by kernel_rfl⟩
instance:Ag prog 153 3:=⟨⟨_,underlying153,Z⟩,by kernel_rfl⟩
instance:Ag prog 155 2:=⟨⟨_,underlying155,Z⟩,by kernel_rfl⟩
instance:Ag prog 171 5:=⟨⟨_,underlying171,Z⟩,by kernel_rfl⟩
instance:Ag prog 184 2:=⟨⟨_,underlying184,Z⟩,by kernel_rfl⟩
instance:Ag prog 190 4:=⟨⟨_,underlying190,Z⟩,by kernel_rfl⟩
instance:Ag prog 200 3:=⟨⟨_,underlying200,Z⟩,by kernel_rfl⟩
instance:Ag prog 215 3:=⟨⟨_,underlying215,Z⟩,by kernel_rfl⟩
instance:Ag prog 240 3:=⟨⟨_,underlying240,Z⟩,by kernel_rfl⟩
instance:Ag prog 269 4:=⟨⟨_,underlying269,Z⟩,by kernel_rfl⟩
instance:Ag prog 281 4:=⟨⟨_,underlying281,Z⟩,by kernel_rfl⟩
instance:Ag prog 319 2:=⟨⟨_,underlying319,Z⟩,by kernel_rfl⟩
instance:Ze prog 3 (.int .i64 0):=⟨by kernel_rfl⟩
instance:Ze prog 4 (.bool false):=⟨by kernel_rfl⟩
instance:Ze prog 25 (.agg #[.int .u8 0,.int .u8 0,.int .u8 0,.int .u8 0,.int .u8 0,.int .u8 0,.int .u8 0,.int .u8 0,.int .u8 0,.int .u8 0,.int .u8 0,.int .u8 0,.int .u8 0,.int .u8 0,.int .u8 0,.int .u8 0,.int .u8 0,.int .u8 0,.int .u8 0,.int .u8 0,.int .u8 0,.int .u8 0,.int .u8 0,.int .u8 0,.int .u8 0,.int .u8 0,.int .u8 0]):=⟨by kernel_rfl⟩
instance:Ze prog 37 (.agg #[nS,nS,nS,nS,nS]):=⟨by kernel_rfl⟩
instance:Ze prog 41 (.agg #[.bool false,.int .i64 0,.int .i64 0,.int .i64 0,.bool false,nS,nS,.int .i64 0]):=⟨by kernel_rfl⟩
instance:Ze prog 42 (.int .i64 0):=⟨by kernel_rfl⟩
instance:Ze prog 50 (.agg #[nS,.int .i64 0,nS,nS]):=⟨by kernel_rfl⟩
instance:Ze prog 89 (.agg #[.string ByteArray.empty,.bool false,.bool false,.bool false,.int .i64 0]):=⟨by kernel_rfl⟩
instance:Ze prog 92 (.agg #[.string ByteArray.empty,nS,.int .i64 0,nS,nS]):=⟨by kernel_rfl⟩
instance:Ze prog 99 (.agg #[.string ByteArray.empty,nS]):=⟨by kernel_rfl⟩
instance:Ze prog 101 (.agg #[.int .i64 0,.int .i64 0]):=⟨by kernel_rfl⟩
instance:Ze prog 103 (.agg #[nS,nS,.int .i64 0,nS,nS,nS]):=⟨by kernel_rfl⟩
instance:Ze prog 115 (.agg #[nS,.int .i64 0,nS,nS,nS,nS,nS,nS]):=⟨by kernel_rfl⟩
instance:Ze prog 120 (.agg #[nS,nS,nS,.int .i64 0,nS,.int .i64 0,nS,nS,nS]):=⟨by kernel_rfl⟩
instance:Ze prog 129 (.agg #[.int .i64 0,.int .i64 0,.int .i64 0]):=⟨by kernel_rfl⟩
instance:Ze prog 135 (.agg #[.int .i64 0,.int .i64 0,nS]):=⟨by kernel_rfl⟩
instance:Ze prog 153 (.agg #[.string ByteArray.empty,nS,.int .i64 0]):=⟨by kernel_rfl⟩
instance:Ze prog 155 (.agg #[.int .i64 0,.int .i64 0]):=⟨by kernel_rfl⟩
instance:Ze prog 171 (.agg #[nS,.int .i64 0,nS,nS,nS]):=⟨by kernel_rfl⟩
instance:Ze prog 175 (nS):=⟨by kernel_rfl⟩
instance:Ze prog 180 (.pointer none):=⟨by kernel_rfl⟩
instance:Ze prog 184 (.agg #[.int .i64 0,.int .i64 0]):=⟨by kernel_rfl⟩
instance:Ze prog 190 (.agg #[.int .i64 0,.int .i64 0,.int .i64 0,.int .i64 0]):=⟨by kernel_rfl⟩
instance:Ze prog 200 (.agg #[.int .i64 0,.int .i64 0,.nilFunc]):=⟨by kernel_rfl⟩
instance:Ze prog 215 (.agg #[nS,nS,nS]):=⟨by kernel_rfl⟩
instance:Ze prog 240 (.agg #[nS,nS,nS]):=⟨by kernel_rfl⟩
instance:Ze prog 244 (nS):=⟨by kernel_rfl⟩
instance:Ze prog 269 (.agg #[.int .i64 0,.int .i64 0,.int .i64 0,.int .i64 0]):=⟨by kernel_rfl⟩
instance:Ze prog 281 (.agg #[nS,nS,nS,nS]):=⟨by kernel_rfl⟩
instance:Ze prog 292 (.agg #[.pointer none,nS]):=⟨by kernel_rfl⟩
instance:Ze prog 319 (.agg #[nS,.int .i64 0]):=⟨by kernel_rfl⟩
instance:Bs prog 37 [nS,nS,nS,nS,nS] [0,1,2,3,4]:=⟨by kernel_rfl,by decide⟩
instance:Bs prog 41 [.bool false,.int .i64 0,.int .i64 0,.int .i64 0,.bool false,nS,nS,.int .i64 0] [0,1,2,3,4,5,6,7]:=⟨by kernel_rfl,by decide⟩
instance:Bs prog 50 [nS,.int .i64 0,nS,nS] [0,1,2,3]:=⟨by kernel_rfl,by decide⟩
instance:Bs prog 89 [.string ByteArray.empty,.bool false,.bool false,.bool false,.int .i64 0] [0,1,2,3,4]:=⟨by kernel_rfl,by decide⟩
instance:Bs prog 99 [.string ByteArray.empty,nS] [0,1]:=⟨by kernel_rfl,by decide⟩
instance:Bs prog 101 [.int .i64 0,.int .i64 0] [0,1]:=⟨by kernel_rfl,by decide⟩
instance:Bs prog 129 [.int .i64 0,.int .i64 0,.int .i64 0] [0,1,2]:=⟨by kernel_rfl,by decide⟩
instance:Bs prog 135 [.int .i64 0,.int .i64 0,nS] [0,1,2]:=⟨by kernel_rfl,by decide⟩
instance:Bs prog 153 [.string ByteArray.empty,nS,.int .i64 0] [0,1,2]:=⟨by kernel_rfl,by decide⟩
instance:Bs prog 155 [.int .i64 0,.int .i64 0] [0,1]:=⟨by kernel_rfl,by decide⟩
instance:Bs prog 173 [nS,nS] [0,1]:=⟨by kernel_rfl,by decide⟩
instance:Bs prog 183 [.int .i64 0,.int .i64 0] [0,1]:=⟨by kernel_rfl,by decide⟩
instance:Bs prog 184 [.int .i64 0,.int .i64 0] [0,1]:=⟨by kernel_rfl,by decide⟩
instance:Bs prog 190 [.int .i64 0,.int .i64 0,.int .i64 0,.int .i64 0] [0,1,2,3]:=⟨by kernel_rfl,by decide⟩
instance:Bs prog 200 [.int .i64 0,.int .i64 0,.nilFunc] [0,1,2]:=⟨by kernel_rfl,by decide⟩
instance:Bs prog 215 [nS,nS,nS] [0,1,2]:=⟨by kernel_rfl,by decide⟩
instance:Bs prog 240 [nS,nS,nS] [0,1,2]:=⟨by kernel_rfl,by decide⟩
instance:Bs prog 243 [.int .i64 0,.int .i64 0,.int .i64 0] [0,1,2]:=⟨by kernel_rfl,by decide⟩
instance:Bs prog 250 [.map none,.map none,.int .i64 0] [0,1,2]:=⟨by kernel_rfl,by decide⟩
instance:Bs prog 269 [.int .i64 0,.int .i64 0,.int .i64 0,.int .i64 0] [0,1,2,3]:=⟨by kernel_rfl,by decide⟩
instance:Bs prog 281 [nS,nS,nS,nS] [0,1,2,3]:=⟨by kernel_rfl,by decide⟩
instance:Bs prog 319 [nS,.int .i64 0] [0,1]:=⟨by kernel_rfl,by decide⟩
instance:Ik prog 3 .i64:=⟨underlying3⟩
instance:Bk prog 4:=⟨underlying4⟩
instance:Ik prog 5 .u8:=⟨underlying5⟩
instance:St prog 9:=⟨underlying9⟩
instance:Ik prog 218 .u64:=⟨underlying218⟩
instance:S3 prog 129:=⟨⟨_,_,_,underlying129,by decide,by decide,by decide,Z,Z,Z,underlying3,underlying3,underlying3⟩,by kernel_rfl,by kernel_rfl⟩
instance:Mp prog 217 183 3 (.int .i64 0):=⟨underlying217,by kernel_rfl⟩
instance:Key prog 183 Z4:=Qcx underlying183 underlying3 (by kernel_rfl)
instance:Mp prog 224 3 223 (.nilFunc):=⟨underlying224,by kernel_rfl⟩
instance:Key prog 3 JV:=QlM underlying3
instance:Mp prog 233 9 3 (.int .i64 0):=⟨underlying233,by kernel_rfl⟩
instance:Key prog 9 Js:=QlL underlying9
instance:Mp prog 236 9 4 (.bool false):=⟨underlying236,by kernel_rfl⟩
instance:Mp prog 248 3 4 (.bool false):=⟨underlying248,by kernel_rfl⟩
instance:Mp prog 254 184 4 (.bool false):=⟨underlying254,by kernel_rfl⟩
instance:Key prog 184 Z4:=Qcx underlying184 underlying3 (by kernel_rfl)
instance:Mp prog 271 3 39 (nS):=⟨underlying271,by kernel_rfl⟩
instance:Mp prog 316 3 3 (.int .i64 0):=⟨underlying316,by kernel_rfl⟩
instance:Fu prog 8 Tryz.f8:=Zl func8
instance:Fu prog 9 Tryz.f9:=Zl func9
instance:Fu prog 10 Tryz.f10:=Zl func10
instance:Fu prog 11 Tryz.f11:=Zl func11
instance:Fu prog 12 Tryz.f12:=Zl func12
instance:Fu prog 14 Tryz.f14:=Zl func14
instance:Fu prog 16 Tryz.f16:=Zl func16
instance:Fu prog 17 Tryz.f17:=Zl func17
instance:Fu prog 18 Tryz.f18:=Zl func18
instance:Fu prog 28 Tryz.f28:=Zl func28
instance:Fu prog 29 Tryz.f29:=Zl func29
instance:Fu prog 30 Tryz.f30:=Zl func30
instance:Fu prog 31 Tryz.f31:=Zl func31
instance:Fu prog 32 Tryz.f32:=Zl func32
instance:Fu prog 33 Tryz.f33:=Zl func33
instance:Fu prog 34 Tryz.f34:=Zl func34
instance:Fu prog 35 Tryz.f35:=Zl func35
instance:Fu prog 36 Tryz.f36:=Zl func36
instance:Fu prog 37 Tryz.f37:=Zl func37
instance:Fu prog 38 Tryz.f38:=Zl func38
instance:Fu prog 39 Tryz.f39:=Zl func39
instance:Fu prog 40 Tryz.f40:=Zl func40
instance:Fu prog 41 Tryz.f41:=Zl func41
instance:Fu prog 42 Tryz.f42:=Zl func42
instance:Fu prog 43 Tryz.f43:=Zl func43
instance:Fu prog 44 Tryz.f44:=Zl func44
instance:Fu prog 45 Tryz.f45:=Zl func45
instance:Fu prog 46 Tryz.f46:=Zl func46
instance:Fu prog 47 Tryz.f47:=Zl func47
instance:Fu prog 48 Tryz.f48:=Zl func48
instance:Fu prog 49 Tryz.f49:=Zl func49
instance:Fu prog 50 Tryz.f50:=Zl func50
instance:Fu prog 51 Tryz.f51:=Zl func51
instance:Fu prog 52 Tryz.f52:=Zl func52
instance:Fu prog 53 Tryz.f53:=Zl func53
instance:Fu prog 54 Tryz.f54:=Zl func54
instance:Fu prog 55 Tryz.f55:=Zl func55
instance:Fu prog 56 Tryz.f56:=Zl func56
instance:Fu prog 57 Tryz.f57:=Zl func57
instance:Fu prog 65 Tryz.f65:=Zl func65
instance:Fu prog 66 Tryz.f66:=Zl func66
instance:Fu prog 68 Tryz.f68:=Zl func68
instance:Fu prog 69 Tryz.f69:=Zl func69
instance:Fu prog 70 Tryz.f70:=Zl func70
instance:Fu prog 71 Tryz.f71:=Zl func71
instance:Fu prog 72 Tryz.f72:=Zl func72
instance:Fu prog 73 Tryz.f73:=Zl func73
instance:Fu prog 74 Tryz.f74:=Zl func74
instance:Fu prog 75 Tryz.f75:=Zl func75
instance:Fu prog 76 Tryz.f76:=Zl func76
instance:Fu prog 77 Tryz.f77:=Zl func77
instance:Fu prog 78 Tryz.f78:=Zl func78
instance:Fu prog 79 Tryz.f79:=Zl func79
instance:Fu prog 80 Tryz.f80:=Zl func80
instance:Fu prog 81 Tryz.f81:=Zl func81
instance:Fu prog 82 Tryz.f82:=Zl func82
instance:Fu prog 83 Tryz.f83:=Zl func83
instance:Fu prog 84 Tryz.f84:=Zl func84
instance:Fu prog 85 Tryz.f85:=Zl func85
instance:Fu prog 86 Tryz.f86:=Zl func86
instance:Fu prog 87 Tryz.f87:=Zl func87
instance:Fu prog 88 Tryz.f88:=Zl func88
instance:Fu prog 89 Tryz.f89:=Zl func89
instance:Fu prog 90 Tryz.f90:=Zl func90
instance:Fu prog 91 Tryz.f91:=Zl func91
instance:Fu prog 92 Tryz.f92:=Zl func92
instance:Fu prog 93 Tryz.f93:=Zl func93
instance:Fu prog 94 Tryz.f94:=Zl func94
instance:Fu prog 95 Tryz.f95:=Zl func95
instance:Fu prog 96 Tryz.f96:=Zl func96
instance:Fu prog 97 Tryz.f97:=Zl func97
instance:Fu prog 98 Tryz.f98:=Zl func98
instance:Fu prog 99 Tryz.f99:=Zl func99
instance:Fu prog 100 Tryz.f100:=Zl func100
instance:Fu prog 101 Tryz.f101:=Zl func101
instance:Fu prog 102 Tryz.f102:=Zl func102
instance:Fu prog 103 Tryz.f103:=Zl func103
instance:Fu prog 104 Tryz.f104:=Zl func104
instance:Fu prog 105 Tryz.f105:=Zl func105
instance:Fu prog 106 Tryz.f106:=Zl func106
instance:Fu prog 107 Tryz.f107:=Zl func107
instance:Fu prog 108 Tryz.f108:=Zl func108
instance:Fu prog 111 Tryz.f111:=Zl func111
instance:Fu prog 113 Tryz.f113:=Zl func113
instance:Fu prog 115 Tryz.f115:=Zl func115
instance:Fu prog 120 Tryz.f120:=Zl func120
instance:Fu prog 121 Tryz.f121:=Zl func121
instance:Fu prog 125 Tryz.f125:=Zl func125
instance:Fu prog 126 Tryz.f126:=Zl func126
instance:Fu prog 127 Tryz.f127:=Zl func127
instance:Fu prog 128 Tryz.f128:=Zl func128
instance:Fu prog 129 Tryz.f129:=Zl func129
instance:Fu prog 130 Tryz.f130:=Zl func130
instance:Fu prog 131 Tryz.f131:=Zl func131
instance:Fu prog 132 Tryz.f132:=Zl func132
instance:Fu prog 133 Tryz.f133:=Zl func133
instance:Fu prog 134 Tryz.f134:=Zl func134
instance:Fu prog 135 Tryz.f135:=Zl func135
instance:Fu prog 136 Tryz.f136:=Zl func136
instance:Fu prog 137 Tryz.f137:=Zl func137
instance:Fu prog 138 Tryz.f138:=Zl func138
instance:Fu prog 139 Tryz.f139:=Zl func139
instance:Fu prog 140 Tryz.f140:=Zl func140
instance:Fu prog 141 Tryz.f141:=Zl func141
instance:Fu prog 142 Tryz.f142:=Zl func142
instance:Fu prog 143 Tryz.f143:=Zl func143
instance:Fu prog 144 Tryz.f144:=Zl func144
instance:Fu prog 145 Tryz.f145:=Zl func145
instance:Fu prog 146 Tryz.f146:=Zl func146
instance:Fu prog 147 Tryz.f147:=Zl func147
instance:Fu prog 148 Tryz.f148:=Zl func148
instance:Fu prog 150 Tryz.f150:=Zl func150
instance:Fu prog 151 Tryz.f151:=Zl func151
instance:Fu prog 152 Tryz.f152:=Zl func152
instance:Fu prog 153 Tryz.f153:=Zl func153
instance:Fu prog 154 Tryz.f154:=Zl func154
instance:Fu prog 155 Tryz.f155:=Zl func155
instance:Fu prog 156 Tryz.f156:=Zl func156
instance:Fu prog 157 Tryz.f157:=Zl func157
instance:Fu prog 158 Tryz.f158:=Zl func158
instance:Fu prog 159 Tryz.f159:=Zl func159
instance:Fu prog 160 Tryz.f160:=Zl func160
instance:Fu prog 161 Tryz.f161:=Zl func161
instance:Fu prog 162 Tryz.f162:=Zl func162
instance:Fu prog 163 Tryz.f163:=Zl func163
instance:Fu prog 166 Tryz.f166:=Zl func166
instance:Fu prog 167 Tryz.f167:=Zl func167
instance:Fu prog 168 Tryz.f168:=Zl func168
instance:Fu prog 169 Tryz.f169:=Zl func169
instance:Fu prog 170 Tryz.f170:=Zl func170
instance:Fu prog 171 Tryz.f171:=Zl func171
instance:Fu prog 172 Tryz.f172:=Zl func172
instance:Fu prog 173 Tryz.f173:=Zl func173
instance:Fu prog 174 Tryz.f174:=Zl func174
instance:Fu prog 175 Tryz.f175:=Zl func175
instance:Fu prog 176 Tryz.f176:=Zl func176
instance:Fu prog 177 Tryz.f177:=Zl func177
instance:Fu prog 178 Tryz.f178:=Zl func178
instance:Fu prog 179 Tryz.f179:=Zl func179
instance:Fu prog 180 Tryz.f180:=Zl func180
instance:Fu prog 181 Tryz.f181:=Zl func181
instance:Fu prog 182 Tryz.f182:=Zl func182
instance:Fu prog 183 Tryz.f183:=Zl func183
instance:Fu prog 184 Tryz.f184:=Zl func184
instance:Fu prog 185 Tryz.f185:=Zl func185
instance:Fu prog 186 Tryz.f186:=Zl func186
instance:Fu prog 187 Tryz.f187:=Zl func187
instance:Fu prog 188 Tryz.f188:=Zl func188
instance:Fu prog 189 Tryz.f189:=Zl func189
instance:Fu prog 190 Tryz.f190:=Zl func190
instance:Fu prog 191 Tryz.f191:=Zl func191
instance:Fu prog 193 Tryz.f193:=Zl func193
instance:Fu prog 194 Tryz.f194:=Zl func194
instance:Fu prog 195 Tryz.f195:=Zl func195
instance:Fu prog 196 Tryz.f196:=Zl func196
instance:Fu prog 197 Tryz.f197:=Zl func197
instance:Fu prog 198 Tryz.f198:=Zl func198
instance:Fu prog 209 Tryz.f209:=Zl func209
instance:Fu prog 211 Tryz.f211:=Zl func211
instance:Fu prog 212 Tryz.f212:=Zl func212
instance:Fu prog 213 Tryz.f213:=Zl func213
instance:Fu prog 214 Tryz.f214:=Zl func214
instance:Fu prog 215 Tryz.f215:=Zl func215
instance:Fu prog 216 Tryz.f216:=Zl func216
instance:Fu prog 217 Tryz.f217:=Zl func217
instance:Fu prog 218 Tryz.f218:=Zl func218
instance:Fu prog 219 Tryz.f219:=Zl func219
instance:Fu prog 228 Tryz.f228:=Zl func228
instance:Fu prog 229 Tryz.f229:=Zl func229
instance:Fu prog 237 Tryz.f237:=Zl func237
instance:Fu prog 238 Tryz.f238:=Zl func238
instance:Fu prog 239 Tryz.f239:=Zl func239
instance:Fu prog 240 Tryz.f240:=Zl func240
instance:Fu prog 241 Tryz.f241:=Zl func241
instance:Fu prog 242 Tryz.f242:=Zl func242
instance:Fu prog 251 Tryz.f251:=Zl func251
theorem mixed:prog.follows .mixedOrders=true:=by kernel_rfl
end Go.Proofs
namespace Go.Proofs.YtjcgijbhaemldaaGreatDoor
open Go.Lg
def nxt (es:List Ed) (s e:Int):Int:=match es with
 | []=>-1
 | x::es=>if x.1=s∧x.2.1=e then x.2.2 else nxt es s e
abbrev Z8 (l:LI):Prop:=l.Pairwise (·<·)
def zX:Option Int→Int→Bool
 | none,_=>false
 | some b,a=>decide (a≤b)
def YV (n:Int):Option Int→LI→Int
 | _,[]=>0
 | pr,a::l=>if a<0∨n≤a then 2 else if zX pr a=true then 5 else YV n (some a) l
def pv {α:Type}(l:List α) (k:Nat):Option α:=if k=0 then none else l[k - 1]?
theorem Kh {α:Type}{l:List α}{k:Nat}(h:k<l.length):pv l (k+1)=some l[k]:=by simp[pv,h]
def edO:Option Ed→Ed→Bool
 | none,_=>false
 | some y,a=>decide (a.1<y.1∨(a.1=y.1∧a.2.1≤y.2.1))
def ckE (al:LI) (st:Int):Option Ed→List Ed→Int
 | _,[]=>0
 | pr,a::l=>if a.1<0∨st≤a.1∨a.2.2<0∨st≤a.2.2 then 2 else if a.2.1∉al then 9 else if edO pr a=true then 5 else ckE al st (some a) l
def XM (a:QD):Int :=
 if YV 32 none a.al≠0 then YV 32 none a.al else if a.st<0 then 2 else if 4096<a.st then 3 else if YV a.st none a.mr≠0 then YV a.st none a.mr else ckE a.al a.st none a.ed
def Jg:LI→LI→Bool
 | [],_=>false
 | _::_,[]=>true
 | a::_,b::_=>decide (a≤b)
def tl (c:Bool) (l:LI):LI:=bif c then l.tail else l
def hx (a b:LI):Int:=bif Jg b a then b.headD 0 else a.headD 0
def je (keep:Bool→Bool→Bool):Nat→LI→LI→LI
 | 0,_,_=>[]
 | n+1,a,b=>if a=[]∧b=[] then [] else (bif keep (Jg a b) (Jg b a) then [hx a b] else [])++je keep n (tl (Jg a b) a) (tl (Jg b a) b)
def mrg (keep:Bool→Bool→Bool) (a b:LI):LI:=je keep (a.length+b.length) a b
theorem ya {a b:LI}(h:¬(a=[]∧b=[])):(tl (Jg a b) a).length+(tl (Jg b a) b).length<a.length+b.length:=by
 cases a with
 | nil=>cases b with
  | nil=>simp at h
  | cons y b=>simp[Jg,tl]
 | cons x a=>cases b with
  | nil=>simp[Jg,tl]
  | cons y b =>
   simp only[Jg,tl];by_cases h1:x≤y <;> by_cases h2:y≤x <;> simp[h1,h2] <;> omega
theorem jH (keep:Bool→Bool→Bool):∀(n:Nat) (a b:LI),a.length+b.length≤n→je keep n a b=mrg keep a b:=by
 have key:∀(n m:Nat) (a b:LI),a.length+b.length≤n→a.length+b.length≤m→je keep n a b=je keep m a b:=by
  intro n;induction n with
  | zero =>
   intro m a b h1 _;have ha:a=[]:=Lt (by omega);have hb:b=[]:=Lt (by omega);subst ha hb;cases m <;> simp[je]
  | succ n ih =>
   intro m a b h1 h2;by_cases h:a=[]∧b=[]
   ·obtain ⟨rfl,rfl⟩:=h;cases m <;> simp[je]
   have E:=ya h;cases m with
   | zero=>omega
   | succ m=>rw[je,je,if_neg h,if_neg h,ih m _ _ (by omega) (by omega)]
 intro n a b h;exact key n _ a b h (Lv _)
theorem Kk (keep:Bool→Bool→Bool):mrg keep [] []=[]:=rfl
theorem J5 (keep:Bool→Bool→Bool) {a b:LI}(h:¬(a=[]∧b=[])) :
  mrg keep a b=(bif keep (Jg a b) (Jg b a) then [hx a b] else [])++mrg keep (tl (Jg a b) a) (tl (Jg b a) b):=by
 have E:=ya h;rw[←jH keep (a.length+b.length - 1+1) a b (by omega),je,if_neg h,jH keep _ _ _ (by omega)]
theorem Qd1 (keep:Bool→Bool→Bool):∀(n:Nat) (a b:LI),a.length+b.length≤n→(mrg keep a b).length≤a.length+b.length:=by
 intro n;induction n with
 | zero =>
  intro a b h;have ha:a=[]:=Lt (by omega);have hb:b=[]:=Lt (by omega);subst ha hb;simp[Kk]
 | succ n ih =>
  intro a b E;by_cases h:a=[]∧b=[]
  ·obtain ⟨rfl,rfl⟩:=h;simp[Kk]
  have H:=ya h;rw[J5 keep h];have:=ih (tl (Jg a b) a) (tl (Jg b a) b) (by omega);cases keep (Jg a b) (Jg b a) <;> simp <;> omega
theorem Um (keep:Bool→Bool→Bool) (a b:LI):(mrg keep a b).length≤a.length+b.length:=Qd1 keep _ a b (Lv _)
theorem yq {α:Type}(q:α→Bool) (es:List α) (lo hi:Nat) (h1:lo≤hi) (h2:hi≤es.length) (ha:∀m (hm:m<es.length),m<lo→q es[m]=false) (hb:∀m (hm:m<es.length),lo≤m→m<hi→q es[m]=true)
  (hc:∀m (hm:m<es.length),hi≤m→q es[m]=false):(es.drop lo).take (hi - lo)=es.filter q:=by
 have e1:es=es.take lo++((es.drop lo).take (hi - lo)++es.drop hi):=by
  conv=>lhs;rw[←ML lo es]
  congr 1;conv=>lhs;rw[←ML (hi - lo) (es.drop lo)]
  rw[List.drop_drop];congr 2;omega
 have f1:(es.take lo).filter q=[]:=by
  rw[MI];intro a E;obtain ⟨m,hm,rfl⟩:=LB E;rw[LD] at hm;rw[Nb,ha m (by omega) (by omega)];simp
 have f3:(es.drop hi).filter q=[]:=by
  rw[MI];intro a E;obtain ⟨m,hm,rfl⟩:=LB E;rw[Ms] at hm;rw[List.getElem_drop,hc (hi+m) (by omega) (by omega)];simp
 have f2:((es.drop lo).take (hi - lo)).filter q=(es.drop lo).take (hi - lo):=by
  rw[Nm];intro a E;obtain ⟨m,hm,rfl⟩:=LB E;rw[LD,Ms] at hm;rw[Nb,List.getElem_drop];exact hb (lo+m) (by omega) (by omega) (by omega)
 conv=>rhs;rw[e1]
 rw[Mb,Mb,f1,f2,f3];simp
def ZE (es:List Ed) (s:Int):List Ed:=es.filter λe=>decide (e.1=s)
open Go.Proofs.Tryz
theorem Qjb {L:LN}{w:World}{v:Value}{l:LI}(h:QL L w.heap v l) (n:Int) :
  QG prog 97 [v,.int .i64 n] w λr w'=>w'=w∧∃i:Int,r=.int .i64 i∧(0≤i↔n∈l):=by
 have J:=h.le;refine QG.of_W func97 Z ntmps97 results97 (by simp) ?_;refine Qc<|Qf<|Qg<|Qc<|Qb<|x (Qr h Z)<|Qb<|xe<|Qh<|Qz (α:=Nat) [(4,5),(8,18)] (λk=>[(8,.int .i64 k)]) (λk w'=>w'=w∧k≤l.length∧(n∈l↔n∈l.drop k)) (λk=>l.length - k) (by rfl) 0 Lb ⟨Z,Ln _,by simp⟩ ?_;rintro k g U ⟨rfl,hk,hm⟩;refine Qc<|x (QA Z Z)<|xe<|Qg<|QC Z (λh9=>?_) (λh9=>?_)
 ·refine Qy<|Qc<|Qf<|Ql ⟨[.int .i64 (-1)],Lb,Z,-1,Z,?_⟩;rw[Lx (by omega)] at hm;simp[hm]
 have H:k<l.length:=by omega
 have hd:=Q7 H;refine Qi<|Qg<|Qh<|Qc<|Qb<|Qf<|Qc<|Qb<|Qb<|Qb<|xii h Z Z H λV I=>x (Qv I Z)<|x (Zr Z Z)<|xe<|Q3 rfl (λE=>?_) (λE=>?_)
 ·refine Qc<|Qb<|Qf<|Ql ⟨[.int .i64 k],Lb,Z,k,Z,?_⟩;have:n∈l:=by rw[hm,hd,E];exact Lm
  simp[this]
 refine Qi<|Qx<|QQ Z Z<|Qb<|xe<|⟨k+1,by omega,Lb,Z,by omega,?_⟩;rw[hm,hd,Lh];exact ⟨λh=>h.resolve_left E,.inr⟩
theorem YN {L:LN}{w:World}{v:Value}{l:LI}(h:QL L w.heap v l) (n:Int) :
  QG prog 47 [v,.int .i64 n] w λr w'=>r=.bool (decide (n∈l))∧w'=w:=by
 refine QG.of_W func47 Z ntmps47 results47 (by simp) ?_;refine Qc<|Qf<|Qc<|Qb<|Qb<|xl Z<|xf<|(Qjb h n).mono ?_;rintro E H ⟨rfl,i,rfl,hi⟩;refine x (ZZ Z Z)<|Qf<|Ql ⟨[.bool (decide (0≤i))],Lb,?_,Z⟩;simp[tup,hi]
theorem Vy {L L':LN}{w:World}{v v':Value}{l l':LI}(h:QL L w.heap v l) (h':QL L' w.heap v' l') :
  QG prog 68 [v,v'] w λr w'=>r=.bool (decide (l=l'))∧Step [] w w':=by
 have he:=h.le;refine QG.of_W func68 Z ntmps68 results68 (by simp) ?_;refine Qc<|Qf<|Qg<|Qc<|Qb<|x (Qr h Z)<|Qb<|x (Qr h' Z)<|x (Q8 Z Z)<|xe<|Q3 rfl (λH=>?_) (λH=>?_)
 ·refine Qc<|Qf<|Ql ⟨[.bool false],Lb,?_,Step.refl _ _⟩;have:l≠l':=λe=>H (by rw[e]);simp[tup,this]
 refine Qi<|Qg<|Qc<|Qb<|x (Qr h Z)<|Qb<|xe<|Qh<|Qz (α:=Nat) [(4,5),(13,25)] (λk=>[(13,.int .i64 k)]) (λk w'=>Step [] w w'∧k≤l.length∧(l=l'↔l.drop k=l'.drop k)) (λk=>l.length - k) (by rfl) 0 Lb ⟨Step.refl _ _,Ln _,by simp⟩ ?_;rintro k g I ⟨hs,hk,hm⟩
 replace h:=h.ext hs
 replace h':=h'.ext hs;refine Qc<|x (QA Z Z)<|xe<|Qg<|QC Z (λY=>?_) (λY=>?_)
 ·refine Qy<|Qc<|Qf<|Ql ⟨[.bool true],Lb,?_,hs⟩;rw[Lx (by omega),Lx (by omega)] at hm;simp[tup,hm]
 have J:k<l.length:=by omega
 have U:k<l'.length:=by omega
 refine Qi<|Qg<|Qh<|Qc<|Qb<|Qf<|Qg<|QU (Step [] I) [(0,true),(1,true),(2,true),(3,true),(4,true),(5,true),(6,true),(7,true),(8,true)] mixed (by rfl) (by kernel_rfl) (Step.drew _ _) ?_;refine p (λ_=>Qm)<|p (λ_=>Qm)<|pii Z h Z Z J λhf ha=>pq (λ_ hc=>Qv (ha.ext hc) Z) <|
  p (λ_=>Qm)<|p (λ_=>Qm)<|pii Z h' Z Z U λhg hb=>pq (λ_ hc=>Qv (hb.ext hc) Z)<|p (λ_=>Q8 Z Z)<|pe ?_
 have V:=hs.trans (Step.drew [] I);refine Q3 rfl (λE=>?_) (λE=>?_)
 ·refine Qc<|Qf<|Ql ⟨[.bool false],Lb,?_,V⟩;have:l≠l':=λe=>E (by simp[e]);simp[tup,this]
 refine Qi<|Qx<|QQ Z Z<|Qb<|xe<|⟨k+1,by omega,Lb,V,by omega,?_⟩;have e:l[k]=l'[k]:=Lo.1 E;rw[hm,Q7 J,Q7 U,e];exact ⟨λh=>(List.cons.inj h).2,λh=>by rw[h]⟩
theorem QgT {L L':LN}{w:World}{v v':Value}{l l':List Ed}(h:zf L w.heap v l) (h':zf L' w.heap v' l') :
  QG prog 237 [v,v'] w λr w'=>r=.bool (decide (l=l'))∧Step [] w w':=by
 have he:=h.le;refine QG.of_W func237 Z ntmps237 results237 (by simp) ?_;refine Qc<|Qf<|Qg<|Qc<|Qb<|x (Qr h Z)<|Qb<|x (Qr h' Z)<|x (Q8 Z Z)<|xe<|Q3 rfl (λH=>?_) (λH=>?_)
 ·refine Qc<|Qf<|Ql ⟨[.bool false],Lb,?_,Step.refl _ _⟩;have:l≠l':=λe=>H (by rw[e]);simp[tup,this]
 refine Qi<|Qg<|Qc<|Qb<|x (Qr h Z)<|Qb<|xe<|Qh<|Qz (α:=Nat) [(4,5),(13,25)] (λk=>[(13,.int .i64 k)]) (λk w'=>Step [] w w'∧k≤l.length∧(l=l'↔l.drop k=l'.drop k)) (λk=>l.length - k) (by rfl) 0 Lb ⟨Step.refl _ _,Ln _,by simp⟩ ?_;rintro k g I ⟨hs,hk,hm⟩
 replace h:=h.ext hs
 replace h':=h'.ext hs;refine Qc<|x (QA Z Z)<|xe<|Qg<|QC Z (λY=>?_) (λY=>?_)
 ·refine Qy<|Qc<|Qf<|Ql ⟨[.bool true],Lb,?_,hs⟩;rw[Lx (by omega),Lx (by omega)] at hm;simp[tup,hm]
 have J:k<l.length:=by omega
 have U:k<l'.length:=by omega
 refine Qi<|Qg<|Qh<|Qc<|Qb<|Qf<|Qg<|QU (Step [] I) [(0,true),(1,true),(2,true),(3,true),(4,true),(5,true),(6,true),(7,true),(8,true)] mixed (by rfl) (by kernel_rfl) (Step.drew _ _) ?_;refine p (λ_=>Qm)<|p (λ_=>Qm)<|pie Z h Z Z J λhf ha=>pq (λ_ hc=>QJ (ha.ext hc) Z Z) <|
  p (λ_=>Qm)<|p (λ_=>Qm)<|pie Z h' Z Z U λhg hb=>pq (λ_ hc=>QJ (hb.ext hc) Z Z)<|p (λ_=>QaO Z Z)<|pe ?_
 have V:=hs.trans (Step.drew [] I);refine Q3 rfl (λE=>?_) (λE=>?_)
 ·refine Qc<|Qf<|Ql ⟨[.bool false],Lb,?_,V⟩;have:l≠l':=λe=>E (by simp[e]);simp[tup,this]
 refine Qi<|Qx<|QQ Z Z<|Qb<|xe<|⟨k+1,by omega,Lb,V,by omega,?_⟩;have e:l[k]=l'[k]:=Lo.1 E;rw[hm,Q7 J,Q7 U,e];exact ⟨λh=>(List.cons.inj h).2,λh=>by rw[h]⟩
theorem QcC {w:World}(n:Int):QG prog 108 [.int .i64 n] w λr w'=>r=.bool false∧w'=w:=by
 refine QG.of_W func108 Z ntmps108 results108 (by simp) ?_;refine Qc<|Qf<|Qc<|Qb<|Qb<|x (Q8 Z Z)<|Qf ?_;exact Ql ⟨[.bool (decide (¬n=n))],Lb,by simp[tup],rfl⟩
theorem QgO {w:World}(n:Int):QG prog 163 [.int .i64 n] w λr w'=>r=.bool false∧w'=w:=by
 refine QG.of_W func163 Z ntmps163 results163 (by simp) ?_;refine Qc<|Qf<|Qc<|Qb<|Qb<|x (Q8 Z Z)<|Qf ?_;exact Ql ⟨[.bool (decide (¬n=n))],Lb,by simp[tup],rfl⟩
theorem QfB {w:World}(m n:Int):QG prog 107 [.int .i64 m,.int .i64 n] w λr w'=>r=.bool (decide (m<n))∧w'=w:=by
 refine QG.of_W func107 Z ntmps107 results107 (by simp) ?_;refine Qc<|Qf<|Qc<|Qb<|xl Z<|xf<|(QgO m).mono ?_;rintro E H ⟨rfl,rfl⟩;refine Qb<|xs Z<|xs Z<|xs Z<|x (Qo Z)<|Qb<|Qb<|Qb<|x (QA Z Z)<|x (Qo Z)<|Qf ?_;exact Ql ⟨[.bool (decide (m<n))],Lb,Z,Z⟩
theorem Z8.get {l:LI}(h:Z8 l) {i j:Nat}(hj:j<l.length) (E:i<j):l[i]<l[j]:=M0.1 h i j (by omega) hj E
theorem yG {L:LN}{w:World}{v:Value}{l:LI}(h:QL L w.heap v l) (hi:Z8 l) (n:Int) :
  QG prog 57 [v,.int .i64 n] w λr w'=>w'=w∧∃i:Int,r=.tuple #[.int .i64 i,.bool (decide (n∈l))]:=by
 have hu:=h.le;refine QG.of_W func57 Z ntmps57 results57 (by simp) ?_;refine Qc<|x Qe<|Qf<|Qc<|Qb<|x (Qr h Z)<|Qf<|Qc<|Qb<|x Qe<|Qf<|Qg<|Qh<|Qz (α:=Nat×Nat) [(7,9),(13,30)] (λz=>[(7,.int .i64 z.1),(8,.int .i64 z.2)])
  (λz w'=>w'=w∧z.1≤z.2∧z.2≤l.length∧(∀m (hm:m<l.length),m<z.1→l[m]<n)∧(∀m (hm:m<l.length),z.2≤m→n≤l[m])) (λz=>z.2 - z.1) (by rfl) (0,l.length) ⟨Z,Z,La⟩
  ⟨Z,Ln _,Lv _,λm _ J=>absurd J (Me m),λm h1 J=>absurd h1 (by simp only[] at J;omega)⟩ ?_
 rintro ⟨i,j⟩ g w1 ⟨rfl,hc,hj,E,U⟩;simp only[] at hc hj E U;refine Qg<|Qc<|Qb<|Qb<|x (QA Z Z)<|xe<|QC rfl (λhe=>?_) (λhe=>?_)
 ·have e:i=j:=by omega
  subst e;refine Qy<|QZ (α:=Bool) [(4,5),(31,53)] (λz=>[(4,.int .i64 i),(5,.bool z)]) (λz w'=>w'=w1∧z=decide (n∈l)) (by rfl) ?_ ?_
  ·refine Qx<|Qb<|Qb<|Qb<|xb (QA Z Z) (λhf=>?_) (λhf=>?_)
   ·have H:i<l.length:=by omega
    refine Qb<|Qb<|Qb<|xii h Z Z H λhv hg=>x (Qv hg Z)<|Qb<|xb (Zr Z Z) (λV=>?_) (λV=>?_)
    ·refine Qb<|xs Z<|xs Z<|xs Z<|xs Z<|xs Z<|xs Z<|xs Z<|xs Z<|xs Z<|x (Qo Z)<|x (Qo Z)<|x Qe<|Qf ?_;have:n∈l:=by rw[←V];exact Le H
     exact ⟨true,⟨Z,Z,La⟩,Z,by simp[this]⟩
    refine Qb<|Qb<|Qb<|xii h Z Z H λhw hk=>x (Qv hk Z)<|xl Z<|xf<|(QcC _).mono ?_;rintro r3 w3 ⟨rfl,rfl⟩;refine Qb<|xs Z<|xs Z<|x (Qo Z)<|x (Qo Z)<|x (Qo Z)<|x Qe<|Qf<|⟨false,⟨Z,Z,La⟩,Z,?_⟩;have:n∉l:=by
     intro hm;obtain ⟨m,I,Y⟩:=LB hm;by_cases hl:m<i
     ·have:=E m I hl;omega
     by_cases hn:m=i
     ·subst hn;exact V Y
     have:=Z8.get hi I (show i<m by omega);have:=U i H (Lv _);omega
    simp[this]
   refine Qb<|xs Z<|xs Z<|xs Z<|xs Z<|xs Z<|xs Z<|xs Z<|xs Z<|xs Z<|xs Z<|xs Z<|xs Z<|xs Z<|xs Z<|xs Z<|xs Z<|xs Z <|
    x (Qo rfl)<|x Qe<|Qf<|⟨false,⟨Z,Z,La⟩,Z,?_⟩
   have:n∉l:=by
    intro hm;obtain ⟨m,I,Y⟩:=LB hm;have:=E m I (by omega);omega
   simp[this]
  rintro z g w7 ⟨rfl,rfl⟩;exact Ql ⟨[.int .i64 i,.bool (decide (n∈l))],⟨Z,Z,La⟩,Z,i,Z⟩
 refine Qi<|Qh<|Qc<|Qb<|Qb<|QQ Z Z<|x (Xy Z (by exact ⟨by omega,by omega⟩))<|x (zz (n:=1) Z Z (by decide))<|x (Xy Z (by exact ⟨by omega,by omega⟩))<|Qf ?_;have hh:(((i:Int)+(j:Int)) / 2 ^ 1)=(((i+j) / 2:Nat):Int):=by omega
 rw[hh];generalize hq:(i+j) / 2=q;have ho:i≤q:=by omega
 have hp:q<j:=by omega
 have ha:q<l.length:=by omega
 refine Qc<|Qb<|Qb<|xii h Z Z ha λhy hr=>x (Qv hr Z)<|Qb<|xl Z<|xf<|(QfB _ _).mono ?_;rintro r8 w8 ⟨rfl,rfl⟩;refine xe<|QC rfl (λhb=>?_) (λhb=>?_)
 ·refine Qx<|Qb<|Qf<|⟨(i,q),by simp only[];omega,⟨Z,Z,La⟩,Z,ho,by omega,E,λm hm hs=>?_⟩;by_cases e:q=m
  ·subst e;omega
  have:=Z8.get hi hm (show q<m by simp only[] at hs;omega);omega
 refine Qx<|Qb<|QQ Z Z<|Qf<|⟨(q+1,j),by simp only[];omega,⟨Z,Z,La⟩,Z,hp,hj,λm hm ht=>?_,U⟩;by_cases e:m=q
 ·subst e;exact hb
 have:=Z8.get hi ha (show m<q by simp only[] at ht;omega);omega
theorem Y3 {L:LN}{w:World}{v:Value}{l:LI}(h:QL L w.heap v l) (hi:Z8 l) (n:Int) :
  QG prog 18 [v,.int .i64 n] w λr w'=>r=.bool (decide (n∈l))∧w'=w:=by
 refine QG.of_W func18 Z ntmps18 results18 (by simp) ?_;refine Qc<|Qf<|Qc<|Qb<|Qb<|xl Z<|xf<|(yG h hi n).mono ?_;rintro E H ⟨rfl,i,rfl⟩;refine Qb<|x (Qj Z Z)<|x (Qj Z Z)<|x Qe<|Qf<|Qc<|Qb<|Qf ?_;exact Ql ⟨[.bool (decide (n∈l))],Lb,Z,Z⟩
theorem qD {L:LN}{w:World}{v:Value}{l:LI}(h:QL L w.heap v l) (n:Int) :
  QG prog 92 [v,.int .i64 n] w λr w'=>r=.int .i64 (YV n none l)∧w'=w:=by
 have he:=h.le;refine QG.of_W func92 Z ntmps92 results92 (by simp) ?_;refine Qc<|Qf<|Qg<|Qc<|Qb<|x (Qr h Z)<|Qb<|xe<|Qh<|Qz (α:=Nat) [(4,6),(9,34)] (λk=>[(9,.int .i64 k)]) (λk w'=>w'=w∧k≤l.length∧YV n (pv l k) (l.drop k)=YV n none l) (λk=>l.length - k) (by rfl) 0 Lb ⟨Z,Ln _,Z⟩ ?_;rintro k g V ⟨rfl,hk,hm⟩;refine Qc<|x (QA Z Z)<|xe<|Qg<|QC Z (λY=>?_) (λY=>?_)
 ·refine Qy<|Qc<|Qf<|Ql ⟨[.int .i64 0],Lb,?_,Z⟩;rw[←hm,Lx (by omega)];rfl
 have E:k<l.length:=by omega
 have hd:=Q7 E;rw[hd,YV] at hm;refine Qi<|Qg<|Qh<|Qc<|Qb<|xii h Z Z E λhf ha=>x (Qv ha Z)<|x Qe<|Qf<|Qh<|QZ (α:=Bool) [(14,21)] (λz=>[(14,.bool z)]) (λz w'=>w'=V∧z=decide (l[k]<0∨n≤l[k])) (by rfl) ?_ ?_
 ·refine Qx<|Qb<|xb (QA Z Z) (λH=>?_) (λH=>?_)
  ·refine Qb<|xs Z<|xs Z<|xs Z<|x (Qo Z)<|Qf ?_;exact ⟨true,Lb,Z,by simp[H]⟩
  refine Qb<|Qb<|Qb<|x (ZZ Z Z)<|x (Qo Z)<|Qf ?_;exact ⟨_,Lb,Z,by simp[H]⟩
 rintro z g w2 ⟨rfl,rfl⟩;refine Q3 rfl (λI=>?_) (λI=>?_)
 ·refine Qc<|Qf<|Ql ⟨[.int .i64 2],Lb,?_,Z⟩;rw[←hm,if_pos I];rfl
 rw[if_neg I] at hm;refine QZ (α:=Bool) [(22,33)] (λz=>[(22,.bool z)]) (λz w'=>w'=w2∧z=zX (pv l k) l[k]) (by rfl) ?_ ?_
 ·refine Qx<|Qb<|xb (ZY Z Z) (λhb=>?_) (λhb=>?_)
  ·have hk1:((k:Int) - 1)=((k - 1:Nat):Int):=by omega
   refine Qb<|Qb<|Qb<|Qb<|x (J2 Z Z ⟨by omega,by omega⟩)<|xii (i:=k - 1) h Z (by show Value.int _ ((k:Int) - 1)=_;rw[hk1]) (by omega) λhg hc=>x (Qv hc rfl)<|x (Kw rfl rfl)<|x (Qo rfl)<|Qf<|⟨_,⟨rfl,La⟩,rfl,?_⟩;have:pv l k=some l[k - 1]:=by
    have J:k≠0:=by omega
    simp[pv,J,show k - 1<l.length by omega]
   rw[this];rfl
  refine Qb<|xs Z<|xs Z<|xs Z<|xs Z<|xs Z<|xs Z<|xs Z<|x (Qo Z)<|Qf ?_;have J:k=0:=by omega
  exact ⟨false,Lb,Z,by simp[pv,J,zX]⟩
 rintro z g w3 ⟨rfl,rfl⟩;refine QW rfl (λU=>?_) (λU=>?_)
 ·refine Qc<|Qf<|Ql ⟨[.int .i64 5],Lb,?_,Z⟩;rw[←hm,if_pos U];rfl
 rw[if_neg (by simp[U])] at hm;refine Qi<|Qx<|QQ Z Z<|Qb<|xe ?_;exact ⟨k+1,by omega,Lb,Z,by omega,by rw[Kh E];exact hm⟩
theorem jh {L:LN}{w:World}{va vm ve:Value}{a:QD}(h:Zq L w.heap va vm ve a) :
  QG prog 93 [.agg #[va,.int .i64 a.st,vm,ve]] w λr w'=>r=.int .i64 (ckE a.al a.st none a.ed)∧Step [] w w':=by
 obtain ⟨J,_,H⟩:=h;have h4:=H.le;refine QG.of_W func93 Z ntmps93 results93 (by simp) ?_;refine Qc<|xl Z<|QR (us:=[va,.int .i64 a.st,vm,ve]) Z λb1 w1 hb h5 I=>Qf ?_
 replace J:=J.ext hb
 replace H:=H.ext hb;refine Qg<|Qc<|x (Qa Z)<|x (Qd I Z Z)<|x (Qr H Z)<|Qb<|xe<|Qh<|Qz (α:=Nat) [(2,5),(9,71)] (λk=>[(9,.int .i64 k)]) (λk w'=>Step [] w1 w'∧k≤a.ed.length∧ckE a.al a.st (pv a.ed k) (a.ed.drop k)=ckE a.al a.st none a.ed) (λk=>a.ed.length - k) (by rfl) 0 Lb
  ⟨Step.refl _ _,Ln _,Z⟩ ?_
 rintro k g w2 ⟨U,hk,hm⟩
 replace J:=J.ext U
 replace H:=H.ext U
 replace I:=I.ext U;refine Qc<|x (QA Z Z)<|xe<|Qg<|QC Z (λhs=>?_) (λhs=>?_)
 ·refine Qy<|Qc<|Qf<|Ql ⟨[.int .i64 0],Lb,?_,hb.trans U⟩;rw[←hm,Lx (by omega)];rfl
 have hc:k<a.ed.length:=by omega
 have hd:=Q7 hc;rw[hd,ckE] at hm;refine Qi<|Qg<|Qh<|Qc<|Qb<|xie H Z Z hc λh6 ht=>x (QJ ht Z Z)<|xl Z<|Qu (us:=[.int .i64 0,.int .i64 0,.int .i64 0]) Z λb4 w3 hu hv E=>x Qe <|
  xl rfl<|Qn E Z Z Z Z ⟨Z,Z,Z,La⟩ λw4 hw E=>xe ?_
 have V:=hu.then1 hw hv
 replace J:=J.ext V
 replace H:=H.ext V
 replace I:=I.ext V;have Y:=(hb.trans U).trans V;refine Qg<|Qh<|QZ (α:=Bool) [(14,36)] (λz=>[(14,.bool z)]) (λz w'=>w'=w4∧z=decide (a.ed[k].1<0∨a.st≤a.ed[k].1∨a.ed[k].2.2<0∨a.st≤a.ed[k].2.2)) (by rfl) ?_ ?_
 ·refine Qx<|x (Qa Z)<|x (Qd E Z Z)<|xb (QA Z Z) (λhe=>?_) (λhe=>?_)
  ·refine Qb<|xs Z<|xs Z<|xs Z<|xs Z<|xs Z<|x (Qo Z)<|Qb<|xs Z<|xs Z<|xs Z<|x (Qo Z)<|Qb<|xs Z<|xs Z<|xs Z<|xs Z<|xs Z<|x (Qo Z)<|Qf ?_;exact ⟨true,Lb,Z,by simp[he]⟩
  refine Qb<|x (Qa Z)<|x (Qd E Z Z)<|x (Qa Z)<|x (Qd I Z Z)<|xb (ZZ Z Z) (λhf=>?_) (λhf=>?_)
  ·refine x (Qo Z)<|Qb<|xs Z<|xs Z<|xs Z<|x (Qo Z)<|Qb<|xs Z<|xs Z<|xs Z<|xs Z<|xs Z<|x (Qo Z)<|Qf ?_;exact ⟨true,Lb,Z,by simp[hf]⟩
  refine x (Qo Z)<|Qb<|x (Qa Z)<|x (Qd E Z Z)<|xb (QA Z Z) (λhg=>?_) (λhg=>?_)
  ·refine x (Qo Z)<|Qb<|xs Z<|xs Z<|xs Z<|xs Z<|xs Z<|x (Qo Z)<|Qf ?_;exact ⟨true,Lb,Z,by simp[hg]⟩
  refine x (Qo Z)<|Qb<|x (Qa Z)<|x (Qd E Z Z)<|x (Qa Z)<|x (Qd I Z Z)<|x (ZZ Z Z)<|x (Qo Z)<|Qf ?_;exact ⟨_,Lb,Z,by simp[he,hf,hg]⟩
 rintro z g w5 ⟨rfl,rfl⟩;refine Q3 rfl (λhh=>?_) (λhh=>?_)
 ·refine Qc<|Qf<|Ql ⟨[.int .i64 2],Lb,?_,Y⟩;rw[←hm,if_pos hh];rfl
 rw[if_neg hh] at hm;refine Qc<|x (Qa Z)<|x (Qd I Z Z)<|x (Qa Z)<|x (Qd E Z Z)<|xl Z<|xf<|(YN J _).mono ?_;rintro r4 w6 ⟨rfl,rfl⟩;refine x (Zs Z)<|Qf<|QW Z (λhi=>?_) (λhi=>?_)
 ·have hn:a.ed[k].2.1∉a.al:=by simpa using hi
  refine Qc<|Qf<|Ql ⟨[.int .i64 9],Lb,?_,Y⟩;rw[←hm,if_pos hn];rfl
 have hn:¬(a.ed[k].2.1∉a.al):=by simpa using hi
 rw[if_neg hn] at hm;refine Qi<|Qg<|Qc<|Qb<|x (Zr Z Z)<|xe<|Q3 rfl (λhy=>?_) (λhy=>?_)
 ·have h0:k=0:=by omega
  rw[if_neg (by simp[pv,h0,edO])] at hm;refine Qy<|Qx<|QQ Z Z<|Qb<|xe ?_;exact ⟨k+1,by omega,Lb,U.trans V,by omega,by rw[Kh hc];exact hm⟩
 have h0:k≠0:=by omega
 have hk1:((k:Int) - 1)=((k - 1:Nat):Int):=by omega
 have hr:k - 1<a.ed.length:=by omega
 refine Qi<|Qc<|x (Qa Z)<|x (Qd I Z Z)<|Qb<|x (J2 Z Z ⟨by omega,by omega⟩)<|xie (i:=k - 1) H Z (by show Value.int _ ((k:Int) - 1)=_;rw[hk1]) hr λh7 hz =>
  x (QJ hz Z Z)<|xl Z<|Qu (us:=[.int .i64 0,.int .i64 0,.int .i64 0]) Z λb5 w7 h1 h2 ha=>xl Z<|Qn ha Z Z Z Z ⟨Z,Z,Z,La⟩ λw8 h3 ha=>xe ?_
 have hj:=h1.then1 h3 h2
 replace E:=E.ext hj
 replace Y:=Y.trans hj;have hp:pv a.ed k=some a.ed[k - 1]:=by simp[pv,h0,hr]
 rw[hp] at hm;refine QZ (α:=Bool) [(52,70)] (λz=>[(70,.bool z)]) (λz w'=>w'=w8∧z=edO (some a.ed[k - 1]) a.ed[k]) (by rfl) ?_ ?_
 ·refine Qx<|x (Qa Z)<|x (Qd E Z Z)<|x (Qa Z)<|x (Qd ha Z Z)<|xb (QA Z Z) (λhl=>?_) (λhl=>?_)
  ·refine Qb<|xs Z<|xs Z<|xs Z<|xs Z<|xs Z<|xs Z<|xs Z<|xs Z<|xs Z<|xs Z<|xs Z<|xs Z<|x (Qo Z)<|xe ?_;exact ⟨true,Lb,Z,by simp[edO,hl]⟩
  refine Qb<|x (Qa Z)<|x (Qd E Z Z)<|x (Qa Z)<|x (Qd ha Z Z)<|xb (Zr Z Z) (λho=>?_) (λho=>?_)
  ·refine Qb<|x (Qa Z)<|x (Qd E Z Z)<|x (Qa Z)<|x (Qd ha Z Z)<|x (Kw Z Z)<|x (Qo Z)<|x (Qo Z)<|xe ?_;exact ⟨_,Lb,Z,by simp[edO,ho]⟩
  refine Qb<|xs Z<|xs Z<|xs Z<|xs Z<|xs Z<|x (Qo Z)<|x (Qo Z)<|xe ?_;exact ⟨false,Lb,Z,by simp[edO,ho,hl]⟩
 rintro z g w9 ⟨rfl,rfl⟩;refine QW rfl (λhq=>?_) (λhq=>?_)
 ·refine Qc<|Qf<|Ql ⟨[.int .i64 5],Lb,?_,Y⟩;rw[←hm,if_pos hq];rfl
 rw[if_neg (by simp[hq])] at hm;refine Qi<|Qx<|QQ Z Z<|Qb<|xe ?_;exact ⟨k+1,by omega,Lb,(U.trans V).trans hj,by omega,by rw[Kh hc];exact hm⟩
theorem Xn {L:LN}{w:World}{va vm ve:Value}{a:QD}(h:Zq L w.heap va vm ve a) :
  QG prog 44 [.agg #[va,.int .i64 a.st,vm,ve]] w λr w'=>r=.int .i64 (XM a)∧Step [] w w':=by
 refine QG.of_W func44 Z ntmps44 results44 (by simp) ?_;refine Qc<|xl Z<|QR (us:=[va,.int .i64 a.st,vm,ve]) Z λY w1 E ha H=>Qf ?_
 replace h:=h.ext E;refine Qg<|Qc<|x (Qa Z)<|x (Qd H Z Z)<|xl Z<|xf<|(qD h.al 32).mono ?_;rintro r2 w2 ⟨rfl,rfl⟩;refine Qf<|Qc<|Qb<|x (Q8 Z Z)<|xe<|Q3 rfl (λh9=>?_) (λh9=>?_)
 ·refine Qc<|Qb<|Qf<|Ql ⟨[.int .i64 (YV 32 none a.al)],Lb,?_,E⟩;rw[XM,if_pos h9];rfl
 refine Qi<|Qg<|Qh<|Qc<|x (Qa Z)<|x (Qd H Z Z)<|x (QA Z Z)<|Qf<|Q3 Z (λI=>?_) (λI=>?_)
 ·refine Qc<|Qf<|Ql ⟨[.int .i64 2],Lb,?_,E⟩;rw[XM,if_neg h9,if_pos I];rfl
 refine Qc<|x (Qa Z)<|x (Qd H Z Z)<|x (ZY Z Z)<|Qf<|Q3 Z (λJ=>?_) (λJ=>?_)
 ·refine Qc<|Qf<|Ql ⟨[.int .i64 3],Lb,?_,E⟩;rw[XM,if_neg h9,if_neg I,if_pos J];rfl
 refine Qi<|Qg<|Qc<|x (Qa Z)<|x (Qd H Z Z)<|x (Qa Z)<|x (Qd H Z Z)<|xl Z<|xf<|(qD h.mr a.st).mono ?_;rintro r3 w3 ⟨rfl,rfl⟩;refine Qf<|Qc<|Qb<|x (Q8 Z Z)<|xe<|Q3 rfl (λU=>?_) (λU=>?_)
 ·refine Qc<|Qb<|Qf<|Ql ⟨[.int .i64 (YV a.st none a.mr)],Lb,?_,E⟩;rw[XM,if_neg h9,if_neg I,if_neg J,if_pos U];rfl
 refine Qi<|Qc<|x (Qp H Z Z)<|xl Z<|xf<|(jh h).mono ?_;rintro r4 w4 ⟨rfl,V⟩;refine Qf<|Ql ⟨[.int .i64 (ckE a.al a.st none a.ed)],Lb,?_,E.trans V⟩;rw[XM,if_neg h9,if_neg I,if_neg J,if_neg U];rfl
theorem Y2 {L:LN}{w:World}{v:Value}{l:LI}(h:QL L w.heap v l) :
  QG prog 46 [v] w λr w'=>Step [] w w'∧Qs 3 w.heap.size w' r l:=by
 have ha:=h.le;refine QG.of_W func46 Z ntmps46 results46 (by simp) ?_;refine Qc<|Qf ?_;obtain ⟨ao,cap,E⟩:=h.shape;refine Qg<|Qc<|Qb<|x (Uh (show ev _ _=_ from E) Z)<|xe<|QW rfl (λh4=>?_) (λh4=>?_)
 ·refine Qc<|Qf<|Ql ⟨[nS],Lb,Step.refl _ _,?_⟩;rcases h.2.2 with ⟨h1,h2⟩ | ⟨a,c,h1,_⟩
  ·have:l=[]:=Lt h2;subst this;exact QP _ _ _ _
  rw[h1] at E;cases E;cases h4
 rcases h.2.2 with ⟨h1,h2⟩ | ⟨a,c,h1,h2,h3⟩
 ·rw[h1] at E;injection E with e1;subst e1;cases h4
 refine Qi<|Qc<|xl Z<|U6 λb5 w1 H I J=>Qb<|xl Z<|Q6 (base:=w.heap.size) (J.own (n:=0) (sz:=1) Z (by omega) I) Z (show ev _ _=_ from h1) (by simp) (h3.ext H) (Qch l) (by omega) (by have:=J.lt;omega) λU w2 V Y hb=>Qf<|Ql ⟨[U],Lb,H.then1 Y I,?_⟩;simpa[tup] using V
theorem zL {g:Nat}{fn:Func}[Fu prog g fn] {keep:Bool→Bool→Bool}(hk:∀(p q:Bool) (w:World),QG prog g [.bool p,.bool q] w λr w'=>r=.bool (keep p q)∧w'=w)
  {L L':LN} {w:World} {va vb:Value} {a b:LI} (ha:QL L w.heap va a) (hb:QL L' w.heap vb b) (hF:a.length+b.length≤1099511627776) :
  QG prog 72 [va,vb,.func (.func g) #[] #[]] w λr w'=>Step [] w w'∧Qs 3 w.heap.size w' r (mrg keep a b):=by
 refine QG.of_W func72 Z ntmps72 results72 (by simp) ?_;refine Qc<|Qf<|Qc<|Qf<|Qg<|Qh<|Qz (α:=(LI×Value)×(LI×Value)×(LI×Value)) [(0,1),(7,72)] (λz=>[(0,z.1.2),(1,z.2.1.2),(7,z.2.2.2)])
  (λz w'=>QL L w.heap z.1.2 z.1.1∧QL L' w.heap z.2.1.2 z.2.1.1∧Qs 3 w.heap.size w' z.2.2.2 z.2.2.1∧Step [] w w'∧z.2.2.1++mrg keep z.1.1 z.2.1.1=mrg keep a b∧z.2.2.1.length+z.1.1.length+z.2.1.1.length≤1099511627776)
  (λz=>z.1.1.length+z.2.1.1.length) (by rfl) ((a,va),(b,vb),([],nS)) ⟨Z,Z,Z,La⟩ ⟨ha,hb,QP _ _ _ _,Step.refl _ _,Z,by simp;omega⟩ ?_
 clear ha hb;rintro ⟨⟨a1,h0⟩,⟨E,h1⟩,⟨o,vo⟩⟩ g1 w1 ⟨ha,hb,H,hs,hm,hl⟩;simp only[] at ha hb H hs hm hl;refine Qg<|QZ (α:=Bool) [(11,18)] (λz=>[(18,.bool z)]) (λz w'=>w'=w1∧z=decide (¬(a1=[]∧E=[]))) (by rfl) ?_ ?_
 ·refine Qx<|Qb<|x (Qr ha Z)<|xb (ZY Z Z) (λhi=>?_) (λhi=>?_)
  ·refine Qb<|xs Z<|xs Z<|xs Z<|x (Qo Z)<|xe ?_;have:a1≠[]:=by intro e;subst e;simp at hi
   exact ⟨true,Lb,Z,by simp[this]⟩
  refine Qb<|Qb<|x (Qr hb Z)<|x (ZY Z Z)<|x (Qo Z)<|xe ?_;have:a1=[]:=Lt (by omega);refine ⟨_,Lb,Z,?_⟩;cases E <;> simp[this]
 rintro z g2 w2 ⟨rfl,rfl⟩;refine QC rfl (λY=>?_) (λY=>?_)
 ·refine Qy<|Qc<|Qb<|Qf<|Ql ⟨[vo],Lb,hs,?_⟩;obtain ⟨rfl,rfl⟩:=Lo.1 Y;rw[Kk,LS] at hm;rw[←hm];exact H
 refine Qi ?_;rw[J5 keep Y] at hm;have hj:=ya Y;have hG:=ha.le;have hH:=hb.le;refine Qh<|QZ (α:=Bool) [(8,8),(19,35)] (λz=>[(8,.bool z)]) (λz w'=>Step [] w2 w'∧z=Jg a1 E) (by rfl) ?_ ?_
 ·refine QU (Step [] w2) [(0,true),(1,true),(2,true),(3,true),(4,true),(5,true),(6,true),(7,true),(8,true),(9,true),(10,true),(11,true),(12,true),(13,true),(14,true),(15,true),(16,true),(17,true)] mixed (by rfl) (by kernel_rfl) (Step.drew _ _) ?_;refine p (λ_=>Qm)<|p (λ_=>Qr ha Z)<|pb (λ_=>ZY Z Z) (λhn=>?_) (λhn=>?_)
  ·refine p (λ_=>Qm)<|p (λ_=>Qm)<|p (λ_=>Qr hb Z)<|pb (λ_=>Zr Z Z) (λh2=>?_) (λh2=>?_)
   ·refine p (λ_=>Qm)<|ps<|ps<|ps<|ps<|ps<|ps<|ps<|p (λ_=>Qo Z)<|p (λ_=>Qo Z)<|p (λ_=>Qe)<|pe ?_;refine ⟨true,Lb,Step.drew _ _,?_⟩;have:E=[]:=Lt (by omega);subst this;cases a1 with
    | nil=>simp at hn
    | cons y a1=>rfl
   have I:0<a1.length:=by omega
   have J:0<E.length:=by omega
   refine p (λ_=>Qm)<|p (λ_=>Qm)<|pii Z (i:=0) (ha.ext hs) Z Z I λhI h3=>pq (λ_ hc=>Qv (h3.ext hc) Z) <|
    p (λ_=>Qm)<|pii Z (i:=0) (hb.ext hs) Z Z J λhJ h4=>pq (λ_ hc=>Qv (h4.ext hc) Z)<|p (λ_=>Kw Z Z) <|
    p (λ_=>Qo Z)<|p (λ_=>Qo Z)<|p (λ_=>Qe)<|pe ?_
   refine ⟨_,Lb,Step.drew _ _,?_⟩;cases a1 with
   | nil=>simp at I
   | cons y a1=>cases E with
    | nil=>simp at J
    | cons z E=>rfl
  refine p (λ_=>Qm)<|ps<|ps<|ps<|ps<|ps<|ps<|ps<|ps<|ps<|ps<|ps<|ps<|p (λ_=>Qo Z)<|p (λ_=>Qe)<|pe ?_;refine ⟨false,Lb,Step.drew _ _,?_⟩;have:a1=[]:=Lt (by omega);subst this;rfl
 rintro z g3 w3 ⟨hp,rfl⟩
 replace H:=Qt H hp
 replace hs:=hs.trans hp;refine QZ (α:=Bool) [(9,9),(36,52)] (λz=>[(9,.bool z)]) (λz w'=>Step [] w3 w'∧z=Jg E a1) (by rfl) ?_ ?_
 ·refine QU (Step [] w3) [(0,true),(1,true),(2,true),(3,true),(4,true),(5,true),(6,true),(7,true),(8,true),(9,true),(10,true),(11,true),(12,true),(13,true),(14,true),(15,true),(16,true),(17,true)] mixed (by rfl) (by kernel_rfl) (Step.drew _ _) ?_;refine p (λ_=>Qm)<|p (λ_=>Qr hb Z)<|pb (λ_=>ZY Z Z) (λhq=>?_) (λhq=>?_)
  ·refine p (λ_=>Qm)<|p (λ_=>Qm)<|p (λ_=>Qr ha Z)<|pb (λ_=>Zr Z Z) (λh5=>?_) (λh5=>?_)
   ·refine p (λ_=>Qm)<|ps<|ps<|ps<|ps<|ps<|ps<|ps<|p (λ_=>Qo Z)<|p (λ_=>Qo Z)<|p (λ_=>Qe)<|pe ?_;refine ⟨true,Lb,Step.drew _ _,?_⟩;have:a1=[]:=Lt (by omega);subst this;cases E with
    | nil=>simp at hq
    | cons y E=>rfl
   have I:0<a1.length:=by omega
   have J:0<E.length:=by omega
   refine p (λ_=>Qm)<|p (λ_=>Qm)<|pii Z (i:=0) (hb.ext hs) Z Z J λhK h6=>pq (λ_ hc=>Qv (h6.ext hc) Z) <|
    p (λ_=>Qm)<|pii Z (i:=0) (ha.ext hs) Z Z I λhL h7=>pq (λ_ hc=>Qv (h7.ext hc) Z)<|p (λ_=>Kw Z Z) <|
    p (λ_=>Qo Z)<|p (λ_=>Qo Z)<|p (λ_=>Qe)<|pe ?_
   refine ⟨_,Lb,Step.drew _ _,?_⟩;cases a1 with
   | nil=>simp at I
   | cons y a1=>cases E with
    | nil=>simp at J
    | cons z E=>rfl
  refine p (λ_=>Qm)<|ps<|ps<|ps<|ps<|ps<|ps<|ps<|ps<|ps<|ps<|ps<|ps<|p (λ_=>Qo Z)<|p (λ_=>Qe)<|pe ?_;refine ⟨false,Lb,Step.drew _ _,?_⟩;have:E=[]:=Lt (by omega);subst this;rfl
 rintro z g4 w4 ⟨hr,rfl⟩
 replace H:=Qt H hr
 replace hs:=hs.trans hr;refine Qc<|Qf<|QZ (α:=Value) [(0,0),(10,10),(53,58)] (λz=>[(0,z),(10,.int .i64 (bif Jg a1 E then a1.headD 0 else 0))]) (λz w'=>Step [] w4 w'∧QL L w.heap z (tl (Jg a1 E) a1)) (by rfl) ?_ ?_
 ·refine Qc<|Qb<|xe<|QW Z (λU=>?_) (λU=>?_)
  ·have I:0<a1.length:=by cases a1 with | nil=>simp[Jg] at U | cons y a1=>simp
   refine QU (Step [] w4) [(0,true),(1,true),(2,true),(3,true),(4,true),(5,true),(6,true)] mixed (by rfl) (by kernel_rfl) (Step.drew _ _) ?_;refine p (λ_=>Qm)<|pii Z (i:=0) (ha.ext hs) Z Z I λh8 he=>pq (λ_ hc=>Qv (he.ext hc) Z)<|p (λ_=>Qm) <|
    QnH rfl (lo:=1) ha Z Z I λv' hv'=>p (λ_=>Qe)<|p (λ_=>Qe)<|pe ?_
   have hf:=QL.drop hv';refine ⟨v',⟨Z,?_,La⟩,Step.drew _ _,?_⟩
   ·show Value.int .i64 a1[0]=_;rw[U];cases a1 with | nil=>simp at I | cons y a1=>rfl
   rw[U];simpa[tl] using hf
  refine Qi<|⟨h0,⟨Z,by show _=_;rw[U];rfl,La⟩,Step.refl _ _,?_⟩;rw[U];exact ha
 rintro ht g5 w5 ⟨hu,hv⟩
 replace H:=Qt H hu
 replace hs:=hs.trans hu;refine QZ (α:=Value) [(1,1),(10,10),(59,64)] (λz=>[(1,z),(10,.int .i64 (bif Jg E a1 then E.headD 0 else bif Jg a1 E then a1.headD 0 else 0))]) (λz w'=>Step [] w5 w'∧QL L' w.heap z (tl (Jg E a1) E)) (by rfl) ?_ ?_
 ·refine Qc<|Qb<|xe<|QW Z (λV=>?_) (λV=>?_)
  ·have J:0<E.length:=by cases E with | nil=>simp[Jg] at V | cons y E=>simp
   refine QU (Step [] w5) [(0,true),(1,true),(2,true),(3,true),(4,true),(5,true),(6,true)] mixed (by rfl) (by kernel_rfl) (Step.drew _ _) ?_;refine p (λ_=>Qm)<|pii Z (i:=0) (hb.ext hs) Z Z J λh8 he=>pq (λ_ hc=>Qv (he.ext hc) Z)<|p (λ_=>Qm) <|
    QnH rfl (lo:=1) hb Z Z J λv' hv'=>p (λ_=>Qe)<|p (λ_=>Qe)<|pe ?_
   have hf:=QL.drop hv';refine ⟨v',⟨Z,?_,La⟩,Step.drew _ _,?_⟩
   ·show Value.int .i64 E[0]=_;rw[V];cases E with | nil=>simp at J | cons y E=>rfl
   rw[V];simpa[tl] using hf
  refine Qi<|⟨h1,⟨Z,by show _=_;rw[V];rfl,La⟩,Step.refl _ _,?_⟩;rw[V];exact hb
 rintro hw g6 w6 ⟨hy,hz⟩
 replace H:=Qt H hy
 replace hs:=hs.trans hy;have h9:(bif Jg E a1 then E.headD 0 else bif Jg a1 E then a1.headD 0 else 0)=hx a1 E:=by
  unfold hx;cases e:Jg E a1 with
  | true=>rfl
  | false =>
   cases e2:Jg a1 E with
   | true=>rfl
   | false=>rw[e,e2] at hj;simp[tl] at hj
 refine Qc<|Qb<|Qb<|Qb<|xl Z<|xc (first:=[]) (capt:=[]) Z<|(hk _ _ _).mono ?_;rintro r7 w7 ⟨rfl,rfl⟩;refine xe<|QW rfl (λhg=>?_) (λhg=>?_)
 ·refine Qx ?_;rw[hg,cond_true] at hm;refine Qb<|Qb<|xl Z<|QH (us:=[[.int .i64 (hx a1 E)]]) Z Z (by decide) (by simp) ⟨by rw[←h9];rfl,Z,La⟩ λhM w8 hh hN hC =>
   xl rfl<|Q6 (news:=[.int .i64 (hx a1 E)]) (L:=[]) (Qt H hh) Z Z Z (hC.at (by simp)) (by simp[Value.oneCell']) (by omega) (by have:=hs.size;have:=hh.size;omega) λv9 w9 hD hE hO=>Qf ?_
  have hge:=Qq H;refine ⟨((tl (Jg a1 E) a1,ht),(tl (Jg E a1) E,hw),(o++[hx a1 E],v9)),by simp only[];omega,⟨Z,Z,Z,La⟩,hv,hz,?_,(hs.trans hh).then hE (λb hb=>.inr (hge b hb).1),by rw[LC];exact hm,by simp only[List.length_append,List.length_singleton];omega⟩;exact Qs.snoc hD
 rw[hg,cond_false,Mt] at hm;refine Qi ?_;exact ⟨((tl (Jg a1 E) a1,ht),(tl (Jg E a1) E,hw),(o,vo)),by simp only[];omega,⟨Z,Z,Z,La⟩,hv,hz,H,hs,hm,by simp only[];omega⟩
theorem QoK (p q:Bool) (w:World):QG prog 73 [.bool p,.bool q] w λr w'=>r=.bool (p && q)∧w'=w:=by
 refine QG.of_W func73 Z ntmps73 results73 (by simp) ?_;refine Qc<|Qf<|Qc ?_;cases p
 ·refine Qb<|Qb<|xs Z<|x (Qo Z)<|Qf ?_;exact Ql ⟨[.bool false],Lb,Z,Z⟩
 refine Qb<|Qb<|Qb<|x (Qo Z)<|Qf ?_;exact Ql ⟨[.bool q],Lb,Z,Z⟩
theorem Qpr (p q:Bool) (w:World):QG prog 140 [.bool p,.bool q] w λr w'=>r=.bool (p || q)∧w'=w:=by
 refine QG.of_W func140 Z ntmps140 results140 (by simp) ?_;refine Qc<|Qf<|Qc ?_;cases p
 ·refine Qb<|Qb<|Qb<|x (Qo Z)<|Qf ?_;exact Ql ⟨[.bool q],Lb,Z,Z⟩
 refine Qb<|Qb<|xs Z<|x (Qo Z)<|Qf ?_;exact Ql ⟨[.bool true],Lb,Z,Z⟩
theorem QiI (p q:Bool) (w:World):QG prog 78 [.bool p,.bool q] w λr w'=>r=.bool (p && !q)∧w'=w:=by
 refine QG.of_W func78 Z ntmps78 results78 (by simp) ?_;refine Qc<|Qf<|Qc ?_;cases p
 ·refine Qb<|Qb<|xs Z<|xs Z<|x (Qo Z)<|Qf ?_;exact Ql ⟨[.bool false],Lb,Z,Z⟩
 refine Qb<|Qb<|Qb<|x (Zs Z)<|x (Qo Z)<|Qf ?_;exact Ql ⟨[.bool (!q)],Lb,Z,Z⟩
theorem QbD {L L':LN}{w:World}{va vb:Value}{a b:LI}(ha:QL L w.heap va a) (hb:QL L' w.heap vb b) (E:a.length+b.length≤1099511627776) :
  QG prog 31 [va,vb] w λr w'=>Step [] w w'∧Qs 3 w.heap.size w' r (mrg (· && ·) a b):=by
 refine QG.of_W func31 Z ntmps31 results31 (by simp) ?_;refine Qc<|Qf<|Qc<|Qb<|Qb<|xl Z<|xf<|(zL QoK ha hb E).mono ?_;rintro H J ⟨hs,I⟩;refine Qf ?_;exact Ql ⟨[H],Lb,hs,I⟩
theorem yM {L L':LN}{w:World}{va vb:Value}{a b:LI}(ha:QL L w.heap va a) (hb:QL L' w.heap vb b) (E:a.length+b.length≤1099511627776) :
  QG prog 87 [va,vb] w λr w'=>Step [] w w'∧Qs 3 w.heap.size w' r (mrg (· || ·) a b):=by
 refine QG.of_W func87 Z ntmps87 results87 (by simp) ?_;refine Qc<|Qf<|Qc<|Qb<|Qb<|xl Z<|xf<|(zL Qpr ha hb E).mono ?_;rintro H J ⟨hs,I⟩;refine Qf ?_;exact Ql ⟨[H],Lb,hs,I⟩
theorem Qdr {L L':LN}{w:World}{va vb:Value}{a b:LI}(ha:QL L w.heap va a) (hb:QL L' w.heap vb b) (E:a.length+b.length≤1099511627776) :
  QG prog 36 [va,vb] w λr w'=>Step [] w w'∧Qs 3 w.heap.size w' r (mrg (λp q=>p && !q) a b):=by
 refine QG.of_W func36 Z ntmps36 results36 (by simp) ?_;refine Qc<|Qf<|Qc<|Qb<|Qb<|xl Z<|xf<|(zL QiI ha hb E).mono ?_;rintro H J ⟨hs,I⟩;refine Qf ?_;exact Ql ⟨[H],Lb,hs,I⟩
theorem Qg3 {L L':LN}{w:World}{va vb:Value}{a b:LI}(ha:QL L w.heap va a) (hb:QL L' w.heap vb b) (E:a.length+b.length≤1099511627776) :
  QG prog 174 [va,vb] w λr w'=>Step [] w w'∧r=.bool (decide (mrg (λp q=>p && !q) a b=[])):=by
 refine QG.of_W func174 Z ntmps174 results174 (by simp) ?_;refine Qc<|Qf<|Qc<|Qb<|Qb<|xl Z<|xf<|(Qdr ha hb E).mono ?_;rintro I J ⟨hs,H⟩;have hm:=Um (λp q=>p && !q) a b;have hi:=Qs.ints (L:=[]) H (by omega) (by simp);refine x (Qr hi Z)<|x (Zr Z Z)<|Qf<|Ql ⟨[.bool (decide (((mrg (λp q=>p && !q) a b).length:Int)=0))],Lb,hs,?_⟩;simp[tup]
theorem Qkd {g:Nat}{fn:Func}[Fu prog g fn] (hk:∀(e:Ed) (s:Int) (w:World),0≤e.1→e.1≤1099511627776→0≤s→s≤1099511627776→QG prog g [.agg (QB e).toArray,.int .i64 s] w λr w'=>r=.int .i64 (e.1 - s)∧Step [] w w')
  {L:LN} {w:World} {v:Value} {es:List Ed} (h:zf L w.heap v es) (hi:es.Pairwise (λa b=>a.1≤b.1)) (hb:∀e∈es,0≤e.1∧e.1≤1099511627776) (s:Int) (Y:0≤s) (ha:s≤1099511627776) :
  QG prog 94 [v,.int .i64 s,.func (.func g) #[] #[]] w λr w'=>Step [] w w'∧∃(i:Nat) (b:Bool),r=.tuple #[.int .i64 i,.bool b]∧i≤es.length ∧
   (∀m (hm:m<es.length),m<i→es[m].1<s)∧(∀m (hm:m<es.length),i≤m→s≤es[m].1):=by
 have h2:=h.le;have hc:∀{i j:Nat} (hj:j<es.length) (H:i<j),es[i].1≤es[j].1:=λ{i j} hj H=>M0.1 hi i j (by omega) hj H;have he:∀m (hm:m<es.length),0≤es[m].1∧es[m].1≤1099511627776:=λm hm=>hb _ (Le hm);refine QG.of_W func94 Z ntmps94 results94 (by simp) ?_
 refine Qc<|x Qe<|Qf<|Qc<|Qb<|x (Qr h Z)<|Qf<|Qc<|Qb<|x Qe<|Qf<|Qg<|Qh<|Qz (α:=Nat×Nat) [(9,11),(15,34)] (λz=>[(9,.int .i64 z.1),(10,.int .i64 z.2)])
  (λz w'=>Step [] w w'∧z.1≤z.2∧z.2≤es.length∧(∀m (hm:m<es.length),m<z.1→es[m].1<s)∧(∀m (hm:m<es.length),z.2≤m→s≤es[m].1)) (λz=>z.2 - z.1) (by rfl) (0,es.length) ⟨Z,Z,La⟩
  ⟨Step.refl _ _,Ln _,Lv _,λm _ I=>absurd I (Me m),λm h1 I=>absurd h1 (by simp only[] at I;omega)⟩ ?_
 rintro ⟨i,j⟩ g1 w1 ⟨E,H,hj,J,U⟩;simp only[] at H hj J U;refine Qg<|Qc<|Qb<|Qb<|x (QA Z Z)<|xe<|QC rfl (λhn=>?_) (λhn=>?_)
 ·have e:i=j:=by omega
  subst e;refine Qy<|QZ (α:=Bool) [(6,7),(35,48)] (λz=>[(6,.int .i64 i),(7,.bool z)]) (λz w'=>Step [] w1 w') (by rfl) ?_ ?_
  ·refine Qx<|Qb<|Qb<|Qb<|xb (QA Z Z) (λho=>?_) (λho=>?_)
   ·have hf:i<es.length:=by omega
    have hq:=he i hf;refine Qb<|Qb<|Qb<|Qb<|xie (h.ext E) Z Z hf λh3 hp=>x (QJ hp Z Z)<|Qb<|xl Z<|xc (first:=[]) (capt:=[]) Z<|(hk es[i] s _ hq.1 hq.2 Y ha).mono ?_;rintro r2 w2 ⟨rfl,hr⟩;refine x (Zr Z Z)<|x (Qo Z)<|x Qe<|Qf ?_;exact ⟨_,⟨Z,Z,La⟩,hr⟩
   refine Qb<|xs Z<|xs Z<|xs Z<|xs Z<|xs Z<|xs Z<|xs Z<|xs Z<|x (Qo Z)<|x Qe<|Qf ?_;exact ⟨false,⟨Z,Z,La⟩,Step.refl _ _⟩
  rintro z g3 w3 hs;exact Ql ⟨[.int .i64 i,.bool z],⟨Z,Z,La⟩,E.trans hs,i,z,Z,hj,J,U⟩
 refine Qi<|Qh<|Qc<|Qb<|Qb<|QQ Z Z<|x (Xy Z (by exact ⟨by omega,by omega⟩))<|x (zz (n:=1) Z Z (by decide))<|x (Xy Z (by exact ⟨by omega,by omega⟩))<|Qf ?_;have hh:(((i:Int)+(j:Int)) / 2 ^ 1)=(((i+j) / 2:Nat):Int):=by omega
 rw[hh];generalize hq:(i+j) / 2=q;have ht:i≤q:=by omega
 have hu:q<j:=by omega
 have V:q<es.length:=by omega
 have hg:=he q V;refine Qc<|Qb<|Qb<|Qb<|xie (h.ext E) Z Z V λh4 hv=>x (QJ hv Z Z)<|Qb<|xl Z<|xc (first:=[]) (capt:=[]) Z<|(hk es[q] s _ hg.1 hg.2 Y ha).mono ?_;rintro r4 w4 ⟨rfl,hl⟩;refine x (QA Z Z)<|xe<|QC rfl (λhw=>?_) (λhw=>?_)
 ·refine Qx<|Qb<|Qf<|⟨(i,q),by simp only[];omega,⟨Z,Z,La⟩,E.trans hl,ht,by omega,J,λm hm hy=>?_⟩;by_cases e:q=m
  ·subst e;omega
  have:=hc hm (show q<m by simp only[] at hy;omega);omega
 refine Qx<|Qb<|QQ Z Z<|Qf<|⟨(q+1,j),by simp only[];omega,⟨Z,Z,La⟩,E.trans hl,hu,hj,λm hm hz=>?_,U⟩;by_cases e:m=q
 ·subst e;omega
 have:=hc V (show m<q by simp only[] at hz;omega);omega
theorem Qlj (e:Ed) (s:Int) (w:World) (I:0≤e.1) (h1:e.1≤1099511627776) (h2:0≤s) (h3:s≤1099511627776) :
  QG prog 95 [.agg (QB e).toArray,.int .i64 s] w λr w'=>r=.int .i64 (e.1 - s)∧Step [] w w':=by
 refine QG.of_W func95 Z ntmps95 results95 (by simp) ?_;refine Qc<|xl Z<|QR (us:=QB e) Z λJ U E V H=>Qf<|Qc<|x (Qa Z)<|x (Qd H Z Z)<|Qb<|x (J2 Z Z ⟨by omega,by omega⟩)<|Qf ?_;exact Ql ⟨[.int .i64 (e.1 - s)],Lb,Z,E⟩
theorem Qli (e:Ed) (s:Int) (w:World) (I:0≤e.1) (h1:e.1≤1099511627776) (h2:0≤s) (h3:s≤1099511627776) :
  QG prog 96 [.agg (QB e).toArray,.int .i64 s] w λr w'=>r=.int .i64 (e.1 - s)∧Step [] w w':=by
 refine QG.of_W func96 Z ntmps96 results96 (by simp) ?_;refine Qc<|xl Z<|QR (us:=QB e) Z λJ U E V H=>Qf<|Qc<|x (Qa Z)<|x (Qd H Z Z)<|Qb<|x (J2 Z Z ⟨by omega,by omega⟩)<|Qf ?_;exact Ql ⟨[.int .i64 (e.1 - s)],Lb,Z,E⟩
theorem QdW {L:LN}{w:World}{va vm ve:Value}{st:Int}{es:List Ed}(h:zf L w.heap ve es) (hi:es.Pairwise (λa b=>a.1≤b.1)) (hb:∀e∈es,0≤e.1∧e.1≤1099511627776) (s:Int) (hf:0≤s) (ho:s<1099511627776) :
  QG prog 45 [.agg #[va,.int .i64 st,vm,ve],.int .i64 s] w λr w'=>Step [] w w'∧zf L w'.heap r (ZE es s):=by
 refine QG.of_W func45 Z ntmps45 results45 (by simp) ?_;refine Qc<|xl Z<|QR (us:=[va,.int .i64 st,vm,ve]) Z λb2 w1 U hp E=>Qf ?_
 replace h:=h.ext U;refine Qc<|x (Qa Z)<|x (Qd E Z Z)<|Qb<|xl Z<|xf<|(Qkd Qlj h hi hb s hf (by omega)).mono ?_;rintro r2 w2 ⟨I,lo,b,rfl,hq,V,hg⟩
 replace h:=h.ext I
 replace E:=E.ext I;refine Qb<|x (Qj Z Z)<|x (Qj Z Z)<|x Qe<|Qf<|Qc<|x (Qa Z)<|x (Qd E Z Z)<|Qb<|QQ Z Z<|xl Z<|xf<|(Qkd Qli h hi hb (s+1) (by omega) (by omega)).mono ?_;rintro r3 w3 ⟨J,H,b',rfl,Y,hh,ha⟩
 replace h:=h.ext J
 replace E:=E.ext J;refine Qb<|x (Qj Z Z)<|x (Qj Z Z)<|x Qe<|Qf ?_;have he:lo≤H:=by
  rcases Nat.lt_or_ge H lo with hj | hge
  ·have h1:=V H (by omega) hj;have h2:=ha H (by omega) (Lv _);omega
  exact hge
 refine Qc<|x (Qa Z)<|x (Qd E Z Z)<|Qb<|Qb<|Qqf h Z Z Z he Y λv' hv'=>Qf<|Ql ⟨[v'],Lb,(U.trans I).trans J,?_⟩;have hc:=yq (λe:Ed=>decide (e.1=s)) es lo H he Y (λm hm hk=>by have:=V m hm hk;simp;omega) (λm hm h1 h2=>by have:=hg m hm h1;have:=hh m hm h2;simp;omega) (λm hm h1=>by have:=ha m hm h1;simp;omega)
 have hl:(ZE es s).length=H - lo:=by unfold ZE;rw[←hc,LD,Ms];omega
 show ZA L w3.heap v' (ZE es s).length 3 _;rw[hl];have e1:(ZE es s).flatMap QB=((es.flatMap QB).drop (lo*3)).take ((H - lo)*3):=by
  unfold ZE;rw[←hc];have key:∀(l:List Ed) (k:Nat),(l.flatMap QB).drop (k*3)=(l.drop k).flatMap QB:=by
   intro l;induction l with
   | nil=>intro k;simp
   | cons a l ih=>intro k;cases k with
    | zero=>simp
    | succ k=>simp only[List.flatMap_cons,List.drop_succ_cons,Nat.add_mul,Nat.one_mul];rw[MP,←List.drop_drop,show (QB a++l.flatMap QB).drop 3=l.flatMap QB from rfl,ih]
  have hn:∀(l:List Ed) (k:Nat),(l.flatMap QB).take (k*3)=(l.take k).flatMap QB:=by
   intro l;induction l with
   | nil=>intro k;simp
   | cons a l ih=>intro k;cases k with
    | zero=>simp
    | succ k =>
     simp only[List.flatMap_cons,List.take_succ_cons,Nat.add_mul,Nat.one_mul];rw[List.take_append,K9,←ih,Ls (by simp[K9])];simp
  rw[key,hn]
 rw[e1];exact hv'
structure QM (a:QD):Prop where
 al:∀e∈a.al,0≤e∧e<32
 ali:Z8 a.al
 st0:0≤a.st
 st1:a.st≤4096
 mr:∀s∈a.mr,0≤s∧s<a.st
 mri:Z8 a.mr
 ed:∀e∈a.ed,0≤e.1∧e.1<a.st∧e.2.1∈a.al∧0≤e.2.2∧e.2.2<a.st
 edi:a.ed.Pairwise λx y=>x.1<y.1∨(x.1=y.1∧x.2.1<y.2.1)
theorem Z6 (n:Int):∀(l:LI) (pr:Option Int),YV n pr l=0↔(∀x∈l,0≤x∧x<n)∧Z8 l∧∀y,pr=some y→∀x∈l,y<x
 | [],pr=>by simp[YV]
 | a::l,pr=>by
  have ih:=Z6 n l (some a);rw[YV];by_cases h1:a<0∨n≤a
  ·rw[if_pos h1];simp only[List.forall_mem_cons];constructor
   ·intro h;cases h
   rintro ⟨⟨h,_⟩,_⟩;omega
  rw[if_neg h1];by_cases h2:zX pr a=true
  ·rw[if_pos h2];constructor
   ·intro h;cases h
   rintro ⟨_,_,h⟩;cases pr with
   | none=>simp[zX] at h2
   | some y=>simp[zX] at h2;have:=h y Z a Lm;omega
  rw[if_neg h2,ih];simp only[List.forall_mem_cons,List.pairwise_cons];constructor
  ·rintro ⟨h3,h4,h5⟩;refine ⟨⟨by omega,h3⟩,⟨λb hb=>h5 a Z b hb,h4⟩,?_⟩;rintro y rfl;simp[zX] at h2;exact ⟨h2,λz E=>by have:=h5 a Z z E;omega⟩
  rintro ⟨⟨_,h3⟩,⟨h4,h5⟩,_⟩;exact ⟨h3,h5,λy hy z E=>by cases hy;exact h4 z E⟩
theorem Qc5 (al:LI) (st:Int):∀(l:List Ed) (pr:Option Ed),ckE al st pr l=0↔(∀e∈l,0≤e.1∧e.1<st∧e.2.1∈al∧0≤e.2.2∧e.2.2<st)∧(l.Pairwise λx y=>x.1<y.1∨(x.1=y.1∧x.2.1<y.2.1)) ∧
  ∀y,pr=some y→∀e∈l,y.1<e.1∨(y.1=e.1∧y.2.1<e.2.1)
 | [],pr=>by simp[ckE]
 | a::l,pr=>by
  have ih:=Qc5 al st l (some a);rw[ckE];by_cases h1:a.1<0∨st≤a.1∨a.2.2<0∨st≤a.2.2
  ·rw[if_pos h1];simp only[List.forall_mem_cons];constructor
   ·intro h;cases h
   rintro ⟨⟨h,_⟩,_⟩;omega
  rw[if_neg h1];by_cases h2:a.2.1∉al
  ·rw[if_pos h2];constructor
   ·intro h;cases h
   rintro ⟨h,_⟩;exact absurd (h a Lm).2.2.1 h2
  rw[if_neg h2];by_cases h3:edO pr a=true
  ·rw[if_pos h3];constructor
   ·intro h;cases h
   rintro ⟨_,_,h⟩;cases pr with
   | none=>simp[edO] at h3
   | some y=>simp[edO] at h3;have:=h y Z a Lm;omega
  rw[if_neg h3,ih];simp only[List.forall_mem_cons,List.pairwise_cons];have H:a.2.1∈al:=Lo.1 h2;constructor
  ·rintro ⟨h4,h5,h6⟩;refine ⟨⟨⟨by omega,by omega,H,by omega,by omega⟩,h4⟩,⟨λb hb=>h6 a Z b hb,h5⟩,?_⟩;rintro y rfl;simp[edO] at h3;have I:y.1<a.1∨y.1=a.1∧y.2.1<a.2.1:=by omega
   exact ⟨I,λz E=>by have:=h6 a Z z E;omega⟩
  rintro ⟨⟨_,h4⟩,⟨h5,h6⟩,_⟩;exact ⟨h4,h6,λy hy z E=>by cases hy;exact h5 z E⟩
theorem Zv (a:QD):XM a=0↔QM a:=by
 unfold XM;by_cases h1:YV 32 none a.al≠0
 ·rw[if_pos h1];exact ⟨λh=>absurd h h1,λh=>absurd ((Z6 32 a.al none).2 ⟨h.al,h.ali,λ_ h=>by cases h⟩) h1⟩
 rw[if_neg h1];have E:=(Z6 32 a.al none).1 (Lo.1 h1);by_cases h2:a.st<0
 ·rw[if_pos h2];exact ⟨λh=>(by cases h),λh=>(by have:=h.st0;omega)⟩
 rw[if_neg h2];by_cases h3:4096<a.st
 ·rw[if_pos h3];exact ⟨λh=>(by cases h),λh=>(by have:=h.st1;omega)⟩
 rw[if_neg h3];by_cases h4:YV a.st none a.mr≠0
 ·rw[if_pos h4];exact ⟨λh=>absurd h h4,λh=>absurd ((Z6 a.st a.mr none).2 ⟨h.mr,h.mri,λ_ h=>by cases h⟩) h4⟩
 rw[if_neg h4,Qc5];have H:=(Z6 a.st a.mr none).1 (Lo.1 h4);exact ⟨λh=>⟨E.1,E.2.1,by omega,by omega,H.1,H.2.1,h.1,h.2.1⟩,λh=>⟨h.ed,h.edi,λ_ h=>by cases h⟩⟩
theorem Jt:∀(l:LI) (a n:Int),Z8 l→(∀x∈l,a≤x∧x<n)→(l.length:Int)≤max 0 (n - a)
 | [],a,n,_,_=>by simp;omega
 | x::l,a,n,h1,h2=>by
  simp only[List.pairwise_cons,List.forall_mem_cons] at h1 h2;have:=Jt l (x+1) n h1.2 (λy hy=>⟨by have:=h1.1 y hy;omega,(h2.2 y hy).2⟩);simp only[List.length_cons];omega
theorem QM.al_le {a:QD}(h:QM a):a.al.length≤32:=by have:=Jt a.al 0 32 h.ali h.al;omega
theorem QM.mr_le {a:QD}(h:QM a):a.mr.length≤4096:=by have:=Jt a.mr 0 a.st h.mri h.mr;have:=h.st1;omega
theorem QM.eds {a:QD}(h:QM a):a.ed.Pairwise λx y=>x.1≤y.1:=h.edi.imp λh=>by omega
structure Cs where
 ord:LI
 num:LI
 mk':LI
 ed:List Ed
def Zn (l:LI) (k:Int):Int:=l.getD k.toNat 0
def Zk (i:Nat) (c:Cs) (e:Ed):Cs :=
 if Zn c.num e.2.2<0 then ⟨c.ord++[e.2.2],c.num.set e.2.2.toNat c.ord.length,c.mk',c.ed++[((i:Int),e.2.1,(c.ord.length:Int))]⟩
 else ⟨c.ord,c.num,c.mk',c.ed++[((i:Int),e.2.1,Zn c.num e.2.2)]⟩
def Z0 (a:QD) (i:Nat) (c:Cs):Cs:=if Zn c.ord i∈a.mr then ⟨c.ord,c.num,c.mk'++[(i:Int)],c.ed⟩ else c
def qJ (a:QD) (i:Nat) (c:Cs):Cs:=(ZE a.ed (Zn c.ord i)).foldl (Zk i) (Z0 a i c)
def YY (a:QD):Nat→Nat→Cs→Cs
 | 0,_,c=>c
 | f+1,i,c=>if i<c.ord.length then YY a f (i+1) (qJ a i c) else c
def ZO (a:QD):Cs:=⟨[0],(List.replicate a.st.toNat (-1)).set 0 0,[],[]⟩
def ZJ (a:QD):QD:=if a.st=0 then ⟨a.al,0,[],[]⟩ else
 let c:=YY a a.st.toNat 0 (ZO a);⟨a.al,c.ord.length,c.mk',c.ed⟩
def neg (l:LI):Nat:=(l.filter (·<0)).length
theorem Ui:∀(l:LI) (k:Nat) (v:Int) (h:k<l.length),l[k]<0→0≤v→neg (l.set k v)+1=neg l
 | a::l,0,v,_,h1,h2=>by
  have E:a<0:=h1;simp[neg,E,show ¬v<0 by omega]
 | a::l,k+1,v,h,h1,h2=>by
  have ih:=Ui l k v (by simpa using h) h1 h2;unfold neg at *;simp only[List.set_cons_succ,List.filter_cons];split
  ·simp only[List.length_cons];omega
  exact ih
structure V5 (st:Int) (c:Cs):Prop where
 nl:c.num.length=st.toNat
 sum:c.ord.length+neg c.num=st.toNat
 ord:∀s∈c.ord,0≤s∧s<st
 num:∀v∈c.num,v<c.ord.length
 el:c.ed.length≤1000000000
theorem V5.le {st:Int}{c:Cs}(h:V5 st c):c.ord.length≤st.toNat:=by have:=h.sum;omega
theorem Ux {l:LI}{k:Int}(h:k.toNat<l.length):Zn l k=l[k.toNat]:=by unfold Zn;simp[List.getD,h]
theorem QbY {st:Int}{c:Cs}{i:Nat}{e:Ed}(h:V5 st c) (I:0≤e.2.2) (h1:e.2.2<st) (hl:c.ed.length+1≤1000000000):V5 st (Zk i c e):=by
 have hk:e.2.2.toNat<c.num.length:=by rw[h.nl];omega
 unfold Zk;split
 ·rename_i H;rw[Ux hk] at H;refine ⟨by simp[h.nl],?_,?_,?_,by simpa using hl⟩
  ·have:=Ui c.num e.2.2.toNat c.ord.length hk H (by omega);have:=h.sum;simp only[List.length_append,List.length_singleton];omega
  ·intro s hs;simp only[List.mem_append,List.mem_singleton] at hs;rcases hs with hs | rfl
   ·exact h.ord s hs
   exact ⟨I,h1⟩
  intro v E;simp only[List.length_append,List.length_singleton];rcases Nh E with E | rfl
  ·have:=h.num v E;omega
  omega
 exact ⟨h.nl,h.sum,h.ord,h.num,by simpa using hl⟩
theorem Qb0 (i:Nat) (c:Cs) (e:Ed):(Zk i c e).ed.length=c.ed.length+1:=by unfold Zk;split <;> simp
theorem QiL {a:QD}{st:Int}{c:Cs}{i:Nat}(h:V5 st c):V5 st (Z0 a i c):=by
 unfold Z0;split
 ·exact ⟨h.nl,h.sum,h.ord,h.num,h.el⟩
 exact h
theorem Yy {es:List Ed}{s:Int}{e:Ed}(h:e∈ZE es s):e∈es∧e.1=s:=by unfold ZE at h;simpa using h
theorem Qgc {a:QD}(J:0<a.st):V5 a.st (ZO a):=by
 have H:0<a.st.toNat:=by omega
 refine ⟨by simp[ZO],?_,?_,?_,by simp[ZO]⟩
 ·have I:0<(List.replicate a.st.toNat (-1:Int)).length:=by simpa using H
  have h1:=Ui (List.replicate a.st.toNat (-1)) 0 0 I (by simp) (MQ _);have h2:neg (List.replicate a.st.toNat (-1))=a.st.toNat:=by
   unfold neg;rw[Nm.2 (by intro b hb;have:=Nl hb;subst this;rfl)];simp
  simp only[ZO,List.length_singleton];omega
 ·intro s hs;simp[ZO] at hs;subst hs;omega
 intro v E;simp only[ZO,List.length_singleton] at *;rcases Nh E with E | rfl
 ·have:=Nl E;omega
 omega
theorem Qac {a:QD}{f i:Nat}{c:Cs}(h:¬i<c.ord.length):YY a f i c=c:=by
 cases f with
 | zero=>rfl
 | succ f=>rw[YY,if_neg h]
theorem QM.ed_le {a:QD}(h:QM a):a.ed.length≤131072:=by
 have h1:Z8 (a.ed.map λe=>e.1*32+e.2.1):=by
  refine ME.2 (List.Pairwise.imp_of_mem ?_ h.edi);intro x y hx hy H;have h2:=h.al _ (h.ed x hx).2.2.1;have h3:=h.al _ (h.ed y hy).2.2.1;omega
 have h2:=Jt _ 0 131072 h1 (by
  intro v E;obtain ⟨e,he,rfl⟩:=Lq.1 E;have h3:=h.ed e he;have h4:=h.al _ h3.2.2.1;have:=h.st1;omega)
 simp only[List.length_map] at h2;omega
theorem J4 (es:List Ed) (s:Int):(ZE es s).length≤es.length:=My _ _
structure Kv (b3 b22:Nat) (r3:Value) (wS:World) (c:Cs) (vo vk ve:Value) (w:World):Prop where
 st:Step [b3,b22] wS w
 B3:QT w.heap b3 50 [r3,.int .i64 0,vk,ve]
 B22:QT w.heap b22 3 (c.num.map (Value.int .i64))
 o:Qs 3 wS.heap.size w vo c.ord
 k:Qs 3 wS.heap.size w vk c.mk'
 e:Ye 129 wS.heap.size w ve c.ed
 d1:Dj vo vk
 d2:Dj vo ve
 d3:Dj vk ve
theorem Kv.ext {b3 b22:Nat}{r3:Value}{wS:World}{c:Cs}{vo vk ve:Value}{w w':World}(h:Kv b3 b22 r3 wS c vo vk ve w) (hs:Step [] w w'):Kv b3 b22 r3 wS c vo vk ve w' :=
 ⟨h.st.trans hs,h.B3.ext hs,h.B22.ext hs,Qt h.o hs,Qt h.k hs,Qt h.e hs,h.d1,h.d2,h.d3⟩
section
variable {b3 b22:Nat} {r3:Value} {wS:World} {c:Cs} {vo vk ve:Value} {w w' w'':World}
theorem Kv.setK (h:Kv b3 b22 r3 wS c vo vk ve w) (Y:b3<wS.heap.size) (U:b22<wS.heap.size) (ne:b3≠b22) {H:Value}{m:LI}(hs:Step (ob vk) w w') (I:Qs 3 wS.heap.size w' H m)
  (J:∀b∈ob H,b∈ob vk∨w.heap.size≤b) (E:Step [b3] w' w'') (V:QT w''.heap b3 50 [r3,.int .i64 0,H,ve]):Kv b3 b22 r3 wS ⟨c.ord,c.num,m,c.ed⟩ vo H ve w'':=by
 have hge:=Qq h.k;refine ⟨(h.st.then hs (λb hb=>.inr (hge b hb).1)).then E (λb hb=>.inl (by simp at hb;simp[hb])),V,(h.B22.step hs (QY h.k U)).step E (by simp;omega),
  Qk (Qk h.o hs h.d1) E (λb hb=>by have:=(Qq h.o b hb).1;simp;omega),Qk I E (λb hb=>by have:=(Qq I b hb).1;simp;omega),
  Qk (Qk h.e hs h.d3.symm) E (λb hb=>by have:=(Qq h.e b hb).1;simp;omega),h.d1.grow J (Q2 h.o),h.d2,(h.d3.symm.grow J (Q2 h.e)).symm⟩
theorem Kv.setE (h:Kv b3 b22 r3 wS c vo vk ve w) (V:b3<wS.heap.size) (J:b22<wS.heap.size) (ne:b3≠b22) {ve':Value}{m:List Ed}(hs:Step (ob ve) w w') (H:Ye 129 wS.heap.size w' ve' m)
  (I:∀b∈ob ve',b∈ob ve∨w.heap.size≤b) (E:Step [b3] w' w'') (U:QT w''.heap b3 50 [r3,.int .i64 0,vk,ve']):Kv b3 b22 r3 wS ⟨c.ord,c.num,c.mk',m⟩ vo vk ve' w'':=by
 have hge:=Qq h.e;refine ⟨(h.st.then hs (λb hb=>.inr (hge b hb).1)).then E (λb hb=>.inl (by simp at hb;simp[hb])),U,(h.B22.step hs (QY h.e J)).step E (by simp;omega),
  Qk (Qk h.o hs h.d2) E (λb hb=>by have:=(Qq h.o b hb).1;simp;omega),Qk (Qk h.k hs h.d3) E (λb hb=>by have:=(Qq h.k b hb).1;simp;omega),
  Qk H E (λb hb=>by have:=(Qq H b hb).1;simp;omega),h.d1,h.d2.grow I (Q2 h.o),h.d3.grow I (Q2 h.k)⟩
theorem Kv.setN (h:Kv b3 b22 r3 wS c vo vk ve w) (I:b22<wS.heap.size) (ne:b3≠b22) {m:LI}(E:Step [b22] w w') (H:QT w'.heap b22 3 (m.map (Value.int .i64))):Kv b3 b22 r3 wS ⟨c.ord,m,c.mk',c.ed⟩ vo vk ve w' :=
 ⟨h.st.then E (λb hb=>.inl (by simp at hb;simp[hb])),h.B3.step E (by simp;omega),H,Qk h.o E (λb hb=>by have:=(Qq h.o b hb).1;simp;omega),
  Qk h.k E (λb hb=>by have:=(Qq h.k b hb).1;simp;omega),Qk h.e E (λb hb=>by have:=(Qq h.e b hb).1;simp;omega),h.d1,h.d2,h.d3⟩
theorem Kv.setO (h:Kv b3 b22 r3 wS c vo vk ve w) (I:b3<wS.heap.size) (J:b22<wS.heap.size) {E:Value}{m:LI}(hs:Step (ob vo) w w') (U:Qs 3 wS.heap.size w' E m)
  (H:∀b∈ob E,b∈ob vo∨w.heap.size≤b):Kv b3 b22 r3 wS ⟨m,c.num,c.mk',c.ed⟩ E vk ve w' :=
 ⟨h.st.then hs (λb hb=>.inr (Qq h.o b hb).1),h.B3.step hs (QY h.o I),h.B22.step hs (QY h.o J),U,Qk h.k hs h.d1.symm,Qk h.e hs h.d2.symm,
  (h.d1.symm.grow H (Q2 h.k)).symm,(h.d2.symm.grow H (Q2 h.e)).symm,h.d3⟩
end
def Yc (c:Cs) (e:Ed):Cs:=if Zn c.num e.2.2<0 then ⟨c.ord++[e.2.2],c.num.set e.2.2.toNat c.ord.length,c.mk',c.ed⟩ else c
theorem Qlm (c:Cs) (e:Ed):(Yc c e).num.length=c.num.length:=by unfold Yc;split <;> simp
theorem zm {i:Nat}{c:Cs}{e:Ed}(h:e.2.2.toNat<c.num.length):Zk i c e=⟨(Yc c e).ord,(Yc c e).num,(Yc c e).mk',(Yc c e).ed++[((i:Int),e.2.1,Zn (Yc c e).num e.2.2)]⟩:=by
 unfold Zk Yc;split
 ·simp[Zn,List.getD,h]
 rfl
set_option maxHeartbeats 1000000 in
theorem Qbt {L:LN}{w:World}{va vm ve:Value}{a:QD}(h:Zq L w.heap va vm ve a) (V:QM a) :
  QG prog 212 [.agg #[va,.int .i64 a.st,vm,ve]] w λr w'=>Step [] w w'∧JY w.heap.size w'.heap r (ZJ a):=by
 have hst0:=V.st0;have hst1:=V.st1;refine QG.of_W func212 Z ntmps212 results212 (by simp) ?_;refine Qc<|xl Z<|QR (us:=[va,.int .i64 a.st,vm,ve]) Z λb1 w1 gm hb1 hp=>xl Z<|Qu (us:=[nS,.int .i64 0,nS,nS]) Z λb2 w2 hg hb2 hr=>xe ?_;have hl1:=hp.lt;have hl2:=hr.lt;refine Qc<|x (Qa Z)<|x (Qd (hp.ext hg) Z Z)<|xl Z<|xf<|(Y2 ((h.al.ext gm).ext hg)).mono ?_;rintro r3 w3 ⟨Y,I⟩
 have hz3:=Y.size;refine x (QN ⟨(Qs.ints (L:=[]) I h.al.le (by simp)).cells,La⟩)<|xl rfl<|Qu (us:=[nS,.int .i64 0,nS,nS]) rfl λb3 w4 kq kr ht =>
  xl rfl<|Qn (us:=[r3,.int .i64 0,nS,nS]) ht Z Z Z Z ⟨(Qs.ints (L:=[]) I h.al.le (by simp)).one,rfl,rfl,rfl,La⟩ λw5 kt ht=>xe ?_
 have H:Step [] w3 w5:=kq.then1 kt kr;have hl3:=ht.lt;have gn:Step [] w w5:=((gm.trans hg).trans Y).trans H;refine Qg<|Qc<|x (Qa Z)<|x (Qd (((hp.ext hg).ext Y).ext H) Z Z)<|x (Zr Z Z)<|xe<|Q3 rfl (λhK=>?_) (λhK=>?_)
 ·refine Qc<|x (Qp ht Z Z)<|xl Z<|Qn (us:=[r3,.int .i64 0,nS,nS]) ((hr.ext Y).ext H) Z Z Z Z ⟨(Qs.ints (L:=[]) I h.al.le (by simp)).one,rfl,rfl,rfl,La⟩ λw6 gq hr=>xe ?_;refine Ql ⟨[.agg #[r3,.int .i64 0,nS,nS]],⟨⟨_,Z,Qw Z (hr.at (L:=[]) (by simp)).cells⟩,La⟩,gn.then1 gq (by omega),?_⟩;have ku:=Qk (Qt I H) gq (λb hb=>by have:=(Qq I b hb).1;simp;omega);unfold ZJ;rw[if_pos hK]
  exact ⟨r3,_,_,Z,λL' hv=>⟨Qs.ints ku h.al.le (λb hb=>by have:=hv b hb;omega),ZA.nil _ _ _,ZA.nil _ _ _⟩⟩
 have kv:0<a.st:=by omega
 obtain ⟨n,hn⟩:∃n:Nat,a.st=n:=⟨a.st.toNat,by omega⟩;have kw:a.st.toNat=n:=by omega
 refine Qi<|Qc<|x (Qa Z)<|x (Qd (((hp.ext hg).ext Y).ext H) Z Z)<|xl Z<|XZ (n:=n) (congrArg (Value.int .i64) hn) (congrArg (Value.int .i64) hn) (by omega) λb22 w7 hw hb22 hL=>Qf ?_;have hl22:=hL.lt;have kx:=gn.trans hw
 rw[show (List.replicate n (Value.int .i64 0).cells.toList).flatten=((List.replicate n 0).map (Value.int .i64)) by rw[show (Value.int .i64 0).cells.toList=[Value.int .i64 0] from rfl,Qcc,List.map_replicate]] at hL;have kz:Step [] w3 w7:=H.trans hw;refine Qg<|Qc<|Qb<|x (Qie Z)<|Qb<|xe ?_
 refine Qh<|Qz (α:=Nat) [(5,5),(25,31)] (λk=>[(25,.int .i64 k)]) (λk w'=>Step [b22] w7 w'∧k≤n∧QT w'.heap b22 3 ((List.replicate k (-1)++List.replicate (n - k) 0).map (Value.int .i64))) (λk=>n - k) (by rfl) 0 Lb
  ⟨Step.refl _ _,Ln _,by simpa using hL⟩ ?_
 rintro k g w8 ⟨hM,hk,hN⟩;refine Qc<|x (QA Z Z)<|xe<|Qg<|QC Z (λk0=>?_) (λk0=>?_)
 rotate_left
 ·have J:k<n:=by omega
  refine Qi<|Qg<|Qh<|Qc<|Qb<|Qf<|Qx<|Qb<|Qb<|x (QS Z Z J)<|xl Z<|Jr hN Z Z (by simp;omega) λw9 h6 gr=>xe ?_;refine Qx<|QQ Z Z<|Qb<|xe<|⟨k+1,by omega,Lb,hM.trans' h6,by omega,?_⟩;have e:(List.replicate k (-1:Int)++List.replicate (n - k) 0).set k (-1)=List.replicate (k+1) (-1)++List.replicate (n - (k+1)) 0:=by
   rw[List.set_append_right _ _ (by simp)];obtain ⟨m,hm⟩:∃m,n - k=m+1:=⟨n - k - 1,by omega⟩;rw[hm,show n - (k+1)=m by omega,List.replicate_succ,List.replicate_succ' (n:=k)];simp
  rw[e] at gr;exact gr
 have k4:n=k:=by omega
 subst k4;simp only[Nat.sub_self,List.replicate_zero,List.append_nil] at hN;refine Qy<|Qc<|Qb<|x (QS (i:=0) Z Z (by omega))<|xl Z<|Jr (i:=0) hN Z Z (by simp;omega) λwS h6 k5=>xe ?_;have hzS:w8.heap.size≤wS.heap.size:=h6.size;have hz8:=hM.size;have hy:Step [b22] w7 wS:=hM.trans' h6;have hO:Step [] w wS:=kx.then1 hy (by omega)
 have hA:Zq [b3,b22] wS.heap va vm ve a:=(h.up (λb hb=>.inr (by simp at hb;omega))).ext hO;have gs:QT wS.heap b1 50 [va,.int .i64 a.st,vm,ve]:=((((hp.ext hg).ext Y).ext H).ext hw).step hy (by simp;omega);have k6:QT wS.heap b2 50 [nS,.int .i64 0,nS,nS]:=(((hr.ext Y).ext H).ext hw).step hy (by simp;omega)
 have k7:QT wS.heap b3 50 [r3,.int .i64 0,nS,nS]:=(ht.ext hw).step hy (by simp;omega);have k8:Qs 3 w2.heap.size wS r3 a.al:=Qk (Qt I kz) hy (λb hb=>by have:=Q2 I b hb;simp;omega);have k9:∀b∈ob r3,b<w3.heap.size:=Q2 I;have hz:b3<wS.heap.size:=by omega
 have h0:b22<wS.heap.size:=by omega
 have hP:b3≠b22:=by omega
 refine Qc<|xl Z<|QH (us:=[[.int .i64 0]]) Z Z (by decide) (by simp) ⟨rfl,rfl,La⟩ λgt ma hQ hb34 mc=>Qf ?_;have mf:Qs 3 wS.heap.size ma (.slice (some ⟨gt,0,none⟩) 1 1) [0]:=mc.own (n:=1) (sz:=1) Z (by omega) (by omega);refine Qg<|Qc<|Qf ?_;have hedle:=V.ed_le;have mg:∀e∈a.ed,0≤e.1∧e.1≤1099511627776:=λe he=>by have:=V.ed e he;omega
 refine Qh<|Qz (α:=Nat×Cs×Value×Value×Value) [(6,9),(11,11),(35,100)] (λz=>[(6,z.2.2.1),(7,.int .i64 z.1)])
  (λz w'=>Kv b3 b22 r3 wS z.2.1 z.2.2.1 z.2.2.2.1 z.2.2.2.2 w'∧z.1≤z.2.1.ord.length∧V5 a.st z.2.1∧z.2.1.mk'.length≤z.1∧z.2.1.ed.length≤z.1*131072∧YY a (a.st.toNat - z.1) z.1 z.2.1=YY a a.st.toNat 0 (ZO a))
  (λz=>a.st.toNat - z.1) (by rfl) (0,ZO a,.slice (some ⟨gt,0,none⟩) 1 1,nS,nS) ⟨Z,Z,La⟩
  ⟨⟨hQ.any,k7.ext hQ,by show QT _ _ _ (List.map _ ((List.replicate a.st.toNat (-1)).set 0 0));rw[kw];exact k5.ext hQ,mf,QP _ _ _ _,QP _ _ _ _,Dj.nil' _,Dj.nil' _,Dj.nil' _⟩,Ln _,Qgc kv,Ln _,Ln _,Z⟩ ?_
 rintro ⟨i,c,vo,vk,ve'⟩ g2 gu ⟨E,hi,hc,mh,mj,hR⟩;simp only[] at E hi hc mh mj hR;have hcle:=hc.le;have hS:=Qs.ints (L:=[]) E.o (by omega) (by simp);have mo:=hA.st E.st;have mq:=gs.step E.st (by simp;omega);refine Qg<|Qc<|Qb<|Qb<|x (Qr hS Z)<|x (QA Z Z)<|xe<|QC rfl (λms=>?_) (λms=>?_)
 ·have mt:c=YY a a.st.toNat 0 (ZO a):=by rw[←hR,Qac (by omega)]
  refine Qy<|Qc<|Qb<|x (Qr hS Z)<|x (Qa Z)<|xl Z<|QF E.B3 Z Z (by simp) rfl λmu h7 mv=>xe ?_;refine Qc ?_;have mw:=Qs.ints (L:=[]) E.k (by omega) (by simp);have mx:=Ye.eds (L:=[]) E.e (by have:=hc.el;omega) (by simp);have my:=Qs.ints (L:=[]) I h.al.le (by simp)
  refine x (Qp mv Z Z)<|xl Z<|Qn (us:=[r3,.int .i64 c.ord.length,vk,ve']) (((k6.step E.st (by simp;omega))).step h7 (by simp;omega)) Z Z Z Z ⟨my.one,Z,mw.one,mx.one,La⟩ λmz h8 m0=>xe ?_;have gv:Step [b3,b22] wS mu:=E.st.then h7 (λb hb=>.inl (by simp at hb;simp[hb]));have m1:Step [] w mz:=(hO.then gv (λb hb=>.inr (by simp at hb;omega))).then1 h8 (by omega)
  refine Ql ⟨[.agg #[r3,.int .i64 c.ord.length,vk,ve']],⟨⟨_,Z,Qw Z (m0.at (L:=[]) (by simp)).cells⟩,La⟩,m1,?_⟩;unfold ZJ;rw[if_neg hK];simp only[];rw[←mt];have k1:=Qk (Qk E.k h7 (λb hb=>by have:=(Qq E.k b hb).1;simp;omega)) h8 (λb hb=>by have:=(Qq E.k b hb).1;simp;omega)
  have k2:=Qk (Qk E.e h7 (λb hb=>by have:=(Qq E.e b hb).1;simp;omega)) h8 (λb hb=>by have:=(Qq E.e b hb).1;simp;omega);have k3:=Qk (Qk k8 gv (λb hb=>by have:=k9 b hb;simp;omega)) h8 (λb hb=>by have:=(Qq I b hb).1;simp;omega)
  exact ⟨r3,vk,ve',Z,λL' hv=>⟨Qs.ints k3 h.al.le (λb hb=>by have:=hv b hb;omega),Qs.ints k1 (by show c.mk'.length≤_;omega) (λb hb=>by have:=hv b hb;omega),Ye.eds k2 (by show c.ed.length≤_;have:=hc.el;omega) (λb hb=>by have:=hv b hb;omega)⟩⟩
 have J:i<c.ord.length:=by omega
 refine Qi<|Qg<|Qh<|QZ (α:=Value) [(8,9),(41,57)] (λz=>[]) (λz w'=>Kv b3 b22 r3 wS (Z0 a i c) vo z ve' w') (by rfl) ?_ ?_
 ·refine Qg<|QU (Step [] gu) [(0,true),(1,true),(2,true),(3,true),(4,true),(5,true),(6,false),(7,true),(8,true),(9,true),(10,true),(11,true)] mixed (by rfl) (by kernel_rfl) (Step.drew _ _) ?_;refine p (λ_=>Qa Z)<|pq (λ_ hc=>Qd (mq.ext hc) Z Z)<|p (λ_=>Qm)<|p (λ_=>Qm)<|pii Z hS Z Z J λa46 m2 =>
   pq (λ_ hc=>Qv (m2.ext hc) Z)<|pk<|xf<|(yG (mo.mr.ext (Step.drew _ _)) V.mri _).mono ?_
  rintro r14 w14 ⟨rfl,j14,rfl⟩;refine ⟨Step.drew _ _,?_⟩;refine p (λ_=>Qm)<|p (λ_=>Qj Z Z)<|p (λ_=>Qj Z Z)<|p (λ_=>Qe)<|p (λ_=>Qe)<|pe ?_;have hT:=E.ext (Step.drew [] gu);refine Qc<|Qb<|xe ?_;have h9:Zn c.ord i=c.ord[i]:=Ux (by simpa using J);refine QC Z (λhU=>?_) (λhU=>?_)
  ·refine Qi<|⟨vk,La,?_⟩;unfold Z0;rw[h9,if_neg hU];exact hT
  refine Qx<|x (Qa Z)<|x (Qd hT.B3 Z Z)<|Qb<|xl Z<|QH (us:=[[.int .i64 i]]) Z Z (by decide) (by simp) ⟨rfl,rfl,La⟩ λb55 w15 m3 hb55 m4=>?_;have h2:=hT.ext m3;refine xl Z<|Q6 (news:=[.int .i64 i]) (L:=[]) h2.k Z Z Z (m4.at (by simp)) (by simp[Value.oneCell']) (by omega) h2.st.size λgx m5 m6 gy m7=>?_;have gz:Qs 3 wS.heap.size m5 gx (c.mk'++[(i:Int)]):=Qs.snoc m6
  refine x (Qa Z)<|xl Z<|QF (h2.B3.step gy (QY h2.k hz)) Z Z (by simp) (Qs.ints (L:=[]) gz (by simp;omega) (by simp)).one λw17 m8 m9=>xe ?_;refine ⟨gx,La,?_⟩;unfold Z0;rw[h9,if_pos hU];exact h2.setK hz h0 hP gy gz m7 m8 m9
 rintro hV g3 hh hj;have pa:V5 a.st (Z0 a i c):=QiL hc;have hW:(Z0 a i c).ord=c.ord:=by unfold Z0;split <;> rfl
 have pc:(Z0 a i c).ed=c.ed:=by unfold Z0;split <;> rfl
 have pd:(Z0 a i c).mk'.length≤i+1:=by
  unfold Z0;split
  ·simp only[List.length_append,List.length_singleton];omega
  omega
 have g0:QL [] hh.heap vo (Z0 a i c).ord:=Qs.ints (L:=[]) hj.o (by rw[hW];omega) (by simp);rw[hW] at g0;have pf:Step [] w hh:=hO.then hj.st (λb hb=>.inr (by simp at hb;omega));have pg:Zq (b3::b22::(ob vo++ob ve')) hh.heap va vm ve a:=(h.up (λb hb=>.inr (by
  simp only[List.mem_cons,List.mem_append] at hb;rcases hb with rfl | rfl | hb | hb
  ·omega
  ·omega
  ·have:=(Qq hj.o b hb).1;omega
  have:=(Qq hj.e b hb).1;omega))).ext pf
 have ph:=gs.step hj.st (by simp;omega);have hs:=hc.ord c.ord[i] (Le J);refine Qg<|QU (Step [] hh) [(0,true),(1,true),(2,true),(3,true),(4,true),(7,true),(5,false),(6,true)] mixed (by rfl) (by kernel_rfl) (Step.drew _ _) ?_;refine pq (λ_ hc=>Qp (ph.ext hc) Z Z)<|p (λ_=>Qm)<|p (λ_=>Qm)<|pii Z g0 Z Z J λa61 pj =>
  pq (λ_ hc=>Qv (pj.ext hc) Z)<|p (λ_=>Qm)<|pk<|xf<|(QdW (pg.ed.ext (Step.drew _ _)) V.eds mg c.ord[i] hs.1 (by omega)).mono ?_
 rintro r19 ho ⟨pn,g1⟩;have g6:Step [] hh ho:=(Step.drew [] hh).trans pn;refine ⟨g6,?_⟩;refine p (λ_=>Qr g1 Z)<|pe ?_;have po:=hj.ext g6;have h9:Zn c.ord i=c.ord[i]:=Ux (by simpa using J);have hol:=J4 a.ed c.ord[i];have pp:qJ a i c=(ZE a.ed c.ord[i]).foldl (Zk i) (Z0 a i c):=by unfold qJ;rw[h9]
 generalize pt:ZE a.ed c.ord[i]=os at *;have pu:∀e∈os,0≤e.2.2∧e.2.2<a.st:=λe he=>by rw[←pt] at he;have:=V.ed e (Yy he).1;omega
 refine Qh<|Qz (α:=Nat×Cs×Value×Value) [(6,6),(11,11),(65,100)] (λz=>[(6,z.2.2.1),(65,.int .i64 z.1)])
  (λz w'=>Kv b3 b22 r3 wS z.2.1 z.2.2.1 hV z.2.2.2 w'∧Step (b3::b22::(ob vo++ob ve')) ho w'∧(∀b∈ob z.2.2.1,b∈ob vo∨ho.heap.size≤b)∧(∀b∈ob z.2.2.2,b∈ob ve'∨ho.heap.size≤b)∧z.1≤os.length∧V5 a.st z.2.1∧z.2.1.mk'=(Z0 a i c).mk'∧z.2.1.ed.length=c.ed.length+z.1∧c.ord.length≤z.2.1.ord.length∧(os.drop z.1).foldl (Zk i) z.2.1=qJ a i c)
  (λz=>os.length - z.1) (by rfl) (0,Z0 a i c,vo,ve') ⟨Z,Z,La⟩
  ⟨po,Step.refl _ _,λ_ hb=>.inl hb,λ_ hb=>.inl hb,Ln _,pa,Z,by simp[pc],by simp[hW],by rw[pp];rfl⟩ ?_
 rintro ⟨k,d,g7,hB⟩ g4 pw ⟨ha,hC,hD,hX,pz,U,hY,hZ,p0,h3⟩;simp only[] at ha hC hD hX pz U hY hZ p0 h3;refine Qc<|x (QA Z Z)<|xe<|Qg<|QC Z (λp4=>?_) (λp4=>?_)
 ·rw[Lx (by omega),Nr] at h3;subst h3;refine Qy<|Qx<|Qb<|QQ Z Z<|Qf ?_;have p5:=U.le;refine ⟨(i+1,qJ a i c,g7,hV,hB),by simp only[];omega,⟨Z,Z,La⟩,ha,by simp only[];omega,U,by simp only[];rw[hY];exact pd,by simp only[];omega,?_⟩;simp only[];rw[←hR];obtain ⟨m,hm⟩:∃m,a.st.toNat - i=m+1:=⟨a.st.toNat - i - 1,by omega⟩
  rw[hm,YY,if_pos J,show a.st.toNat - (i+1)=m by omega]
 have ga:k<os.length:=by omega
 have p6:=Q7 ga;rw[p6,LM] at h3;have g8:=pu os[k] (Le ga);have p7:=g1.st hC;have p5:=U.le;have hzS4:=hC.size;have hI4z:=ha.st.size;have p8:=Qs.ints (L:=[]) ha.o (by omega) (by simp);obtain ⟨q,hq⟩:∃q:Nat,os[k].2.2=q:=⟨os[k].2.2.toNat,by omega⟩;have gb:os[k].2.2.toNat=q:=by omega
 have gc:q<n:=by omega
 have ge:q<d.num.length:=by rw[U.nl];omega
 have g9:Zn d.num os[k].2.2=d.num[q]:=by rw[Ux (by omega)];simp only[gb]
 have p9:=Q2 ha.e;have qc:=Q2 ha.o;refine Qi<|Qg<|Qh<|Qc<|xie p7 Z Z ga λa67 qo=>x (QJ qo Z Z)<|xl Z<|Qu (us:=[.int .i64 0,.int .i64 0,.int .i64 0]) Z λb11 w21 qr q0 hf=>xl Z<|Qn (us:=QB os[k]) hf Z Z Z Z ⟨Z,Z,Z,La⟩ λq4 q9 hf=>xe ?_;have ka:Step [] pw q4:=qr.then1 q9 q0;have hE:=ha.ext ka;have hl11:=hf.lt;have H:=hC.trans ka
 refine QZ (α:=Value) [(6,6),(69,85)] (λz=>[(6,z)]) (λz w'=>Kv b3 b22 r3 wS (Yc d os[k]) z hV hB w'∧Step (b3::b22::(ob vo++ob ve')) ho w'∧(∀b∈ob z,b∈ob vo∨ho.heap.size≤b)∧QT w'.heap b11 129 (QB os[k])) (by rfl) ?_ ?_
 ·refine Qc<|Qb<|x (Qa Z)<|x (Qd hf Z Z)<|x (QS Z (congrArg (Value.int .i64) hq) gc)<|x (Vq hE.B22 Z ge)<|x (QA Z Z)<|xe<|QC Z (λgg=>?_) (λgg=>?_)
  ·refine Qi<|⟨g7,Lb,?_,H,hD,hf⟩;unfold Yc;rw[g9,if_neg gg];exact hE
  refine Qc<|Qb<|x (Qa Z)<|x (Qd hf Z Z)<|Qb<|x (Qr p8 Z)<|x (QS Z (congrArg (Value.int .i64) hq) gc)<|xl Z<|Jr hE.B22 Z Z ge λw23 hF j1=>xe ?_;have j2:=hE.setN h0 hP hF j1;have kb:=hf.step hF (by simp;omega);refine Qx<|Qb<|x (Qa Z)<|x (Qd kb Z Z)<|xl Z<|QH (us:=[[.int .i64 os[k].2.2]]) Z Z (by decide) (by simp) ⟨rfl,rfl,La⟩ λb84 w24 hG hb84 j3=>?_
  have gh:=j2.ext hG;refine xl Z<|Q6 (news:=[.int .i64 os[k].2.2]) (L:=[]) gh.o Z Z Z (j3.at (by simp)) (by simp[Value.oneCell']) (by show d.ord.length+1≤_;omega) gh.st.size λkc j4 za gi ke=>Qf ?_;have zb:Qs 3 wS.heap.size j4 kc (d.ord++[os[k].2.2]):=Qs.snoc za;have hz23:=hF.size;have hz24:=hG.size
  refine ⟨kc,Lb,?_,?_,?_,(kb.ext hG).step gi (λhb=>by have:=qc _ hb;omega)⟩
  ·unfold Yc;rw[g9,if_pos gg,gb];exact gh.setO hz h0 gi zb ke
  ·refine ((H.then hF (λb hb=>.inl ?_)).trans hG).then gi (λb hb=>?_)
   ·simp at hb;simp[hb]
   rcases hD b hb with h1 | h1
   ·exact .inl (by simp[h1])
   exact .inr h1
  intro b hb;rcases ke b hb with h1 | h1
  ·exact hD b h1
  exact .inr (by omega)
 rintro zv g5 gj ⟨h4,kf,z0,kg⟩;have gk:Zk i d os[k]=⟨(Yc d os[k]).ord,(Yc d os[k]).num,(Yc d os[k]).mk',(Yc d os[k]).ed++[((i:Int),os[k].2.1,Zn (Yc d os[k]).num os[k].2.2)]⟩:=zm (by omega);have z1:q<(Yc d os[k]).num.length:=by rw[Qlm];exact ge
 have z2:Zn (Yc d os[k]).num os[k].2.2=(Yc d os[k]).num[q]:=by rw[Ux (by omega)];simp only[gb]
 have kh:=QY h4.e hz;have z3:=QY h4.e h0;have ki:b11∉ob hB:=λhb=>by have:=p9 _ hb;omega
 have kj:(Yc d os[k]).ed=d.ed:=by unfold Yc;split <;> rfl
 have z4:V5 a.st (Zk i d os[k]):=QbY U g8.1 g8.2 (by rw[hZ];omega);refine QU (Step (ob hB) gj) [(0,true),(1,true),(2,true),(3,true),(4,true),(5,true),(6,true),(7,true),(8,true),(9,true),(10,true),(11,false),(12,false),(13,true),(14,false)] mixed (by rfl) (by kernel_rfl) (Step.drew _ _) ?_
 refine p (λ_=>Qa Z)<|pq (λ_ hc=>Qd (h4.B3.step hc kh) Z Z)<|p (λ_=>Qm)<|p (λ_=>Qa Z)<|pq (λ_ hc=>Qd (kg.step hc ki) Z Z) <|
  p (λ_=>Qm)<|p (λ_=>Qa Z)<|pq (λ_ hc=>Qd (kg.step hc ki) Z Z)<|p (λ_=>QS Z (congrArg (Value.int .i64) hq) gc) <|
  pq (λ_ hc=>Vq (h4.B22.step hc z3) Z z1)<|p (λ_=>QN ⟨Z,Z,Z,La⟩)<|pk<|QH (us:=[QB ((i:Int),os[k].2.1,(Yc d os[k]).num[q])]) Z Z (by decide) (by exact (by decide:1*3≤1000000)) ⟨Z,Z,La⟩ λb97 z5 z9 hb97 hB97=>?_
 have h5:Step [] gj z5:=(Step.drew [] gj).trans z9;refine ⟨h5.any,?_⟩;have hH:=h4.ext h5;refine pk<|Q6 (news:=QB ((i:Int),os[k].2.1,(Yc d os[k]).num[q])) (L:=[]) hH.e Z Z Z (hB97.at (by simp)) (λu hu=>by simp only[QB,List.mem_cons,List.not_mem_nil,or_false] at hu;rcases hu with rfl | rfl | rfl <;> rfl) (by rw[kj];have:=U.el;omega) hH.st.size λkk w28 ho28 hJ kn=>?_
 refine ⟨h5.any.trans' hJ,?_⟩;have ko:Ye 129 wS.heap.size w28 kk ((Yc d os[k]).ed++[((i:Int),os[k].2.1,(Yc d os[k]).num[q])]):=Ye.snoc ho28;refine p (λ_=>Qa Z)<|pkl (hl:=by kernel_rfl)<|QF (hH.B3.step hJ kh) Z Z (by simp) (Ye.eds (L:=[]) ko (by simp[kj];have:=U.el;omega) (by simp)).one λw29 kp hB29=>pe ?_;have gl:=hH.setE hz h0 hP hJ ko kn kp hB29
 rw[←z2] at gl;rw[←gk] at gl;refine Qx<|QQ Z Z<|Qb<|xe ?_;have hz26:=kf.size;have hz27:=h5.size;refine ⟨(k+1,Zk i d os[k],zv,kk),by simp only[];omega,⟨Z,Z,La⟩,gl,?_,z0,?_,by simp only[];omega,z4,?_,?_,?_,h3⟩
 ·refine (((kf.trans h5)).then hJ (λb hb=>?_)).then kp (λb hb=>.inl (by simp at hb;simp[hb]));rcases hX b hb with h1 | h1
  ·exact .inl (by simp[h1])
  exact .inr h1
 ·intro b hb;rcases kn b hb with h1 | h1
  ·exact hX b h1
  exact .inr (by omega)
 ·simp only[];rw[←hY,gk];simp only[];unfold Yc;split <;> rfl
 ·simp only[];rw[Qb0,hZ];omega
 simp only[];rw[gk];simp only[];unfold Yc;split
 ·simp only[List.length_append];omega
 omega
end Go.Proofs.YtjcgijbhaemldaaGreatDoor
namespace Go.Proofs
open Go.Proofs.Tryz
open Go.Shelf
def Tryz.lays169_ren:Go.Shelf.Ren:=⟨λ| 169=>171 | n=>n,λ| 70=>290 | 9=>9 | 0=>0 | 72=>292 | 37=>87 | 127=>335 | 3=>3 | 5=>5 | n=>n,λ| n=>n⟩
theorem Tryz.lays169:Go.Proofs.Lays.n169 prog Tryz.lays169_ren:={
 mixed:=by kernel_rfl
 f169:=func171.trans (congrArg some (by kernel_rfl))
 t0:=underlying0
 a0:=Tryz.isAgg0
 z0:=Tryz.sizeOf0
 v0:=Tryz.zeroValue0
 t3:=underlying3
 a3:=Tryz.isAgg3
 z3:=Tryz.sizeOf3
 v3:=Tryz.zeroValue3
 t9:=underlying9
 a9:=Tryz.isAgg9
 z9:=Tryz.sizeOf9
 v9:=Tryz.zeroValue9
 t37:=underlying87
 a37:=Tryz.isAgg87
 z37:=Tryz.sizeOf87
 v37:=Tryz.zeroValue87
 t70:=underlying290
 a70:=Tryz.isAgg290
 z70:=Tryz.sizeOf290
 v70:=Tryz.zeroValue290
 t72:=underlying292
 a72:=Tryz.isAgg292
 z72:=Tryz.sizeOf292
 v72:=Tryz.zeroValue292
 t127:=underlying335
 a127:=Tryz.isAgg335
 z127:=Tryz.sizeOf335
 v127:=Tryz.zeroValue335 }
theorem Tryz.Builder_Extra_169:Builder.Extra prog Tryz.lays169_ren:={
 sizeBuilder:=by kernel_rfl
 liesBuilder:=by kernel_rfl
 t5:=underlying5
 a5:=Tryz.isAgg5
 z5:=Tryz.sizeOf5
 v5:=Tryz.zeroValue5
 infoByte:=by kernel_rfl
 cellsByte:=by kernel_rfl
 sizeByte:=by kernel_rfl
 neB5:=by decide }
open Go.RowKit in
open Go.RowKit in
open Go.RowKit in
theorem Tryz.Builder_String_any (B b:Nat) (l:List UInt8) (w:World) (h:Lib.IsBuilder 292 5 B b (Lib.byteCells l) w) (E:B≤w.heap.size) :
  Calls prog 171 #[.pointer (some ⟨b,0,none⟩)] w λe w'=>e=.returned (.string ⟨l.toArray⟩)∧Below B w w':=Any.Builder_String_any Tryz.lays169 Tryz.Builder_Extra_169 B b l w h E
def Tryz.laysM171_ren:Go.Shelf.Ren:=⟨λ| 171=>169 | 243=>210 | 246=>236 | 283=>247 | 284=>248 | 285=>249 | 286=>250 | 129=>208 | 317=>253 | 318=>254 | 319=>255 | 320=>256 | 337=>257 | 338=>258 | n=>n,λ| 3=>3 | 9=>9 | 2=>2 | 4=>4 | 171=>368 | 0=>0 | 53=>334 | 37=>87 | 5=>5 | 173=>370 | 212=>375 | 51=>332 | 20=>20 | 213=>376 | 46=>218 | 232=>377 | 233=>378 | n=>n,λ| 17=>0 | 18=>1 | 19=>2 | n=>n⟩
theorem Tryz.laysM171:Go.Proofs.LaysM.n171 prog Tryz.laysM171_ren:={
 mixed:=by kernel_rfl
 f129:=func208.trans (congrArg some (by kernel_rfl))
 f171:=func169.trans (congrArg some (by kernel_rfl))
 f243:=func210.trans (congrArg some (by kernel_rfl))
 f246:=func236.trans (congrArg some (by kernel_rfl))
 f283:=func247.trans (congrArg some (by kernel_rfl))
 f284:=func248.trans (congrArg some (by kernel_rfl))
 f285:=func249.trans (congrArg some (by kernel_rfl))
 f286:=func250.trans (congrArg some (by kernel_rfl))
 f317:=func253.trans (congrArg some (by kernel_rfl))
 f318:=func254.trans (congrArg some (by kernel_rfl))
 f319:=func255.trans (congrArg some (by kernel_rfl))
 f320:=func256.trans (congrArg some (by kernel_rfl))
 f337:=func257.trans (congrArg some (by kernel_rfl))
 f338:=func258.trans (congrArg some (by kernel_rfl))
 t0:=underlying0
 a0:=Tryz.isAgg0
 z0:=Tryz.sizeOf0
 v0:=Tryz.zeroValue0
 t2:=underlying2
 a2:=Tryz.isAgg2
 z2:=Tryz.sizeOf2
 v2:=Tryz.zeroValue2
 t3:=underlying3
 a3:=Tryz.isAgg3
 z3:=Tryz.sizeOf3
 v3:=Tryz.zeroValue3
 t4:=underlying4
 a4:=Tryz.isAgg4
 z4:=Tryz.sizeOf4
 v4:=Tryz.zeroValue4
 t5:=underlying5
 a5:=Tryz.isAgg5
 z5:=Tryz.sizeOf5
 v5:=Tryz.zeroValue5
 t9:=underlying9
 a9:=Tryz.isAgg9
 z9:=Tryz.sizeOf9
 v9:=Tryz.zeroValue9
 t20:=underlying20
 a20:=Tryz.isAgg20
 z20:=Tryz.sizeOf20
 v20:=Tryz.zeroValue20
 t37:=underlying87
 a37:=Tryz.isAgg87
 z37:=Tryz.sizeOf87
 v37:=Tryz.zeroValue87
 t46:=underlying218
 a46:=Tryz.isAgg218
 z46:=Tryz.sizeOf218
 v46:=Tryz.zeroValue218
 t51:=underlying332
 a51:=Tryz.isAgg332
 z51:=Tryz.sizeOf332
 v51:=Tryz.zeroValue332
 t53:=underlying334
 a53:=Tryz.isAgg334
 z53:=Tryz.sizeOf334
 v53:=Tryz.zeroValue334
 t171:=underlying368
 a171:=Tryz.isAgg368
 z171:=Tryz.sizeOf368
 v171:=Tryz.zeroValue368
 t173:=underlying370
 a173:=Tryz.isAgg370
 z173:=Tryz.sizeOf370
 v173:=Tryz.zeroValue370
 t212:=underlying375
 a212:=Tryz.isAgg375
 z212:=Tryz.sizeOf375
 v212:=Tryz.zeroValue375
 t213:=underlying376
 a213:=Tryz.isAgg376
 z213:=Tryz.sizeOf376
 t232:=underlying377
 a232:=Tryz.isAgg377
 z232:=Tryz.sizeOf377
 v232:=Tryz.zeroValue377
 t233:=underlying378
 a233:=Tryz.isAgg378
 z233:=Tryz.sizeOf378
 v233:=Tryz.zeroValue378
 g17:=by kernel_rfl
 g18:=by kernel_rfl
 g19:=by kernel_rfl
 i0:=by kernel_rfl
 i2:=by kernel_rfl
 i3:=by kernel_rfl
 i4:=by kernel_rfl
 i5:=by kernel_rfl
 i9:=by kernel_rfl
 i20:=by kernel_rfl
 i37:=by kernel_rfl
 i46:=by kernel_rfl
 i51:=by kernel_rfl
 i53:=by kernel_rfl
 i171:=by kernel_rfl
 i173:=by kernel_rfl
 i212:=by kernel_rfl
 i232:=by kernel_rfl
 i233:=by kernel_rfl
 m17:=by kernel_rfl
 m18:=by kernel_rfl
 m19:=by kernel_rfl }
open Go.RowKit Go.Sort Go.Lib in
theorem Tryz.strconv_Itoa (n:Int) (E:-9223372036854775808≤n) (h1:n≤9223372036854775807) (w:World) (H:Lib.TabIs prog w "internal/strconv.uint64pow10" .u64 Lib.pow10Tab) :
  Calls prog 169 #[.int .i64 n] w λe w'=>e=.returned (.string ⟨(Lib.itoa n).toArray⟩)∧∃k os,w'=grow (w.drewN k) os:=Any.strconv_Itoa Tryz.laysM171 n E h1 w H
def Tryz.lays171_ren:Go.Shelf.Ren:=⟨λ| 171=>169 | 243=>210 | 246=>236 | 283=>247 | 284=>248 | 285=>249 | 286=>250 | 129=>208 | 317=>253 | 318=>254 | 319=>255 | 320=>256 | 337=>257 | 338=>258 | n=>n,λ| 3=>3 | 9=>9 | 2=>2 | 4=>4 | 171=>368 | 0=>0 | 53=>334 | 37=>87 | 5=>5 | 173=>370 | 212=>375 | 51=>332 | 20=>20 | 213=>376 | 46=>218 | 232=>377 | 233=>378 | n=>n,λ| 17=>0 | 18=>1 | 19=>2 | n=>n⟩
theorem Tryz.lays171:Go.Proofs.Lays.n171 prog Tryz.lays171_ren:={
 mixed:=by kernel_rfl
 f129:=func208.trans (congrArg some (by kernel_rfl))
 f171:=func169.trans (congrArg some (by kernel_rfl))
 f243:=func210.trans (congrArg some (by kernel_rfl))
 f246:=func236.trans (congrArg some (by kernel_rfl))
 f283:=func247.trans (congrArg some (by kernel_rfl))
 f284:=func248.trans (congrArg some (by kernel_rfl))
 f285:=func249.trans (congrArg some (by kernel_rfl))
 f286:=func250.trans (congrArg some (by kernel_rfl))
 f317:=func253.trans (congrArg some (by kernel_rfl))
 f318:=func254.trans (congrArg some (by kernel_rfl))
 f319:=func255.trans (congrArg some (by kernel_rfl))
 f320:=func256.trans (congrArg some (by kernel_rfl))
 f337:=func257.trans (congrArg some (by kernel_rfl))
 f338:=func258.trans (congrArg some (by kernel_rfl))
 t0:=underlying0
 a0:=Tryz.isAgg0
 z0:=Tryz.sizeOf0
 v0:=Tryz.zeroValue0
 t2:=underlying2
 a2:=Tryz.isAgg2
 z2:=Tryz.sizeOf2
 v2:=Tryz.zeroValue2
 t3:=underlying3
 a3:=Tryz.isAgg3
 z3:=Tryz.sizeOf3
 v3:=Tryz.zeroValue3
 t4:=underlying4
 a4:=Tryz.isAgg4
 z4:=Tryz.sizeOf4
 v4:=Tryz.zeroValue4
 t5:=underlying5
 a5:=Tryz.isAgg5
 z5:=Tryz.sizeOf5
 v5:=Tryz.zeroValue5
 t9:=underlying9
 a9:=Tryz.isAgg9
 z9:=Tryz.sizeOf9
 v9:=Tryz.zeroValue9
 t20:=underlying20
 a20:=Tryz.isAgg20
 z20:=Tryz.sizeOf20
 v20:=Tryz.zeroValue20
 t37:=underlying87
 a37:=Tryz.isAgg87
 z37:=Tryz.sizeOf87
 v37:=Tryz.zeroValue87
 t46:=underlying218
 a46:=Tryz.isAgg218
 z46:=Tryz.sizeOf218
 v46:=Tryz.zeroValue218
 t51:=underlying332
 a51:=Tryz.isAgg332
 z51:=Tryz.sizeOf332
 v51:=Tryz.zeroValue332
 t53:=underlying334
 a53:=Tryz.isAgg334
 z53:=Tryz.sizeOf334
 v53:=Tryz.zeroValue334
 t171:=underlying368
 a171:=Tryz.isAgg368
 z171:=Tryz.sizeOf368
 v171:=Tryz.zeroValue368
 t173:=underlying370
 a173:=Tryz.isAgg370
 z173:=Tryz.sizeOf370
 v173:=Tryz.zeroValue370
 t212:=underlying375
 a212:=Tryz.isAgg375
 z212:=Tryz.sizeOf375
 v212:=Tryz.zeroValue375
 t213:=underlying376
 a213:=Tryz.isAgg376
 z213:=Tryz.sizeOf376
 t232:=underlying377
 a232:=Tryz.isAgg377
 z232:=Tryz.sizeOf377
 v232:=Tryz.zeroValue377
 t233:=underlying378
 a233:=Tryz.isAgg378
 z233:=Tryz.sizeOf378
 v233:=Tryz.zeroValue378
 g17:=by kernel_rfl
 g18:=by kernel_rfl
 g19:=by kernel_rfl }
open Go.RowKit Go.Sort Go.Lib in
theorem Tryz.strconv_Itoa_small (i:Nat) (hi:i<100) (w:World) :
  Calls prog 169 #[.int .i64 i] w λe w'=>e=.returned (.string ⟨(Lib.decDigits i).toArray⟩)∧w'=w:=Any.strconv_Itoa_small Tryz.lays171 i hi w
end Go.Proofs
namespace Go.Lg
open Go.RowKit
section
variable {P:Program} {K:Fr→World→Prop} {f:Fr} {w:World} {d:Option Nat} {ty:Nat} {ps:String} {af:Array Edge} {gd:Option (Nat×Bool)}
theorem Qfc {t te E:Nat}(hp:P.underlying t=some (.pointer te)) {x y:Operand}{a:Option Addr}(hx:ev f x=.pointer a) (hy:ev f y=.pointer none) :
  (execOp (ev f) ⟨d,.binOp .eql t x y E,ty,ps,af,gd⟩).run P w=.ok (.value (.bool a.isNone)) w:=by
 have H:(eqGuard .eql t x y (.pointer a) (.pointer none)).run P w=.ok () w:=by simp[eqGuard]
 have key:∀m,(Op.equalIn (m+1) t (.pointer a) (.pointer none)).run P w=.ok a.isNone w:=by
  intro m;unfold Op.equalIn;cases a <;> simp[run_underlying hp]
 have he:(Op.equal t (.pointer a) (.pointer none)).run P w=.ok a.isNone w:=key 9999;simp only[execOp,hx,hy,Sem.run_bind,H,Result.andThen_ok,binOp,he,Sem.run_pure]
theorem QgC {t te E:Nat}{j:TypeInfo}(hp:P.underlying t=some (.pointer te)) (hj:P.info? te=some j) {x y:Operand}{a:Addr}(hx:ev f x=.pointer (some a)) (hy:ev f y=.pointer (some a)) :
  (execOp (ev f) ⟨d,.binOp .neq t x y E,ty,ps,af,gd⟩).run P w=.ok (.value (.bool false)) w:=by
 have H:(eqGuard .neq t x y (.pointer (some a)) (.pointer (some a))).run P w=.ok () w:=by simp[eqGuard]
 simp only[execOp,hx,hy,Sem.run_bind,H,Result.andThen_ok,Lib.run_neq_ptr_same w a hp hj,Sem.run_pure]
theorem QaQ {t E:Nat}{x:Operand}{v v':Value}(hx:ev f x=v) (h:(convert t E v).run P w=.ok v' w) :
  (execOp (ev f) ⟨d,.convert t E x,ty,ps,af,gd⟩).run P w=.ok (.value v') w:=by
 simp[execOp,hx,h]
theorem Qih {g:Nat}{fn:Func}{e:Array Value→Sem Value}{x:Operand}{v:Value}{ts:Array Nat}(E:P.funcs[g]?=some fn) (H:(fn.name == "runtime.NumGoroutine")=false)
  (hb:fn.body.isNone=true) (I:Extern.findNext fn=none) (he:Extern.find fn=some e) (h:(e #[ev f x]).run P w=.ok v w) :
  (execOp (ev f) ⟨d,.call ⟨.value (.func g),#[x],ts⟩,ty,ps,af,gd⟩).run P w=.ok (.value v) w:=by
 have hc:=run_callFunc_extern E H hb I he #[ev f x] w;rw[h] at hc;have J:ev f (.func g)=.func (.func g) #[] #[]:=rfl;simp[execOp,resolve,J,Deferred.ofValue,invoke,hc,Result.andThen]
theorem QnN {t e u:Nat}[h:Sl P t e 1 1 (.int .u8 0)] (hu:P.underlying u=some .string) {s y:Operand}{base:Nat}{v:Value}{n:Nat}{cs:LV}(E:w.ownsRow base e 1 v n cs) (hs:ev f s=v)
  {b:ByteArray} (hy:ev f y=.string b) (hb:n+b.size≤1099511627776) (H:base≤w.heap.size)
  (I:∀v' w',w'.ownsRow base e 1 v' (n+b.size) (cs++Lib.strCells b)→Step (ob v) w w'→K (QV f d v') w') :
  XO P ⟨d,.call ⟨.builtin .append,#[s,y],#[t,u]⟩,ty,ps,af,gd⟩ f w K:=by
 obtain ⟨i,hi,J,U,V⟩:=Sl.info h;obtain ⟨v',w',Y,h2,h3,_⟩:=Lib.run_append_own_string (P:=P) w base t u ty e i h.u hu hi J U V v n cs E b (by simp only[maxLen];omega) (by omega) H;have ha:(execOp (ev f) ⟨d,.call ⟨.builtin .append,#[s,y],#[t,u]⟩,ty,ps,af,gd⟩).run P w=.ok (.value v') w':=by
  simp[execOp,resolve,invoke,builtin,hs,hy,Y]
 exact xv ha (I v' w' h2 (by rw[QdY];exact Step.of_grown h3))
theorem Qid {x:Operand}{u:Nat}(hu:P.underlying u=some .string) {b:ByteArray}(hx:ev f x=.string b) :
  (execOp (ev f) ⟨d,.call ⟨.builtin .len,#[x],#[u]⟩,ty,ps,af,gd⟩).run P w=.ok (.value (.int .i64 b.size)) w:=by
 simp[execOp,resolve,invoke,builtin,Builtin.len_,hx,run_underlying hu,goInt]
end
end Go.Lg
namespace Go.Proofs.YtjcgijbhaemldaaGreatDoor
open Go.Proofs.Tryz
open Go.Lg
def Bl (p:Value) (b:Nat) (E:List UInt8) (w:World):Prop:=∃v,QT w.heap b 292 [p,v]∧w.ownsRow (b+1) 5 1 v E.length (Lib.byteCells E)
def me (b:Nat):Value:=.pointer (some ⟨b,0,none⟩)
theorem QlW {P:Program}{t n:Nat}(h:(P.info? t).map (·.size)=some n):∃j,P.info? t=some j∧j.size=n:=by
 simpa using h
theorem Qaf {w:World}{b T:Nat}{cs:LV}(h:QT w.heap b T cs):w.shape? b=some (T,cs.length):=by
 unfold QT at h;simp[World.shape?,h]
theorem UK {H w:World}{b:Nat}{J:List UInt8}{p:Value}(U:Step [] H w) (hb:H.heap.size≤b) (hp:p=.pointer none∨p=me b) (h:Bl p b J w) :
  QG prog 209 [me b] w λr w'=>r=.tuple #[]∧Step [] H w'∧Bl (me b) b J w':=by
 obtain ⟨v,E,I⟩:=h;obtain ⟨j,hj,Y⟩:=QlW (P:=prog) (t:=292) (n:=2) (by kernel_rfl);refine QG.of_W func209 Z ntmps209 results209 (by simp) ?_;refine Qc ?_;rcases hp with rfl | rfl
 ·refine Qb<|x (QE Z)<|x (Qa Z)<|x (Qd E Z Z)<|x (Qfc underlying290 Z Z)<|xe<|yL Z ?_;refine Qx<|Qb<|Qb<|x (QaQ (v':=me b) Z (Lib.run_to_unsafe w ⟨b,0,none⟩ underlying290 underlying357 hj (by rw[Y];decide) (Qaf E) (by simp))) <|
   x (Qih (v:=me b) func235 (by kernel_rfl) (by kernel_rfl) (by kernel_rfl) (e:=Extern.AbiNoEscape.same) (by kernel_rfl) Z) <|
   x (QaQ (v':=me b) Z (Lib.run_from_unsafe w ⟨b,0,none⟩ underlying357 underlying290 hj (Qaf E) (by kernel_rfl)))<|x (QE Z) <|
   x (Qa rfl)<|xl Z<|QF E Z Z (by simp) rfl λw2 V ha=>xe ?_
  exact ⟨[],La,Z,U.then1 V hb,v,ha,Qk I V (λc hc=>by have:=(Qq I c hc).1;simp;omega)⟩
 refine Qb<|x (QE Z)<|x (Qa Z)<|x (Qd E Z Z)<|x (Qfc underlying290 Z Z)<|xe<|YT Z ?_;refine Qc<|Qb<|x (QE Z)<|x (Qa Z)<|x (Qd E Z Z)<|Qb<|x (QgC underlying290 hj Z Z)<|xe<|YT Z ?_;refine Qi ?_;exact ⟨[],La,Z,U,v,E,I⟩
theorem Qao {I w:World}{b:Nat}{E:List UInt8}{p:Value}(h0:Step [] I w) (hb:I.heap.size≤b) (hp:p=.pointer none∨p=me b) (h:Bl p b E w) (c:UInt8) (hl:E.length+1≤1000000000) :
  QG prog 170 [me b,.int .u8 c.toNat] w λ_ w'=>Step [] I w'∧Bl (me b) b (E++[c]) w':=by
 refine QG.of_W func170 Z ntmps170 results170 (by simp) ?_;refine Qc<|Qf<|Qc<|Qb<|xl Z<|xf<|(UK h0 hb hp h).mono ?_;rintro r1 w1 ⟨rfl,hf,v,J,U⟩;refine xe ?_;have hm:=J.lt;refine Qc<|Qb<|Qb<|x (QE Z)<|x (Qa Z)<|x (Qd J Z Z)<|Qb<|xl Z<|QH (us:=[[.int .u8 c.toNat]]) Z Z (by decide) (by simp) ⟨rfl,rfl,La⟩ λhn w2 H hq hg=>?_;have hr:=H.size;have hh:=Qt U H
 refine xl rfl<|Q6 (news:=[.int .u8 c.toNat]) (L:=[]) hh Z Z Z (hg.at (by simp)) (by simp[Value.oneCell']) (by omega) (by omega) λY w3 hi ha hs=>?_;have hj:=(J.ext H).step ha (λhc=>by have:=(Qq U b hc).1;omega);have V:w3.ownsRow (b+1) 5 1 Y (E++[c]).length (Lib.byteCells (E++[c])):=by simpa[Lib.byteCells] using hi
 refine x (QE Z)<|x (Qa Z)<|xl Z<|QF hj Z Z (by simp) (QX (L:=[]) V (by simp;omega) (by simp)).one λw4 he hk=>xe ?_;refine Qc<|Qf<|Ql ⟨[.nilIface],Lb,(((hf.trans H).then ha (λc hc=>.inr ?_)).then1 he hb),Y,hk,Qk V he (λc hc=>by have:=(Qq V c hc).1;simp;omega)⟩;have:=(Qq U c hc).1;omega
theorem KM {H w:World}{b:Nat}{E:List UInt8}{p:Value}(h0:Step [] H w) (hb:H.heap.size≤b) (hp:p=.pointer none∨p=me b) (h:Bl p b E w) (s:ByteArray) (hl:E.length+s.size≤1000000000) :
  QG prog 168 [me b,.string s] w λ_ w'=>Step [] H w'∧Bl (me b) b (E++s.data.toList) w':=by
 refine QG.of_W func168 Z ntmps168 results168 (by simp) ?_;refine Qc<|x Qe<|Qf<|Qc<|Qb<|xl Z<|xf<|(UK h0 hb hp h).mono ?_;rintro r1 w1 ⟨rfl,hf,v,I,J⟩;refine xe ?_;have hj:=I.lt;refine Qc<|Qb<|Qb<|x (QE Z)<|x (Qa Z)<|x (Qd I Z Z)<|Qb<|xl Z<|QnN underlying9 J Z Z (by omega) (by omega) λV w3 hg Y=>?_;have hh:=I.step Y (λhc=>by have:=(Qq J b hc).1;omega)
 have ha:s.size=s.data.toList.length:=rfl;have U:w3.ownsRow (b+1) 5 1 V (E++s.data.toList).length (Lib.byteCells (E++s.data.toList)):=by
  rw[Ll,←ha,show Lib.byteCells (E++s.data.toList)=Lib.byteCells E++Lib.strCells s by simp[Lib.byteCells,Lib.strCells_eq]];exact hg
 refine x (QE Z)<|x (Qa Z)<|xl Z<|QF hh Z Z (by simp) (QX (L:=[]) U (by rw[Ll,←ha];omega) (by simp)).one λw4 he hi=>xe ?_;refine Qc<|Qb<|x (Qid underlying9 Z)<|x Qe<|Qf<|Ql ⟨[.int .i64 s.size,.nilIface],⟨Z,Z,La⟩,((hf.then Y (λc hc=>.inr ?_)).then1 he hb),V,hi,Qk U he (λc hc=>by have:=(Qq U c hc).1;simp;omega)⟩;have:=(Qq J c hc).1;omega
theorem jt {J w:World}{b:Nat}{I:List UInt8}{p:Value}(E:Step [] J w) (hb:J.heap.size≤b) (hp:p=.pointer none∨p=me b) (h:Bl p b I w) :
  QG prog 171 [me b] w λr w'=>r=.string ⟨I.toArray⟩∧Step [] J w':=by
 obtain ⟨v,U,V⟩:=h;have ha:=U.lt;have Y:Lib.BuilderAt 292 5 b b p (Lib.byteCells I) w:=⟨Lv _,v,U,by rw[Lib.byteCells_length];exact Zi V (by omega),λe=>by
  have:b∈ob v:=by rw[QdY,e];simp
  have:=(Qq V b this).1;omega⟩
 unfold QG;refine Calls.mono (Tryz.Builder_String_any b b I w (by rcases hp with rfl | rfl;exact .inl Y;exact .inr Y) (by omega)) ?_
 rintro e w' ⟨rfl,H⟩;exact ⟨Z,⟨H.os.trans E.os,H.tape.trans E.tape,H.output.trans E.output,LT E.size H.size,λk hk hL=>(H.block k (by omega)).trans (E.block k hk hL)⟩⟩
def Tb (w:World):Prop:=Lib.TabIs prog w "internal/strconv.uint64pow10" .u64 Lib.pow10Tab
theorem Qhn {P:Program}{w w':World}{name:String}{v:Array Value}(h:w.var? P name=some v) (hs:Step [] w w'):w'.var? P name=some v:=by
 unfold World.var? at *;rw[L6] at *;obtain ⟨g,h1,h2⟩:=h;refine ⟨g,h1,?_⟩;cases E:w.heap[g]? with
 | none=>rw[E] at h2;cases h2
 | some o =>
  have H:g<w.heap.size:=(LK.1 E).1;rw[hs.block g H (by simp)];exact h2
theorem Tb.ext {w w':World}(h:Tb w) (hs:Step [] w w'):Tb w':=Qhn h hs
def Kb (w:World) (m:Int):Prop:=m≤100∨(m≤1000000∧Tb w)
theorem Kb.ext {w w':World}{m:Int}(h:Kb w m) (hs:Step [] w w'):Kb w' m:=h.imp id λh=>⟨h.1,h.2.ext hs⟩
theorem Kb.le {w:World} {m:Int} (h:Kb w m):m≤1000000:=by rcases h with h | h <;> omega
theorem QdB {w:World}{k:Nat}{os:Array Obj}:Step [] w (Sort.grow (w.drewN k) os):=by
 refine ⟨Z,Z,Z,?_,λi hi _=>?_⟩
 ·show w.heap.size≤(w.heap++os).size;simp
 show (w.heap++os)[i]?=w.heap[i]?;rw[Array.getElem?_append_left hi]
theorem QfJ {m:Int}(i:Nat) (hi:(i:Int)<m) (w:World) (hk:Kb w m):QG prog 169 [.int .i64 i] w λr w'=>r=.string ⟨(Lib.decDigits i).toArray⟩∧Step [] w w':=by
 unfold QG;rcases hk with hk | hk
 ·refine Calls.mono (Tryz.strconv_Itoa_small i (by omega) w) ?_;rintro e w' ⟨rfl,rfl⟩;exact ⟨Z,Step.refl _ _⟩
 refine Calls.mono (Tryz.strconv_Itoa i (by omega) (by omega) w hk.2) ?_;rintro e w' ⟨rfl,k,os,rfl⟩;refine ⟨?_,QdB⟩;unfold Lib.itoa;rw[if_neg (by omega),LO]
def JC (l:LI):List UInt8:=l.flatMap λn=>Lib.decDigits n.toNat++[32]
theorem qj:∀(k u:Nat),u<10 ^ k→(Lib.decDigits u).length≤max 1 k
 | 0,u,h=>by
  unfold Lib.decDigits;rw[dif_pos (by simp at h;omega)];simp
 | k+1,u,h=>by
  unfold Lib.decDigits;split
  ·simp
  rename_i hu;have ih:=qj k (u / 10) (by rw[Nat.pow_succ] at h;omega);rw[Ll];simp only[List.length_singleton];have h1:k≠0:=λe=>by subst e;simp at h;omega
  omega
theorem Bl.ext {w w':World}{p:Value}{b:Nat}{E:List UInt8}(h:Bl p b E w) (hs:Step [] w w'):Bl p b E w':=by
 obtain ⟨v,h1,h2⟩:=h;exact ⟨v,h1.ext hs,Qt h2 hs⟩
theorem Qa9 {L:LN}{w:World}{v:Value}{l:LI}{m:Int}(h:QL L w.heap v l) (V:Kb w m) (hb:∀n∈l,0≤n∧n<m) (hl:l.length≤1000000) :
  QG prog 130 [v] w λr w'=>r=.string ⟨(JC l).toArray⟩∧Step [] w w':=by
 refine QG.of_W func130 Z ntmps130 results130 (by simp) ?_;refine Qc<|Qf<|Qc<|xl Z<|Qu (us:=[.pointer none,nS]) Z λI w1 hc J he=>xe ?_;refine Qg<|Qc<|Qb<|x (Qr h Z)<|Qb<|xe ?_
 refine Qh<|Qz (α:=Nat×Value) [(5,5),(8,16)] (λz=>[(8,.int .i64 z.1)]) (λz w'=>z.1≤l.length∧Step [] w w'∧(z.2=.pointer none∨z.2=me I)∧Bl z.2 I (JC (l.take z.1)) w'∧(JC (l.take z.1)).length≤8*z.1) (λz=>l.length - z.1) (by rfl) (0,.pointer none) Lb
  ⟨Ln _,hc,.inl Z,⟨_,he,QP _ _ _ _⟩,Lv _⟩ ?_
 rintro ⟨k,p⟩ g w2 ⟨hk,E,hp,H,hf⟩;simp only[] at hk hp H hf;refine Qc<|x (QA Z Z)<|xe<|Qg<|QC Z (λh9=>?_) (λh9=>?_)
 ·refine Qy<|Qc ?_;rw[Ls (by omega)] at H;refine xl Z<|xf<|(jt E J hp H).mono ?_;rintro r3 w3 ⟨rfl,hg⟩;refine Qf ?_;exact Ql ⟨[.string ⟨(JC l).toArray⟩],Lb,Z,hg⟩
 have U:k<l.length:=by omega
 have hr:=hb l[k] (Le U);obtain ⟨q,hq⟩:∃q:Nat,l[k]=q:=⟨l[k].toNat,by omega⟩;have hh:l[k].toNat=q:=by omega
 have hs:=qj 7 q (by have:=V.le;omega);have Y:JC (l.take (k+1))=JC (l.take k)++Lib.decDigits q++[32]:=by
  rw[Lj U];unfold JC;rw[LH,List.flatMap_singleton,hh,LC]
 refine Qi<|Qg<|Qh<|Qc<|xii (h.ext E) Z Z U λht hi=>x (Qv hi Z)<|Qf<|Qc<|Qb<|xl Z<|xf ?_;refine (show QG _ _ [.int .i64 l[k]] _ _ by rw[hq];exact (QfJ q (by omega) w2 (V.ext E))).mono ?_;rintro r4 w4 ⟨rfl,ha⟩;refine xl rfl<|xf<|(KM (E.trans ha) J hp (H.ext ha) ⟨(Lib.decDigits q).toArray⟩ (by show _+(Lib.decDigits q).toArray.size≤_;simp;omega)).mono ?_;rintro r5 w5 ⟨hj,hm⟩
 refine xe<|Qx<|xl Z<|xf<|(Qao hj J (.inr Z) hm 32 (by simp;omega)).mono ?_;rintro r6 w6 ⟨hn,ho⟩;refine xe<|Qx<|QQ Z Z<|Qb<|xe<|⟨(k+1,me I),by simp only[];omega,Lb,by simp only[];omega,hn,.inr Z,?_,?_⟩
 ·simp only[];rw[Y];simpa using ho
 simp only[];rw[Y];simp;omega
end Go.Proofs.YtjcgijbhaemldaaGreatDoor
namespace Go.Lg
section
variable {P:Program} {ops:List Oper} {K:Fr→World→Prop} {f:Fr} {w:World} {d:Option Nat} {ty:Nat} {ps:String} {af:Array Edge} {gd:Option (Nat×Bool)} {l:List Oper} {C:World→Prop} {pl:List (Nat×Bool)} {i0:Nat}
theorem xig {α:Type}{g:α→LV}{x y:Operand}{t e sz bys:Nat}{z:Value}[Sl P t e sz bys z] (E:∀x,(g x).length=sz) {L:LN}{es:List α}{v:Value}{k:IntKind}{i:Nat}
  (h:ZA L w.heap v es.length sz (es.flatMap g)) (H:ev f x=v) (hy:ev f y=.int k i) (hi:i<es.length)
  (I:∀a,At L w.heap a (g es[i])→XL P ops K l (QV f d (.pointer (some a))) w) (J:Yi ops f ⟨d,.indexAddr t x y,ty,ps,af,gd⟩=true:=by rfl) :
  XL P ops K (⟨d,.indexAddr t x y,ty,ps,af,gd⟩::l) f w:=by
 obtain ⟨a,cap,h1,h2⟩:=ZA.at h hi;rw[Ko g sz E es i hi] at h2;refine xl J (xv (Jc (H.trans h1) hy (by omega) (by omega)) (I _ ?_));simpa using h2
theorem pig {α:Type}{g:α→LV}{x y:Operand}{t e sz bys:Nat}{z:Value}[Sl P t e sz bys z] (E:QK ops i0=⟨d,.indexAddr t x y,ty,ps,af,gd⟩) (I:∀x,(g x).length=sz) {L:LN}{es:List α}{v:Value}{H:Array Obj}{k:IntKind}{i:Nat}
  (h:ZA L H v es.length sz (es.flatMap g)) (J:ev f x=v) (hy:ev f y=.int k i) (hi:i<es.length)
  (U:∀a,At L H a (g es[i])→XP P ops C K pl (QV f d (.pointer (some a))) w) (V:Yi ops f (QK ops i0)=true:=by rfl) :
  XP P ops C K ((i0,true)::pl) f w:=by
 obtain ⟨a,cap,h1,h2⟩:=ZA.at h hi;rw[Ko g sz I es i hi] at h2;refine Lg.p (λw'=>by rw[E];exact Jc (J.trans h1) hy (by omega) (by omega)) ?_ V;rw[E];refine U _ ?_;simpa using h2
end
theorem ZA.grow {X X' Y:LN}{w w':World}{v:Value}{n sz:Nat}{cs:LV}(h:ZA X w.heap v n sz cs) (hs:Step Y w w') (E:∀b∈Y,b∈X) (H:∀b∈X',b∈X∨w.heap.size≤b):ZA X' w'.heap v n sz cs:=by
 have h1:ZA (X++X') w.heap v n sz cs:=h.up (λb hb=>by
  rcases Lp.1 hb with h1 | h1
  ·exact .inl h1
  exact H b h1)
 have h2:=h1.step hs (λb hb=>Lp.2 (.inl (E b hb)));exact h2.up (λb hb=>.inl (Lp.2 (.inr hb)))
structure AV where
 va:Value
 vm:Value
 ve:Value
 a:QD
abbrev Zc (p:AV):LV:=[p.va,.int .i64 p.a.st,p.vm,p.ve]
structure Xf (L:LN) (H:Array Obj) (v:Value) (ps:List AV):Prop where
 arr:ZA L H v ps.length 4 (ps.flatMap Zc)
 each:∀p∈ps,Zq L H p.va p.vm p.ve p.a
theorem Xf.ext {L:LN}{w w':World}{v:Value}{ps:List AV}(h:Xf L w.heap v ps) (hs:Step [] w w'):Xf L w'.heap v ps:=⟨h.arr.ext hs,λp hp=>(h.each p hp).ext hs⟩
theorem Xf.st {L:LN}{w w':World}{v:Value}{ps:List AV}(h:Xf L w.heap v ps) (hs:Step L w w'):Xf L w'.heap v ps:=⟨h.arr.st hs,λp hp=>(h.each p hp).st hs⟩
theorem Xf.up {L L':LN}{H:Array Obj}{v:Value}{ps:List AV}(h:Xf L H v ps) (E:∀b∈L',b∈L∨H.size≤b):Xf L' H v ps:=⟨h.arr.up E,λp hp=>(h.each p hp).up E⟩
abbrev TV:=Value×LI
abbrev Yt (p:TV):LV:=[p.1]
structure JA (L:LN) (H:Array Obj) (v:Value) (ps:List TV):Prop where
 arr:ZA L H v ps.length 1 (ps.flatMap Yt)
 each:∀p∈ps,QL L H p.1 p.2
theorem JA.ext {L:LN}{w w':World}{v:Value}{ps:List TV}(h:JA L w.heap v ps) (hs:Step [] w w'):JA L w'.heap v ps:=⟨h.arr.ext hs,λp hp=>(h.each p hp).ext hs⟩
theorem JA.st {L:LN}{w w':World}{v:Value}{ps:List TV}(h:JA L w.heap v ps) (hs:Step L w w'):JA L w'.heap v ps:=⟨h.arr.st hs,λp hp=>(h.each p hp).st hs⟩
theorem JA.up {L L':LN}{H:Array Obj}{v:Value}{ps:List TV}(h:JA L H v ps) (E:∀b∈L',b∈L∨H.size≤b):JA L' H v ps:=⟨h.arr.up E,λp hp=>(h.each p hp).up E⟩
def QeA (N:Nat) (H:Array Obj) (v:Value) (l:List (LI)):Prop:=∃ps:List TV,ps.map (·.2)=l∧∀L:LN,(∀b∈L,b<N)→JA L H v ps
theorem QeA.mono {N M:Nat}{H:Array Obj}{v:Value}{l:List (LI)}(h:QeA N H v l) (E:M≤N):QeA M H v l:=let ⟨ps,h1,h2⟩:=h;⟨ps,h1,λL I=>h2 L (λb hb=>Mc (I b hb) E)⟩
abbrev Qez (e base:Nat) (w:World) (v:Value) (ps:List TV):Prop:=w.ownsRow base e 1 v ps.length (ps.flatMap Yt)
theorem Qez.snoc {e base:Nat}{w:World}{v:Value}{ps:List TV}{p:TV}(h:w.ownsRow base e 1 v (ps.length+1) (ps.flatMap Yt++[p.1])):Qez e base w v (ps++[p]):=by
 unfold Qez;rw[Ll,LH];simpa using h
theorem U5 {w:World}{base e sz n:Nat}{v:Value}{cs:LV}(h:w.ownsRow base e sz v n cs) (E:0<n):∃g cap,v=.slice (some ⟨g,0,none⟩) n cap:=by
 rcases h.2 with ⟨_,H⟩ | ⟨g,cap,cur,h1,_⟩
 ·omega
 exact ⟨g,cap,h1⟩
section
variable {P:Program} {ops:List Oper} {K:Fr→World→Prop} {f:Fr} {w:World} {d:Option Nat} {ty:Nat} {ps:String} {af:Array Edge} {gd:Option (Nat×Bool)} {l:List Oper}
theorem Qci {t:Nat}[h1:X7 P t] {x y:Operand}{base e n g cap i:Nat}{cs:LV}{u:Value}(h:w.ownsRow base e 1 (.slice (some ⟨g,0,none⟩) n cap) n cs) (hx:ev f x=.pointer (some ⟨g,0+i*1,none⟩)) (hy:ev f y=u) (hi:i<n) (hu:u.oneCell'=true)
  (H:∀w',Step [g] w w'→w'.ownsRow base e 1 (.slice (some ⟨g,0,none⟩) n cap) n (cs.set i u)→K (QV f d undef) w'):XO P ⟨d,.store t x y,ty,ps,af,gd⟩ f w K:=by
 obtain ⟨hl,h⟩:=h;rcases h with ⟨I,_⟩ | ⟨g',cap',cur,e1,hb,J,U,hm,E,V⟩
 ·cases I
 cases e1
 have Y:QT w.heap g e cur.toList:=by unfold QT;simpa using J
 refine QF (j:=i) Y (by rw[hx];simp) hy (by simp[E];omega) hu λw' hs ha=>H w' hs ⟨by simpa using hl,.inr ⟨g,cap,(cur.toList.set i u).toArray,rfl,hb,ha,U,hm,by simpa using E,?_⟩⟩;rw[←V];simp[List.take_set]
end
section
variable {P:Program} {f:Fr} {w:World} {d:Option Nat} {ty:Nat} {ps:String} {af:Array Edge} {gd:Option (Nat×Bool)} {κ:Type} [DecidableEq κ]
theorem jA {t kt et:Nat}{z:Value}[hm:Mp P t kt et z] {enc:κ→Value}[hk:Key P kt enc] {x y:Operand}{b:Nat}{m:List (κ×Value)}{k:κ}{u:Value}(h:ZN enc w.heap b m) (hx:ev f x=.map (some b)) (hy:ev f y=enc k) (E:mget m k=some u) :
  (execOp (ev f) ⟨d,.lookup t x y true,ty,ps,af,gd⟩).run P w=.ok (.value (.tuple #[u,.bool true])) w:=by
 have:=KT (P:=P) (t:=t) (d:=d) (ty:=ty) (ps:=ps) (af:=af) (gd:=gd) h hx hy;rw[E] at this;exact this
theorem QgD {t kt et:Nat}{z:Value}[hm:Mp P t kt et z] {enc:κ→Value}[hk:Key P kt enc] {x y:Operand}{b:Nat}{m:List (κ×Value)}{k:κ}(h:ZN enc w.heap b m) (hx:ev f x=.map (some b)) (hy:ev f y=enc k) (E:mget m k=none) :
  (execOp (ev f) ⟨d,.lookup t x y true,ty,ps,af,gd⟩).run P w=.ok (.value (.tuple #[z,.bool false])) w:=by
 have:=KT (P:=P) (t:=t) (d:=d) (ty:=ty) (ps:=ps) (af:=af) (gd:=gd) h hx hy;rw[E] at this;exact this
end
end Go.Lg
namespace Go.Proofs.YtjcgijbhaemldaaGreatDoor
open Go.Lg
def ckL:List QD→Int
 | []=>0
 | a::l=>if XM a≠0 then XM a else ckL l
def JP (l:List QD):Int:=if 12<l.length then 3 else ckL l
theorem Jw:∀(l:List QD),ckL l=0↔∀a∈l,QM a
 | []=>by simp[ckL]
 | a::l=>by
  rw[ckL];by_cases h:XM a=0
  ·rw[if_neg (by simpa using h),Jw l];simp[(Zv a).1 h]
  rw[if_pos h];simp only[List.forall_mem_cons];exact ⟨λe=>absurd e h,λe=>absurd ((Zv a).2 e.1) h⟩
def evs (l:List QD):LI:=l.foldl (λacc a=>mrg (· || ·) acc a.al) []
def Kx (m:List ((Int×Int)×Value)) (es:List Ed):List ((Int×Int)×Value):=es.foldl (λm e=>mput m (e.1,e.2.1) (.int .i64 e.2.2)) m
def eget:List Ed→Int→Int→Option Int
 | [],_,_=>none
 | e::l,s,v=>if e.1=s∧e.2.1=v then some e.2.2 else eget l s v
theorem Ka {l:List Ed}{s v:Int}(h:∀e∈l,¬(e.1=s∧e.2.1=v)):eget l s v=none:=by
 induction l with
 | nil=>rfl
 | cons e l ih =>
  rw[eget,if_neg (h e Lm)];exact ih λe he=>h e (Lk _ he)
theorem qf:∀(es:List Ed) (m:List ((Int×Int)×Value)) (s v:Int),(es.Pairwise λx y=>x.1<y.1∨(x.1=y.1∧x.2.1<y.2.1)) →
  mget (Kx m es) (s,v)=match eget es s v with | some t=>some (.int .i64 t) | none=>mget m (s,v)
 | [],m,s,v,_=>rfl
 | e::es,m,s,v,h=>by
  simp only[List.pairwise_cons] at h;have ih:=qf es (mput m (e.1,e.2.1) (.int .i64 e.2.2)) s v h.2;unfold Kx at *;rw[LM,ih,eget];by_cases hk:e.1=s∧e.2.1=v
  ·rw[if_pos hk,Ka (λx hx E=>by have:=h.1 x hx;omega)];simp only[J6];rw[if_pos (by rw[hk.1,hk.2])]
  rw[if_neg hk];cases eget es s v with
  | some t=>rfl
  | none =>
   simp only[J6];rw[if_neg (λhe=>hk (by simpa using he))]
def Q5 (ev:Int):List QD→LI→Option (LI)
 | a::bs,t::ts=>if ev∉a.al then (Q5 ev bs ts).map (t::·) else match eget a.ed t ev with | none=>none | some u=>(Q5 ev bs ts).map (u::·)
 | _,_=>some []
def Yp:List QD→LI→Bool
 | a::bs,t::ts=>decide (t∈a.mr) && Yp bs ts
 | _,_=>true
structure Sy where
 tup:List (LI)
 mk':LI
 ed:List Ed
def syE (aa:List QD) (i:Nat) (t:LI) (s:Sy) (v:Int):Option Sy :=
 match Q5 v aa t with
 | none=>some s
 | some u=>if u∈s.tup then some ⟨s.tup,s.mk',s.ed++[((i:Int),v,(s.tup.idxOf u:Int))]⟩
  else if s.tup.length=4096 then none else some ⟨s.tup++[u],s.mk',s.ed++[((i:Int),v,(s.tup.length:Int))]⟩
def KP (aa:List QD) (i:Nat) (t:LI):LI→Sy→Option Sy
 | [],s=>some s
 | v::vs,s=>(syE aa i t s v).bind (KP aa i t vs)
def ZB (aa:List QD) (i:Nat) (t:LI) (s:Sy):Sy:=if Yp aa t=true then ⟨s.tup,s.mk'++[(i:Int)],s.ed⟩ else s
def UT (s:Sy) (i:Nat):LI:=s.tup.getD i []
def syL (aa:List QD):Nat→Nat→Sy→Option Sy
 | 0,_,s=>some s
 | f+1,i,s=>if i<s.tup.length then (KP aa i (UT s i) (evs aa) (ZB aa i (UT s i) s)).bind (syL aa f (i+1)) else some s
def qG (aa:List QD):Sy:=⟨[List.replicate aa.length 0],[],[]⟩
def sync (aa:List QD):Option (QD×List (LI)) :=
 if ∃a∈aa,a.st=0 then some (⟨evs aa,0,[],[]⟩,[]) else (syL aa 4096 0 (qG aa)).map λs=>(⟨evs aa,s.tup.length,s.mk',s.ed⟩,s.tup)
theorem QhB {aa:List QD}{f i:Nat}{s:Sy}(h:¬i<s.tup.length):syL aa f i s=some s:=by
 cases f with
 | zero=>rfl
 | succ f=>rw[syL,if_neg h]
def Vt (aa:List QD) (t:LI):Prop:=t.length=aa.length∧∀i (h:i<t.length) (h':i<aa.length),0≤t[i]∧t[i]<aa[i].st
theorem Vt.cons {a:QD}{aa:List QD}{u:Int}{t:LI}(E:0≤u) (h1:u<a.st) (h:Vt aa t):Vt (a::aa) (u::t):=by
 refine ⟨by simp[h.1],λi h2 h3=>?_⟩;cases i with
 | zero=>exact ⟨E,h1⟩
 | succ i=>exact h.2 i (by simpa using h2) (by simpa using h3)
theorem ZV {l:List Ed}{s v u:Int}(h:eget l s v=some u):(s,v,u)∈l:=by
 induction l with
 | nil=>cases h
 | cons e l ih =>
  rw[eget] at h;split at h
  ·rename_i he;obtain ⟨e1,e2⟩:=he;cases h
   obtain ⟨a,b,c⟩:=e;simp only[] at e1 e2;subst e1 e2;exact Lm
  exact Lk _ (ih h)
theorem XQ {v:Int}:∀{aa:List QD}{t u:LI},(∀a∈aa,QM a)→Vt aa t→Q5 v aa t=some u→Vt aa u
 | [],t,u,_,h,hs=>by
  cases t with
  | nil=>simp[Q5] at hs;subst hs;exact h
  | cons x t=>have:=h.1;simp at this
 | a::aa,[],u,_,h,hs=>by have:=h.1;simp at this
 | a::aa,x::t,u,E,h,hs=>by
  have hx:=h.2 0 (by simp) (by simp);have ht:Vt aa t:=⟨by have:=h.1;simpa using this,λi h2 h3=>h.2 (i+1) (by simpa using h2) (by simpa using h3)⟩;have H:∀a∈aa,QM a:=λa ha=>E a (Lk _ ha);rw[Q5] at hs;split at hs
  ·obtain ⟨I,h1,rfl⟩:=LP.1 hs;exact Vt.cons hx.1 hx.2 (XQ H ht h1)
  split at hs
  ·cases hs
  rename_i q hq;obtain ⟨I,h1,rfl⟩:=LP.1 hs;have:=(E a Lm).ed _ (ZV hq);exact Vt.cons this.2.2.2.1 this.2.2.2.2 (XQ H ht h1)
structure qp (aa:List QD) (s:Sy):Prop where
 v:∀t∈s.tup,Vt aa t
 le:s.tup.length≤4096
theorem jq {aa:List QD}{i:Nat}{t:LI}{s:Sy}(h:qp aa s):qp aa (ZB aa i t s):=by
 unfold ZB;split
 ·exact ⟨h.v,h.le⟩
 exact h
theorem QhF {aa:List QD}{i:Nat}{t:LI}{s E:Sy}{v:Int}(H:∀a∈aa,QM a) (h:qp aa s) (ht:Vt aa t) (hs:syE aa i t s v=some E):qp aa E:=by
 unfold syE at hs;split at hs
 ·cases hs;exact h
 rename_i u hu;have I:=XQ H ht hu;split at hs
 ·cases hs;exact ⟨h.v,h.le⟩
 split at hs
 ·cases hs
 cases hs
 have:=h.le;refine ⟨λt ht=>?_,by simp;omega⟩;simp only[List.mem_append,List.mem_singleton] at ht;rcases ht with ht | rfl
 ·exact h.v t ht
 exact I
open Go.Proofs.Tryz
theorem JX (p:AV):(Zc p).length=4:=rfl
theorem Qas (p:TV):(Yt p).length=1:=rfl
theorem Xf.le {L:LN}{H:Array Obj}{v:Value}{ps:List AV}(h:Xf L H v ps):ps.length≤1099511627776:=h.arr.le
theorem Qj1 {l:List QD}{k:Nat}(h:k<l.length):ckL (l.drop k)=if XM l[k]≠0 then XM l[k] else ckL (l.drop (k+1)):=by
 rw[LQ h,ckL]
theorem jC {L:LN}{w:World}{v:Value}{ps:List AV}(h:Xf L w.heap v ps) :
  QG prog 52 [v] w λr w'=>r=.int .i64 (JP (ps.map (·.a)))∧Step [] w w':=by
 have hi:=Xf.le h;refine QG.of_W func52 Z ntmps52 results52 (by simp) ?_;refine Qc<|Qf<|Qg<|Qc<|Qb<|x (Qr h.arr Z)<|x (ZY Z Z)<|xe<|Q3 rfl (λh8=>?_) (λh8=>?_)
 ·refine Qc<|Qf<|Ql ⟨[.int .i64 3],Lb,?_,Step.refl _ _⟩;unfold JP;rw[if_pos (by simp;omega)];rfl
 refine Qi ?_;have hP:JP (ps.map (·.a))=ckL (ps.map (·.a)):=by unfold JP;rw[if_neg (by simp;omega)]
 rw[hP];refine Qg<|Qc<|Qb<|x (Qr h.arr Z)<|Qb<|xe<|Qh<|Qz (α:=Nat) [(2,2),(4,5),(11,20)] (λz=>[(11,.int .i64 z)]) (λz w'=>z≤ps.length∧Step [] w w'∧ckL (ps.map (·.a))=ckL ((ps.map (·.a)).drop z)) (λz=>ps.length - z) (by rfl) 0 Lb
  ⟨Ln _,Step.refl _ _,Z⟩ ?_
 rintro k g w1 ⟨hk,E,hck⟩;refine Qc<|x (QA Z Z)<|xe<|Qg<|QC Z (λha=>?_) (λha=>?_)
 ·refine Qy<|Qc<|Qf<|Ql ⟨[.int .i64 0],Lb,?_,E⟩;rw[hck,Lx (by simp;omega)];rfl
 have H:k<ps.length:=by omega
 have hb:k<(ps.map (·.a)).length:=by simpa using H
 rw[Qj1 hb,LJ] at hck;refine Qi<|Qg<|Qh<|Qc<|xig JX (h.ext E).arr Z Z H λhj hc=>x (QJ hc Z Z)<|xl Z<|Qu (us:=[nS,.int .i64 0,nS,nS]) Z λb4 w2 he hf J=>?_;have I:=h.each ps[k] (Le H);refine xl rfl<|Qn (us:=Zc ps[k]) J Z Z Z Z ⟨I.al.one,Z,I.mr.one,I.ed.one,La⟩ λw3 hg J=>xe ?_;have V:Step [] w1 w3:=he.then1 hg hf
 refine Qc<|x (Qp J Z Z)<|xl Z<|xf<|(Xn ((I.ext E).ext V)).mono ?_;rintro r4 w4 ⟨rfl,hh⟩;refine Qf ?_;have Y:=(E.trans V).trans hh;refine Qc<|Qb<|x (Q8 Z Z)<|xe<|Q3 rfl (λU=>?_) (λU=>?_)
 ·refine Qc<|Qb<|Qf<|Ql ⟨[.int .i64 (XM ps[k].a)],Lb,?_,Y⟩;rw[hck,if_pos U];rfl
 refine Qi<|Qx<|QQ Z Z<|Qb<|xe<|⟨k+1,by omega,Lb,H,Y,?_⟩;rw[hck,if_neg U]
theorem QjD {l:List QD}{k:Nat}(h:k<l.length):evs (l.take (k+1))=mrg (· || ·) (evs (l.take k)) l[k].al:=by
 unfold evs;rw[Lj h,Mv];rfl
theorem q5 (l:List QD) (h:∀a∈l,a.al.length≤32):(evs l).length≤32*l.length:=by
 have key:∀(l:List QD) (acc:LI),(∀a∈l,a.al.length≤32)→(l.foldl (λacc a=>mrg (· || ·) acc a.al) acc).length≤acc.length+32*l.length:=by
  intro l;induction l with
  | nil=>intro acc _;simp
  | cons a l ih =>
   intro acc h;have h1:=ih (mrg (· || ·) acc a.al) (λa ha=>h a (Lk _ ha));have h2:=Um (· || ·) acc a.al;have h3:=h a Lm;simp only[List.foldl_cons,List.length_cons];omega
 have:=key l [] h;unfold evs;simpa using this
theorem j0 {L:LN}{w:World}{v:Value}{ps:List AV}(h:Xf L w.heap v ps) (hn:ps.length≤12) (Y:∀p∈ps,p.a.al.length≤32) :
  QG prog 53 [v] w λr w'=>Step [] w w'∧Qs 3 w.heap.size w' r (evs (ps.map (·.a))):=by
 refine QG.of_W func53 Z ntmps53 results53 (by simp) ?_;refine Qc<|Qf<|Qc<|Qf<|Qg<|Qc<|Qb<|x (Qr h.arr Z)<|Qb<|xe<|Qh<|Qz (α:=Nat×Value) [(3,3),(5,5),(8,16)] (λz=>[(3,z.2),(8,.int .i64 z.1)]) (λz w'=>z.1≤ps.length∧Step [] w w'∧Qs 3 w.heap.size w' z.2 (evs ((ps.map (·.a)).take z.1))) (λz=>ps.length - z.1) (by rfl) (0,nS) ⟨Z,Z,La⟩
  ⟨Ln _,Step.refl _ _,QP _ _ _ _⟩ ?_
 rintro ⟨k,vo⟩ g w1 ⟨hk,J,H⟩;simp only[] at hk H;have hj:=q5 ((ps.map (·.a)).take k) (λa ha=>by obtain ⟨p,hp,rfl⟩:=Lq.1 (L2 ha);exact Y p hp);have hl:((ps.map (·.a)).take k).length≤12:=by simp;omega
 refine Qc<|x (QA Z Z)<|xe<|Qg<|QC Z (λh9=>?_) (λh9=>?_)
 ·refine Qy<|Qc<|Qb<|Qf<|Ql ⟨[vo],Lb,J,?_⟩;rw[Ls (by simp;omega)] at H;exact H
 have E:k<ps.length:=by omega
 refine Qi<|Qg<|Qh<|Qc<|xig JX (h.ext J).arr Z Z E λhm hc=>x (QJ hc Z Z)<|xl Z<|Qu (us:=[nS,.int .i64 0,nS,nS]) Z λb5 w2 he hf U=>?_;have I:=h.each ps[k] (Le E);have hq:=Y ps[k] (Le E);refine xl rfl<|Qn (us:=Zc ps[k]) U Z Z Z Z ⟨I.al.one,Z,I.mr.one,I.ed.one,La⟩ λw3 hg U=>xe ?_;have hb:Step [] w1 w3:=he.then1 hg hf
 have V:=J.trans hb;refine Qx<|Qb<|x (Qa Z)<|x (Qd U Z Z)<|xl Z<|xf<|(yM (Qs.ints (L:=[]) (Qt H hb) (by omega) (by simp)) (I.al.ext V) (by omega)).mono ?_;rintro r4 w4 ⟨hh,hi⟩;refine Qf<|Qx<|QQ Z Z<|Qb<|xe<|⟨(k+1,r4),by simp only[];omega,⟨Z,Z,La⟩,E,V.trans hh,?_⟩;simp only[];rw[QjD (by simpa using E),LJ];exact Zi hi V.size
abbrev Qcq (b:Nat):LV:=[.map (some b)]
structure Vk (L:LN) (H:Array Obj) (vl ve vs:Value) (ps:List AV) (ms:LN):Prop where
 al:Xf L H vl ps
 ev:QL L H ve (evs (ps.map (·.a)))
 ml:ms.length=ps.length
 sl:ZA L H vs ms.length 1 (ms.flatMap Qcq)
 mp:∀i (h:i<ms.length) (h':i<ps.length),ZN Z4 H ms[i] (Kx [] ps[i].a.ed)∧ms[i]∉L
theorem Vk.ext {L:LN}{w w':World}{vl ve vs:Value}{ps:List AV}{E:LN}(h:Vk L w.heap vl ve vs ps E) (hs:Step [] w w'):Vk L w'.heap vl ve vs ps E :=
 ⟨h.al.ext hs,h.ev.ext hs,h.ml,h.sl.ext hs,λi h1 h2=>⟨(h.mp i h1 h2).1.ext hs,(h.mp i h1 h2).2⟩⟩
theorem Vk.st {L:LN}{w w':World}{vl ve vs:Value}{ps:List AV}{E:LN}(h:Vk L w.heap vl ve vs ps E) (hs:Step L w w'):Vk L w'.heap vl ve vs ps E :=
 ⟨h.al.st hs,h.ev.st hs,h.ml,h.sl.st hs,λi h1 h2=>⟨(h.mp i h1 h2).1.step hs (h.mp i h1 h2).2,(h.mp i h1 h2).2⟩⟩
theorem Vk.up {L L':LN}{H:Array Obj}{vl ve vs:Value}{ps:List AV}{I:LN}(h:Vk L H vl ve vs ps I) (E:∀b∈L',b∈L∨H.size≤b):Vk L' H vl ve vs ps I :=
 ⟨h.al.up E,h.ev.up E,h.ml,h.sl.up E,λi h1 h2=>⟨(h.mp i h1 h2).1,λhm=>by rcases E _ hm with h3 | h3;exact (h.mp i h1 h2).2 h3;have:=(h.mp i h1 h2).1.lt;omega⟩⟩
theorem yp {m:List ((Int×Int)×Value)}{es:List Ed}{k:Nat}(h:k<es.length):Kx m (es.take (k+1))=mput (Kx m (es.take k)) (es[k].1,es[k].2.1) (.int .i64 es[k].2.2):=by
 unfold Kx;rw[Lj h,Mv];rfl
theorem Qfh {L:LN}{w:World}{vl:Value}{ps:List AV}(h:Xf L w.heap vl ps) (hn:ps.length≤12) (hG:∀p∈ps,p.a.al.length≤32) (hL:∀b∈L,b<w.heap.size) :
  QG prog 106 [vl] w λr w'=>Step [] w w'∧∃ve vs E,r=.agg #[vl,ve,vs]∧Vk L w'.heap vl ve vs ps E∧Qs 3 w.heap.size w' ve (evs (ps.map (·.a))):=by
 refine QG.of_W func106 Z ntmps106 results106 (by simp) ?_;refine Qc<|xl Z<|Qu (us:=[nS,nS,nS]) Z λb2 w1 hw hS hy=>xe ?_;refine Qc<|Qb<|Qb<|xl Z<|xf<|(j0 (h.ext hw) hn hG).mono ?_;rintro ve w2 ⟨he,hf⟩;have hT:=q5 (ps.map (·.a)) (λa ha=>by obtain ⟨p,hp,rfl⟩:=Lq.1 ha;exact hG p hp);have ke:(evs (ps.map (·.a))).length≤1000:=by simp at hT;omega
 have hz:=Qs.ints (L:=[]) hf (by omega) (by simp);refine x (QN ⟨h.arr.cells,hz.cells,La⟩)<|xl Z<|Qu (us:=[nS,nS,nS]) Z λb3 w3 hU hV hg =>
  xl rfl<|Qn (us:=[vl,ve,nS]) hg Z Z Z Z ⟨h.arr.one,hz.one,Z,La⟩ λH hW hg=>xe ?_
 have hX:=hw.size;have kf:=he.size;have hh:Step [] w2 H:=hU.then1 hW hV;have kg:=hy.lt;have kh:=hg.lt;have hY:Step [] w H:=(hw.trans he).trans hh;have hZ:=Qt hf hh;refine Qg<|Qc<|Qb<|x (Qr h.arr Z)<|Qb<|xe ?_;have ga:=Q2 hf;refine Qh<|Qz (α:=Nat×LN×Value) [(5,6),(8,8),(15,42)] (λz=>[(15,.int .i64 z.1)])
  (λz w'=>z.1≤ps.length∧z.2.1.length=z.1∧Step [b3] H w'∧QT w'.heap b3 215 [vl,ve,z.2.2]∧w'.ownsRow H.heap.size 217 1 z.2.2 z.2.1.length (z.2.1.flatMap Qcq) ∧
   (∀i (h:i<z.2.1.length) (h':i<ps.length),ZN Z4 w'.heap z.2.1[i] (Kx [] ps[i].a.ed)∧H.heap.size≤z.2.1[i]∧z.2.1[i]∉ob z.2.2)) (λz=>ps.length - z.1) (by rfl) (0,[],nS) Lb
  ⟨Ln _,Z,Step.refl _ _,hg,QP _ _ _ _,λi h=>by simp at h⟩ ?_
 rintro ⟨k,E,vs⟩ g w5 ⟨hk,hl,I,h0,J,ho⟩;simp only[] at hk hl I h0 J ho;have hr:Step [] w w5:=hY.then1 I (by omega);have ki:=I.size;have hs:=Qq J;refine Qc<|x (QA Z Z)<|xe<|Qg<|QC Z (λgb=>?_) (λgb=>?_)
 ·have gc:k=ps.length:=by omega
  subst gc;refine Qy<|Qc ?_;have ge:=QX (L:=[]) J (by omega) (by simp);refine x (Qp h0 Z Z)<|xl Z<|Qn (us:=[vl,ve,vs]) (((hy.ext he).ext hh).step I (by simp;omega)) Z Z Z Z ⟨h.arr.one,hz.one,ge.one,La⟩ λw6 ht gg=>xe ?_;have hH:=hr.then1 ht hS
  have hI:Qs 3 w1.heap.size w6 ve _:=Qk (Qk hZ I (λb hb=>by have:=ga b hb;simp;omega)) ht (λb hb=>by have:=(Qq hf b hb).1;simp;omega);have hJ:=Qk J ht (λb hb=>by have:=(hs b hb).1;simp;omega)
  refine Ql ⟨[.agg #[vl,ve,vs]],⟨⟨_,Z,Qw Z (gg.at (L:=[]) (by simp)).cells⟩,La⟩,hH,ve,vs,E,rfl,⟨h.ext hH,Qs.ints hI (by omega) (λb hb=>by have:=hL b hb;omega),hl,QX hJ (by omega) (λb hb h3=>by have:=hL b h3;have:=(Qq hJ b hb).1;omega),λi h1 h2=>⟨?_,λh3=>by have:=hL _ h3;have:=(ho i h1 h2).2.1;omega⟩⟩,Zi hI hX⟩;obtain ⟨U,m2,_⟩:=ho i h1 h2;exact U.step ht (λhb=>by
   simp only[List.mem_singleton] at hb;have h7:=(((hy.ext he).ext hh).step I (by simp;omega));rw[hb] at U;obtain ⟨es,c,m4,_⟩:=U;unfold QT at h7;rw[h7] at m4;cases m4)
 have h4:k<ps.length:=by omega
 have V:=h.each ps[k] (Le h4);refine Qi<|Qg<|Qh<|Qc<|xig JX (h.ext hr).arr Z Z h4 λkj gh=>x (QJ gh Z Z)<|xl Z<|Qu (us:=[nS,.int .i64 0,nS,nS]) Z λb5 w7 gi gj gk =>
  xl rfl<|Qn (us:=Zc ps[k]) gk Z Z Z Z ⟨V.al.one,Z,V.mr.one,V.ed.one,La⟩ λw8 gl hK=>xe ?_
 have gm:Step [] w5 w8:=gi.then1 gl gj;have kk:=hK.lt;refine Qc<|xl Z<|Ya Z4 λbm w9 hM kn hN=>Qf ?_;have ko:=hN.lt;have hO:=gm.trans hM;have gn:=hr.trans hO;refine Qg<|Qc<|x (Qa Z)<|x (Qd (hK.ext hM) Z Z)<|x (Qr V.ed Z)<|Qb<|xe ?_;have gq:=(V.ed.up (L':=[bm]) (λb hb=>.inr (by simp at hb;have:=hr.size;omega))).ext gn;have kp:=V.ed.le
 refine Qh<|Qz (α:=Nat) [(8,8),(23,35)] (λz=>[(23,.int .i64 z)]) (λz w'=>z≤ps[k].a.ed.length∧Step [bm] w9 w'∧ZN Z4 w'.heap bm (Kx [] (ps[k].a.ed.take z))) (λz=>ps[k].a.ed.length - z) (by rfl) 0 Lb
  ⟨Ln _,Step.refl _ _,hN⟩ ?_
 rintro j g2 Y ⟨hj,hu,h6⟩;have kq:=hu.size;refine Qc<|x (QA Z Z)<|xe<|Qg<|QC Z (λgr=>?_) (λgr=>?_)
 ·refine Qy ?_;rw[Ls (by omega)] at h6;have h8:Step [] w5 Y:=hO.then1 hu (by omega);have hP:QT Y.heap b3 215 [vl,ve,vs]:=h0.ext h8;refine Qx<|x (Qa Z)<|x (Qd hP Z Z)<|Qb<|xl Z<|QH (us:=[[.map (some bm)]]) Z Z (by decide) (by simp) ⟨rfl,rfl,La⟩ λkr gs hv kt gt=>?_;have h9:=h8.trans hv;have gu:=Qt J h9;have ku:=h9.size
  refine xl Z<|Q6 (news:=[.map (some bm)]) (L:=[]) gu Z Z Z (gt.at (by simp)) (by simp[Value.oneCell']) (by omega) (by omega) λhB gv gx hC hQ=>?_;have hD:gv.ownsRow H.heap.size 217 1 hB (E++[bm]).length ((E++[bm]).flatMap Qcq):=by
   rw[Ll,LH];simpa using gx
  have gy:=(hP.ext hv).step hC (QY J (by omega));refine x (Qa Z)<|xl Z<|QF gy Z Z (by simp) (QX (L:=[]) hD (by simp;omega) (by simp)).one λgz hE g0=>xe ?_;refine Qx<|QQ Z Z<|Qb<|xe ?_;have g1:∀b∈ob hB,H.heap.size≤b:=λb hb=>(Qq hD b hb).1;have kv:Y.heap.size≤gs.heap.size:=hv.size
  refine ⟨(k+1,E++[bm],hB),by simp only[];omega,Lb,h4,by simp[hl],?_,g0,Qk hD hE (λb hb=>by have:=g1 b hb;simp;omega),?_⟩
  ·exact ((I.trans h9).then hC (λb hb=>.inr (hs b hb).1)).trans' hE
  intro i h1 h2;simp only[List.length_append,List.length_singleton] at h1;have keep:∀(c:Nat) (m:List ((Int×Int)×Value)),ZN Z4 Y.heap c m→c≠b3→c∉ob vs→ZN Z4 gz.heap c m:=λc m hm g3 g4 =>
   ((hm.ext hv).step hC g4).step hE (by simpa using g3)
  by_cases hi:i<E.length
  ·obtain ⟨U,m2,m3⟩:=ho i hi h2;simp only[List.getElem_append_left hi];refine ⟨keep _ _ (U.ext h8) (by omega) m3,m2,λhb=>?_⟩;have kw:=U.lt;rcases hQ _ hb with h5 | h5
   ·exact m3 h5
   omega
  have g5:i=E.length:=by omega
  subst g5;simp only[List.getElem_append_right (Nat.le_refl _),Nat.sub_self,List.getElem_singleton];have hq:E.length=k:=hl;have e2:ps[E.length]=ps[k]:=by simp only[hq]
  rw[e2];refine ⟨keep _ _ h6 (by omega) (λhb=>by have:=(hs _ hb).2;omega),by omega,λhb=>?_⟩;rcases hQ _ hb with h5 | h5
  ·have:=(hs _ h5).2;omega
  omega
 have hF:j<ps[k].a.ed.length:=by omega
 refine Qi<|Qg<|Qh<|Qc<|xie (gq.st hu) Z Z hF λkx g6=>x (QJ g6 Z Z)<|xl Z<|Qu (us:=[.int .i64 0,.int .i64 0,.int .i64 0]) Z λb8 kz g7 g8 hc=>xl Z<|Qn (us:=QB ps[k].a.ed[j]) hc Z Z Z Z ⟨Z,Z,Z,La⟩ λg9 ka hc=>xe ?_;have hR:Step [] Y g9:=g7.then1 ka g8;refine Qx<|Qb<|x (Qa Z)<|x (Qd hc Z Z)<|x (Qa Z)<|x (Qd hc Z Z)<|x (QN ⟨Z,Z,La⟩)<|x (Qa Z) <|
  x (Qd hc Z Z)<|xl Z<|Y1 (k:=(ps[k].a.ed[j].1,ps[k].a.ed[j].2.1)) (h6.ext hR) Z Z λk0 kb kc=>xe ?_
 refine Qx<|QQ Z Z<|Qb<|xe<|⟨j+1,by omega,Lb,hF,(hu.trans hR).trans' kb,?_⟩;rw[yp hF];exact kc
theorem Qed {L:LN}{w:World}{vl ve vs:Value}{ps:List AV}{ms:LN}(h:Vk L w.heap vl ve vs ps ms) (hn:ps.length≤12) :
  QG prog 129 [.agg #[vl,ve,vs]] w λr w'=>Step [] w w' ∧
   if ∃p∈ps,p.a.st=0 then r=.tuple #[nS,.bool false] else ∃v,r=.tuple #[v,.bool true]∧Qs 3 w.heap.size w' v (List.replicate ps.length 0):=by
 refine QG.of_W func129 Z ntmps129 results129 (by simp) ?_;refine Qc<|xl Z<|QR (us:=[vl,ve,vs]) Z λb1 w1 H ho Y=>x Qe<|Qf<|Qg<|Qc<|x (Qa Z)<|x (Qd Y Z Z)<|x (Qr h.al.arr Z)<|Qb<|xe<|Qh<|Qz (α:=Nat) [(2,3),(5,5),(9,16)] (λz=>[(9,.int .i64 z)]) (λz w'=>z≤ps.length∧Step [] w1 w'∧∀i (h:i<ps.length),i<z→ps[i].a.st≠0) (λz=>ps.length - z) (by rfl) 0 Lb
  ⟨Ln _,Step.refl _ _,λi _ h=>by omega⟩ ?_
 rintro k g w2 ⟨hk,E,ha⟩;refine Qc<|x (QA Z Z)<|xe<|Qg<|QC Z (λhe=>?_) (λhe=>?_)
 ·refine Qy<|Qc<|x (Qa Z)<|x (Qd (Y.ext E) Z Z)<|x (Qr h.al.arr Z)<|xl Z<|XZ (n:=ps.length) Z Z (by omega) λhf w3 hg hq hb=>x Qe<|Qf ?_;rw[show (List.replicate ps.length (Value.int .i64 0).cells.toList).flatten=((List.replicate ps.length 0).map (Value.int .i64)) by rw[show (Value.int .i64 0).cells.toList=[Value.int .i64 0] from rfl,Qcc,List.map_replicate]] at hb
  have hz:=(H.trans E).size;refine Ql ⟨[.slice (some ⟨hf,0,none⟩) ps.length ps.length,.bool true],⟨Z,Z,La⟩,(H.trans E).trans hg,?_⟩;rw[if_neg (by
   rintro ⟨p,hp,h0⟩;obtain ⟨i,hi,rfl⟩:=LB hp;exact ha i hi (by omega) h0)]
  refine ⟨_,Z,?_⟩;have:=hb.own (n:=ps.length) (sz:=1) (base:=w.heap.size) (by simp) (by omega) (by omega);unfold Qs;rw[Ng];exact this
 have I:k<ps.length:=by omega
 have J:=h.al.each ps[k] (Le I);refine Qi<|Qg<|Qh<|Qc<|xig JX ((h.al.ext H).ext E).arr Z Z I λhr hh=>x (QJ hh Z Z)<|xl Z<|Qu (us:=[nS,.int .i64 0,nS,nS]) Z λb5 w4 hj hl U =>
  xl rfl<|Qn (us:=Zc ps[k]) U Z Z Z Z ⟨J.al.one,Z,J.mr.one,J.ed.one,La⟩ λw5 hm U=>xe ?_
 have hc:Step [] w2 w5:=hj.then1 hm hl;refine Qc<|x (Qa Z)<|x (Qd U Z Z)<|x (Zr Z Z)<|xe<|Q3 rfl (λV=>?_) (λV=>?_)
 ·refine Qc<|x Qe<|Qf<|Ql ⟨[nS,.bool false],⟨Z,Z,La⟩,(H.trans E).trans hc,?_⟩;rw[if_pos ⟨ps[k],Le I,V⟩];rfl
 refine Qi<|Qx<|QQ Z Z<|Qb<|xe<|⟨k+1,by omega,Lb,I,E.trans hc,λi hi hs=>?_⟩;by_cases e:i=k
 ·subst e;exact V
 exact ha i hi (by omega)
theorem Qd3 {aa:List QD}{ts:LI}{k:Nat}(h:k<aa.length) (h':k<ts.length):Yp (aa.drop k) (ts.drop k)=(decide (ts[k]∈aa[k].mr) && Yp (aa.drop (k+1)) (ts.drop (k+1))):=by
 rw[LQ h,LQ h',Yp]
theorem QgK {L:LN}{w:World}{vl ve vs vt:Value}{ps:List AV}{ms:LN}{ts:LI}(h:Vk L w.heap vl ve vs ps ms) (ht:QL L w.heap vt ts) (hl:ts.length=ps.length) (hi:∀p∈ps,Z8 p.a.mr) (hn:ps.length≤12) :
  QG prog 131 [.agg #[vl,ve,vs],vt] w λr w'=>r=.bool (Yp (ps.map (·.a)) ts)∧Step [] w w':=by
 refine QG.of_W func131 Z ntmps131 results131 (by simp) ?_;refine Qc<|xl Z<|QR (us:=[vl,ve,vs]) Z λb2 w1 hf hs hg=>Qf<|Qg<|Qc<|x (Qa Z)<|x (Qd hg Z Z)<|x (Qr h.al.arr Z)<|Qb<|xe<|Qh<|Qz (α:=Nat) [(4,6),(10,23)] (λz=>[(10,.int .i64 z)]) (λz w'=>z≤ps.length∧Step [] w w'∧Yp (ps.map (·.a)) ts=Yp ((ps.map (·.a)).drop z) (ts.drop z)) (λz=>ps.length - z) (by rfl) 0 Lb
  ⟨Ln _,hf,Z⟩ ?_
 rintro k g w2 ⟨hk,J,H⟩;refine Qc<|x (QA Z Z)<|xe<|Qg<|QC Z (λhh=>?_) (λhh=>?_)
 ·refine Qy<|Qc<|Qf<|Ql ⟨[.bool true],Lb,?_,J⟩;rw[H,Lx (by simp;omega)];rfl
 have E:k<ps.length:=by omega
 have hb:k<ts.length:=by omega
 have I:=h.al.each ps[k] (Le E);rw[Qd3 (by simpa using E) hb,LJ] at H;refine Qi<|Qg<|Qh<|Qc<|Qb<|xig JX (h.al.ext J).arr Z Z E λhu hj=>x (QJ hj Z Z)<|xl Z<|Qu (us:=[nS,.int .i64 0,nS,nS]) Z λb6 w3 hm ho U=>x Qe <|
  xl rfl<|Qn (us:=Zc ps[k]) U Z Z Z Z ⟨I.al.one,Z,I.mr.one,I.ed.one,La⟩ λV hp U=>xe ?_
 have hq:Step [] w2 V:=hm.then1 hp ho;have Y:=J.trans hq;refine Qg<|QU (Step [] V) [(0,true),(1,true),(2,true),(3,true),(4,true),(5,true),(6,false),(7,true)] mixed (by rfl) (by kernel_rfl) (Step.drew _ _) ?_;refine p (λ_=>Qa Z)<|pq (λ_ hc=>Qd (U.ext hc) Z Z)<|p (λ_=>Qm)<|p (λ_=>Qm)<|pii Z (ht.ext Y) Z Z hb λhv hr =>
  pq (λ_ hc=>Qv (hr.ext hc) Z)<|pk<|xf<|(Y3 ((I.mr.ext Y).ext (Step.drew _ _)) (hi ps[k] (Le E)) _).mono ?_
 rintro r5 w5 ⟨rfl,rfl⟩;refine ⟨Step.drew _ _,?_⟩;refine p (λ_=>Zs Z)<|pe ?_;have he:=Y.trans (Step.drew [] V);refine QW rfl (λha=>?_) (λha=>?_)
 ·refine Qc<|Qf<|Ql ⟨[.bool false],Lb,?_,he⟩;rw[H,show decide (ts[k]∈ps[k].a.mr)=false by simpa using ha];rfl
 refine Qi<|Qx<|QQ Z Z<|Qb<|xe<|⟨k+1,by omega,Lb,E,he,?_⟩;rw[H,show decide (ts[k]∈ps[k].a.mr)=true by simpa using ha,Bool.true_and]
theorem QdD {aa:List QD}{ts:LI}{k:Nat}{v:Int}(h:k<aa.length) (h':k<ts.length):Q5 v (aa.drop k) (ts.drop k) =
  if v∉aa[k].al then (Q5 v (aa.drop (k+1)) (ts.drop (k+1))).map (ts[k]::·) else match eget aa[k].ed ts[k] v with | none=>none | some u=>(Q5 v (aa.drop (k+1)) (ts.drop (k+1))).map (u::·):=by
 rw[LQ h,LQ h'];show (if v∉aa[k].al then _ else _)=_
 split
 ·rfl
 cases eget aa[k].ed ts[k] v <;> rfl
theorem Qil {L:LN}{w:World}{vl ve vs vt:Value}{ps:List AV}{ms:LN}{ts:LI}(h:Vk L w.heap vl ve vs ps ms) (ht:QL L w.heap vt ts) (hl:ts.length=ps.length) (hi:∀p∈ps,Z8 p.a.al)
  (h0:∀p∈ps,p.a.ed.Pairwise λx y=>x.1<y.1∨(x.1=y.1∧x.2.1<y.2.1)) (hn:ps.length≤12) (v:Int) :
  QG prog 132 [.agg #[vl,ve,vs],vt,.int .i64 v] w λr w'=>Step [] w w' ∧
   match Q5 v (ps.map (·.a)) ts with | none=>r=.tuple #[nS,.bool false] | some u=>∃v',r=.tuple #[v',.bool true]∧Qs 3 w.heap.size w' v' u:=by
 refine QG.of_W func132 Z ntmps132 results132 (by simp) ?_;refine Qc<|xl Z<|QR (us:=[vl,ve,vs]) Z λb3 w1 hf hM hg=>x Qe<|Qf<|Qc<|Qb<|xl Z<|xf<|(Y2 (ht.ext hf)).mono ?_;rintro vx w2 ⟨hh,hs⟩;refine Qf ?_;have h1:=hf.size;have hN:=hg.lt;have hj:=hf.trans hh;refine Qg<|Qc<|x (Qa Z)<|x (Qd (hg.ext hh) Z Z)<|x (Qr h.al.arr Z)<|Qb<|xe ?_;have hge:=Qq hs
 have h2:Vk (ob vx) w2.heap vl ve vs ps ms:=((h.up (L':=ob vx) (λb hb=>.inr (by have:=(hge b hb).1;omega))).ext hj);have h3:QL (ob vx) w2.heap vt ts:=((ht.up (L':=ob vx) (λb hb=>.inr (by have:=(hge b hb).1;omega))).ext hj);refine Qh<|Qz (α:=Nat×LI) [(6,7),(9,12),(18,49)] (λz=>[(18,.int .i64 z.1)])
  (λz w'=>z.1≤ps.length∧z.2.length=z.1∧Step (ob vx) w2 w'∧Qs 3 w1.heap.size w' vx (z.2++ts.drop z.1)∧Q5 v (ps.map (·.a)) ts=(Q5 v ((ps.map (·.a)).drop z.1) (ts.drop z.1)).map (z.2++·)) (λz=>ps.length - z.1) (by rfl) (0,[]) Lb
  ⟨Ln _,Z,Step.refl _ _,hs,by simp⟩ ?_
 rintro ⟨k,pre⟩ g w3 ⟨hk,V,J,U,E⟩;simp only[] at hk V U E;have hm:Step [] w w3:=hj.then J (λb hb=>.inr (by have:=(hge b hb).1;omega));refine Qc<|x (QA Z Z)<|xe<|Qg<|QC Z (λh4=>?_) (λh4=>?_)
 ·refine Qy<|Qc<|Qb<|x Qe<|Qf<|Ql ⟨[vx,.bool true],⟨Z,Z,La⟩,hm,?_⟩;rw[Lx (by simp;omega),Lx (by omega)] at E;rw[Lx (by omega)] at U;rw[E];simp only[Q5,Option.map_some];exact ⟨vx,Z,Zi U h1⟩
 have H:k<ps.length:=by omega
 have ho:k<ts.length:=by omega
 have hu:k<ms.length:=by rw[h.ml];exact H
 have Y:=h.al.each ps[k] (Le H);rw[QdD (by simpa using H) ho,LJ] at E;have hv:=h2.st J;have h5:=h3.st J;refine Qi<|Qg<|Qh<|Qc<|Qb<|xig JX hv.al.arr Z Z H λhO h6=>x (QJ h6 Z Z)<|xl Z<|Qu (us:=[nS,.int .i64 0,nS,nS]) Z λb10 w4 h7 h8 hp=>x Qe <|
  xl rfl<|Qn (us:=Zc ps[k]) hp Z Z Z Z ⟨Y.al.one,Z,Y.mr.one,Y.ed.one,La⟩ λw5 h9 hp=>xe ?_
 have I:Step [] w3 w5:=h7.then1 h9 h8;have hB:=hm.trans I;refine Qg<|Qc<|x (Qa Z)<|x (Qd hp Z Z)<|Qb<|xl Z<|xf<|(Y3 (Y.al.ext hB) (hi ps[k] (Le H)) v).mono ?_;rintro r6 w6 ⟨rfl,rfl⟩;refine x (Zs Z)<|xe ?_;have hw:=Q7 ho;refine QW rfl (λhq=>?_) (λhq=>?_)
 ·have hC:v∉ps[k].a.al:=by simpa using hq
  refine Qy<|Qx<|QQ Z Z<|Qb<|xe<|⟨(k+1,pre++[ts[k]]),by simp only[];omega,Lb,H,by simp[V],J.trans I,?_,?_⟩
  ·simp only[List.append_assoc,List.singleton_append];rw[←hw];exact Qt U I
  simp only[];rw[E,if_pos hC,Option.map_map];congr 1;funext l;simp
 have hD:¬(v∉ps[k].a.al):=by simpa using hq
 rw[if_neg hD] at E;refine Qi ?_;have hE:=(hg.ext hh).step J (λhb=>by have:=(hge b3 hb).1;omega);have hy:=hv.ext I;obtain ⟨hF,hP⟩:=hy.mp k hu H
 refine Qg<|QU (Step [] w6) [(0,true),(1,true),(2,true),(3,true),(4,true),(5,true),(6,true),(7,true),(8,true),(9,true),(10,true),(11,true),(12,true),(13,true),(14,true),(15,true),(16,true)] mixed (by rfl) (by kernel_rfl) (Step.drew _ _) ?_;refine p (λ_=>Qa Z)<|pq (λ_ hc=>Qd ((hE.ext I).ext hc) Z Z)<|p (λ_=>Qm)<|pig Z (g:=Qcq) (λ_=>Z) hy.sl Z Z hu λhQ hG =>
  pq (λ_ hc=>Qv (hG.ext hc) Z)<|p (λ_=>Qm)<|p (λ_=>Qm)<|pii Z (h5.ext I) Z Z ho λhR hH=>pq (λ_ hc=>Qv (hH.ext hc) Z) <|
  p (λ_=>Qm)<|p (λ_=>QN ⟨Z,Z,La⟩)<|pq (λ_ hc=>KT (k:=(ts[k],v)) (hF.ext hc) Z Z)<|?_
 rw[qf ps[k].a.ed [] ts[k] v (h0 ps[k] (Le H))];have hr:Step [] w3 { w6 with drawn:=w6.drawn+1 }:=I.trans (Step.drew [] w6)
 cases he:eget ps[k].a.ed ts[k] v with
 | none =>
  rw[he] at E;refine p (λ_=>Qm)<|p (λ_=>Qj Z Z)<|p (λ_=>Qj Z Z)<|p (λ_=>Qe)<|p (λ_=>Qe)<|pe ?_;refine Qg<|Qc<|Qb<|x (Zs Z)<|xe<|yL Z ?_;refine Qc<|x Qe<|Qf<|Ql ⟨[nS,.bool false],⟨Z,Z,La⟩,hm.trans hr,?_⟩;rw[E];rfl
 | some u =>
  rw[he] at E;refine p (λ_=>Qm)<|p (λ_=>Qj Z Z)<|p (λ_=>Qj Z Z)<|p (λ_=>Qe)<|p (λ_=>Qe)<|pe ?_;refine Qg<|Qc<|Qb<|x (Zs Z)<|xe<|YT Z ?_;refine Qi ?_;have hz:=Qt U hr;have hS:(pre++ts.drop k).length=ts.length:=by simp;omega
  obtain ⟨gx,cx,ha⟩:=U5 U (by omega);have hI:ob vx=[gx]:=by rw[ha];rfl
  refine Qx<|Qb<|Qb<|Qb<|x (QS ha Z (by omega))<|xl Z<|Qci (u:=.int .i64 u) (by rw[ha] at hz;exact hz) Z Z (by omega) Z λw7 hJ hK=>xe ?_;refine Qx<|QQ Z Z<|Qb<|xe ?_;have hL:(pre++ts.drop k).set k u=(pre++[u])++ts.drop (k+1):=by
   rw[hw,List.set_append_right _ _ (by omega),V,Nat.sub_self,List.set_cons_zero,LC];rfl
  refine ⟨(k+1,pre++[u]),by simp only[];omega,Lb,H,by simp[V],(J.trans hr).then hJ (λb hb=>.inl (by rw[hI];exact hb)),?_,?_⟩
  ·simp only[];rw[←hL];unfold Qs;rw[MS,Nu,ha];exact hK
  simp only[];rw[E,Option.map_map];congr 1;funext l;simp
theorem V9 {n:Nat}(h:n<256):(UInt8.ofNat n).toNat=n:=by
 simp[Nat.mod_eq_of_lt h]
theorem QcU (u:Nat):(32:UInt8)∉Lib.decDigits u:=by
 induction u using Nat.strongRecOn with
 | _ u ih =>
  unfold Lib.decDigits;split
  ·intro h;simp only[List.mem_singleton] at h;have:=congrArg UInt8.toNat h;rw[V9 (by omega)] at this;have E:(32:UInt8).toNat=32:=rfl;omega
  intro h;rcases Lp.1 h with h | h
  ·exact ih _ (by omega) h
  simp only[List.mem_singleton] at h;have:=congrArg UInt8.toNat h;rw[V9 (by omega)] at this;have E:(32:UInt8).toNat=32:=rfl;omega
def dval (l:List UInt8):Nat:=l.foldl (λa b=>a*10+(b.toNat - 48)) 0
theorem QcQ (u:Nat):dval (Lib.decDigits u)=u:=by
 induction u using Nat.strongRecOn with
 | _ u ih =>
  unfold Lib.decDigits;split
  ·simp only[dval,List.foldl_cons,List.foldl_nil];rw[V9 (by omega)];omega
  have:=ih (u / 10) (by omega);unfold dval at *;rw[Mv,this];simp only[List.foldl_cons,List.foldl_nil];rw[V9 (by omega)];omega
theorem Qe0:∀{a b r E:List UInt8},(32:UInt8)∉a→(32:UInt8)∉b→a++32::r=b++32::E→a=b∧r=E
 | [],[],_,_,_,_,h=>by simpa using h
 | [],y::b,_,_,_,hb,h=>by simp at h;exact absurd h.1 (by intro e;exact hb (by simp[e]))
 | x::a,[],_,_,ha,_,h=>by simp at h;exact absurd h.1 (by intro e;exact ha (by simp[e]))
 | x::a,y::b,_,_,ha,hb,h=>by
  simp only[List.cons_append,List.cons.injEq] at h;have:=Qe0 (λe=>ha (Lk _ e)) (λe=>hb (Lk _ e)) h.2;exact ⟨by rw[h.1,this.1],this.2⟩
theorem Qcy:∀{l l':LI},(∀n∈l,0≤n)→(∀n∈l',0≤n)→JC l=JC l'→l=l'
 | [],[],_,_,_=>rfl
 | [],y::b,_,_,h=>by simp[JC] at h
 | x::a,[],_,_,h=>by simp[JC] at h
 | x::a,y::b,ha,hb,h=>by
  have h':Lib.decDigits x.toNat++32::JC a=Lib.decDigits y.toNat++32::JC b:=by simpa[JC] using h
  obtain ⟨h1,h2⟩:=Qe0 (QcU _) (QcU _) h';have h3:x.toNat=y.toNat:=by rw[←QcQ x.toNat,←QcQ y.toNat,h1]
  have h4:=Qcy (λn E=>ha n (Lk _ E)) (λn E=>hb n (Lk _ E)) h2;have h5:=ha x Lm;have h6:=hb y Lm;rw[h4,show x=y by omega]
def VF (l:LI):ByteArray:=⟨(JC l).toArray⟩
theorem Qi1 {l l':LI}(h1:∀n∈l,0≤n) (h2:∀n∈l',0≤n) (h:VF l=VF l'):l=l':=by
 refine Qcy h1 h2 ?_;have:=congrArg (λb:ByteArray=>b.data.toList) h;simpa[VF] using this
def qq (n:Nat) (m:List (ByteArray×Value)) (tup:List (LI)):Prop :=
 ∀u:LI,u.length=n→(∀x∈u,0≤x)→mget m (VF u)=if u∈tup then some (.int .i64 (tup.idxOf u:Int)) else none
theorem qq.add {n:Nat}{m:List (ByteArray×Value)}{tup:List (LI)}(h:qq n m tup) {u:LI}(hu:u∉tup) (E:∀x∈u,0≤x):qq n (mput m (VF u) (.int .i64 (tup.length:Int))) (tup++[u]):=by
 intro v H h1;rw[J6];by_cases e:u=v
 ·subst e;rw[if_pos rfl,if_pos (by simp),Mj,if_neg hu];simp
 rw[if_neg (λhk=>e (Qi1 E h1 hk)),h v H h1];by_cases hm:v∈tup
 ·rw[if_pos hm,if_pos (by simp[hm]),Mj,if_pos hm]
 rw[if_neg hm,if_neg (by simp[hm,Ne.symm e])]
structure SyI (N b2 b38 b37:Nat) (ve:Value) (wS:World) (s:Sy) (m:List (ByteArray×Value)) (qs:List TV) (vt vk vd:Value) (w:World):Prop where
 st:Step [b2,b38,b37] wS w
 A:QT w.heap b2 50 [ve,.int .i64 0,vk,vd]
 M:ZN Js w.heap b38 m
 t:Qez 39 N w vt qs
 tb:∀b∈ob vt,b=b37∨wS.heap.size≤b
 k:Qs 3 wS.heap.size w vk s.mk'
 e:Ye 129 wS.heap.size w vd s.ed
 q:qs.map (·.2)=s.tup
 el:∀p∈qs,Qs 3 N w p.1 p.2
 sep:∀p∈qs,∀b∈ob p.1,b≠b38∧b∉ob vt∧b∉ob vk∧b∉ob vd
 d1:Dj vt vk
 d2:Dj vt vd
 d3:Dj vk vd
section
variable {N b2 b38 b37:Nat} {ve:Value} {wS:World} {s:Sy} {m:List (ByteArray×Value)} {qs:List TV} {vt vk vd:Value} {w w' w'':World}
theorem SyI.ext (h:SyI N b2 b38 b37 ve wS s m qs vt vk vd w) (hs:Step [] w w'):SyI N b2 b38 b37 ve wS s m qs vt vk vd w' :=
 ⟨h.st.trans hs,h.A.ext hs,h.M.ext hs,Qt h.t hs,h.tb,Qt h.k hs,Qt h.e hs,h.q,λp hp=>Qt (h.el p hp) hs,h.sep,h.d1,h.d2,h.d3⟩
structure SyN (N b2 b38 b37:Nat) (wS:World):Prop where
 l2:b2<N
 l38:b38<wS.heap.size
 l37:b37<wS.heap.size
 n37:N≤b37
 n38:b37<b38
 nS:N≤wS.heap.size
theorem SyI.setK (h:SyI N b2 b38 b37 ve wS s m qs vt vk vd w) (n:SyN N b2 b38 b37 wS) {H:Value}{l:LI}(hs:Step (ob vk) w w') (J:Qs 3 wS.heap.size w' H l)
  (I:∀b∈ob H,b∈ob vk∨w.heap.size≤b) (E:Step [b2] w' w'') (U:QT w''.heap b2 50 [ve,.int .i64 0,H,vd]):SyI N b2 b38 b37 ve wS ⟨s.tup,l,s.ed⟩ m qs vt H vd w'':=by
 have hge:=Qq h.k;have l2:=n.l2;have l38:=n.l38;have n37:=n.n37;have n38:=n.n38;have nS:=n.nS;refine ⟨(h.st.then hs (λb hb=>.inr (hge b hb).1)).then E (λb hb=>.inl (by simp at hb;simp[hb])),U,(h.M.step hs (QY h.k (by omega))).step E (by simp;omega),
  Qk (Qk h.t hs h.d1) E (λb hb=>by have:=(Qq h.t b hb).1;simp;omega),h.tb,Qk J E (λb hb=>by have:=(Qq J b hb).1;simp;omega),
  Qk (Qk h.e hs h.d3.symm) E (λb hb=>by have:=(Qq h.e b hb).1;simp;omega),h.q,
  λp hp=>Qk (Qk (h.el p hp) hs (λb hb=>(h.sep p hp b hb).2.2.1)) E (λb hb=>by have:=(Qq (h.el p hp) b hb).1;simp;omega),
  λp hp b hb=>⟨(h.sep p hp b hb).1,(h.sep p hp b hb).2.1,λhb'=>?_,(h.sep p hp b hb).2.2.2⟩,h.d1.grow I (Q2 h.t),h.d2,(h.d3.symm.grow I (Q2 h.e)).symm⟩
 rcases I b hb' with h1 | h1
 ·exact (h.sep p hp b hb).2.2.1 h1
 have:=Q2 (h.el p hp) b hb;omega
theorem SyI.setE (h:SyI N b2 b38 b37 ve wS s m qs vt vk vd w) (n:SyN N b2 b38 b37 wS) {H:Value}{l:List Ed}(hs:Step (ob vd) w w') (J:Ye 129 wS.heap.size w' H l)
  (I:∀b∈ob H,b∈ob vd∨w.heap.size≤b) (E:Step [b2] w' w'') (U:QT w''.heap b2 50 [ve,.int .i64 0,vk,H]):SyI N b2 b38 b37 ve wS ⟨s.tup,s.mk',l⟩ m qs vt vk H w'':=by
 have hge:=Qq h.e;have l2:=n.l2;have l38:=n.l38;have n37:=n.n37;have n38:=n.n38;have nS:=n.nS;refine ⟨(h.st.then hs (λb hb=>.inr (hge b hb).1)).then E (λb hb=>.inl (by simp at hb;simp[hb])),U,(h.M.step hs (QY h.e (by omega))).step E (by simp;omega),
  Qk (Qk h.t hs h.d2) E (λb hb=>by have:=(Qq h.t b hb).1;simp;omega),h.tb,Qk (Qk h.k hs h.d3) E (λb hb=>by have:=(Qq h.k b hb).1;simp;omega),
  Qk J E (λb hb=>by have:=(Qq J b hb).1;simp;omega),h.q,
  λp hp=>Qk (Qk (h.el p hp) hs (λb hb=>(h.sep p hp b hb).2.2.2)) E (λb hb=>by have:=(Qq (h.el p hp) b hb).1;simp;omega),
  λp hp b hb=>⟨(h.sep p hp b hb).1,(h.sep p hp b hb).2.1,(h.sep p hp b hb).2.2.1,λhb'=>?_⟩,h.d1,h.d2.grow I (Q2 h.t),h.d3.grow I (Q2 h.k)⟩
 rcases I b hb' with h1 | h1
 ·exact (h.sep p hp b hb).2.2.2 h1
 have:=Q2 (h.el p hp) b hb;omega
theorem SyI.setM (h:SyI N b2 b38 b37 ve wS s m qs vt vk vd w) (n:SyN N b2 b38 b37 wS) {E:List (ByteArray×Value)}(hs:Step [b38] w w') (hm:ZN Js w'.heap b38 E):SyI N b2 b38 b37 ve wS s E qs vt vk vd w':=by
 have l2:=n.l2;have l38:=n.l38;have n37:=n.n37;have n38:=n.n38;have nS:=n.nS;exact ⟨h.st.then hs (λb hb=>.inl (by simp at hb;simp[hb])),h.A.step hs (by simp;omega),hm,Qk h.t hs (λb hb=>by have:=h.tb b hb;simp;omega),h.tb,
  Qk h.k hs (λb hb=>by have:=(Qq h.k b hb).1;simp;omega),Qk h.e hs (λb hb=>by have:=(Qq h.e b hb).1;simp;omega),h.q,
  λp hp=>Qk (h.el p hp) hs (λb hb=>by have:=(h.sep p hp b hb).1;simpa using this),h.sep,h.d1,h.d2,h.d3⟩
theorem SyI.setT (h:SyI N b2 b38 b37 ve wS s m qs vt vk vd w) (n:SyN N b2 b38 b37 wS) {E vx:Value}{u:LI}(hx:Qs 3 wS.heap.size w vx u) (I:∀b∈ob vx,b∉ob vt∧b∉ob vk∧b∉ob vd) (hs:Step (ob vt) w w')
  (J:Qez 39 N w' E (qs++[(vx,u)])) (H:∀b∈ob E,b∈ob vt∨w.heap.size≤b):SyI N b2 b38 b37 ve wS ⟨s.tup++[u],s.mk',s.ed⟩ m (qs++[(vx,u)]) E vk vd w':=by
 have l2:=n.l2;have l38:=n.l38;have n37:=n.n37;have n38:=n.n38;have nS:=n.nS;have V:=h.st.size;have nott:∀c,c<w.heap.size→c∉ob vt→c∉ob E:=λc hc U hv'=>by
  rcases H c hv' with h1 | h1
  ·exact U h1
  omega
 refine ⟨h.st.then hs (λb hb=>by have:=h.tb b hb;simp;omega),h.A.step hs (λhb=>by have:=h.tb b2 hb;omega),h.M.step hs (λhb=>by have:=h.tb b38 hb;omega),J,
  λb hb=>?_,Qk h.k hs h.d1.symm,Qk h.e hs h.d2.symm,by rw[Ly,h.q];rfl,λp hp=>?_,λp hp b hb=>?_,(h.d1.symm.grow H (Q2 h.k)).symm,(h.d2.symm.grow H (Q2 h.e)).symm,h.d3⟩
 ·rcases H b hb with h1 | h1
  ·exact h.tb b h1
  exact .inr (by omega)
 ·rcases Lp.1 hp with hp | hp
  ·exact Qk (h.el p hp) hs (λb hb=>(h.sep p hp b hb).2.1)
  simp only[List.mem_singleton] at hp;subst hp;exact Zi (Qk hx hs (λb hb=>(I b hb).1)) nS
 rcases Lp.1 hp with hp | hp
 ·have:=h.sep p hp b hb;exact ⟨this.1,nott b (Q2 (h.el p hp) b hb) this.2.1,this.2.2⟩
 simp only[List.mem_singleton] at hp;subst hp;have h1:=(Qq hx b hb);have h2:=I b hb;exact ⟨by omega,nott b h1.2 h2.1,h2.2⟩
end
end Go.Proofs.YtjcgijbhaemldaaGreatDoor
