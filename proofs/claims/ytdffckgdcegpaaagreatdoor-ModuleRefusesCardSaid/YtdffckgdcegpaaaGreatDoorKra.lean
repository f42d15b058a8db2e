/- Merged out of 23 texts. -/
import Derived.Orders
import Derived.Below
import Derived.WalkKit
import Derived.Laws.AppendOwn
import Derived.Laws.Rows
import Derived.Laws.Tables
import Derived.Great.BuildSlice
import Derived.Deep.OwnRows
import Derived.MapKept
import Derived.Test.YtdffckgdcegpaaaGreatDoorProg
import Derived.Shelf.Strings.Builder1
import Derived.Shelf.Small.Bits
import Derived.Shelf.Strings.BuilderF
import Derived.Shelf.Strings.BuilderK
import Derived.Shelf.Strconv.Itoa0
import Derived.Shelf.Strconv.Itoa1
import Derived.Shelf.LaysM
import Derived.Shelf.Strconv.Itoa2
import Derived.Shelf.Strconv.Itoa3
import Derived.Shelf.Strings.BuilderCap
import Derived.Ground.SlsfProg
import Derived.Shelf.SlSortCmp.Insertion
import Derived.Shelf.SlSortCmp.SiftDown1
import Derived.Shelf.SlSortCmp.HeapSort1
import Derived.Shelf.SlSortCmp.Insertion1
import Derived.Shelf.SlSortCmp.Median1
import Derived.Shelf.SlSortCmp.Pivot1
import Derived.Shelf.SlSortCmp.ReverseRange1
import Derived.Shelf.SlSortCmp.PartialInsertion1
import Derived.Shelf.SlSortCmp.PartitionEqual1
import Derived.Shelf.SlSortCmp.Partition1
import Derived.Lib.Builder
import Derived.Laws.Externs
namespace Go
abbrev nS:Value:=.slice none 0 0
abbrev LI:=List Int
abbrev LN:=List Nat
abbrev LV:=List Value
theorem O.{u}{α:Sort u}{a:α}:a=a:=rfl
theorem U:True:=trivial
theorem Z.{u}{α:Sort u}{a:α}:a=a∧True:=⟨rfl,trivial⟩
abbrev La:=@List.mem_singleton
abbrev Lb:=@List.mem_cons
abbrev Lc:=@List.getElem_mem
abbrev Le:=@List.take_succ_eq_append_getElem
abbrev Lh:=@List.length_map
abbrev Li:=@List.mem_append
abbrev Lj:=@Nat.zero_le
abbrev Lk:=@List.length_append
abbrev Ll:=@List.take_of_length_le
abbrev Lm:=@List.mem_cons_of_mem
abbrev Ln:=@List.eq_nil_of_length_eq_zero
abbrev Lo:=@List.not_mem_nil
abbrev Lp:=@List.drop_of_length_le
abbrev Lq:=@Decidable.not_not
abbrev Lr:=@Nat.le_refl
abbrev Ls:=@List.mem_cons_self
abbrev Lt:=@List.map_append
abbrev Lu:=@Bool.and_eq_true
abbrev Lv:=@List.getElem?_eq_getElem
abbrev Lx:=@List.length_take
abbrev Ly:=@List.mem_map
abbrev Lz:=@Array.getElem?_eq_some_iff
abbrev LA:=@List.flatMap_append
abbrev LB:=@List.flatMap_cons
abbrev LC:=@List.append_assoc
abbrev LD:=@List.getElem_of_mem
abbrev LE:=@List.length_singleton
abbrev LF:=@List.pairwise_cons
abbrev LG:=@List.mem_map_of_mem
abbrev LH:=@List.drop_eq_getElem_cons
abbrev LJ:=@List.append_nil
abbrev LK:=@List.getElem?_take
abbrev LL:=@List.mem_append_left
abbrev LM:=@List.pairwise_iff_getElem
abbrev LO:=@List.foldl_cons
abbrev LP:=@List.map_cons
abbrev LQ:=@List.length_cons
abbrev LR:=@Nat.zero_add
abbrev LS:=@Nat.le_trans
abbrev LT:=@List.mem_of_getElem?
abbrev LU:=@List.size_toArray
abbrev LW:=@List.mem_of_mem_take
abbrev LX:=@Nat.lt_of_lt_of_le
abbrev LY:=@List.getElem?_eq_some_iff
abbrev LZ:=@List.getElem?_toArray
abbrev L0:=@List.cons_append
abbrev L2:=@Array.getElem?_toList
abbrev L3:=@List.getElem_append_left
abbrev L4:=@List.all_cons
abbrev L5:=@Array.size_modify
abbrev L6:=@List.length_drop
abbrev L7:=@List.pairwise_map
abbrev L8:=@Array.getElem?_append
abbrev L9:=@List.filter_append
abbrev Ma:=@Array.getElem?_eq_getElem
abbrev Mb:=@List.nil_append
abbrev Mc:=@List.filter_cons
abbrev Md:=@List.foldl_append
abbrev Me:=@List.map_map
abbrev Mf:=@List.map_singleton
abbrev Mg:=@Array.getElem?_modify
abbrev Mh:=@List.filterMap_cons
abbrev Mi:=@List.all_eq_true
abbrev Mj:=@List.mem_flatMap
abbrev Mk:=@List.ext_getElem
abbrev Ml:=@List.idxOf_append
abbrev Mm:=@Nat.mul_le_mul_right
abbrev Mn:=@Bool.or_eq_false_iff
abbrev Mo:=@List.mem_of_mem_drop
abbrev Mq:=@List.getElem?_append_left
abbrev Mr:=@List.mem_filter
abbrev Ms:=@Nat.mod_eq_of_lt
abbrev Mt:=@List.mem_append_right
abbrev Mu:=@List.take_append_drop
abbrev Mv:=@Option.bind_eq_some_iff
abbrev Mw:=@List.nodup_nil
abbrev Mx:=@Nat.add_mul
abbrev My:=@List.getElem?_append_right
abbrev Mz:=@List.range'_1_concat
abbrev MA:=@List.pairwise_append
abbrev MB:=@List.getElem_append_right
abbrev MC:=@Int.toNat_natCast
abbrev MD:=@List.mem_range'_1
abbrev ME:=@List.length_filter_le
abbrev MF:=@List.headD_cons
abbrev MG:=@List.idxOf_lt_length_of_mem
abbrev MH:=@List.tail_cons
abbrev MI:=@Option.map_eq_some_iff
abbrev MJ:=@List.getD_eq_getElem?_getD
abbrev MK:=@List.take_succ_cons
abbrev ML:=@Nat.min_eq_left
abbrev MM:=@List.getElem?_drop
abbrev MN:=@List.getElem_map
abbrev MO:=@Nat.add_comm
abbrev MP:=@List.forall_mem_cons
abbrev MQ:=@Array.size_append
abbrev MR:=@List.getElem_take
abbrev MS:=@List.length_set
abbrev MT:=@List.filter_nil
abbrev MU:=@List.filter_sublist
abbrev MW:=@List.any_eq_true
abbrev MX:=@List.range'_succ
abbrev MY:=@List.take_length
abbrev MZ:=@List.mem_filterMap
abbrev M0:=@List.getElem?_eq_none
abbrev M1:=@List.getElem?_map
abbrev M2:=@List.ext_getElem?
abbrev M3:=@Nat.add_zero
abbrev M4:=@List.any_eq_false
abbrev M5:=@List.getElem?_set_ne
abbrev M6:=@List.eq_of_mem_replicate
abbrev M7:=@List.map_congr_left
abbrev M8:=@List.zipIdx_cons
abbrev M9:=@List.pairwise_singleton
abbrev Na:=@List.foldl_nil
abbrev Nb:=@Nat.one_mul
abbrev Nc:=@Int.le_refl
abbrev Nd:=@Option.map_some
abbrev Nf:=@Nat.not_lt_zero
end Go
namespace Go.Lg
open Go.RowKit
abbrev Fr:=Nat→Value
def upd (f:Fr) (d:Nat) (v:Value):Fr:=λt=>bif Nat.beq t d then v else f t
def ev (f:Fr):Operand→Value
 | .tmp t=>f t
 | .const v=>v
 | .global g=>.pointer (some ⟨g,0,none⟩)
 | .func g=>.func (.func g) #[] #[]
def QR (f:Fr):Option Nat→Value→Fr
 | some d,v=>upd f d v
 | none,_=>f
structure zN (n:Nat) (a:Act) (f:Fr):Prop where
 size:a.tmps.size=n
 defers:a.defers=[]
 get:∀t,a.tmps.getD t undef=f t
theorem Yo (f:Fr) (d:Nat) (v:Value):upd f d v d=v:=by simp[upd]
theorem Xy (f:Fr) {d t:Nat}(v:Value) (h:t≠d):upd f d v t=f t:=by
 have:Nat.beq t d=false:=by
  cases e:Nat.beq t d with
  | false=>rfl
  | true=>exact absurd (Nat.eq_of_beq_eq_true e) h
 simp[upd,this]
theorem zN.eval {n:Nat}{a:Act}{f:Fr}(h:zN n a f):a.eval=ev f:=by
 funext x;cases x with
 | tmp t=>exact h.get t
 | _=>rfl
theorem zN.put {n:Nat}{a:Act}{f:Fr}(h:zN n a f) {dst:Option Nat}(hd:∀d,dst=some d→d<n) (v:Value):zN n (a.put dst v) (QR f dst v):=by
 cases dst with
 | none=>exact h
 | some d =>
  have E:d<a.tmps.size:=by rw[h.size];exact hd d O
  refine ⟨by simp[Act.put,h.size],h.defers,λt=>?_⟩;by_cases e:t=d
  ·subst e;rw[QR,Yo];simp[Act.put,E]
  rw[QR,Xy _ _ e,←h.get t];simp[Act.put,Array.getElem?_setIfInBounds_ne (Ne.symm e)]
def ZG (l:List Oper) (t:Nat):Bool:=l.any λo=>match o.dst with | some d=>Nat.beq d t | none=>false
def wrs:Code→Nat→Bool
 | .region _ ops _,t=>ZG ops.toList t
 | .seq a b,t=>wrs a t || wrs b t
 | .cond _ a b,t=>wrs a t || wrs b t
 | .block _ a,t=>wrs a t
 | .loop a,t=>wrs a t
 | .skip,_ | .exit _,_ | .label _,_ | .goto _,_ | .ret,_=>false
 | _,_=>true
def Y4 (D:List (Nat×Nat)) (t:Nat):Bool:=match D with
 | []=>false
 | (lo,hi)::D=>bif (Nat.ble lo t && Nat.ble t hi) then true else Y4 D t
def inD (D:List (Nat×Nat)) (d:Option Nat):Bool:=match d with | none=>true | some d=>Y4 D d
def Qak (D:List (Nat×Nat)) (l:List Oper):Bool:=l.all λo=>inD D o.dst
def wr (D:List (Nat×Nat)):Code→Bool
 | .region _ ops _=>Qak D ops.toList
 | .seq a b=>wr D a && wr D b
 | .cond _ a b=>wr D a && wr D b
 | .block _ a=>wr D a
 | .loop a=>wr D a
 | .skip | .exit _ | .label _ | .goto _ | .ret=>true
 | _=>false
theorem U1 {D:List (Nat×Nat)}{l:List Oper}(h:Qak D l=true) {t:Nat}(E:Y4 D t=false):ZG l t=false:=by
 unfold Qak at h;unfold ZG;rw[M4];intro o G;have h1:=Mi.1 h o G;cases hd:o.dst with
 | none=>simp
 | some d =>
  rw[hd] at h1;simp only[inD] at h1;intro e;have:=Nat.eq_of_beq_eq_true e;subst this;rw[h1] at E;cases E
theorem Jh {D:List (Nat×Nat)}{t:Nat}(E:Y4 D t=false):∀c:Code,wr D c=true→wrs c t=false
 | .region _ ops _,h=>U1 h E
 | .seq a b,h=>by simp only[wr,Bool.and_eq_true] at h;simp[wrs,Jh E a h.1,Jh E b h.2]
 | .cond _ a b,h=>by simp only[wr,Bool.and_eq_true] at h;simp[wrs,Jh E a h.1,Jh E b h.2]
 | .block _ a,h=>Jh E a (by simpa[wr] using h)
 | .loop a,h=>Jh E a (by simpa[wr] using h)
 | .skip,_=>rfl
 | .exit _,_=>rfl
 | .label _,_=>rfl
 | .goto _,_=>rfl
 | .ret,_=>rfl
 | .rangeFunc ..,h=>by simp[wr] at h
 | .scope _,h=>by simp[wr] at h
 | .refuse _,h=>by simp[wr] at h
def mix (D:List (Nat×Nat)) (f g:Fr):Fr:=λt=>bif Y4 D t then g t else f t
theorem Jo {D:List (Nat×Nat)}{f g:Fr}(h:∀t,Y4 D t=false→g t=f t):mix D f g=g:=by
 funext t;unfold mix;cases e:Y4 D t with
 | false=>exact (h t e).symm
 | true=>rfl
def qO (S:List (Nat×Value)) (f:Fr):Fr:=match S with
 | []=>f
 | (t,v)::S=>upd (qO S f) t v
def Xe (f:Fr):List (Nat×Value)→Prop
 | []=>True
 | (t,v)::S=>f t=v∧Xe f S
theorem YC {f:Fr}:∀{S:List (Nat×Value)},Xe f S→qO S f=f
 | [],_=>rfl
 | (t,v)::S,h=>by
  funext s;simp only[qO,YC h.2];by_cases e:s=t
  ·subst e;rw[Yo];exact h.1.symm
  exact Xy _ _ e
def W (P:Program) (n:Nat) (c:Code) (Q:Exit→Fr→World→Prop) (f:Fr) (w:World):Prop :=
 ∀a,zN n a f→c.wp P (λe E w'=>∃f',zN n E f'∧(∀t,wrs c t=false→f' t=f t)∧Q e f' w') a w
def thn (K:Fr→World→Prop) (Q:Exit→Fr→World→Prop):Exit→Fr→World→Prop
 | .normal,f,w=>K f w
 | e,f,w=>Q e f w
def blk (id:Nat) (Q:Exit→Fr→World→Prop):Exit→Fr→World→Prop
 | .exit i,f,w=>bif Nat.beq i id then Q .normal f w else Q (.exit i) f w
 | e,f,w=>Q e f w
section
variable {P:Program} {n:Nat} {Q:Exit→Fr→World→Prop} {f:Fr} {w:World}
theorem W.mono {c:Code}{Q':Exit→Fr→World→Prop}(h:W P n c Q f w) (hq:∀e f w,Q e f w→Q' e f w):W P n c Q' f w :=
 λa ha=>wp_mono (h a ha) λ_ _ _ ⟨E,h1,h2,h3⟩=>⟨E,h1,h2,hq _ _ _ h3⟩
theorem W.keeps {c:Code}(h:W P n c Q f w):W P n c (λe E w'=>(∀t,wrs c t=false→E t=f t)∧Q e E w') f w :=
 λa ha=>wp_mono (h a ha) λ_ _ _ ⟨E,h1,h2,h3⟩=>⟨E,h1,h2,h2,h3⟩
theorem Qi (h:Q .normal f w):W P n .skip Q f w:=λ_ ha=>wp_skip ⟨f,ha,λ_ _=>O,h⟩
theorem Qg1 {l:Nat}(h:Q .normal f w):W P n (.label l) Q f w:=λ_ ha=>wp_label ⟨f,ha,λ_ _=>O,h⟩
theorem Qy {i:Nat}(h:Q (.exit i) f w):W P n (.exit i) Q f w:=λ_ ha=>wp_exit ⟨f,ha,λ_ _=>O,h⟩
theorem Qm (h:Q .ret f w):W P n .ret Q f w:=λ_ ha=>wp_ret ⟨f,ha,λ_ _=>O,h⟩
theorem Qg {x y:Code}(h:W P n x (thn (λf w=>W P n y Q f w) Q) f w):W P n (.seq x y) Q f w:=by
 intro a ha;refine wp_seq (wp_mono (h a ha) ?_);rintro e H w' ⟨E,h1,h2,h3⟩;have k1:∀t,wrs (.seq x y) t=false→E t=f t:=λt G=>h2 t (by simp only[wrs,Bool.or_eq_false_iff] at G;exact G.1);cases e with
 | normal =>
  refine wp_mono (h3 H h1) λ_ _ _ ⟨I,g1,J,S⟩=>⟨I,g1,λt G=>(J t ?_).trans (k1 t G),S⟩;simp only[wrs,Bool.or_eq_false_iff] at G;exact G.2
 | exit id=>exact ⟨E,h1,k1,h3⟩
 | goto l=>exact ⟨E,h1,k1,h3⟩
 | ret=>exact ⟨E,h1,k1,h3⟩
 | panic ch=>exact ⟨E,h1,k1,h3⟩
 | outgrown=>exact ⟨E,h1,k1,h3⟩
theorem Q0 {α:Type}{x y:Code}(D:List (Nat×Nat)) (S:α→List (Nat×Value)) (I:α→World→Prop) (G:wr D x=true)
  (h1:W P n x (thn (λE w'=>∃z,Xe E (S z)∧I z w') Q) f w)
  (h2:∀z g w',I z w'→W P n y Q (qO (S z) (mix D f g)) w'):W P n (.seq x y) Q f w:=by
 refine Qg (h1.keeps.mono ?_);rintro e E w' ⟨hk,hq⟩;cases e with
 | normal =>
  obtain ⟨z,hs,hi⟩:=hq;have h3:=h2 z E w' hi;rw[Jo (λt H=>hk t (Jh H x G)),YC hs] at h3;exact h3
 | exit id=>exact hq
 | goto l=>exact hq
 | ret=>exact hq
 | panic ch=>exact hq
 | outgrown=>exact hq
theorem Q2 {c:Operand}{x y:Code}{t:Bool}(hc:ev f c=.bool t) (E:t=true→W P n x Q f w) (G:t=false→W P n y Q f w) :
  W P n (.cond c x y) Q f w:=by
 intro a ha;have H:a.eval c=.bool t:=by rw[ha.eval];exact hc
 refine wp_cond_split H (λe=>wp_mono (E e a ha) ?_) (λe=>wp_mono (G e a ha) ?_) <;>
  (rintro e J w' ⟨I,h1,h2,h3⟩
   refine ⟨I,h1,λt E=>h2 t ?_,h3⟩;simp only[wrs,Bool.or_eq_false_iff] at E
   first | exact E.1 | exact E.2)
theorem Q7 {c:Operand}{x y:Code}{p:Prop}[Decidable p] (hc:ev f c=.bool (decide p)) (E:p→W P n x Q f w) (G:¬p→W P n y Q f w) :
  W P n (.cond c x y) Q f w :=
 Q2 hc (λe=>E (of_decide_eq_true e)) (λe=>G (of_decide_eq_false e))
theorem QH {c:Operand}{x y:Code}{p:Prop}[Decidable p] (hc:ev f c=.bool (decide p)) (E:¬p→W P n y Q f w) (G:p→W P n x Q f w) :
  W P n (.cond c x y) Q f w:=Q7 hc G E
theorem UD {c:Operand}{x y:Code}(hc:ev f c=.bool true) (h:W P n x Q f w):W P n (.cond c x y) Q f w:=Q2 hc (λ_=>h) (λe=>by cases e)
theorem Yc {c:Operand}{x y:Code}(hc:ev f c=.bool false) (h:W P n y Q f w):W P n (.cond c x y) Q f w:=Q2 hc (λe=>by cases e) (λ_=>h)
theorem Qh {id:Nat}{c:Code}(h:W P n c (blk id Q) f w):W P n (.block id c) Q f w:=by
 intro a ha;refine wp_block (wp_mono (h a ha) ?_);rintro e H w' ⟨E,h1,h2,h3⟩;have k1:∀t,wrs (.block id c) t=false→E t=f t:=λt G=>h2 t (by simpa[wrs] using G);cases e with
 | exit i =>
  simp only[Exit.inBlock];simp only[blk] at h3;by_cases hi:i=id
  ·subst hi;simp only[Nat.beq_refl,cond_true] at h3;simp only[if_true];exact ⟨E,h1,k1,h3⟩
  have hb:Nat.beq i id=false:=by
   cases e:Nat.beq i id with
   | false=>rfl
   | true=>exact absurd (Nat.eq_of_beq_eq_true e) hi
  rw[hb] at h3;rw[if_neg hi];exact ⟨E,h1,k1,h3⟩
 | normal=>exact ⟨E,h1,k1,h3⟩
 | goto l=>exact ⟨E,h1,k1,h3⟩
 | ret=>exact ⟨E,h1,k1,h3⟩
 | panic ch=>exact ⟨E,h1,k1,h3⟩
 | outgrown=>exact ⟨E,h1,k1,h3⟩
theorem QA {α:Type}{c:Code}(D:List (Nat×Nat)) (S:α→List (Nat×Value)) (I:α→World→Prop) (m:α→Nat) (hD:wr D c=true) (z:α)
  (h0:Xe f (S z)) (hI:I z w)
  (round:∀x g w',I x w'→W P n c (thn (λG Y=>∃T,m T<m x∧Xe G (S T)∧I T Y) Q) (qO (S x) (mix D f g)) w'):W P n (.loop c) Q f w:=by
 intro a ha;refine wp_loop_ghost (λ(x:α) V w'=>∃G,zN n V G∧(∀t,wrs c t=false→G t=f t)∧Xe G (S x)∧I x w') m z ⟨f,ha,λ_ _=>O,h0,hI⟩ ?_;rintro x V w' ⟨G,h1,h2,h3,h4⟩;have h5:=round x G w' h4;rw[Jo (λt H=>h2 t (Jh H c hD)),YC h3] at h5;refine wp_mono (h5 V h1) ?_;rintro e hb Y ⟨E,g1,g2,J⟩;have k1:∀t,wrs c t=false→E t=f t:=λt H=>(g2 t H).trans (h2 t H)
 have k2:∀t,wrs (.loop c) t=false→E t=f t:=λt H=>k1 t (by simpa[wrs] using H);cases e with
 | normal=>obtain ⟨T,hm,hs,hi⟩:=J;exact ⟨T,hm,E,g1,k1,hs,hi⟩
 | exit id=>exact ⟨E,g1,k2,J⟩
 | goto l=>exact ⟨E,g1,k2,J⟩
 | ret=>exact ⟨E,g1,k2,J⟩
 | panic ch=>exact ⟨E,g1,k2,J⟩
 | outgrown=>exact ⟨E,g1,k2,J⟩
where
 wp_loop_ghost {α:Type} {P:Program} {c:Code} {Q:Exit→Act→World→Prop} {a:Act} {w:World} (J:α→Act→World→Prop) (m:α→Nat) (z:α) (h₀:J z a w)
   (round:∀x a w,J x a w→c.wp P (Exit.then (λa' w'=>∃x',m x'<m x∧J x' a' w') Q) a w):(Code.loop c).wp P Q a w:=by
  intro b k cs
  have key:∀i x a w,m x=i→J x a w →
    ∃e a' w',Q e a' w'∧Arrives P (lone (b.at a (.code c::.inLoop c::k)) cs w) b k cs e a' w':=by
   intro i
   induction i using Nat.strongRecOn with
   | _ i ih =>
    intro x a w hx hJ
    obtain ⟨e,a₁,w₁,hq,harr⟩:=round x a w hJ b (.inLoop c::k) cs
    cases e with
    | normal =>
     obtain ⟨x',hlt,hJ'⟩:=hq
     obtain ⟨e₂,a₂,w₂,hq₂,harr₂⟩:=ih (m x') (hx ▸ hlt) x' a₁ w₁ rfl hJ'
     exact ⟨e₂,a₂,w₂,hq₂,.of_steps (Steps.trans harr (.one step_inLoop)) harr₂⟩
    | exit id=>exact ⟨_,a₁,w₁,hq,.pass (x:=.inLoop c) rfl (λ_ _=>.inl (by simp)) harr⟩
    | goto l=>exact ⟨_,a₁,w₁,hq,.pass (x:=.inLoop c) rfl (λ_ _=>.inl (by simp)) harr⟩
    | ret=>exact ⟨_,a₁,w₁,hq,.pass (x:=.inLoop c) rfl (λ_ _=>.inl (by simp)) harr⟩
    | panic ch=>exact ⟨_,a₁,w₁,hq,.pass (x:=.inLoop c) rfl (λ_ _=>.inl (by simp)) harr⟩
    | outgrown=>exact ⟨_,a₁,w₁,hq,.pass (x:=.inLoop c) rfl (λ_ _=>.inl (by simp)) harr⟩
  obtain ⟨e,a',w',hq,harr⟩:=key _ z a w rfl h₀
  exact ⟨e,a',w',hq,.of_steps (.one step_loop) harr⟩
end
def upF (P:Program) (dst:Option Nat) (f:Fr) (K:Fr→World→Prop):Result Next→Prop
 | .ok (.value v) w'=>K (QR f dst v) w'
 | .ok .skip w'=>K (QR f dst undef) w'
 | .ok (.enter g args) w'=>Calls P g args w' λe E=>match e with | .returned v=>K (QR f dst v) E | _=>False
 | _=>False
def XO (P:Program) (o:Oper) (f:Fr) (w:World) (K:Fr→World→Prop):Prop:=upF P o.dst f K ((execOp (ev f) o).run P w)
def Z8 (ops:List Oper) (f:Fr) (o:Oper):Bool:=match o.guard with
 | none=>true
 | some (j,want)=>match (ops[j]?).bind (·.dst) with
  | some d=>(match f d with | .bool b=>bif want then b else !b | _=>false)
  | none=>false
def XL (P:Program) (ops:List Oper) (K:Fr→World→Prop):List Oper→Fr→World→Prop
 | [],f,w=>K f w
 | o::l,f,w=>bif Z8 ops f o then XO P o f w (XL P ops K l) else XL P ops K l (QR f o.dst undef) w
theorem KZ {n:Nat}{l:List Oper}{a:Act}{f:Fr}(h:zN n a f) (H:∀o∈l,∀d,o.dst=some d→d<n) (o:Oper):Region.wanted o (yielded l.toArray a.tmps)=Z8 l f o:=by
 unfold Region.wanted Z8;cases o.guard with
 | none=>rfl
 | some p =>
  obtain ⟨j,want⟩:=p;simp only[yielded,List.getElem?_toArray];cases I:(l[j]?) with
  | none=>simp
  | some o' =>
   cases hd:o'.dst with
   | none=>simp[hd]
   | some d =>
    have E:d<a.tmps.size:=by rw[h.size];exact H o' (LT I) d hd
    have G:=h.get d;simp only[Option.bind_some,hd,Array.getElem?_eq_getElem E];simp[E] at G;rw[G];cases f d <;> simp
    cases want <;> simp
theorem Qho {P:Program}{n:Nat}{o:Oper}{a:Act}{f:Fr}{w:World}{K:Fr→World→Prop}{K':Act→World→Prop}{Q:Exit→Act→World→Prop}(h:zN n a f)
  (E:∀v w',K (QR f o.dst v) w'→K' (a.put o.dst v) w') (hx:XO P o f w K):o.wp P a w K' Q:=by
 unfold XO at hx;unfold Oper.wp;rw[h.eval];generalize (execOp (ev f) o).run P w=r at hx;cases r with
 | ok nx w' =>
  cases nx <;> simp only[upF] at hx <;> simp only[Oper.upon]
  case value v=>exact E v w' hx
  case skip=>exact E _ w' hx
  case enter g args =>
   refine Calls.mono hx λe G he=>?_;cases e with
   | returned v=>exact E v G he
   | panicked c=>exact he.elim
   | outgrown=>exact he.elim
 | halt x w'=>exact hx.elim
theorem XO.mono {P:Program}{o:Oper}{f:Fr}{w:World}{K K':Fr→World→Prop}(E:∀v w',K (QR f o.dst v) w'→K' (QR f o.dst v) w') (hx:XO P o f w K):XO P o f w K':=by
 unfold XO at *;generalize (execOp (ev f) o).run P w=r at *;cases r with
 | ok nx w' =>
  cases nx <;> simp only[upF] at hx ⊢
  case value v=>exact E v w' hx
  case skip=>exact E _ w' hx
  case enter g args =>
   refine Calls.mono hx λe G he=>?_;cases e with
   | returned v=>exact E v G he
   | panicked c=>exact he.elim
   | outgrown=>exact he.elim
 | halt x w'=>exact hx.elim
def Xu (n:Nat) (l:List Oper):Bool:=l.all λo=>match o.dst with | some d=>Nat.blt d n | none=>true
theorem Ys {n:Nat}{l:List Oper}(h:Xu n l=true):∀o∈l,∀d,o.dst=some d→d<n:=by
 intro o E d hd;have:=Mi.1 h o E;simp only[hd,Nat.blt_eq] at this;exact this
theorem Y0 {l:List Oper}{o:Oper}(E:o∈l) {t:Nat}(h:ZG l t=false):o.dst≠some t:=by
 intro e;have:=M4.1 h o E;simp[e] at this
theorem YE {f:Fr}{dst:Option Nat}{t:Nat}(h:dst≠some t) (v:Value):QR f dst v t=f t:=by
 cases dst with
 | none=>rfl
 | some d=>exact Xy _ _ (λe=>h (by rw[e]))
section
variable {P:Program} {n:Nat} {Q:Exit→Fr→World→Prop} {f:Fr} {w:World}
theorem Qhp {all:List Oper}(G:∀o∈all,∀d,o.dst=some d→d<n) (H:Fr) :
  ∀(l:List Oper) (k:Nat) (a:Act) (f:Fr) (w:World),(∀j,l[j]?=all[k+j]?)→zN n a f→(∀t,ZG all t=false→f t=H t) →
   XL P all (λf w=>Q .normal f w) l f w →
   wpOps P all.toArray (λe V w'=>∃f',zN n V f'∧(∀t,ZG all t=false→f' t=H t)∧Q e f' w') (List.range' k l.length) a w
 | [],_,a,f,w,_,E,hk,h=>⟨f,E,hk,h⟩
 | o::l,k,a,f,w,hl,E,hk,h=>by
  have J:all[k]?=some o:=by simpa using (hl 0).symm
  have I:o∈all:=LT J;have ih:=λa f w=>Qhp G H l (k+1) a f w (λj=>by have:=hl (j+1);simpa[Nat.add_assoc,Nat.add_comm 1 j] using this);have next:∀v,(∀t,ZG all t=false→QR f o.dst v t=H t):=λv t S=>(YE (Y0 I S) v).trans (hk t S);simp only[List.length_cons,List.range'_succ,wpOps,List.getElem?_toArray,J];rw[KZ E G o];simp only[XL] at h;cases T:Z8 all f o with
  | false =>
   rw[T] at h;exact ih _ _ _ (E.put (G o I) _) (next _) h
  | true =>
   rw[T] at h;exact .inl (Qho E (λv w' hx=>ih _ _ _ (E.put (G o I) v) (next v) hx) h)
theorem y7 {id:Nat}{l:List Oper}(E:Xu n l=true) (h:XL P l (λf w=>Q .normal f w) l f w):W P n (.region id l.toArray false) Q f w:=by
 intro a ha;refine wp_region ?_;have:=Qhp (Ys E) f l 0 a f w (by simp) ha (λ_ _=>rfl) h;simpa[List.range_eq_range',wrs] using this
end
def UL (o:Oper):Bool:=match o.op with
 | .move _ | .assign _ | .pick .. | .alloc _ | .box .. | .build .. | .buildSlice .. | .store .. | .nilCheck _ | .binOp .. | .unOp .. | .makeFunc .. | .makeMap .. | .makeSlice .. | .fieldAddr .. | .field .. | .indexAddr .. | .index .. | .extract .. | .insert .. | .mapUpdate ..=>false
 | .slice ..=>false
 | .call ⟨.builtin .append,_,_⟩=>false
 | .call ⟨.builtin .min,_,_⟩=>false
 | .call ⟨.builtin .max,_,_⟩=>false
 | .call ⟨.value _,_,_⟩=>false
 | _=>true
def KE (all:List Oper) (j:Nat):Bool:=match all[j]? with
 | none=>false
 | some o=>(List.range all.length).all λi=>match all[i]? with
  | none=>true
  | some oi=>!UL oi || i == j || o.after.any λe=>Region.binds .any e && e.on == i
def XA (P:Program) (all:List Oper) (C:World→Prop) (K:Fr→World→Prop):Nat→Array Bool→Fr→World→Prop
 | 0,ls,f,w=>Region.ready .any all.toArray ls=[]∧K f w
 | k+1,ls,f,w=>(Region.ready .any all.toArray ls=[]→K f w) ∧
  ∀i∈Region.ready .any all.toArray ls,∀o,all[i]?=some o →
   bif Z8 all f o then XO P o f w (λE w'=>(KE all i=true∨w'=w∨C w')∧XA P all C K k (ls.setIfInBounds i true) E w') else XA P all C K k (ls.setIfInBounds i true) (QR f o.dst undef) w
section
variable {P:Program} {n:Nat} {f:Fr} {w:World} {all:List Oper} {C:World→Prop} {K:Fr→World→Prop}
theorem Qbn {Q:Exit→Act→World→Prop}(G:∀o∈all,∀d,o.dst=some d→d<n) (H:Fr)
  (I:∀a f w,zN n a f→(∀t,ZG all t=false→f t=H t)→K f w→Q .normal a w) :
  ∀(k:Nat) (ls:Array Bool) (a:Act) (f:Fr) (w:World),zN n a f→(∀t,ZG all t=false→f t=H t)→XA P all C K k ls f w→wpAny P .any all.toArray Q k ls a w
 | 0,_,a,f,w,E,hk,h=>⟨h.1,I a f w E hk h.2⟩
 | k+1,ls,a,f,w,E,hk,h=>by
  refine ⟨λY=>I a f w E hk (h.1 Y),λi hi=>?_⟩;unfold wpOp;simp only[List.getElem?_toArray];cases J:all[i]? with
  | none =>
   exfalso;obtain ⟨_,o,ha,_⟩:=mem_ready.1 hi;simp[J] at ha
  | some o =>
   have S:o∈all:=LT J;have h1:=h.2 i hi o J;have next:∀v,(∀t,ZG all t=false→QR f o.dst v t=H t):=λv t T=>(YE (Y0 S T) v).trans (hk t T);simp only[];rw[KZ E G o];cases V:Z8 all f o with
   | false =>
    rw[V] at h1;exact Qbn G H I k _ _ _ _ (E.put (G o S) _) (next _) h1
   | true =>
    rw[V] at h1;exact .inl (Qho E (λv w' hx=>Qbn G H I k _ _ _ _ (E.put (G o S) v) (next v) hx.2) h1)
theorem JD (f:Fr) {x y:Option Nat}(v u:Value) (h:∀d,x=some d→y≠some d):QR (QR f x v) y u=QR (QR f y u) x v:=by
 cases x with
 | none=>rfl
 | some d =>
  cases y with
  | none=>rfl
  | some e =>
   have E:d≠e:=λhe=>h d O (he ▸ O);funext t;simp only[QR];by_cases h1:t=d
   ·subst h1;rw[Xy _ _ E,Yo,Yo]
   by_cases h2:t=e
   ·subst h2;rw[Yo,Xy _ _ h1,Yo]
   rw[Xy _ _ h2,Xy _ _ h1,Xy _ _ h1,Xy _ _ h2]
theorem QgG {f:Fr}{dst:Option Nat}{v:Value}{x:Operand}(h:∀d,dst=some d→x≠.tmp d):ev (QR f dst v) x=ev f x:=by
 cases dst with
 | none=>rfl
 | some d =>
  cases x with
  | tmp t=>exact Xy _ _ (λe=>h d O (by rw[e]))
  | _=>rfl
theorem YM {o:Oper}(hs:∀cs b,o.op≠.select cs b) (f:Fr) (dst:Option Nat) (v:Value) (h:∀d,dst=some d→d∉o.looksAt all.toArray) :
  execOp (ev (QR f dst v)) o=execOp (ev f) o :=
 execOp_congr o hs λx hx=>QgG λd hd E=>h d hd (by
  subst E;exact LL _ (MZ.2 ⟨.tmp d,by simpa using hx,rfl⟩))
theorem XM (o:Oper) (f:Fr) (dst:Option Nat) (v:Value) (h:∀d,dst=some d→d∉o.looksAt all.toArray):Z8 all (QR f dst v) o=Z8 all f o:=by
 unfold Z8;cases E:o.guard with
 | none=>rfl
 | some gw =>
  obtain ⟨g,want⟩:=gw;simp only[];cases G:(all[g]?).bind (·.dst) with
  | none=>rfl
  | some t =>
   have H:dst≠some t:=λe=>h t e (by simp[Oper.looksAt,E,G]);simp only[];rw[YE H]
def Qbo (P:Program) (all:List Oper) (D:World→Prop) (o:Oper) (v:Value) (f:Fr):Prop :=
 (Z8 all f o=true∧∀w,D w→(execOp (ev f) o).run P w=.ok (.value v) w)∨(Z8 all f o=false∧v=undef)
theorem Qgb {i j:Nat}{oi oj:Oper}(hi:all[i]?=some oi) (E:all[j]?=some oj) (G:UL oi=true) (H:j≠i) (hl:KE all j=true) (I:∀e∈oj.after,Region.binds .any e=true→e.on≠i):False:=by
 simp only[KE,E,List.all_eq_true,List.mem_range] at hl;have J:i<all.length:=(LY.1 hi).1;have h1:=hl i J;simp only[hi,G,Bool.not_true,Bool.false_or,Bool.or_eq_true,beq_iff_eq,Array.any_eq_true',Bool.and_eq_true] at h1;rcases h1 with h1 | ⟨e,he,hb,S⟩
 ·exact H h1.symm
 exact I e he hb S
theorem YN {i:Nat}{oi:Oper}{v:Value}{D:World→Prop}(hi:all[i]?=some oi) (hD:∀w,(UL oi=true→C w)→D w) (V:∀(j:Nat) (o:Oper) cs b,all[j]?=some o→o.op≠.select cs b) :
  ∀(fuel:Nat) (ls:Array Bool) (f:Fr) (w:World),(UL oi=true→C w) →
   (∀j oj,all[j]?=some oj→j≠i→ls.getD j true=false→(∀e∈oj.after,Region.binds .any e=true→e.on≠i)→oi.apart all.toArray oj=true) →
   i∈Region.ready .any all.toArray ls→Qbo P all D oi v f →
   XA P all C K fuel (ls.setIfInBounds i true) (QR f oi.dst v) w→XA P all C K (fuel+1) ls f w:=by
 have Y:∀(fuel:Nat) (ls:Array Bool) (f:Fr) (w:World),(UL oi=true→C w)→Qbo P all D oi v f→XA P all C K fuel (ls.setIfInBounds i true) (QR f oi.dst v) w→∀o,all[i]?=some o →
   bif Z8 all f o then XO P o f w (λf' w'=>(KE all i=true∨w'=w∨C w')∧XA P all C K fuel (ls.setIfInBounds i true) f' w') else XA P all C K fuel (ls.setIfInBounds i true) (QR f o.dst undef) w:=by
  intro fuel ls f w hC hy H o ho;rw[hi] at ho;cases ho
  rcases hy with ⟨J,hv⟩ | ⟨J,rfl⟩
  ·rw[J];simp only[cond_true,XO,hv w (hD w hC),upF];exact ⟨.inr (.inl U),H⟩
  rw[J];exact H
 intro fuel;induction fuel with
 | zero =>
  intro ls f w hC _ I hy H;refine ⟨λh=>(by rw[h] at I;cases I),λj T=>?_⟩;by_cases G:j=i
  ·subst G;exact Y _ _ _ _ hC hy H
  have:=ready_mono T G;rw[H.1] at this;cases this
 | succ fuel ih =>
  intro ls f w hC ha I hy H;refine ⟨λh=>(by rw[h] at I;cases I),λj T=>?_⟩;by_cases G:j=i
  ·subst G;exact Y _ _ _ _ hC hy H
  intro oj S;have h1:=H.2 j (ready_mono T G) oj S;obtain ⟨hc,E,hf,hq⟩:=mem_ready.1 T;have hs:E=oj:=by rw[LZ,S] at hf;exact (Option.some.inj hf).symm
  subst hs;have hh:∀e∈E.after,Region.binds .any e=true→e.on≠i:=λe he hb ht=>by
   have h1:=hq e he hb;have h0:=(mem_ready.1 I).1;rw[ht] at h1;rcases Nat.lt_or_ge i ls.size with h' | h'
   ·simp[h'] at h0 h1;rw[h0] at h1;cases h1
   simp[Array.getElem?_eq_none h'] at h1
  obtain ⟨a1,a2,a3⟩:=Oper.apart_spec (ha j E S G hc hh);have hu:∀k ok,all[k]?=some ok→k≠i→(ls.setIfInBounds j true).getD k true=false →
    (∀e∈ok.after,Region.binds .any e=true→e.on≠i)→oi.apart all.toArray ok=true:=λk ok hk hw hm hz=>by
   refine ha k ok hk hw ?_ hz;by_cases hn:j=k
   ·subst hn;exact hc
   rw[getD_set_ne true hn] at hm;exact hm
  have keep:∀u,Qbo P all D oi v (QR f E.dst u):=λu=>by
   unfold Qbo at *;rw[XM oi f E.dst u a3,YM (all:=all) (V i oi · · hi) f E.dst u a3];exact hy
  have dOf:∀w',(KE all j=true∨w'=w∨C w')→(UL oi=true→C w'):=λw' hl hp=>by
   rcases hl with hl | rfl | hl
   ·exact (Qgb hi S hp G hl hh).elim
   ·exact hC hp
   exact hl
  have go:∀u w',(UL oi=true→C w')→XA P all C K fuel ((ls.setIfInBounds i true).setIfInBounds j true) (QR (QR f oi.dst v) E.dst u) w' →
    XA P all C K (fuel+1) (ls.setIfInBounds j true) (QR f E.dst u) w':=λu w' h2 hx=>by
   refine ih _ _ _ h2 hu (ready_mono I (Ne.symm G)) (keep u) ?_;rw[Array.setIfInBounds_comm _ _ G,←JD f v u a2];exact hx
  rw[XM E f oi.dst v a1] at h1;cases J:Z8 all f E with
  | false=>rw[J] at h1;exact go _ _ hC h1
  | true =>
   rw[J] at h1;simp only[cond_true] at h1 ⊢;unfold XO at *;rw[YM (all:=all) (V j E · · S) f oi.dst v a1] at h1;generalize (execOp (ev f) E).run P w=r at *;cases r with
   | ok nx w' =>
    cases nx <;> simp only[upF] at h1 ⊢
    case value u=>exact ⟨h1.1,go _ _ (dOf _ h1.1) h1.2⟩
    case skip=>exact ⟨h1.1,go _ _ (dOf _ h1.1) h1.2⟩
    case enter g args =>
     refine Calls.mono h1 λe h3 he=>?_;cases e with
     | returned u=>exact ⟨he.1,go _ _ (dOf _ he.1) he.2⟩
     | panicked c=>exact he.elim
     | outgrown=>exact he.elim
   | halt x w'=>exact h1.elim
def YP (all:Array Oper):List (Nat×Bool)→Array Bool→Bool
 | [],ls=>(Region.ready .any all ls).isEmpty
 | (i,true)::pl,ls=>(Region.ready .any all ls).contains i && Region.free .any all ls i && YP all pl (ls.setIfInBounds i true)
 | (i,false)::pl,ls=>Region.ready .any all ls == [i] && YP all pl (ls.setIfInBounds i true)
def zc (all:List Oper) (pl:List (Nat×Bool)):Bool:=Region.noSelect all.toArray && pl.length == all.length && YP all.toArray pl (Array.replicate all.length false)
def Q3:List Oper→Nat→Oper
 | [],_=>default
 | o::_,0=>o
 | _::l,i+1=>Q3 l i
theorem Zl {l:List Oper}{i:Nat}{o:Oper}(h:l[i]?=some o):Q3 l i=o:=by
 induction l generalizing i with
 | nil=>simp at h
 | cons a l ih=>cases i with
  | zero=>simp at h;subst h;rfl
  | succ i=>exact ih (by simpa using h)
def XP (P:Program) (all:List Oper) (C:World→Prop) (K:Fr→World→Prop):List (Nat×Bool)→Fr→World→Prop
 | [],f,w=>K f w
 | (i,q)::pl,f,w=>bif Z8 all f (Q3 all i) then
    (bif q then ∃v,(∀w',(UL (Q3 all i)=true→C w')→(execOp (ev f) (Q3 all i)).run P w'=.ok (.value v) w')∧XP P all C K pl (QR f (Q3 all i).dst v) w
     else XO P (Q3 all i) f w λE w'=>(KE all i=true∨w'=w∨C w')∧XP P all C K pl E w')
   else XP P all C K pl (QR f (Q3 all i).dst undef) w
def yZ (all:List Oper) (ls:Array Bool):Prop:=∀i o,all[i]?=some o→UL o=true→ls.getD i false=true
theorem yZ.set {ls:Array Bool}(h:yZ all ls) (i:Nat):yZ all (ls.setIfInBounds i true):=λj o E G=>getD_set_true (h j o E G)
theorem ZA (hs:Region.noSelect all.toArray=true):∀(pl:List (Nat×Bool)) (ls:Array Bool) (f:Fr) (w:World),ls.size=all.length→(C w∨yZ all ls)→YP all.toArray pl ls=true→XP P all C K pl f w →
  XA P all C K pl.length ls f w
 | [],ls,f,w,_,_,hp,h=>⟨by simpa[YP] using hp,h⟩
 | (i,true)::pl,ls,f,w,J,hC,hp,h=>by
  simp only[YP,Bool.and_eq_true] at hp;obtain ⟨⟨H,hf⟩,S⟩:=hp;simp only[XP] at h;have I:i∈Region.ready .any all.toArray ls:=by simpa using H
  cases E:all[i]? with
  | none =>
   exfalso;obtain ⟨_,o,hy,_⟩:=mem_ready.1 I;simp[E] at hy
  | some o =>
   rw[Zl E] at h;have hi:∀(j:Nat) (o:Oper) cs b,all[j]?=some o→o.op≠.select cs b:=λj o cs b T=>Region.noSelect_spec hs j o cs b (by simpa using T);have hm:=λj oj T=>Region.free_spec (ops:=all.toArray) (md:=.any) (i:=i) (oi:=o) (listed:=ls) (by simpa using E) hf j oj (by simpa using T);have hn:=(mem_ready.1 I).1;have hq:UL o=true→C w:=λY=>hC.resolve_right (λha=>by
    have h1:=ha i o E Y;have hh:i<ls.size:=by rw[J];exact (LY.1 E).1
    simp[hh] at hn h1;rw[hn] at h1;cases h1)
   have ht:C w∨yZ all (ls.setIfInBounds i true):=hC.imp id (λh=>h.set i);have V:(ls.setIfInBounds i true).size=all.length:=by simpa using J
   cases G:Z8 all f o with
   | false =>
    rw[G] at h;exact YN (v:=undef) (D:=λw=>UL o=true→C w) E (λ_ h=>h) hi pl.length ls f w hq hm I (.inr ⟨G,O⟩) (ZA hs pl _ _ _ V ht S h)
   | true =>
    rw[G] at h;simp only[cond_true] at h;obtain ⟨v,hv,hx⟩:=h;exact YN (v:=v) (D:=λw=>UL o=true→C w) E (λ_ h=>h) hi pl.length ls f w hq hm I (.inl ⟨G,hv⟩) (ZA hs pl _ _ _ V ht S hx)
 | (i,false)::pl,ls,f,w,J,hC,hp,h=>by
  simp only[YP,Bool.and_eq_true,beq_iff_eq] at hp;obtain ⟨H,S⟩:=hp;refine ⟨λh0=>(by rw[h0] at H;cases H),?_⟩;have I:i∈Region.ready .any all.toArray ls:=by rw[H];simp
  rw[H];intro j T o E;have:j=i:=by simpa using T
  subst this;have V:(ls.setIfInBounds j true).size=all.length:=by simpa using J
  simp only[XP,Zl E] at h;cases G:Z8 all f o with
  | false=>rw[G] at h;exact ZA hs pl _ _ _ V (hC.imp id (λh=>h.set j)) S h
  | true =>
   rw[G] at h;simp only[cond_true,cond_false] at h ⊢;refine h.mono λv w' hx=>⟨hx.1,ZA hs pl _ _ _ V ?_ S hx.2⟩;rcases hx.1 with hl | rfl | hc
   ·right;intro k ok hk Y;by_cases hu:k=j
    ·subst hu;have hh:k<ls.size:=by rw[J];exact (LY.1 hk).1
     simp[hh]
    simp only[KE,E,List.all_eq_true,List.mem_range] at hl;have h1:=hl k (LY.1 hk).1;simp only[hk,Y,Bool.not_true,Bool.false_or,Bool.or_eq_true,beq_iff_eq,Array.any_eq_true',Bool.and_eq_true] at h1;rcases h1 with h1 | ⟨e,he,hb,hz⟩
    ·exact absurd h1 hu
    obtain ⟨_,o',hw,ha⟩:=mem_ready.1 I;have:o'=o:=by rw[LZ,E] at hw;exact (Option.some.inj hw).symm
    subst this;have:=ha e he hb;rw[hz] at this;exact getD_set_true this
   ·exact hC.imp id (λh=>h.set j)
   exact .inl hc
theorem QW {Q:Exit→Fr→World→Prop}{id:Nat}(C:World→Prop) (pl:List (Nat×Bool)) (hm:P.follows .mixedOrders=true) (G:Xu n all=true) (hp:zc all pl=true)
  (hC:C { w with drawn:=w.drawn+1 }) (h:XP P all C (λf w=>Q .normal f w) pl f { w with drawn:=w.drawn+1 }):W P n (.region id all.toArray true) Q f w:=by
 intro a ha;simp only[zc,Bool.and_eq_true,beq_iff_eq] at hp;obtain ⟨⟨hs,hl⟩,hp⟩:=hp;refine wp_region_any hm ?_;have h1:=ZA hs pl _ _ _ (by simp) (.inl hC) hp h;rw[hl] at h1;have h2:=Qbn (n:=n) (Q:=λe H w'=>∃E,zN n H E∧(∀t,ZG all t=false→E t=f t)∧Q e E w') (Ys G) f
  (λa E w I hk hq=>⟨E,I,hk,hq⟩) _ _ a f _ ha (λ_ _=>O) h1
 simpa[wrs] using h2
theorem Ke {Q:Exit→Fr→World→Prop}{id:Nat}(C:World→Prop) (hm:P.follows .mixedOrders=true) (G:Xu n all=true)
  (h:XA P all C (λf w=>Q .normal f w) all.length (Array.replicate all.length false) f { w with drawn:=w.drawn+1 }):W P n (.region id all.toArray true) Q f w:=by
 intro a ha;refine wp_region_any hm ?_;have h2:=Qbn (n:=n) (Q:=λe H w'=>∃E,zN n H E∧(∀t,ZG all t=false→E t=f t)∧Q e E w') (Ys G) f
  (λa E w I hk hq=>⟨E,I,hk,hq⟩) _ _ a f _ ha (λ_ _=>O) h
 simpa[wrs] using h2
end
theorem X4 {P:Program}{all:List Oper}{C:World→Prop}{K:Fr→World→Prop}{k:Nat}{ls:Array Bool}{f:Fr}{w:World}(E:Region.ready .any all.toArray ls=[]→K f w)
  (h:∀i∈Region.ready .any all.toArray ls,∀o,all[i]?=some o →
   bif Z8 all f o then XO P o f w (λG w'=>(KE all i=true∨w'=w∨C w')∧XA P all C K k (ls.setIfInBounds i true) G w') else XA P all C K k (ls.setIfInBounds i true) (QR f o.dst undef) w):XA P all C K (k+1) ls f w:=⟨E,h⟩
attribute [irreducible] W XL XP XO XA
class Sl (P:Program) (t:Nat) (e sz bys:outParam Nat) (z:outParam Value):Prop where
 u:P.underlying t=some (.slice e)
 i:(P.info? e).map (λi=>(i.zero,i.size,i.bytes))=some (some z,sz,bys)
 zs:z.cells.size=sz
 pos:0<sz
def Qjs (P:Program) (t j:Nat):Option Nat:=match P.underlying t with
 | some (.struct fs)=>match fs[j]? with
  | some fd=>match P.info? fd.type with
   | some i=>if i.size=0 then none else some fd.offset
   | none=>none
  | none=>none
 | _=>none
class Zj (P:Program) (t j:Nat) (off:outParam Nat):Prop where
 h:Qjs P t j=some off
class XS (P:Program) (t:Nat):Prop where
 u:∃d,P.underlying t=some d∧(match d with | .struct _ | .array ..=>false | _=>true)=true
 i:(P.info? t).map (·.size)=some 1
class Ag (P:Program) (t:Nat) (sz:outParam Nat):Prop where
 u:∃d,P.underlying t=some d∧(match d with | .struct _ | .array ..=>true | _=>false)=true
 i:(P.info? t).map (·.size)=some sz
class Ze (P:Program) (t:Nat) (z:outParam Value):Prop where
 i:(P.info? t).map (·.zero)=some (some z)
class Fu (P:Program) (g:Nat) (fn:outParam Func):Prop where
 f:P.funcs[g]?=some fn
 b:fn.body.isNone=false
 nm:(fn.name == "runtime.NumGoroutine")=false
section
variable {P:Program} {ops:List Oper} {K:Fr→World→Prop} {f:Fr} {w:World}
theorem xe (h:K f w):XL P ops K [] f w:=by simp only[XL];exact h
theorem xl {o:Oper}{l:List Oper}(E:Z8 ops f o=true) (h:XO P o f w (XL P ops K l)):XL P ops K (o::l) f w:=by
 simp only[XL,E,cond_true];exact h
theorem xs {o:Oper}{l:List Oper}(E:Z8 ops f o=false) (h:XL P ops K l (QR f o.dst undef) w):XL P ops K (o::l) f w:=by
 simp only[XL,E,cond_false];exact h
theorem xv {o:Oper}{v:Value}{w':World}(E:(execOp (ev f) o).run P w=.ok (.value v) w') (h:K (QR f o.dst v) w'):XO P o f w K:=by
 simp only[XO,E,upF];exact h
theorem xk {o:Oper}{w':World}(E:(execOp (ev f) o).run P w=.ok .skip w') (h:K (QR f o.dst undef) w'):XO P o f w K:=by
 simp only[XO,E,upF];exact h
theorem x {o:Oper}{l:List Oper}{v:Value}(E:(execOp (ev f) o).run P w=.ok (.value v) w) (h:XL P ops K l (QR f o.dst v) w) (G:Z8 ops f o=true:=by rfl):XL P ops K (o::l) f w :=
 xl G (xv E h)
theorem xb {o:Oper}{l:List Oper}{q:Prop}[Decidable q] (E:(execOp (ev f) o).run P w=.ok (.value (.bool (decide q))) w) (H:q→XL P ops K l (QR f o.dst (.bool true)) w) (I:¬q→XL P ops K l (QR f o.dst (.bool false)) w)
  (G:Z8 ops f o=true:=by rfl):XL P ops K (o::l) f w:=by
 by_cases h:q
 ·rw[decide_eq_true h] at E;exact x E (H h) G
 rw[decide_eq_false h] at E;exact x E (I h) G
variable {C:World→Prop}
theorem pe (h:K f w):XP P ops C K [] f w:=by simp only[XP];exact h
theorem pq {i:Nat}{pl:List (Nat×Bool)}{v:Value}(E:∀w',C w'→(execOp (ev f) (Q3 ops i)).run P w'=.ok (.value v) w') (h:XP P ops C K pl (QR f (Q3 ops i).dst v) w)
  (hd:UL (Q3 ops i)=true:=by rfl) (G:Z8 ops f (Q3 ops i)=true:=by rfl):XP P ops C K ((i,true)::pl) f w:=by
 simp only[XP,G,cond_true];exact ⟨v,λw' hc=>E w' (hc hd),h⟩
theorem p {i:Nat}{pl:List (Nat×Bool)}{v:Value}(E:∀w',(execOp (ev f) (Q3 ops i)).run P w'=.ok (.value v) w') (h:XP P ops C K pl (QR f (Q3 ops i).dst v) w)
  (G:Z8 ops f (Q3 ops i)=true:=by rfl):XP P ops C K ((i,true)::pl) f w:=by
 simp only[XP,G,cond_true];exact ⟨v,λw' _=>E w',h⟩
theorem ps {i:Nat}{q:Bool}{pl:List (Nat×Bool)}(h:XP P ops C K pl (QR f (Q3 ops i).dst undef) w)
  (E:Z8 ops f (Q3 ops i)=false:=by rfl):XP P ops C K ((i,q)::pl) f w:=by
 simp only[XP,E,cond_false];exact h
theorem pb {i:Nat}{pl:List (Nat×Bool)}{q:Prop}[Decidable q] (E:∀w',(execOp (ev f) (Q3 ops i)).run P w'=.ok (.value (.bool (decide q))) w') (H:q→XP P ops C K pl (QR f (Q3 ops i).dst (.bool true)) w) (I:¬q→XP P ops C K pl (QR f (Q3 ops i).dst (.bool false)) w)
  (G:Z8 ops f (Q3 ops i)=true:=by rfl):XP P ops C K ((i,true)::pl) f w:=by
 by_cases h:q
 ·rw[decide_eq_true h] at E;exact p E (H h) G
 rw[decide_eq_false h] at E;exact p E (I h) G
theorem pk {i:Nat}{pl:List (Nat×Bool)}(h:XO P (Q3 ops i) f w λE w'=>C w'∧XP P ops C K pl E w')
  (G:Z8 ops f (Q3 ops i)=true:=by rfl):XP P ops C K ((i,false)::pl) f w:=by
 simp only[XP,G,cond_true,cond_false];exact h.mono λ_ _ hx=>⟨.inr (.inr hx.1),hx.2⟩
theorem pkl {i:Nat}{pl:List (Nat×Bool)}(h:XO P (Q3 ops i) f w λE w'=>XP P ops C K pl E w')
  (hl:KE ops i=true:=by rfl) (G:Z8 ops f (Q3 ops i)=true:=by rfl):XP P ops C K ((i,false)::pl) f w:=by
 simp only[XP,G,cond_true,cond_false];exact h.mono λ_ _ hx=>⟨.inl hl,hx⟩
end
section
variable {P:Program} {f:Fr} {w:World} {d:Option Nat} {ty:Nat} {ps:String} {af:Array Edge} {gd:Option (Nat×Bool)}
theorem Qo {x:Operand}:(execOp (ev f) ⟨d,.move x,ty,ps,af,gd⟩).run P w=.ok (.value (ev f x)) w:=by simp[execOp]
theorem Qf {x:Operand}:(execOp (ev f) ⟨d,.assign x,ty,ps,af,gd⟩).run P w=.ok (.value (ev f x)) w:=by simp[execOp]
theorem Qj {c a b:Operand}{t:Bool}(h:ev f c=.bool t):(execOp (ev f) ⟨d,.pick c a b,ty,ps,af,gd⟩).run P w=.ok (.value (bif t then ev f a else ev f b)) w:=by
 cases t <;> simp[execOp,h,asBool]
theorem Ql {x:Operand}{j:Nat}{vs:LV}{v:Value}(h:ev f x=.tuple vs.toArray) (E:vs[j]?=some v):(execOp (ev f) ⟨d,.extract x j,ty,ps,af,gd⟩).run P w=.ok (.value v) w:=by
 simp[execOp,h,Instr.extract,E]
theorem yD {op:BinOp}{t:TypeId}{x y:Operand}{k k':IntKind}{a b:Int}:(eqGuard op t x y (.int k a) (.int k' b)).run P w=.ok () w:=by
 simp only[eqGuard];split <;> simp
theorem Xr {op:BinOp}{t E:Nat}{x y:Operand}{k k':IntKind}{a b:Int}{v:Value}(hx:ev f x=.int k a) (hy:ev f y=.int k' b)
  (h:(binOp op t (.int k a) (.int k' b)).run P w=.ok v w):(execOp (ev f) ⟨d,.binOp op t x y E,ty,ps,af,gd⟩).run P w=.ok (.value v) w:=by
 simp[execOp,hx,hy,yD,h]
def inK (k:IntKind) (n:Int):Prop:=match k with
 | .i64=>-9223372036854775808≤n∧n≤9223372036854775807
 | .u8=>0≤n∧n≤255
 | .u16=>0≤n∧n≤65535
 | .u32=>0≤n∧n≤4294967295
 | .u64=>0≤n∧n≤18446744073709551615
 | .i32=>-2147483648≤n∧n≤2147483647
 | _=>False
theorem Yj {k:IntKind}{n:Int}(h:inK k n):k.wrap n=n:=by
 cases k <;> simp only[inK] at h <;> simp only[IntKind.wrap,IntKind.bits,IntKind.signed] <;> first | exact h.elim | (simp;omega)
theorem Yv {t E:Nat}{x y:Operand}{k:IntKind}{a b:Int}(hx:ev f x=.int k a) (hy:ev f y=.int k b) (h:inK k (a+b)) :
  (execOp (ev f) ⟨d,.binOp .add t x y E,ty,ps,af,gd⟩).run P w=.ok (.value (.int k (a+b))) w:=Xr hx hy (by simp[binOp,Op.intArith,Yj h])
theorem Ja {t E:Nat}{x y:Operand}{k:IntKind}{a b:Int}(hx:ev f x=.int k a) (hy:ev f y=.int k b) (h:inK k (a - b)) :
  (execOp (ev f) ⟨d,.binOp .sub t x y E,ty,ps,af,gd⟩).run P w=.ok (.value (.int k (a - b))) w:=Xr hx hy (by simp[binOp,Op.intArith,Yj h])
theorem Qdh {t E:Nat}{x y:Operand}{k:IntKind}{a b:Int}(hx:ev f x=.int k a) (hy:ev f y=.int k b) (h:inK k (a*b)) :
  (execOp (ev f) ⟨d,.binOp .mul t x y E,ty,ps,af,gd⟩).run P w=.ok (.value (.int k (a*b))) w:=Xr hx hy (by simp[binOp,Op.intArith,Yj h])
theorem QB {t E:Nat}{x y:Operand}{k:IntKind}{a b:Int}(hx:ev f x=.int k a) (hy:ev f y=.int k b) :
  (execOp (ev f) ⟨d,.binOp .lss t x y E,ty,ps,af,gd⟩).run P w=.ok (.value (.bool (decide (a<b)))) w:=Xr hx hy (by simp[binOp,Op.intCmp])
theorem YK {t E:Nat}{x y:Operand}{k:IntKind}{a b:Int}(hx:ev f x=.int k a) (hy:ev f y=.int k b) :
  (execOp (ev f) ⟨d,.binOp .leq t x y E,ty,ps,af,gd⟩).run P w=.ok (.value (.bool (decide (a≤b)))) w:=Xr hx hy (by simp[binOp,Op.intCmp])
theorem Zx {t E:Nat}{x y:Operand}{k:IntKind}{a b:Int}(hx:ev f x=.int k a) (hy:ev f y=.int k b) :
  (execOp (ev f) ⟨d,.binOp .gtr t x y E,ty,ps,af,gd⟩).run P w=.ok (.value (.bool (decide (b<a)))) w:=Xr hx hy (by simp[binOp,Op.intCmp])
theorem ZX {t E:Nat}{x y:Operand}{k:IntKind}{a b:Int}(hx:ev f x=.int k a) (hy:ev f y=.int k b) :
  (execOp (ev f) ⟨d,.binOp .geq t x y E,ty,ps,af,gd⟩).run P w=.ok (.value (.bool (decide (b≤a)))) w:=Xr hx hy (by simp[binOp,Op.intCmp])
theorem Q5 {t E:Nat}{x y:Operand}{k:IntKind}{a b:Int}(hx:ev f x=.int k a) (hy:ev f y=.int k b) :
  (execOp (ev f) ⟨d,.binOp .eql t x y E,ty,ps,af,gd⟩).run P w=.ok (.value (.bool (decide (a=b)))) w :=
 Xr hx hy (by simp[binOp,Op.intCmp];by_cases h:a=b <;> simp[h])
theorem Q9 {t E:Nat}{x y:Operand}{k:IntKind}{a b:Int}(hx:ev f x=.int k a) (hy:ev f y=.int k b) :
  (execOp (ev f) ⟨d,.binOp .neq t x y E,ty,ps,af,gd⟩).run P w=.ok (.value (.bool (decide (¬a=b)))) w :=
 Xr hx hy (by simp[binOp,Op.intCmp];by_cases h:a=b <;> simp[h])
theorem Zs {t:Nat}{x:Operand}{b:Bool}(hx:ev f x=.bool b):(execOp (ev f) ⟨d,.unOp .not t x,ty,ps,af,gd⟩).run P w=.ok (.value (.bool (!b))) w:=by
 simp[execOp,hx,Op.unary]
theorem Jb {x:Operand}{t e sz bys:Nat}{z:Value}[h:Sl P t e sz bys z] {a:Option Addr}{n c:Nat}(hx:ev f x=.slice a n c) :
  (execOp (ev f) ⟨d,.call ⟨.builtin .len,#[x],#[t]⟩,ty,ps,af,gd⟩).run P w=.ok (.value (.int .i64 n)) w:=by
 simp[execOp,resolve,invoke,builtin,Builtin.len_,hx,run_underlying h.u,goInt]
theorem Sl.info {t e sz bys:Nat}{z:Value}(h:Sl P t e sz bys z):∃i,P.info? e=some i∧i.zero=some z∧i.size=sz∧i.bytes=bys:=by
 have:=h.i;cases hi:P.info? e with
 | none=>simp[hi] at this
 | some i=>simp[hi] at this;exact ⟨i,O,this.1,this.2.1,this.2.2⟩
theorem YH {x y:Operand}{t e sz bys:Nat}{z:Value}[h:Sl P t e sz bys z] {a:Addr}{n c:Nat}{k:IntKind}{i:Int}(hx:ev f x=.slice (some a) n c) (hy:ev f y=.int k i) (E:0≤i) (h1:i<n) :
  (execOp (ev f) ⟨d,.indexAddr t x y,ty,ps,af,gd⟩).run P w=.ok (.value (.pointer (some (a.add (i.toNat*sz))))) w:=by
 obtain ⟨ii,hi,_,hs,_⟩:=Sl.info h;simp[execOp,hx,hy,Instr.indexAt,asIntOf,run_underlying h.u,E,h1,sizeOf,typeInfo,hi,hs]
theorem QbZ {t:Nat}[h:XS P t]:(isAgg t).run P w=.ok false w:=by
 obtain ⟨d,hu,hd⟩:=h.u;unfold isAgg;cases d <;> simp at hd <;> simp[run_underlying hu]
theorem Qd2 {t sz:Nat}[h:Ag P t sz]:(isAgg t).run P w=.ok true w:=by
 obtain ⟨d,hu,hd⟩:=h.u;unfold isAgg;cases d <;> simp at hd <;> simp[run_underlying hu]
theorem Yq {t:Nat}[h:XS P t] {a:Addr}{v:Value}(hc:w.cell? a=some v):(loadVar t a).run P w=.ok v w:=by
 simp[loadVar,QbZ,hc]
theorem jx {t:Nat}[h:XS P t]:(sizeOf t).run P w=.ok 1 w:=by
 have:=h.i;cases hi:P.info? t with
 | none=>simp[hi] at this
 | some i=>simp[hi] at this;simp[sizeOf,typeInfo,hi,this]
theorem K2 {t sz:Nat}[h:Ag P t sz]:(sizeOf t).run P w=.ok sz w:=by
 have:=h.i;cases hi:P.info? t with
 | none=>simp[hi] at this
 | some i=>simp[hi] at this;simp[sizeOf,typeInfo,hi,this]
theorem Xp {a:Addr}:∀(vs:LV) (i:Nat) (acc:Array Value),(∀j v,vs[j]?=some v→w.cell? (a.add (i+j))=some v)→(loadCellsFrom a i vs.length acc).run P w=.ok (acc++vs.toArray) w
 | [],_,acc,_=>by simp[loadCellsFrom]
 | v::vs,i,acc,h=>by
  have E:=h 0 v O;have ih:=Xp vs (i+1) (acc.push v) (λj u hu=>by have:=h (j+1) u (by simpa using hu);simpa[Nat.add_assoc,Nat.add_comm 1 j] using this);simp only[Nat.add_zero] at E;simp[loadCellsFrom,E,ih]
theorem Qx {t sz:Nat}[h:Ag P t sz] {a:Addr}{vs:LV}(hl:vs.length=sz) (hc:∀j v,vs[j]?=some v→w.cell? (a.add j)=some v):(loadVar t a).run P w=.ok (.agg vs.toArray) w:=by
 have:=Xp (P:=P) (w:=w) (a:=a) vs 0 #[] (by simpa using hc);subst hl;simp[loadVar,Qd2,K2 (sz:=vs.length),loadCells,this]
theorem Qdi {t:Nat}[h:XS P t] {x:Operand}{a:Addr}{v:Value}(hx:ev f x=.pointer (some a)) (hc:w.cell? a=some v) :
  (execOp (ev f) ⟨d,.load t x,ty,ps,af,gd⟩).run P w=.ok (.value v) w:=by
 simp[execOp,hx,Instr.loadAt,Instr.sureAddr,Yq hc]
theorem q5 {t sz:Nat}[h:Ag P t sz] {x:Operand}{a:Addr}{vs:LV}(hx:ev f x=.pointer (some a)) (hl:vs.length=sz) (hc:∀j v,vs[j]?=some v→w.cell? (a.add j)=some v) :
  (execOp (ev f) ⟨d,.load t x,ty,ps,af,gd⟩).run P w=.ok (.value (.agg vs.toArray)) w:=by
 simp[execOp,hx,Instr.loadAt,Instr.sureAddr,Qx hl hc]
theorem Zb {t j off:Nat}[h:Zj P t j off] {x:Operand}{a:Addr}(hx:ev f x=.pointer (some a)) :
  (execOp (ev f) ⟨d,.fieldAddr t x j,ty,ps,af,gd⟩).run P w=.ok (.value (.pointer (some (a.add off)))) w:=by
 have E:=h.h;unfold Qjs at E;cases hu:P.underlying t with
 | none=>simp[hu] at E
 | some dd =>
  cases dd <;> simp[hu] at E
  rename_i fs;cases G:fs[j]? with
  | none=>simp[G] at E
  | some fd =>
   cases hi:P.info? fd.type with
   | none=>simp[G,hi] at E
   | some i =>
    simp[G,hi] at E;simp[execOp,hx,Instr.fieldAt,run_underlying hu,G,Instr.sureAddr,fieldPlace,sizeOf,typeInfo,hi,E]
theorem QC {x:Operand}{a:Addr}(hx:ev f x=.pointer (some a)):(execOp (ev f) ⟨d,.nilCheck x,ty,ps,af,gd⟩).run P w=.ok (.value (.pointer (some a))) w:=by
 simp[execOp,hx]
theorem Zp {fn:Fn}{l l':List Operand}:(execOp (ev f) ⟨d,.makeFunc fn l.toArray l'.toArray,ty,ps,af,gd⟩).run P w=.ok (.value (.func fn (l.map (ev f)).toArray (l'.map (ev f)).toArray)) w:=by
 simp[execOp,Instr.makeFunc]
end
def QI (P:Program) (g:Nat) (args:LV) (w:World) (R:Value→World→Prop):Prop :=
 Calls P g args.toArray w λe w'=>match e with | .returned v=>R v w' | _=>False
theorem QI.mono {P:Program}{g:Nat}{args:LV}{w:World}{R R':Value→World→Prop}(h:QI P g args w R) (E:∀v w',R v w'→R' v w'):QI P g args w R' :=
 Calls.mono h λe w' he=>by cases e <;> first | exact E _ _ he | exact he
theorem xc {P:Program}{f:Fr}{w:World}{K:Fr→World→Prop}{d:Option Nat}{ty:Nat}{ps:String}{af:Array Edge}{gd:Option (Nat×Bool)}{x:Operand}{l:List Operand}{at_:Array Nat}
  {g:Nat} {fn:Func} {first capt:LV} [hF:Fu P g fn] (hx:ev f x=.func (.func g) first.toArray capt.toArray) (h:QI P g (first++l.map (ev f)++capt) w λv w'=>K (QR f d v) w') :
  XO P ⟨d,.call ⟨.value x,l.toArray,at_⟩,ty,ps,af,gd⟩ f w K:=by
 have E:(execOp (ev f) ⟨d,.call ⟨.value x,l.toArray,at_⟩,ty,ps,af,gd⟩).run P w=.ok (.enter g (first++l.map (ev f)++capt).toArray) w:=by
  have h1:¬fn.name = "runtime.NumGoroutine" := by simpa using hF.nm
  have h2:¬fn.body=none:=by have:=hF.b;intro e;rw[e] at this;cases this
  simp[execOp,resolve,hx,Deferred.ofValue,invoke,callFunc,hF.f,h1,h2]
 simp only[XO,E,upF];exact h
theorem xf {P:Program}{f:Fr}{w:World}{K:Fr→World→Prop}{d:Option Nat}{ty:Nat}{ps:String}{af:Array Edge}{gd:Option (Nat×Bool)}{l:List Operand}{at_:Array Nat}
  {g:Nat} {fn:Func} [hF:Fu P g fn] (h:QI P g (l.map (ev f)) w λv w'=>K (QR f d v) w') :
  XO P ⟨d,.call ⟨.value (.func g),l.toArray,at_⟩,ty,ps,af,gd⟩ f w K :=
 xc (first:=[]) (capt:=[]) (g:=g) (fn:=fn) O (by simpa using h)
def ent:LV→Fr
 | [],_=>undef
 | v::_,0=>v
 | _::l,t+1=>ent l t
def KW (P:Program) (f:Fr) (w:World):List ResultVar→LV→Prop
 | [],[]=>True
 | .tmp t::rs,v::vs=>f t=v∧KW P f w rs vs
 | .cell a t::rs,v::vs=>(∃ad,f a=.pointer (some ad)∧(loadVar t ad).run P w=.ok v w)∧KW P f w rs vs
 | _,_=>False
def tup:LV→Value
 | [v]=>v
 | vs=>.tuple vs.toArray
def rq (P:Program) (rs:List ResultVar) (R:Value→World→Prop):Exit→Fr→World→Prop
 | .ret,f,w=>∃vs,KW P f w rs vs∧R (tup vs) w
 | .normal,f,w=>∃vs,KW P f w rs vs∧R (tup vs) w
 | _,_,_=>False
theorem Xo {P:Program}{n:Nat}{a:Act}{f:Fr}{w:World}(G:zN n a f) (g:ResultVar→Sem Value) (g1:∀t,g (.tmp t)=pure (a.tmps.getD t undef))
  (H:∀ad t,g (.cell ad t)=(do loadVar t (←asAddr (a.tmps.getD ad undef)))):∀(rs:List ResultVar) (vs:LV),KW P f w rs vs→(rs.mapM g).run P w=.ok vs w
 | [],[],_=>by simp
 | [],_::_,h=>h.elim
 | .tmp t::rs,[],h=>h.elim
 | .cell _ _::rs,[],h=>h.elim
 | .tmp t::rs,v::vs,h=>by
  have ih:=Xo G g g1 H rs vs h.2;have E:=G.get t;rw[h.1] at E;simp only[List.mapM_cons,Sem.run_bind,Sem.run_pure,Result.andThen_ok,ih,E,g1]
 | .cell ad t::rs,v::vs,h=>by
  have ih:=Xo G g g1 H rs vs h.2;obtain ⟨⟨I,h1,h2⟩,_⟩:=h;have E:=G.get ad;rw[h1] at E;have h5:(asAddr (.pointer (some I))).run P w=.ok I w:=rfl;simp only[List.mapM_cons,Sem.run_bind,H,E,h5,Sem.run_pure,Result.andThen_ok,h2,ih]
theorem QI.of_W {P:Program}{g:Nat}{fn:Func}{c:Code}{args:LV}{w:World}{R:Value→World→Prop}{n:Nat}{rs:List ResultVar}
  (H:P.funcs[g]?=some fn) (hb:fn.body=some c) (I:fn.ntmps=n) (J:fn.results=rs.toArray) (hl:args.length≤n)
  (h:W P n c (rq P rs R) (ent args) w):QI P g args w R:=by
 unfold W at h;refine calls_of_wp H hb (wp_mono (h _ ?_) ?_)
 ·refine ⟨by simp[I];omega,O,λt=>?_⟩;have key:∀(l:LV) (t:Nat),l[t]?.getD undef=ent l t:=by
   intro l;induction l with
   | nil=>intro t;rfl
   | cons v l ih=>intro t;cases t with | zero=>rfl | succ t=>simpa[ent] using ih t
  rw[←key];simp only[Array.getD_eq_getD_getElem?,Array.getElem?_append,List.size_toArray,List.getElem?_toArray];by_cases E:t<args.length
  ·simp[E]
  simp[E,Array.getElem?_replicate];split <;> rfl
 rintro e G w' ⟨S,h1,_,h3⟩;have fin:(∃vs,KW P S w' rs vs∧R (tup vs) w')→G.defers=[]∧∃v,(results fn G.tmps).run P w'=.ok v w'∧R v w':=by
  rintro ⟨vs,T,V⟩;refine ⟨h1.defers,tup vs,?_,V⟩;simp only[results,J,List.mapM_toArray,Sem.run_bind,Sem.run_map];rw[Xo h1 _ (λ_=>rfl) (λ_ _=>rfl) rs vs T];cases vs with
  | nil=>rfl
  | cons v vs=>cases vs with | nil=>rfl | cons u us=>rfl
 cases e with
 | normal=>exact fin h3
 | ret=>exact fin h3
 | exit id=>exact h3.elim
 | goto l=>exact h3.elim
 | panic c=>exact h3.elim
 | outgrown=>exact h3.elim
attribute [irreducible] QI
theorem Zg {P:Program}{g:Nat}{fn:Func}(f:P.funcs[g]?=some fn) (b:fn.body.isNone=false:=by kernel_rfl) (nm:(fn.name == "runtime.NumGoroutine")=false:=by kernel_rfl):Fu P g fn:=⟨f,b,nm⟩
theorem Qc {P:Program}{n:Nat}{f:Fr}{w:World}{Q:Exit→Fr→World→Prop}{id:Nat}{l:List Oper}{y:Code}(h:XL P l (λf w=>thn (λf w=>W P n y Q f w) Q .normal f w) l f w) (E:Xu n l=true:=by rfl):W P n (.seq (.region id l.toArray false) y) Q f w:=Qg (y7 E h)
theorem Qz {P:Program}{n:Nat}{f:Fr}{w:World}{Q:Exit→Fr→World→Prop}{id:Nat}{l:List Oper}(h:XL P l (λf w=>Q .normal f w) l f w) (E:Xu n l=true:=by rfl):W P n (.region id l.toArray false) Q f w:=y7 E h
section
variable {P:Program} {ops:List Oper} {K:Fr→World→Prop} {f:Fr} {w:World} {d:Option Nat} {ty:Nat} {ps:String} {af:Array Edge} {gd:Option (Nat×Bool)} {l:List Oper} {y:Operand}
theorem Qb (h:XL P ops K l (QR f d (ev f y)) w) (E:Z8 ops f ⟨d,.move y,ty,ps,af,gd⟩=true:=by rfl):XL P ops K (⟨d,.move y,ty,ps,af,gd⟩::l) f w:=x Qo h E
theorem QN {t H:Nat}{E G:Operand}{k:IntKind}{a b:Int}(hx:ev f E=.int k a) (hy:ev f G=.int k b) (h:XL P ops K l (QR f d (.int k (a+b))) w) (hk:inK k (a+b):=by exact ⟨by omega,by omega⟩)
  (I:Z8 ops f ⟨d,.binOp .add t E G H,ty,ps,af,gd⟩=true:=by rfl):XL P ops K (⟨d,.binOp .add t E G H,ty,ps,af,gd⟩::l) f w:=x (Yv hx hy hk) h I
theorem Qe (h:K (QR f d (ev f y)) w) (E:Z8 ops f ⟨d,.assign y,ty,ps,af,gd⟩=true:=by rfl):XL P ops K [⟨d,.assign y,ty,ps,af,gd⟩] f w:=x Qf (xe h) E
end
structure Step (L:LN) (w w':World):Prop where
 os:w'.os=w.os
 tape:w'.tape=w.tape
 output:w'.output=w.output
 size:w.heap.size≤w'.heap.size
 block:∀k,k<w.heap.size→k∉L→w'.heap[k]?=w.heap[k]?
theorem Step.refl (L:LN) (w:World):Step L w w:=⟨O,O,O,Lr _,λ_ _ _=>O⟩
theorem Step.drew (L:LN) (w:World):Step L w { w with drawn:=w.drawn+1 }:=⟨O,O,O,Lr _,λ_ _ _=>O⟩
theorem Step.mono {L L':LN}{w w':World}(h:Step L w w') (E:∀b∈L,b∈L'):Step L' w w' :=
 ⟨h.os,h.tape,h.output,h.size,λk hk G=>h.block k hk (λhm=>G (E k hm))⟩
theorem Step.any {L:LN}{w w':World}(h:Step [] w w'):Step L w w':=h.mono (λ_ hb=>by cases hb)
theorem Step.then {L L':LN}{E w w':World}(h:Step L E w) (k:Step L' w w') (H:∀b∈L',b∈L∨E.heap.size≤b):Step L E w' :=
 ⟨k.os.trans h.os,k.tape.trans h.tape,k.output.trans h.output,LS h.size k.size,λi hi G =>
  (k.block i (LX hi h.size) (λhm=>by rcases H i hm with h1 | h1;exact G h1;omega)).trans (h.block i hi G)⟩
theorem Step.trans {L:LN}{E w w':World}(h:Step L E w) (k:Step [] w w'):Step L E w':=h.then k (λ_ hb=>by cases hb)
theorem Step.trans' {L:LN}{E w w':World}(h:Step L E w) (k:Step L w w'):Step L E w':=h.then k (λ_ hb=>.inl hb)
theorem Step.below {w w':World}(h:Step [] w w'):Below w.heap.size w w':=⟨h.os,h.tape,h.output,h.size,λk hk=>h.block k hk (by simp)⟩
theorem Step.of_below {w w':World}(h:Below w.heap.size w w'):Step [] w w':=⟨h.os,h.tape,h.output,h.size,λk hk _=>h.block k hk⟩
theorem Step.of_grown {w w':World}{row:Option Nat}(h:w.grownBy w' row):Step row.toList w w' :=
 ⟨h.os,h.tape,h.output,h.size,λk hk E=>h.block k hk (λe=>E (by simp[←e]))⟩
theorem zG (w:World) (o:Obj) (k:Nat) (h:k<w.heap.size):(w.alloc o).heap[k]?=w.heap[k]?:=by
 show (w.heap.push o)[k]?=_;rw[Array.getElem?_push,if_neg (by omega)]
theorem Jw (w:World) (o:Obj):(w.alloc o).heap[w.heap.size]?=some o:=by
 show (w.heap.push o)[w.heap.size]?=_;simp
theorem VR (w:World) (o:Obj):(w.alloc o).heap.size=w.heap.size+1:=by show (w.heap.push o).size=_;simp
theorem Step.alloc (w:World) (o:Obj):Step [] w (w.alloc o):=⟨O,O,O,by rw[VR];omega,λk hk _=>zG w o k hk⟩
theorem Step.setRow (w:World) (g:Nat) (cs:Array Value):Step [g] w (w.setRow g cs) :=
 ⟨O,O,O,by simp[World.setRow],λk _ E=>setRow_other w g k cs (λe=>E (by simp[e]))⟩
def cel (H:Array Obj) (a:Addr):Option Value:=match H[a.block]? with
 | some (.cells c _ _)=>if a.spot.isSome then none else c[a.off]?
 | _=>none
theorem JM (w:World) (a:Addr):w.cell? a=cel w.heap a:=rfl
structure At (L:LN) (H:Array Obj) (a:Addr) (us:LV):Prop where
 out:∀u∈us,a.block∉L
 lt:∀u∈us,a.block<H.size
 cell:∀j u,us[j]?=some u→cel H (a.add j)=some u
theorem ZK (a:Addr) (j:Nat):(a.add j).block=a.block:=by unfold Addr.add;split <;> rfl
theorem QeN {L:LN}{w w':World}(h:Step L w w') {a:Addr}(E:a.block∉L) (hl:a.block<w.heap.size):cel w'.heap a=cel w.heap a:=by
 unfold cel;rw[h.block _ hl E]
theorem At.step {L X:LN}{w w':World}{a:Addr}{us:LV}(h:At L w.heap a us) (hs:Step X w w') (E:∀b∈X,b∈L):At L w'.heap a us :=
 ⟨h.out,λu hu=>LX (h.lt u hu) hs.size,λj u hu=>by
  have hm:=LT hu;rw[QeN (L:=X) hs (by rw[ZK];exact λhx=>h.out u hm (E _ hx)) (by rw[ZK];exact h.lt u hm)];exact h.cell j u hu⟩
theorem At.ext {L:LN}{w w':World}{a:Addr}{us:LV}(h:At L w.heap a us) (hs:Step [] w w'):At L w'.heap a us:=h.step hs (λ_ hb=>by cases hb)
theorem At.st {L:LN}{w w':World}{a:Addr}{us:LV}(h:At L w.heap a us) (hs:Step L w w'):At L w'.heap a us:=h.step hs (λ_ hb=>hb)
theorem At.one {L:LN}{w:World}{a:Addr}{u:Value}(h:At L w.heap a [u]):w.cell? a=some u:=by
 have:=h.cell 0 u O;simp only[Addr.add,if_true] at this;exact this
theorem At.cells {L:LN}{w:World}{a:Addr}{us:LV}(h:At L w.heap a us):∀j v,us[j]?=some v→w.cell? (a.add j)=some v:=h.cell
theorem Addr.add_add (a:Addr) (i j:Nat):(a.add i).add j=a.add (i+j):=by
 unfold Addr.add;by_cases hi:i=0
 ·subst hi;simp
 by_cases E:j=0
 ·subst E;simp
 simp[hi,E,Nat.add_assoc]
theorem At.fld {L:LN}{H:Array Obj}{a:Addr}{us:LV}(h:At L H a us) (j:Nat) (u:Value) (hu:us[j]?=some u):At L H (a.add j) [u] :=
 ⟨λ_ _=>by rw[ZK];exact h.out u (LT hu),λ_ _=>by rw[ZK];exact h.lt u (LT hu),λi v E=>by
  cases i with
  | zero=>simp at E;subst E;rw[Addr.add_add,M3];exact h.cell j u hu
  | succ i=>simp at E⟩
theorem At.up {L L':LN}{H:Array Obj}{a:Addr}{us:LV}(h:At L H a us) (E:∀b∈L',b∈L∨H.size≤b):At L' H a us :=
 ⟨λu hu hm=>by rcases E _ hm with h1 | h1;exact h.out u hu h1;have:=h.lt u hu;omega,h.lt,h.cell⟩
def Zq (L:LN) (H:Array Obj) (v:Value) (n sz:Nat) (cs:LV):Prop :=
 cs.length=n*sz∧n≤1099511627776∧((v=nS∧n=0)∨∃a cap,v=.slice (some a) n cap∧n≤cap∧At L H a cs)
theorem Zq.step {L X:LN}{w w':World}{v:Value}{n sz:Nat}{cs:LV}(h:Zq L w.heap v n sz cs) (hs:Step X w w') (E:∀b∈X,b∈L):Zq L w'.heap v n sz cs :=
 ⟨h.1,h.2.1,h.2.2.imp id λ⟨a,cap,h1,h2,h3⟩=>⟨a,cap,h1,h2,h3.step hs E⟩⟩
theorem Zq.ext {L:LN}{w w':World}{v:Value}{n sz:Nat}{cs:LV}(h:Zq L w.heap v n sz cs) (hs:Step [] w w'):Zq L w'.heap v n sz cs:=h.step hs (λ_ hb=>by cases hb)
theorem Zq.st {L:LN}{w w':World}{v:Value}{n sz:Nat}{cs:LV}(h:Zq L w.heap v n sz cs) (hs:Step L w w'):Zq L w'.heap v n sz cs:=h.step hs (λ_ hb=>hb)
theorem Zq.up {L L':LN}{H:Array Obj}{v:Value}{n sz:Nat}{cs:LV}(h:Zq L H v n sz cs) (E:∀b∈L',b∈L∨H.size≤b):Zq L' H v n sz cs :=
 ⟨h.1,h.2.1,h.2.2.imp id λ⟨a,cap,h1,h2,h3⟩=>⟨a,cap,h1,h2,h3.up E⟩⟩
theorem Zq.nil (L:LN) (H:Array Obj) (sz:Nat):Zq L H (nS) 0 sz []:=⟨by simp,by omega,.inl ⟨rfl,rfl⟩⟩
theorem Zq.shape {L:LN}{H:Array Obj}{v:Value}{n sz:Nat}{cs:LV}(h:Zq L H v n sz cs):∃a cap,v=.slice a n cap:=by
 rcases h.2.2 with ⟨h1,h2⟩ | ⟨a,cap,h1,_⟩
 ·exact ⟨none,0,by rw[h1,h2]⟩
 exact ⟨some a,cap,h1⟩
theorem Zq.one {L:LN}{H:Array Obj}{v:Value}{n sz:Nat}{cs:LV}(h:Zq L H v n sz cs):v.oneCell'=true:=by obtain ⟨a,cap,rfl⟩:=h.shape;rfl
theorem Zq.cells {L:LN}{H:Array Obj}{v:Value}{n sz:Nat}{cs:LV}(h:Zq L H v n sz cs):v.cells=[v].toArray:=by obtain ⟨a,cap,rfl⟩:=h.shape;rfl
theorem Zq.le {L:LN}{H:Array Obj}{v:Value}{n sz:Nat}{cs:LV}(h:Zq L H v n sz cs):n≤1099511627776:=h.2.1
theorem Zq.at {L:LN}{H:Array Obj}{v:Value}{n sz:Nat}{cs:LV}(h:Zq L H v n sz cs) {i:Nat}(hi:i<n) :
  ∃a cap,v=.slice (some a) n cap∧At L H (a.add (i*sz)) ((cs.drop (i*sz)).take sz):=by
 rcases h.2.2 with ⟨_,h2⟩ | ⟨a,cap,h1,_,h3⟩
 ·omega
 refine ⟨a,cap,h1,λu hu=>by rw[ZK];exact h3.out u (Mo (LW hu)),λu hu=>by rw[ZK];exact h3.lt u (Mo (LW hu)),λj u hu=>?_⟩;rw[Addr.add_add];refine h3.cell _ u ?_;rw[LK] at hu;split at hu
 ·simpa using hu
 cases hu
abbrev QK (L:LN) (H:Array Obj) (v:Value) (l:LI):Prop:=Zq L H v l.length 1 (l.map (.int .i64))
theorem QK.at {L:LN}{H:Array Obj}{v:Value}{l:LI}(h:QK L H v l) {i:Nat}(hi:i<l.length) :
  ∃a cap,v=.slice (some a) l.length cap∧At L H (a.add (i*1)) [.int .i64 l[i]]:=by
 obtain ⟨a,cap,h1,h2⟩:=Zq.at h hi;refine ⟨a,cap,h1,?_⟩;have:((l.map (Value.int .i64)).drop (i*1)).take 1=[.int .i64 l[i]]:=by
  rw[Nat.mul_one,LH (by simpa using hi)];simp
 rw[this] at h2;exact h2
def Q4 (H:Array Obj) (b T:Nat) (cs:LV):Prop:=H[b]?=some (.cells cs.toArray T (0,0))
theorem Q4.lt {H:Array Obj}{b T:Nat}{cs:LV}(h:Q4 H b T cs):b<H.size:=(Lz.1 h).1
theorem Q4.step {X:LN}{w w':World}{b T:Nat}{cs:LV}(h:Q4 w.heap b T cs) (hs:Step X w w') (hb:b∉X):Q4 w'.heap b T cs:=by
 unfold Q4;rw[hs.block b h.lt hb];exact h
theorem Q4.ext {w w':World}{b T:Nat}{cs:LV}(h:Q4 w.heap b T cs) (hs:Step [] w w'):Q4 w'.heap b T cs:=h.step hs (by simp)
theorem Q4.cell {H:Array Obj}{b T:Nat}{cs:LV}(h:Q4 H b T cs) (j:Nat):cel H ⟨b,j,none⟩=cs[j]?:=by
 unfold Q4 at h;simp[cel,h]
theorem QaP (b j:Nat):(⟨b,0,none⟩:Addr).add j=⟨b,j,none⟩:=by unfold Addr.add;split <;> simp_all
theorem Uc (b i j:Nat):(⟨b,i,none⟩:Addr).add j=⟨b,i+j,none⟩:=by unfold Addr.add;split <;> simp_all
theorem Q4.at {L:LN}{H:Array Obj}{b T:Nat}{cs:LV}(h:Q4 H b T cs) (hb:b∉L):At L H ⟨b,0,none⟩ cs :=
 ⟨λ_ _=>hb,λ_ _=>h.lt,λj u hu=>by rw[QaP,h.cell];exact hu⟩
theorem Q4.arr {L:LN}{H:Array Obj}{b T:Nat}{cs:LV}(h:Q4 H b T cs) (hb:b∉L) {n cap sz:Nat}(hl:cs.length=n*sz) (E:n≤1099511627776) (hc:n≤cap) :
  Zq L H (.slice (some ⟨b,0,none⟩) n cap) n sz cs:=⟨hl,E,.inr ⟨_,_,O,hc,h.at hb⟩⟩
def ob:Value→LN
 | .slice (some a) _ _=>[a.block]
 | _=>[]
theorem zf (v:Value):ob v=v.ownBlock.toList:=by
 cases v <;> try rfl
 rename_i a _ _;cases a <;> rfl
theorem Qk {X:LN}{w w':World}{base e sz n:Nat}{v:Value}{cs:LV}(h:w.ownsRow base e sz v n cs) (hs:Step X w w') (E:∀b∈ob v,b∉X):w'.ownsRow base e sz v n cs:=by
 refine ⟨h.1,h.2.imp id λ⟨g,cap,cur,h1,h2,h3,G⟩=>⟨g,cap,cur,h1,h2,?_,G⟩⟩;rw[hs.block g (Lz.1 h3).1 (E g (by rw[h1];simp[ob]))];exact h3
theorem Qq {w w':World}{base e sz n:Nat}{v:Value}{cs:LV}(h:w.ownsRow base e sz v n cs) (hs:Step [] w w'):w'.ownsRow base e sz v n cs:=Qk h hs (λ_ _=>by simp)
theorem Qn {w:World}{base e sz n:Nat}{v:Value}{cs:LV}(h:w.ownsRow base e sz v n cs):∀b∈ob v,base≤b∧b<w.heap.size:=by
 intro b hb;rcases h.2 with ⟨h1,_⟩ | ⟨g,cap,cur,h1,h2,h3,_⟩
 ·subst h1;simp[ob] at hb
 subst h1;simp[ob] at hb;subst hb;exact ⟨h2,(Lz.1 h3).1⟩
theorem Zk {w:World}{base base' e sz n:Nat}{v:Value}{cs:LV}(h:w.ownsRow base e sz v n cs) (hb:base'≤base):w.ownsRow base' e sz v n cs :=
 ⟨h.1,h.2.imp id λ⟨g,cap,cur,h1,h2,h3⟩=>⟨g,cap,cur,h1,LS hb h2,h3⟩⟩
theorem QS {L:LN}{w:World}{base e sz n:Nat}{v:Value}{cs:LV}(h:w.ownsRow base e sz v n cs) (E:n≤1099511627776) (G:∀b∈ob v,b∉L):Zq L w.heap v n sz cs:=by
 refine ⟨h.1,E,?_⟩;rcases h.2 with h1 | ⟨g,cap,cur,h1,h2,h3,H,h5,J,I⟩
 ·exact .inl h1
 refine .inr ⟨_,_,h1,H,λ_ _=>G g (by rw[h1];simp[ob]),λ_ _=>(Lz.1 h3).1,λj u hu=>?_⟩;rw[QaP];unfold cel;simp only[h3];rw[←I,LK] at hu;split at hu
 ·simpa using hu
 cases hu
theorem QM (w:World) (base e sz:Nat):w.ownsRow base e sz (nS) 0 []:=World.ownsRow_nil w base e sz
theorem Q4.own {w:World}{b T sz n:Nat}{cs:LV}(h:Q4 w.heap b T cs) (hl:cs.length=n*sz) (E:n≤1099511627776) {base:Nat}(hb:base≤b):w.ownsRow base T sz (.slice (some ⟨b,0,none⟩) n n) n cs :=
 ⟨hl,.inr ⟨b,n,cs.toArray,O,hb,h,Lr _,by simp only[maxLen];omega,by simp[hl],by simp[←hl]⟩⟩
section
variable {P:Program} {ops:List Oper} {K:Fr→World→Prop} {f:Fr} {w:World} {d:Option Nat} {ty:Nat} {ps:String} {af:Array Edge} {gd:Option (Nat×Bool)} {l:List Oper}
theorem Qs {x:Operand}{t e E bys:Nat}{z:Value}[Sl P t e E bys z] {L:LN}{n sz:Nat}{cs:LV}{v:Value}{H:Array Obj}(h:Zq L H v n sz cs) (G:ev f x=v) :
  (execOp (ev f) ⟨d,.call ⟨.builtin .len,#[x],#[t]⟩,ty,ps,af,gd⟩).run P w=.ok (.value (.int .i64 n)) w:=by
 obtain ⟨a,cap,h1⟩:=h.shape;exact Jb (G.trans h1)
theorem xii {x y:Operand}{t e bys:Nat}{z:Value}[Sl P t e 1 bys z] {L:LN}{li:LI}{v:Value}{k:IntKind}{i:Nat}
  (h:QK L w.heap v li) (E:ev f x=v) (hy:ev f y=.int k i) (hi:i<li.length)
  (G:∀a,At L w.heap a [.int .i64 li[i]]→XL P ops K l (QR f d (.pointer (some a))) w) (H:Z8 ops f ⟨d,.indexAddr t x y,ty,ps,af,gd⟩=true:=by rfl) :
  XL P ops K (⟨d,.indexAddr t x y,ty,ps,af,gd⟩::l) f w:=by
 obtain ⟨a,cap,h1,h2⟩:=QK.at h hi;refine xl H (xv (YH (E.trans h1) hy (by omega) (by omega)) (G _ ?_));simpa using h2
theorem Qv {t:Nat}[XS P t] {x:Operand}{a:Addr}{L:LN}{u:Value}(h:At L w.heap a [u]) (hx:ev f x=.pointer (some a)) :
  (execOp (ev f) ⟨d,.load t x,ty,ps,af,gd⟩).run P w=.ok (.value u) w:=Qdi hx h.one
theorem QF {t sz:Nat}[Ag P t sz] {x:Operand}{a:Addr}{L:LN}{us:LV}(h:At L w.heap a us) (hx:ev f x=.pointer (some a)) (hl:us.length=sz) :
  (execOp (ev f) ⟨d,.load t x,ty,ps,af,gd⟩).run P w=.ok (.value (.agg us.toArray)) w:=q5 hx hl h.cells
theorem Qd {t:Nat}[XS P t] {x:Operand}{b T j:Nat}{cs:LV}{u:Value}(h:Q4 w.heap b T cs) (hx:ev f x=.pointer (some ⟨b,j,none⟩)) (E:cs[j]?=some u) :
  (execOp (ev f) ⟨d,.load t x,ty,ps,af,gd⟩).run P w=.ok (.value u) w:=Qdi hx (by rw[JM,h.cell];exact E)
theorem Qr {t sz:Nat}[Ag P t sz] {x:Operand}{b T:Nat}{cs:LV}(h:Q4 w.heap b T cs) (hx:ev f x=.pointer (some ⟨b,0,none⟩)) (hl:cs.length=sz) :
  (execOp (ev f) ⟨d,.load t x,ty,ps,af,gd⟩).run P w=.ok (.value (.agg cs.toArray)) w:=q5 hx hl (h.at (L:=[]) (by simp)).cells
theorem Qa {t j off:Nat}[Zj P t j off] {x:Operand}{b o:Nat}(hx:ev f x=.pointer (some ⟨b,o,none⟩)) :
  (execOp (ev f) ⟨d,.fieldAddr t x j,ty,ps,af,gd⟩).run P w=.ok (.value (.pointer (some ⟨b,o+off,none⟩))) w:=by
 rw[←Uc];exact Zb hx
end
section
variable {P:Program} {K:Fr→World→Prop} {f:Fr} {w:World} {d:Option Nat} {ty:Nat} {ps:String} {af:Array Edge} {gd:Option (Nat×Bool)}
theorem QQ {t:Nat}{x:Operand}{us:LV}(hx:(ev f x).cells=us.toArray)
  (E:∀b w',Step [] w w'→w.heap.size≤b→Q4 w'.heap b t us→K (QR f d (.pointer (some ⟨b,0,none⟩))) w'):XO P ⟨d,.box t x,ty,ps,af,gd⟩ f w K:=by
 have G:(execOp (ev f) ⟨d,.box t x,ty,ps,af,gd⟩).run P w=.ok (.value (.pointer (some ⟨w.heap.size,0,none⟩))) (w.alloc (.cells us.toArray t)):=by
  simp[execOp,Instr.box,newVar,newRow,hx]
 exact xv G (E _ _ (Step.alloc w _) (Lr _) (Jw w _))
theorem Qt {t:Nat}{z:Value}[h:Ze P t z] {us:LV}(hz:z.cells=us.toArray)
  (E:∀b w',Step [] w w'→w.heap.size≤b→Q4 w'.heap b t us→K (QR f d (.pointer (some ⟨b,0,none⟩))) w'):XO P ⟨d,.alloc t,ty,ps,af,gd⟩ f w K:=by
 have G:(execOp (ev f) ⟨d,.alloc t,ty,ps,af,gd⟩).run P w=.ok (.value (.pointer (some ⟨w.heap.size,0,none⟩))) (w.alloc (.cells us.toArray t)):=by
  have hi:=h.i;cases hq:P.info? t with
  | none=>simp[hq] at hi
  | some i =>
   simp[hq] at hi;simp[execOp,Instr.alloc,newVar,newRow,zeroValue,typeInfo,hq,hi,hz]
 exact xv G (E _ _ (Step.alloc w _) (Lr _) (Jw w _))
def zI (sz:Nat):LV→List (LV)→Prop
 | [],[]=>True
 | v::vs,u::us=>v.cells=u.toArray∧u.length=sz∧zI sz vs us
 | _,_=>False
theorem Um {sz:Nat}:∀(vs:LV) (us:List (LV)) (E:Nat) (pre rest:LV),zI sz vs us→pre.length=E*sz→rest.length=vs.length*sz →
  Instr.fill (λi=>some (i*sz,sz)) (pre++rest).toArray ((vs.zipIdx E).map λx=>(x.2,x.1))=some (pre++us.flatten).toArray
 | [],[],E,pre,rest,_,_,G=>by
  have:rest=[]:=Ln (by simpa using G);subst this;simp[Instr.fill]
 | [],_::_,_,_,_,h,_,_=>h.elim
 | _::_,[],_,_,_,h,_,_=>h.elim
 | v::vs,u::us,E,pre,rest,h,hp,G=>by
  obtain ⟨h1,h2,h3⟩:=h;have S:sz≤rest.length:=by rw[G];simp[Nat.add_mul]
  have ih:=Um vs us (E+1) (pre++u) (rest.drop sz) h3 (by simp[hp,h2,Nat.add_mul]) (by simp only[List.length_drop,G,List.length_cons,Nat.add_mul,Nat.one_mul];omega);simp only[List.zipIdx_cons,List.map_cons];unfold Instr.fill;have H:v.cells.size=sz:=by rw[h1];simp[h2]
  simp only[H];rw[if_neg (by simp;omega)];have key:v.cells.zipIdx.foldl (λcs (x:Value×Nat)=>cs.setIfInBounds (E*sz+x.2) x.1) (pre++rest).toArray=(pre++u++rest.drop sz).toArray:=by
   rw[←Array.foldl_toList,Array.toList_zipIdx,h1];obtain ⟨g1,I⟩:=Great.foldl_set (E*sz) u 0 (pre++rest).toArray;apply Array.ext';apply M2;intro k;have J:=I k;simp only[Array.getElem?_toList];rw[J];simp only[Nat.add_zero,List.size_toArray,List.length_append,List.getElem?_toArray];split
   ·rename_i hc;rw[LC,My (by omega),Mq (by omega),←hp]
   rename_i hc;by_cases hk:k<pre.length
   ·rw[LC,Mq hk,Mq hk]
   rw[LC,My (by omega),My (by omega)];by_cases T:k<pre.length+sz
   ·exfalso;apply hc;omega
   rw[My (by omega),MM];congr 1;omega
  have V:=ih;rw[LC pre u] at key;rw[show (v.cells.zipIdx.foldl (λcs (x:Value×Nat)=>cs.setIfInBounds (E*sz+x.2) x.1) (pre++rest).toArray)=(pre++u++rest.drop sz).toArray by rw[key,LC]];rw[ih];simp
theorem U0 (f:Fr):∀(ps:List (Nat×Operand)) (i:Nat),ps.map (·.1)=List.range' i ps.length→(ps.map λx=>(x.1,ev f x.2))=((ps.map λx=>ev f x.2).zipIdx i).map λx=>(x.2,x.1)
 | [],_,_=>rfl
 | p::ps,i,h=>by
  simp only[List.map_cons,List.length_cons,List.range'_succ,List.cons.injEq] at h;simp only[List.map_cons,List.zipIdx_cons];rw[U0 f ps (i+1) h.2,h.1]
theorem QD {t e sz bys:Nat}{z:Value}[h:Sl P t e sz bys z] {n:Nat}{parts:List (Nat×Operand)}{us:List (LV)}(hp:parts.map (·.1)=List.range' 0 n) (G:parts.length=n) (H:0<n) (hs:n*sz≤1000000)
  (hc:zI sz (parts.map λx=>ev f x.2) us)
  (I:∀b w',Step [] w w'→w.heap.size≤b→Q4 w'.heap b e us.flatten→K (QR f d (.slice (some ⟨b,0,none⟩) n n)) w'):XO P ⟨d,.buildSlice t n parts.toArray,ty,ps,af,gd⟩ f w K:=by
 obtain ⟨ie,J,hz,E,_⟩:=Sl.info h;subst G;have S:=h.pos;have hm:0<parts.length*sz:=Nat.mul_pos H S;have T:Instr.fill (λi=>some (i*ie.size,ie.size)) ((Array.range (parts.length*ie.size)).map (z.cells[· % z.cells.size]!)) (parts.toArray.map λ(i,x)=>(i,ev f x)).toList=some us.flatten.toArray:=by
  rw[E];have:=Um (parts.map λx=>ev f x.2) us 0 [] ((Array.range (parts.length*sz)).map (z.cells[· % z.cells.size]!)).toList hc (by simp) (by simp);simp only[List.nil_append,Array.toArray_toList] at this;rw[←this,←U0 f parts 0 hp];simp
 have V:(execOp (ev f) ⟨d,.buildSlice t parts.length parts.toArray,ty,ps,af,gd⟩).run P w=.ok (.value (.slice (some ⟨w.heap.size,0,none⟩) parts.length parts.length)) (w.alloc (.cells us.flatten.toArray e)):=by
  have:=run_buildSlice (P:=P) w t e parts.length (parts.toArray.map λ(i,x)=>(i,ev f x)) us.flatten.toArray ie z h.u J hz (by rw[E];omega) (by rw[E];omega) T;simp only[execOp,Sem.run_bind,this,Result.andThen_ok,Sem.run_pure]
 exact xv V (I _ _ (Step.alloc w _) (Lr _) (Jw w _))
theorem UO {base t ty e:Nat}{sz bys:Nat}{z:Value}[h:Sl P t e sz bys z] {v:Value}{n:Nat}{cs:LV}(G:w.ownsRow base e sz v n cs)
  {a:Addr} {m c:Nat} {news:LV} (hl:news.length=m*sz) (T:∀j u,news[j]?=some u→w.cell? (a.add j)=some u) (h1:∀u∈news,u.oneCell'=true)
  (hb:n+m≤1099511627776) (hq:bys≤128) (hc:base≤w.heap.size) :
  ∃v' w',(Builtin.append_ #[t,t] ty #[v,.slice (some a) m c]).run P w=.ok v' w'∧w'.ownsRow base e sz v' (n+m) (cs++news)∧Step (ob v) w w'∧(∀b∈ob v',b∈ob v∨w.heap.size≤b):=by
 obtain ⟨i,hi,hz,J,Y⟩:=Sl.info h;have ha:(n+m)*bys≤140737488355328:=LS (Nat.mul_le_mul hb hq) (by omega);have he:n+m≤maxLen:=by simp only[maxLen];omega
 by_cases hg:∃g cap cur,v=.slice (some ⟨g,0,none⟩) n cap∧w.heap[g]?=some (.cells cur e (0,0))∧n+m≤cap
 ·obtain ⟨v',w',H,ho,hs,_⟩:=run_append_own (P:=P) w base t ty e i z sz bys h.u hi hz J Y h.zs h.pos v n cs G a m c news hl T h1 he ha hc;refine ⟨v',w',H,ho,by rw[zf];exact Step.of_grown hs,?_⟩;obtain ⟨g,cap,cur,rfl,hf,S⟩:=hg;rcases G.2 with ⟨h2,_⟩ | ⟨g2,cap2,hh,h2,h3,h4,h5,h6,h7,h8⟩
  ·cases h2
  cases h2
  have ht:n*i.size+news.length≤hh.size:=by rw[hl,h7,J,←Mx];exact Mm _ S
  have hu:=run_append_room (P:=P) w t ty e i h.u hi g n cap hh h4 a m c news (by rw[J];exact hl) T h1 S ht;rw[hu] at H;cases H
  intro b E;exact .inl E
 have new:∀(old:Nat),old<n+m→∀I,I=(Obj.cells (cs.toArray++news.toArray++Builtin.zeroCells z.cells (grownCap w (n+m) old e - (n+m))) e) →
   (w.drew.alloc I).ownsRow base e sz (.slice (some ⟨w.heap.size,0,none⟩) (n+m) (grownCap w (n+m) old e)) (n+m) (cs++news):=by
  intro old ho I hv;subst hv;have hge:=grownCap_ge w (n+m) old e;have hj:grownCap w (n+m) old e≤maxLen:=grownCap_le_maxLen w (n+m) old e he;have hp:(cs++news).length=(n+m)*sz:=by rw[Lk,G.1,hl,Mx]
  refine ⟨hp,.inr ⟨w.heap.size,_,_,O,hc,Jw w.drew _,hge,hj,?_,?_⟩⟩
  ·simp only[Array.size_append,List.size_toArray,size_zeroCells,h.zs,G.1,hl,←Nat.add_mul];congr 1;omega
  simp only[Array.toList_append,List.append_assoc];rw[←LC,←hp];exact List.take_left
 have stp:∀I,Step (ob v) w (w.drew.alloc I):=λI=>⟨O,O,O,by rw[VR];exact Nat.le_succ _,λk hk _=>zG w.drew I k hk⟩;have fin:∀(b:Nat),b∈ob (.slice (some ⟨w.heap.size,0,none⟩) (n+m) 0)→b∈ob v∨w.heap.size≤b:=λb E=>by simp[ob] at E;omega
 rcases G.2 with ⟨rfl,rfl⟩ | ⟨g,cap,cur,rfl,h9,hf,hA,hj,hB,hC⟩
 ·have hx:cs=[]:=Ln (by simpa using G.1);subst hx;by_cases hm:m=0
  ·subst hm;have V:news=[]:=Ln (by simpa using hl);subst V;refine ⟨nS,w,?_,QM _ _ _ _,Step.refl _ _,λb E=>by simp[ob] at E⟩;simp[Builtin.append_,run_underlying h.u,sizeOf,typeInfo,hi,Builtin.lenOf,Builtin.firstCells,loadCells,loadCellsFrom]
  have H:=run_append_nil (P:=P) w t ty e i z h.u hi hz a m c news (by rw[J];exact hl) T (by omega) (by omega) (by rw[Y];have hw:=ha;simp only[Nat.zero_add] at hw;omega);have V:=new 0 (by omega) _ O;simp only[Nat.zero_add,List.nil_append,Array.empty_append] at V ⊢;exact ⟨_,_,H,V,stp _,λb E=>fin b E⟩
 have S:cap<n+m:=by
  rcases Nat.lt_or_ge cap (n+m) with hy | hge
  ·exact hy
  exact absurd ⟨g,cap,cur,O,hf,hge⟩ hg
 have h0:∀j u,cs[j]?=some u→w.cell? ((⟨g,0,none⟩:Addr).add j)=some u:=G.cells (g:=g) O;have H:=run_append_grow (P:=P) w t ty e i z h.u hi hz ⟨g,0,none⟩ n cap cs (by rw[J];exact G.1) h0 a m c news (by rw[J];exact hl) T S (by omega) (growslice_fits S (by rw[Y];exact ha));exact ⟨_,_,H,new cap S _ O,stp _,λb E=>fin b E⟩
theorem Q6 {t e sz bys:Nat}{z:Value}[h:Sl P t e sz bys z] {s y:Operand}{base:Nat}{v:Value}{n:Nat}{cs:LV}(E:w.ownsRow base e sz v n cs) (hs:ev f s=v)
  {a:Addr} {m c:Nat} {news:LV} (hy:ev f y=.slice (some a) m c) (hl:news.length=m*sz) {L:LN} (G:At L w.heap a news) (h1:∀u∈news,u.oneCell'=true)
  (hb:n+m≤1099511627776) (H:base≤w.heap.size)
  (I:∀v' w',w'.ownsRow base e sz v' (n+m) (cs++news)→Step (ob v) w w'→(∀b∈ob v',b∈ob v∨w.heap.size≤b)→K (QR f d v') w') (J:bys≤128:=by decide) :
  XO P ⟨d,.call ⟨.builtin .append,#[s,y],#[t,t]⟩,ty,ps,af,gd⟩ f w K:=by
 obtain ⟨v',w',S,h2,h3,T⟩:=UO (P:=P) (t:=t) (ty:=ty) E hl G.cells h1 hb J H (c:=c);have V:(execOp (ev f) ⟨d,.call ⟨.builtin .append,#[s,y],#[t,t]⟩,ty,ps,af,gd⟩).run P w=.ok (.value v') w':=by
  simp[execOp,resolve,invoke,builtin,hs,hy,S]
 exact xv V (I v' w' h2 h3 T)
end
def QiF (P:Program) (t:Nat):Option (LV×LN):=match P.info? t,P.underlying t with
 | some it,some (.struct fs)=>match it.zero,fs.toList.mapM (λf=>(P.info? f.type).bind λi=>if i.size=1 then some f.offset else none) with
  | some (.agg zs),some offs=>some (zs.toList,offs)
  | _,_=>none
 | some it,some (.array n e)=>match it.zero,P.info? e with
  | some (.agg zs),some ie=>if ie.size=1 then some (zs.toList,List.range n) else none
  | _,_=>none
 | _,_=>none
class Bs (P:Program) (t:Nat) (zs:outParam (LV)) (offs:outParam (LN)):Prop where
 h:QiF P t=some (zs,offs)
 b:offs.all (·<zs.length)=true
def bld (offs:LN) (zs:LV):List (Nat×Value)→LV
 | []=>zs
 | (j,v)::ps=>bld offs (zs.set (offs.getD j 0) v) ps
def Qg5:LV→Prop
 | []=>True
 | v::vs=>v.cells=[v].toArray∧Qg5 vs
theorem Ul {place:Nat→Option (Nat×Nat)}{offs:LN}(hp:∀j,j<offs.length→place j=some (offs.getD j 0,1)):∀(ps:List (Nat×Value)) (zs:LV),Qg5 (ps.map (·.2))→ps.all (λp=>p.1<offs.length)=true →
  (∀o∈offs,o<zs.length)→Instr.fill place zs.toArray ps=some (bld offs zs ps).toArray
 | [],zs,_,_,_=>rfl
 | (j,v)::ps,zs,h1,h2,h3=>by
  simp only[List.all_cons,Bool.and_eq_true,decide_eq_true_eq] at h2;have E:=hp j h2.1;have H:offs.getD j 0<zs.length:=h3 _ (by simp[List.getD,List.getElem?_eq_getElem h2.1]);unfold Instr.fill;simp only[E];have hc:v.cells=#[v]:=h1.1;simp only[hc]
  rw[if_neg (by rw[show (#[v]:Array Value).size=1 from rfl,LU];simp only[ne_eq,not_true,decide_false,Bool.false_or,decide_eq_true_eq];omega)];have:(#[v]:Array Value).zipIdx.foldl (λcs (x:Value×Nat)=>cs.setIfInBounds (offs.getD j 0+x.2) x.1) zs.toArray=(zs.set (offs.getD j 0) v).toArray:=by
   simp[Array.zipIdx]
  rw[this];exact Ul hp ps _ h1.2 h2.2 (λo G=>by rw[MS];exact h3 o G)
theorem j7 {P:Program}{t:Nat}{zs:LV}{offs:LN}(h:QiF P t=some (zs,offs)) (hb:offs.all (·<zs.length)=true) (ps:List (Nat×Value)) (h1:Qg5 (ps.map (·.2))) (h2:ps.all (λp=>p.1<offs.length)=true) :
  P.built t ps=some (bld offs zs ps).toArray:=by
 have h3:∀o∈offs,o<zs.length:=λo I=>by simpa using Mi.1 hb o I
 unfold QiF at h;unfold Program.built;cases hi:P.info? t with
 | none=>simp[hi] at h
 | some it =>
  cases hu:P.underlying t with
  | none=>simp[hi,hu] at h
  | some dd =>
   simp only[hi,hu] at h;cases dd <;> simp only[] at h <;> try (cases h)
   case struct fs =>
    cases hz:it.zero with
    | none=>simp[hz] at h
    | some z =>
     cases z <;> simp only[hz] at h <;> try (cases h)
     rename_i za;cases hm:fs.toList.mapM (λf=>(P.info? f.type).bind λi=>if i.size=1 then some f.offset else none) with
     | none=>simp[hm] at h
     | some offs' =>
      simp only[hm,Option.some.injEq,Prod.mk.injEq] at h;obtain ⟨rfl,rfl⟩:=h;have key:∀(l:List Field) (offs:LN),l.mapM (λf=>(P.info? f.type).bind λi=>if i.size=1 then some f.offset else none)=some offs →
        l.mapM (λf=>(P.info? f.type).map λi=>(f.offset,i.size))=some (offs.map λo=>(o,1)):=by
       intro l;induction l with
       | nil=>intro offs h;simp at h;subst h;rfl
       | cons f l ih =>
        intro offs h;simp only[List.mapM_cons] at h ⊢;cases G:P.info? f.type with
        | none=>simp[G] at h
        | some i =>
         by_cases hs:i.size=1
         ·simp only[G,Option.bind_some,hs,if_true,Option.bind_eq_bind] at h;cases hl:l.mapM (λf=>(P.info? f.type).bind λi=>if i.size=1 then some f.offset else none) with
          | none=>simp[hl] at h
          | some os =>
           simp[hl] at h;subst h;simp[ih os hl,hs]
         simp[G,hs] at h
      have J:=key _ _ hm;simp only[hz,J,Value.cells];rw[←Ul (place:=λj=>((offs'.map λo=>(o,1)).toArray)[j]?) (λj E=>by simp[List.getElem?_eq_getElem E,List.getD]) ps za.toList h1 h2 h3]
   case array n e =>
    cases hz:it.zero with
    | none=>simp[hz] at h
    | some z =>
     cases z <;> simp only[hz] at h <;> try (cases h)
     rename_i za;cases H:P.info? e with
     | none=>simp[H] at h
     | some ie =>
      simp only[H] at h;split at h
      ·rename_i hs;simp only[Option.some.injEq,Prod.mk.injEq] at h;obtain ⟨rfl,rfl⟩:=h;simp only[hz,H,Value.cells];rw[←Ul (place:=λi=>some (i*ie.size,ie.size)) (λj E=>by simp at E;simp[hs,List.getD,E]) ps za.toList h1 h2 h3]
      cases h
theorem QE {P:Program}{f:Fr}{w:World}{d:Option Nat}{ty:Nat}{ps:String}{af:Array Edge}{gd:Option (Nat×Bool)}{t:Nat}{zs:LV}{offs:LN}[h:Bs P t zs offs] {parts:List (Nat×Operand)}
  (h1:Qg5 (parts.map λx=>ev f x.2)) (h2:parts.all (λp=>p.1<offs.length)=true:=by rfl) :
  (execOp (ev f) ⟨d,.build t parts.toArray,ty,ps,af,gd⟩).run P w=.ok (.value (.agg (bld offs zs (parts.map λx=>(x.1,ev f x.2))).toArray)) w:=by
 have hb:=j7 h.h h.b (parts.map λx=>(x.1,ev f x.2)) (by rw[Me];exact h1) (by rw[List.all_map];exact h2);have E:=run_build (P:=P) w t (parts.toArray.map λ(i,x)=>(i,ev f x)) _ (by simpa using hb);simp only[execOp,Sem.run_bind,E,Result.andThen_ok,Sem.run_pure]
section
variable {κ:Type} [DecidableEq κ]
def mget:List (κ×Value)→κ→Option Value
 | [],_=>none
 | (k',v)::m,k=>if k'=k then some v else mget m k
def mput:List (κ×Value)→κ→Value→List (κ×Value)
 | [],k,v=>[(k,v)]
 | (k',v')::m,k,v=>if k'=k then (k',v)::m else (k',v')::mput m k v
theorem XK (m:List (κ×Value)) (k k':κ) (v:Value):mget (mput m k v) k'=if k=k' then some v else mget m k':=by
 induction m with
 | nil=>simp[mget,mput]
 | cons p m ih =>
  obtain ⟨q,u⟩:=p;simp only[mput];by_cases h:q=k
  ·subst h;simp[mget];by_cases h2:q=k' <;> simp[h2]
  simp only[h,if_false,mget,ih];by_cases h2:q=k'
  ·subst h2;simp[Ne.symm h]
  simp[h2]
def fnd (k:κ):List κ→List MapEntry→Nat→Option (Nat×Value)
 | q::ks,e::es,i=>if k=q then some (i,e.val) else fnd k ks es (i+1)
 | _,_,_=>none
end
class Key (P:Program) (kt:Nat) {κ:Type} [DecidableEq κ] (enc:κ→Value):Prop where
 check:∀(w:World) (em:Bool) (k:κ),(Instr.checkKey em 10000 kt (enc k)).run P w=.ok () w
 find:∀(w:World) (k:κ) (ks:List κ) (es:List MapEntry),es.map (·.key)=ks.map enc→(Instr.findKey kt (enc k) es).run P w=.ok (fnd k ks es 0) w
 same:∀k,Instr.sameBits 10000 (enc k) (enc k)=true
abbrev J4 (n:Int):Value:=.int .i64 n
abbrev YQ (p:Int×Int):Value:=.agg #[.int .i64 p.1,.int .i64 p.2]
abbrev Y7 (s:ByteArray):Value:=.string s
theorem Qgd {P:Program}{kt:Nat}(hu:P.underlying kt=some (.int .i64)):Key P kt J4:=by
 refine ⟨λw em k=>?_,λw k ks E h=>?_,λk=>by simp[Instr.sameBits]⟩
 ·have G:∀n,(Instr.checkKey em (n+1) kt (J4 k)).run P w=.ok () w:=λn=>by simp[Instr.checkKey,run_underlying hu]
  exact G 9999
 have key:∀(ks:LI) (E:List MapEntry) (i:Nat),E.map (·.key)=ks.map J4→Instr.findNow (.int .i64) (J4 k) E i=some (fnd k ks E i):=by
  intro ks;induction ks with
  | nil=>intro E i h;simp at h;subst h;rfl
  | cons q ks ih =>
   intro E i h;cases E with
   | nil=>simp at h
   | cons e E =>
    simp only[List.map_cons,List.cons.injEq] at h;have H:=ih E (i+1) h.2;simp only[Instr.findNow,h.1,Instr.sameNow,J4,if_true,fnd];by_cases hq:k=q
    ·subst hq;simp
    have:(k == q)=false:=by simpa using hq
    simp[hq,this,H]
 simp[Instr.findKey,run_underlying hu,key ks E 0 h]
theorem Qgc {P:Program}{kt:Nat}(hu:P.underlying kt=some .string):Key P kt Y7:=by
 refine ⟨λw em k=>?_,λw k ks E h=>?_,λk=>by simp[Instr.sameBits,(MapKept.bytes_beq k k).2 rfl]⟩
 ·have G:∀n,(Instr.checkKey em (n+1) kt (Y7 k)).run P w=.ok () w:=λn=>by simp[Instr.checkKey,run_underlying hu]
  exact G 9999
 have key:∀(ks:List ByteArray) (E:List MapEntry) (i:Nat),E.map (·.key)=ks.map Y7→Instr.findNow .string (Y7 k) E i=some (fnd k ks E i):=by
  intro ks;induction ks with
  | nil=>intro E i h;simp at h;subst h;rfl
  | cons q ks ih =>
   intro E i h;cases E with
   | nil=>simp at h
   | cons e E =>
    simp only[List.map_cons,List.cons.injEq] at h;have H:=ih E (i+1) h.2;simp only[Instr.findNow,h.1,Instr.sameNow,Y7,fnd];by_cases hq:k=q
    ·subst hq;simp[(MapKept.bytes_beq k k).2 rfl]
    have:(k == q)=false:=by
     cases hb:(k == q) with
     | false=>rfl
     | true=>exact absurd ((MapKept.bytes_beq k q).1 hb) hq
    simp[hq,this,H]
 simp[Instr.findKey,run_underlying hu,key ks E 0 h]
theorem V0 {P:Program}{kt e:Nat}(hu:P.underlying kt=some (.array 2 e)) (he:P.underlying e=some (.int .i64)) (hs:(P.info? e).map (·.size)=some 1) (w:World) (p q:Int×Int) :
  (Op.equal kt (YQ p) (YQ q)).run P w=.ok (decide (p=q)) w:=by
 obtain ⟨a,b⟩:=p;obtain ⟨c,d⟩:=q;cases hi:P.info? e with
 | none=>simp[hi] at hs
 | some ie =>
  simp[hi] at hs;have G:∀w,(isAgg e).run P w=.ok false w:=λw=>by simp[isAgg,run_underlying he]
  have hp:∀(x y:Int) (w:World),(part e #[.int .i64 x,.int .i64 y] 0).run P w=.ok (.int .i64 x) w:=λx y w=>by simp[part,G]
  have H:∀(x y:Int) (w:World),(part e #[.int .i64 x,.int .i64 y] 1).run P w=.ok (.int .i64 y) w:=λx y w=>by simp[part,G]
  have E:∀(m:Nat) (x y:Int) (w:World),(Op.equalIn (m+1) e (.int .i64 x) (.int .i64 y)).run P w=.ok (x == y) w:=λm x y w=>by simp[Op.equalIn,run_underlying he]
  simp only[Op.equal,Op.maxDepth,YQ];unfold Op.equalIn;simp only[Sem.run_bind,run_underlying hu,Result.andThen_ok,sizeOf,typeInfo,run_program,hi,Sem.run_pure,hs];simp only[Std.Legacy.Range.forIn_eq_forIn_range',Std.Legacy.Range.size,Nat.sub_zero,Nat.add_sub_cancel,Nat.div_one,List.range'_succ,List.range'_zero,List.forIn_cons,List.forIn_nil,Nat.zero_mul,Nat.one_mul,Nat.zero_add];by_cases h1:a=c
  ·subst h1;by_cases h2:b=d
   ·subst h2;simp[hp,H,E]
   simp[hp,H,E,h2]
  simp[hp,E,h1]
theorem QdM {P:Program}{kt e:Nat}(hu:P.underlying kt=some (.array 2 e)) (he:P.underlying e=some (.int .i64)) (hs:(P.info? e).map (·.size)=some 1):Key P kt YQ:=by
 refine ⟨λw em k=>?_,λw k ks E h=>?_,λk=>?_⟩
 ·obtain ⟨a,b⟩:=k;cases hi:P.info? e with
  | none=>simp[hi] at hs
  | some ie =>
   simp[hi] at hs;have G:∀w,(isAgg e).run P w=.ok false w:=λw=>by simp[isAgg,run_underlying he]
   have hp:∀(x y:Int) (w:World),(part e #[.int .i64 x,.int .i64 y] 0).run P w=.ok (.int .i64 x) w:=λx y w=>by simp[part,G]
   have H:∀(x y:Int) (w:World),(part e #[.int .i64 x,.int .i64 y] 1).run P w=.ok (.int .i64 y) w:=λx y w=>by simp[part,G]
   have I:∀(m:Nat) (x:Int) (w:World),(Instr.checkKey em (m+1) e (.int .i64 x)).run P w=.ok () w:=λm x w=>by simp[Instr.checkKey,run_underlying he]
   simp only[YQ];unfold Instr.checkKey;simp only[Sem.run_bind,run_underlying hu,Result.andThen_ok,sizeOf,typeInfo];simp[Std.Legacy.Range.forIn_eq_forIn_range',Std.Legacy.Range.size,List.range'_succ,hi,hs,hp,H,I]
 ·have J:∀E i,E.map (·.key)=ks.map YQ→Instr.findNow (.array 2 e) (YQ k) E i=none∨E=[]:=by
   intro E i h;cases E with
   | nil=>exact .inr O
   | cons e E=>left;simp[Instr.findNow,Instr.sameNow]
  have ask:∀(ks:List (Int×Int)) (E:List MapEntry) (i:Nat),E.map (·.key)=ks.map YQ→(Instr.findAsking kt (YQ k) E i).run P w=.ok (fnd k ks E i) w:=by
   intro ks;induction ks with
   | nil=>intro E i h;simp at h;subst h;simp[Instr.findAsking,fnd]
   | cons q ks ih =>
    intro E i h;cases E with
    | nil=>simp at h
    | cons e E =>
     simp only[List.map_cons,List.cons.injEq] at h;have S:=ih E (i+1) h.2;simp only[Instr.findAsking,h.1,Sem.run_bind,V0 hu he hs,Result.andThen_ok,fnd];by_cases hq:k=q
     ·subst hq;simp
     simp[hq,S]
  rcases J E 0 h with h1 | h1
  ·simp[Instr.findKey,run_underlying hu,h1,ask ks E 0 h]
  subst h1;have:ks=[]:=by simpa using h.symm
  subst this;simp[Instr.findKey,run_underlying hu,Instr.findNow,fnd]
 simp[Instr.sameBits]
class Mp (P:Program) (t:Nat) (kt et:outParam Nat) (z:outParam Value):Prop where
 u:P.underlying t=some (.map kt et)
 z:(P.info? et).map (·.zero)=some (some z)
def Z0 {κ:Type}(enc:κ→Value) (H:Array Obj) (b:Nat) (m:List (κ×Value)):Prop :=
 ∃es clock,H[b]?=some (.map es clock)∧es.toList.map (λe=>(e.key,e.val))=m.map (λp=>(enc p.1,p.2))
section
variable {κ:Type} {enc:κ→Value}
theorem Z0.lt {H:Array Obj}{b:Nat}{m:List (κ×Value)}(h:Z0 enc H b m):b<H.size:=by
 obtain ⟨E,c,h1,_⟩:=h;exact (Lz.1 h1).1
theorem Z0.step {X:LN}{w w':World}{b:Nat}{m:List (κ×Value)}(h:Z0 enc w.heap b m) (hs:Step X w w') (hb:b∉X):Z0 enc w'.heap b m:=by
 have hl:=h.lt;obtain ⟨E,c,h1,h2⟩:=h;exact ⟨E,c,by rw[hs.block b hl hb];exact h1,h2⟩
theorem Z0.ext {w w':World}{b:Nat}{m:List (κ×Value)}(h:Z0 enc w.heap b m) (hs:Step [] w w'):Z0 enc w'.heap b m:=h.step hs (by simp)
theorem zp {m:List (κ×Value)}{E:List MapEntry}(h:E.map (λe=>(e.key,e.val))=m.map (λp=>(enc p.1,p.2))):E.map (·.key)=(m.map (·.1)).map enc:=by
 have:=congrArg (List.map Prod.fst) h;simp only[List.map_map] at this ⊢;exact this
variable [DecidableEq κ]
theorem KM {k:κ}:∀{m:List (κ×Value)}{E:List MapEntry}{i:Nat},E.map (λe=>(e.key,e.val))=m.map (λp=>(enc p.1,p.2))→mget m k=none→fnd k (m.map (·.1)) E i=none
 | [],E,i,h,_=>by simp[fnd]
 | (q,u)::m,[],i,h,_=>by simp at h
 | (q,u)::m,e::E,i,h,hm=>by
  simp only[List.map_cons,List.cons.injEq] at h;simp only[mget] at hm;by_cases hq:q=k
  ·simp[hq] at hm
  simp only[hq,if_false] at hm;simp only[List.map_cons,fnd,Ne.symm hq,if_false];exact KM h.2 hm
theorem KL {k:κ}{u:Value}:∀{m:List (κ×Value)}{E:List MapEntry}{i:Nat},E.map (λe=>(e.key,e.val))=m.map (λp=>(enc p.1,p.2))→mget m k=some u →
  ∃j,fnd k (m.map (·.1)) E i=some (i+j,u)∧j<E.length∧(∃e,E[j]?=some e∧e.key=enc k) ∧
   ∀v,(E.modify j λe=>{ e with key:=enc k,val:=v }).map (λe=>(e.key,e.val))=(mput m k v).map (λp=>(enc p.1,p.2))
 | [],E,i,_,h=>by simp[mget] at h
 | (q,x)::m,[],i,h,_=>by simp at h
 | (q,x)::m,e::E,i,h,hm=>by
  simp only[List.map_cons,List.cons.injEq,Prod.mk.injEq] at h;simp only[mget] at hm;by_cases hq:q=k
  ·subst hq;simp at hm;subst hm;refine ⟨0,by simp[fnd,h.1.2],by simp,⟨e,rfl,h.1.1⟩,λv=>?_⟩;simp[mput,h.2]
  simp only[hq,if_false] at hm;obtain ⟨j,h1,h2,⟨G,h3,H⟩,I⟩:=KL (i:=i+1) h.2 hm;refine ⟨j+1,?_,by simp;omega,⟨G,by simpa using h3,H⟩,λv=>?_⟩
  ·simp only[List.map_cons,fnd,Ne.symm hq,if_false,h1];congr 2;omega
  simp only[mput,hq,if_false,List.modify_succ_cons,List.map_cons,I v,h.1]
end
section
variable {P:Program} {K:Fr→World→Prop} {f:Fr} {w:World} {d:Option Nat} {ty:Nat} {ps:String} {af:Array Edge} {gd:Option (Nat×Bool)} {κ:Type} [DecidableEq κ]
omit [DecidableEq κ] in
theorem Yk {t:Nat}(enc:κ→Value)
  (E:∀b w',Step [] w w'→w.heap.size≤b→Z0 enc w'.heap b []→K (QR f d (.map (some b))) w'):XO P ⟨d,.makeMap t none,ty,ps,af,gd⟩ f w K:=by
 have G:(execOp (ev f) ⟨d,.makeMap t none,ty,ps,af,gd⟩).run P w=.ok (.value (.map (some w.heap.size))) (w.alloc (.map #[] 0)):=by
  simp[execOp,Instr.makeMap]
 exact xv G (E _ _ (Step.alloc w _) (Lr _) ⟨#[],0,Jw w _,O⟩)
theorem YG {b:Nat}{E:Array MapEntry}{c:Nat}(h:w.heap[b]?=some (.map E c)):(getObj b).run P w=.ok (.map E c) w:=by
 simp[getObj,Sem.run,h]
theorem JR {b:Nat} {H E:Array MapEntry} {c G:Nat} (h:w.heap[b]?=some (.map H c)):(setObj b (.map E G)).run P w=.ok () { w with heap:=w.heap.setIfInBounds b (.map E G) }:=by
 simp[setObj,Sem.run,h]
theorem Kx {t kt et:Nat}{z:Value}[hm:Mp P t kt et z] {enc:κ→Value}[hk:Key P kt enc] {x y:Operand}{b:Nat}{m:List (κ×Value)}{k:κ}(h:Z0 enc w.heap b m) (hx:ev f x=.map (some b)) (hy:ev f y=enc k) :
  (execOp (ev f) ⟨d,.lookup t x y true,ty,ps,af,gd⟩).run P w=.ok (.value (match mget m k with | some u=>.tuple #[u,.bool true] | none=>.tuple #[z,.bool false])) w:=by
 obtain ⟨G,c,h1,h2⟩:=h;have H:=hk.find w k (m.map (·.1)) G.toList (zp h2);have hz:(zeroValue et).run P w=.ok z w:=by
  have:=hm.z;cases hi:P.info? et with
  | none=>simp[hi] at this
  | some i=>simp[hi] at this;simp[zeroValue,typeInfo,hi,this]
 simp only[execOp,Sem.run_bind,Instr.lookup,run_underlying hm.u,Result.andThen_ok,hx,hy,YG h1,Sem.run_pure,hk.check,H];cases E:mget m k with
 | none=>rw[KM h2 E];simp[hz]
 | some u =>
  obtain ⟨j,I,_⟩:=KL (i:=0) h2 E;rw[I];simp
theorem XD {t kt et:Nat}{z:Value}[hm:Mp P t kt et z] {enc:κ→Value}[hk:Key P kt enc] {x y:Operand}{b:Nat}{m:List (κ×Value)}{k:κ}(h:Z0 enc w.heap b m) (hx:ev f x=.map (some b)) (hy:ev f y=enc k) :
  (execOp (ev f) ⟨d,.lookup t x y false,ty,ps,af,gd⟩).run P w=.ok (.value (match mget m k with | some u=>u | none=>z)) w:=by
 obtain ⟨G,c,h1,h2⟩:=h;have H:=hk.find w k (m.map (·.1)) G.toList (zp h2);have hz:(zeroValue et).run P w=.ok z w:=by
  have:=hm.z;cases hi:P.info? et with
  | none=>simp[hi] at this
  | some i=>simp[hi] at this;simp[zeroValue,typeInfo,hi,this]
 simp only[execOp,Sem.run_bind,Instr.lookup,run_underlying hm.u,Result.andThen_ok,hx,hy,YG h1,Sem.run_pure,hk.check,H];cases E:mget m k with
 | none=>rw[KM h2 E];simp[hz]
 | some u =>
  obtain ⟨j,I,_⟩:=KL (i:=0) h2 E;rw[I];simp
theorem VZ {t kt et:Nat}{z:Value}[hm:Mp P t kt et z] {enc:κ→Value}[hk:Key P kt enc] {b:Nat}{m:List (κ×Value)}{k:κ}{u:Value}(h:Z0 enc w.heap b m) :
  ∃w',(Instr.mapUpdate t (.map (some b)) (enc k) u).run P w=.ok () w'∧Step [b] w w'∧Z0 enc w'.heap b (mput m k u):=by
 have hl:=h.lt;obtain ⟨E,c,h1,h2⟩:=h;have G:=hk.find w k (m.map (·.1)) E.toList (zp h2);have stp:∀I J,Step [b] w { w with heap:=w.heap.setIfInBounds b (.map I J) }:=λI J =>
  ⟨rfl,rfl,rfl,by simp,λi hi S=>by
   have:b≠i:=λe=>S (by simp[e]);simp[Array.getElem?_setIfInBounds_ne this]⟩
 cases H:mget m k with
 | none =>
  rw[KM h2 H] at G;refine ⟨_,?_,stp (E.push { key:=enc k,val:=u,born:=c }) (c+1),E.push { key:=enc k,val:=u,born:=c },c+1,?_,?_⟩
  ·simp only[Instr.mapUpdate,Sem.run_bind,run_underlying hm.u,Result.andThen_ok,YG h1,hk.check,G,JR h1]
  ·simp[hl]
  have T:mput m k u=m++[(k,u)]:=by
   clear h2 G;induction m with
   | nil=>rfl
   | cons p m ih =>
    obtain ⟨q,x⟩:=p;by_cases hq:q=k
    ·simp[mget,hq] at H
    simp only[mget,hq,if_false] at H;simp[mput,hq,ih H]
  simp[T,h2]
 | some u0 =>
  obtain ⟨j,V,hh,⟨e,he,Y⟩,ha⟩:=KL (i:=0) h2 H;rw[V] at G;simp only[Nat.zero_add] at G;have hb:∀w,(Instr.keyThatStays (enc k) (enc k)).run P w=.ok (enc k) w:=λw=>by simp[Instr.keyThatStays,hk.same]
  have hc:((E[j]?).map (·.key)).getD (enc k)=enc k:=by
   have:E[j]?=some e:=by simpa using he
   simp[this,Y]
  refine ⟨_,?_,stp (E.modify j λe=>{ e with key:=enc k,val:=u }) c,E.modify j λe=>{ e with key:=enc k,val:=u },c,?_,?_⟩
  ·simp only[Instr.mapUpdate,Sem.run_bind,run_underlying hm.u,Result.andThen_ok,YG h1,hk.check,G,hc,hb,JR h1]
  ·simp[hl]
  rw[Array.toList_modify];exact ha u
theorem Y3 {t kt et:Nat}{z:Value}[hm:Mp P t kt et z] {enc:κ→Value}[hk:Key P kt enc] {x y v:Operand}{b:Nat}{m:List (κ×Value)}{k:κ}(h:Z0 enc w.heap b m) (hx:ev f x=.map (some b)) (hy:ev f y=enc k)
  (E:∀w',Step [b] w w'→Z0 enc w'.heap b (mput m k (ev f v))→K (QR f d undef) w'):XO P ⟨d,.mapUpdate t x y v,ty,ps,af,gd⟩ f w K:=by
 obtain ⟨w',h1,h2,h3⟩:=VZ (P:=P) (t:=t) (k:=k) (u:=ev f v) h;exact xk (w':=w') (by simp[execOp,hx,hy,h1]) (E w' h2 h3)
theorem YL {t kt et:Nat}{z:Value}[hm:Mp P t kt et z] {enc:κ→Value}[hk:Key P kt enc] {x y v:Operand}{b:Nat}{m:List (κ×Value)}{k:κ}(h:Z0 enc w.heap b m) (hx:ev f x=.map (some b)) (hy:ev f y=enc k)
  (E:∀w',Step [b] w w'→Z0 enc w'.heap b (mput m k (ev f v))→K (QR f d undef) w'):XO P ⟨d,.insert t x y v,ty,ps,af,gd⟩ f w K:=by
 obtain ⟨w',h1,h2,h3⟩:=VZ (P:=P) (t:=t) (k:=k) (u:=ev f v) h;exact xk (w':=w') (by simp[execOp,hx,hy,h1]) (E w' h2 h3)
end
section
variable {P:Program} {ops:List Oper} {K:Fr→World→Prop} {f:Fr} {w:World} {d:Option Nat} {ty:Nat} {ps:String} {af:Array Edge} {gd:Option (Nat×Bool)} {l:List Oper}
theorem Y1 {b T:Nat}{cs E:LV}(h:Q4 w.heap b T cs):Q4 (w.setRow b E.toArray).heap b T E:=setRow_heap w b cs.toArray E.toArray T (0,0) h
theorem UN (cs:LV) (j:Nat) (u:Value) (h:j<cs.length):cs.take j++[u]++cs.drop (j+1)=cs.set j u:=by
 rw[List.set_eq_take_append_cons_drop,if_pos h];simp
theorem QL {t:Nat}[h1:XS P t] {x y:Operand}{b T j:Nat}{cs:LV}{u:Value}(E:Q4 w.heap b T cs) (hx:ev f x=.pointer (some ⟨b,j,none⟩)) (hy:ev f y=u) (I:j<cs.length) (hu:u.oneCell'=true)
  (J:∀w',Step [b] w w'→Q4 w'.heap b T (cs.set j u)→K (QR f d undef) w'):XO P ⟨d,.store t x y,ty,ps,af,gd⟩ f w K:=by
 have hc:u.cells=#[u]:=by cases u <;> first | rfl | cases hu
 have G:=run_storeCells_at P b j T [u] 0 cs.toArray w E (by simp;omega) (by simp[hu]);simp only[Nat.add_zero,List.length_singleton,UN cs j u I] at G;refine xk (w':=w.setRow b (cs.set j u).toArray) ?_ (J _ (Step.setRow _ _ _) (Y1 E));simp[execOp,hx,hy,Instr.storeAt,Instr.sureAddr,storeVar,jx,hc,G]
def ZO:LV→Prop
 | []=>True
 | u::us=>u.oneCell'=true∧ZO us
theorem ZO.all:∀{us:LV},ZO us→∀u∈us,u.oneCell'=true
 | [],_,u,hu=>by cases hu
 | v::us,h,u,hu=>by
  rcases Lb.1 hu with rfl | hu
  ·exact h.1
  exact ZO.all h.2 u hu
theorem Qp {t sz:Nat}[h1:Ag P t sz] {x y:Operand}{b T:Nat}{cs us:LV}(E:Q4 w.heap b T cs) (hx:ev f x=.pointer (some ⟨b,0,none⟩)) (hy:ev f y=.agg us.toArray) (hl:us.length=sz) (I:cs.length=sz) (hu:ZO us)
  (J:∀w',Step [b] w w'→Q4 w'.heap b T us→K (QR f d undef) w'):XO P ⟨d,.store t x y,ty,ps,af,gd⟩ f w K:=by
 have G:=run_storeCells_at P b 0 T us 0 cs.toArray w E (by simp;omega) hu.all;have e:(cs.take 0++us++cs.drop us.length)=us:=by rw[hl,←I];simp
 simp only[Nat.add_zero,Nat.zero_add,e] at G;refine xk (w':=w.setRow b us.toArray) ?_ (J _ (Step.setRow _ _ _) (Y1 E));subst hl;simp[execOp,hx,hy,Instr.storeAt,Instr.sureAddr,storeVar,K2 (sz:=us.length),Value.cells,G]
theorem Zf {x y:Operand}{t e sz bys:Nat}{z:Value}[h:Sl P t e sz bys z] {b o n c:Nat}{k:IntKind}{i:Nat}(hx:ev f x=.slice (some ⟨b,o,none⟩) n c) (hy:ev f y=.int k i) (h1:i<n) :
  (execOp (ev f) ⟨d,.indexAddr t x y,ty,ps,af,gd⟩).run P w=.ok (.value (.pointer (some ⟨b,o+i*sz,none⟩))) w:=by
 have:=YH (P:=P) (w:=w) (d:=d) (ty:=ty) (ps:=ps) (af:=af) (gd:=gd) (t:=t) hx hy (by omega) (by omega);rw[Uc] at this;simpa using this
theorem K5 {t e sz bys:Nat}{z:Value}[h:Sl P t e sz bys z] {x y:Operand}{k k':IntKind}{n:Nat}(hx:ev f x=.int k n) (hy:ev f y=.int k' n) (J:n≤1099511627776)
  (S:∀b w',Step [] w w'→w.heap.size≤b→Q4 w'.heap b e (List.replicate n z.cells.toList).flatten→K (QR f d (.slice (some ⟨b,0,none⟩) n n)) w') (T:bys≤128:=by decide) :
  XO P ⟨d,.makeSlice t x y,ty,ps,af,gd⟩ f w K:=by
 obtain ⟨i,hi,hz,V,Y⟩:=Sl.info h;have hb:i.bytes*n≤281474976710656:=by
  rw[Y];exact LS (Nat.mul_le_mul T J) (by omega)
 have ha:(i.bytes:Int)*(n:Int)≤281474976710656:=by
  have h:((i.bytes*n:Nat):Int)≤281474976710656:=by omega
  rwa [Int.natCast_mul] at h
 have G:=run_make (P:=P) w t e i z h.u hi hz k k' n n (by omega) (Nc _) ha (by omega);simp only[Int.toNat_natCast] at G;have hc:madeCells z.cells (n*i.size)=(List.replicate n z.cells.toList).flatten.toArray:=by
  have he:z.cells.size=i.size:=by rw[h.zs,V]
  have hg:0<z.cells.size:=by rw[h.zs];exact h.pos
  apply Array.ext';apply M2;intro j;simp only[madeCells,←he,Array.toList_map,Array.toList_range,List.getElem?_map];have hf:∀n,(List.replicate n z.cells.toList).flatten.length=n*z.cells.size:=λn=>by simp
  have key:∀n j,j<n*z.cells.size→(List.replicate n z.cells.toList).flatten[j]?=some z.cells[j % z.cells.size]!:=by
   intro n;induction n with
   | zero=>intro j E;omega
   | succ n ih =>
    intro j E;rw[List.replicate_succ,List.flatten_cons];by_cases I:j<z.cells.size
    ·rw[Mq (by simpa using I),Ms I];simp[I]
    rw[My (by simp;omega)];have:=ih (j - z.cells.size) (by rw[Mx] at E;omega);rw[Array.length_toList,this];rw[←Nat.mod_eq_sub_mod (by omega)]
  by_cases E:j<n*z.cells.size
  ·rw[key n j E];simp[E]
  rw[M0 (by simpa using Nat.le_of_not_lt E),List.getElem?_eq_none (by rw[hf];omega)];rfl
 rw[hc] at G;refine xv (w':=w.alloc (.cells (List.replicate n z.cells.toList).flatten.toArray e)) (v:=.slice (some ⟨w.heap.size,0,none⟩) n n) ?_ (S _ _ (Step.alloc w _) (Lr _) (Jw w _));simp[execOp,hx,hy,G]
theorem Zo {k:IntKind}{i y:Nat}{c:BoundsCode}(h:i≤y):(Instr.sliceBound (.int k i) y c).run P w=.ok i w:=by
 simp[Instr.sliceBound,asIntOf,h]
theorem Zq.cut {L:LN}{H:Array Obj}{a:Addr}{n cap sz:Nat}{cs:LV}(h:Zq L H (.slice (some a) n cap) n sz cs) {lo hi:Nat}(h1:lo≤hi) (h2:hi≤n) :
  Zq L H (.slice (if cap=lo then some a else some (a.add (lo*sz))) (hi - lo) (cap - lo)) (hi - lo) sz ((cs.drop (lo*sz)).take ((hi - lo)*sz)):=by
 obtain ⟨h3,I,h5⟩:=h;rcases h5 with ⟨E,_⟩ | ⟨a',cap',E,J,G⟩
 ·cases E
 cases E
 refine ⟨?_,by omega,.inr ?_⟩
 ·simp only[List.length_take,List.length_drop,h3,←Nat.sub_mul];rw[ML];exact Mm _ (by omega)
 split
 ·rename_i hc;have:hi - lo=0:=by omega
  refine ⟨a,cap - lo,by rw[this],by omega,λu hu=>?_,λu hu=>?_,λj u hu=>?_⟩
  ·simp[this] at hu
  ·simp[this] at hu
  simp[this] at hu
 refine ⟨a.add (lo*sz),cap - lo,O,by omega,λu hu=>by rw[ZK];exact G.out u (Mo (LW hu)),λu hu=>by rw[ZK];exact G.lt u (Mo (LW hu)),λj u hu=>?_⟩;rw[Addr.add_add];rw[LK] at hu;split at hu
 ·exact G.cell _ u (by simpa using hu)
 cases hu
theorem QfR {t e sz bys:Nat}{z:Value}[h:Sl P t e sz bys z] {x y1 y2:Operand}{L:LN}{v:Value}{n:Nat}{cs:LV}{H:Array Obj}{k k':IntKind}{lo hi:Nat}(G:Zq L H v n sz cs) (hx:ev f x=v) (hl:ev f y1=.int k lo) (I:ev f y2=.int k' hi)
  (h1:lo≤hi) (h2:hi≤n):∃v',Zq L H v' (hi - lo) sz ((cs.drop (lo*sz)).take ((hi - lo)*sz))∧∀w,(execOp (ev f) ⟨d,.slice t x (some y1) (some y2) none,ty,ps,af,gd⟩).run P w=.ok (.value v') w:=by
 obtain ⟨i,J,_,S,_⟩:=Sl.info h;rcases G.2.2 with ⟨E,T⟩ | ⟨a,cap,E,hc,V⟩
 ·have e1:hi=0:=by omega
  have e2:lo=0:=by omega
  subst e1 e2;refine ⟨nS,⟨by simp,by omega,.inl ⟨rfl,rfl⟩⟩,λw=>?_⟩;simp[execOp,hx,E,hl,I,Instr.sliceAt,Instr.slice,run_underlying h.u,Instr.sliceBounds,Instr.sliceBound,asIntOf,sizeOf,typeInfo,J]
 subst E;refine ⟨_,G.cut h1 h2,λw=>?_⟩;have e1:(Instr.sliceBound (.int k' hi) cap .sliceAcap).run P w=.ok hi w:=Zo (by omega);have e2:(Instr.sliceBound (.int k lo) hi .sliceB).run P w=.ok lo w:=Zo (by omega);simp[execOp,hx,hl,I,Instr.sliceAt,Instr.slice,run_underlying h.u,Instr.sliceBounds,e1,e2,sizeOf,typeInfo,J,S]
theorem Qdd {t e sz bys:Nat}{z:Value}[h:Sl P t e sz bys z] {x y1:Operand}{L:LN}{v:Value}{n:Nat}{cs:LV}{H:Array Obj}{k:IntKind}{lo:Nat}(E:Zq L H v n sz cs) (hx:ev f x=v) (hl:ev f y1=.int k lo)
  (h1:lo≤n):∃v',Zq L H v' (n - lo) sz (cs.drop (lo*sz))∧∀w,(execOp (ev f) ⟨d,.slice t x (some y1) none none,ty,ps,af,gd⟩).run P w=.ok (.value v') w:=by
 obtain ⟨i,I,_,S,_⟩:=Sl.info h;rcases E.2.2 with ⟨G,T⟩ | ⟨a,cap,G,hc,V⟩
 ·have e2:lo=0:=by omega
  subst e2 T;have:cs=[]:=Ln (by simpa using E.1);subst this;refine ⟨nS,⟨by simp,by omega,.inl ⟨rfl,rfl⟩⟩,λw=>?_⟩;simp[execOp,hx,G,hl,Instr.sliceAt,Instr.slice,run_underlying h.u,Instr.sliceBounds,Instr.sliceBound,asIntOf,sizeOf,typeInfo,I]
 subst G;have J:=E.cut h1 (Lr n);have e:(cs.drop (lo*sz)).take ((n - lo)*sz)=cs.drop (lo*sz):=Ll (by rw[L6,E.1,←Nat.sub_mul];exact Lr _);rw[e] at J;refine ⟨_,J,λw=>?_⟩;have e2:(Instr.sliceBound (.int k lo) n .sliceB).run P w=.ok lo w:=Zo h1
 simp[execOp,hx,hl,Instr.sliceAt,Instr.slice,run_underlying h.u,Instr.sliceBounds,e2,sizeOf,typeInfo,I,S]
theorem Qde {t e sz bys:Nat}{z:Value}[h:Sl P t e sz bys z] {x y2:Operand}{L:LN}{v:Value}{n:Nat}{cs:LV}{H:Array Obj}{k:IntKind}{hi:Nat}(G:Zq L H v n sz cs) (hx:ev f x=v) (I:ev f y2=.int k hi)
  (h1:hi≤n):∃v',Zq L H v' hi sz (cs.take (hi*sz))∧∀w,(execOp (ev f) ⟨d,.slice t x none (some y2) none,ty,ps,af,gd⟩).run P w=.ok (.value v') w:=by
 obtain ⟨i,J,_,T,_⟩:=Sl.info h;rcases G.2.2 with ⟨E,V⟩ | ⟨a,cap,E,hc,Y⟩
 ·have e2:hi=0:=by omega
  subst e2;refine ⟨nS,⟨by simp,by omega,.inl ⟨rfl,rfl⟩⟩,λw=>?_⟩;simp[execOp,hx,E,I,Instr.sliceAt,Instr.slice,run_underlying h.u,Instr.sliceBounds,Instr.sliceBound,asIntOf,sizeOf,typeInfo,J]
 subst E;have S:=G.cut (Lj hi) h1;simp only[Nat.zero_mul,List.drop_zero,Nat.sub_zero] at S;refine ⟨_,S,λw=>?_⟩;have e2:(Instr.sliceBound (.int k hi) cap .sliceAcap).run P w=.ok hi w:=Zo (by omega);simp[execOp,hx,I,Instr.sliceAt,Instr.slice,run_underlying h.u,Instr.sliceBounds,e2,sizeOf,typeInfo,J]
end
section
variable {P:Program} {ops:List Oper} {K:Fr→World→Prop} {C:World→Prop} {f:Fr} {w w0:World} {d:Option Nat} {ty:Nat} {ps:String} {af:Array Edge} {gd:Option (Nat×Bool)} {pl:List (Nat×Bool)} {i0:Nat}
theorem pi {x y:Operand}{t e sz bys:Nat}{z:Value}[Sl P t e sz bys z] {L:LN}{n:Nat}{cs:LV}{v:Value}{H:Array Obj}{k:IntKind}{i:Nat}
  (E:Q3 ops i0=⟨d,.indexAddr t x y,ty,ps,af,gd⟩) (h:Zq L H v n sz cs) (G:ev f x=v) (hy:ev f y=.int k i) (hi:i<n)
  (I:∀a,At L H a ((cs.drop (i*sz)).take sz)→XP P ops C K pl (QR f d (.pointer (some a))) w) (J:Z8 ops f (Q3 ops i0)=true:=by rfl) :
  XP P ops C K ((i0,true)::pl) f w:=by
 obtain ⟨a,cap,h1,h2⟩:=h.at hi;refine Lg.p (λw'=>by rw[E];exact YH (G.trans h1) hy (by omega) (by omega)) ?_ J;rw[E];refine I _ ?_;simpa using h2
theorem pii {x y:Operand}{t e bys:Nat}{z:Value}[Sl P t e 1 bys z] {L:LN}{li:LI}{v:Value}{H:Array Obj}{k:IntKind}{i:Nat}
  (E:Q3 ops i0=⟨d,.indexAddr t x y,ty,ps,af,gd⟩) (h:QK L H v li) (G:ev f x=v) (hy:ev f y=.int k i) (hi:i<li.length)
  (I:∀a,At L H a [.int .i64 li[i]]→XP P ops C K pl (QR f d (.pointer (some a))) w) (J:Z8 ops f (Q3 ops i0)=true:=by rfl) :
  XP P ops C K ((i0,true)::pl) f w:=by
 obtain ⟨a,cap,h1,h2⟩:=QK.at h hi;refine Lg.p (λw'=>by rw[E];exact YH (G.trans h1) hy (by omega) (by omega)) ?_ J;rw[E];refine I _ ?_;simpa using h2
end
abbrev Ed:=Int×Int×Int
def Qw (e:Ed):LV:=[.int .i64 e.1,.int .i64 e.2.1,.int .i64 e.2.2]
abbrev UJ (L:LN) (H:Array Obj) (v:Value) (es:List Ed):Prop:=Zq L H v es.length 3 (es.flatMap Qw)
theorem YU {α:Type}(g:α→LV) (sz:Nat) (E:∀x,(g x).length=sz):∀(l:List α) (i:Nat) (h:i<l.length),((l.flatMap g).drop (i*sz)).take sz=g l[i]
 | x::l,0,_=>by simp[E]
 | x::l,i+1,h=>by
  have:=YU g sz E l i (by simpa using h);simp only[List.flatMap_cons,List.getElem_cons_succ];rw[←this,Mx,Nb,MO,List.drop_append,E];simp[Nat.add_sub_cancel_left,List.drop_eq_nil_of_le,E]
theorem Y9 {α:Type}(g:α→LV) (sz:Nat) (E:∀x,(g x).length=sz) (l:List α):(l.flatMap g).length=l.length*sz:=by
 induction l with
 | nil=>simp
 | cons x l ih=>simp[ih,E,Nat.add_mul,Nat.add_comm]
theorem Xt (e:Ed):(Qw e).length=3:=rfl
structure QP where
 al:LI
 st:Int
 mr:LI
 ed:List Ed
structure Zu (L:LN) (H:Array Obj) (va vm ve:Value) (a:QP):Prop where
 al:QK L H va a.al
 mr:QK L H vm a.mr
 ed:UJ L H ve a.ed
def Qkt (L:LN) (H:Array Obj) (v:Value) (a:QP):Prop:=∃va vm ve,v=.agg #[va,.int .i64 a.st,vm,ve]∧Zu L H va vm ve a
theorem Zu.ext {L:LN}{w w':World}{va vm ve:Value}{a:QP}(h:Zu L w.heap va vm ve a) (hs:Step [] w w'):Zu L w'.heap va vm ve a:=⟨h.al.ext hs,h.mr.ext hs,h.ed.ext hs⟩
theorem Zu.st {L:LN}{w w':World}{va vm ve:Value}{a:QP}(h:Zu L w.heap va vm ve a) (hs:Step L w w'):Zu L w'.heap va vm ve a:=⟨h.al.st hs,h.mr.st hs,h.ed.st hs⟩
theorem Zu.up {L L':LN}{H:Array Obj}{va vm ve:Value}{a:QP}(h:Zu L H va vm ve a) (E:∀b∈L',b∈L∨H.size≤b):Zu L' H va vm ve a:=⟨h.al.up E,h.mr.up E,h.ed.up E⟩
section
variable {P:Program} {f:Fr} {w:World} {d:Option Nat} {ty:Nat} {ps:String} {af:Array Edge} {gd:Option (Nat×Bool)}
class Ik (P:Program) (t:Nat) (k:outParam IntKind):Prop where
 u:P.underlying t=some (.int k)
theorem XX {t E:Nat}{k k':IntKind}[h:Ik P t k] [h':Ik P E k'] {x:Operand}{n:Int}{G:IntKind}(hx:ev f x=.int G n) (I:inK k' n) :
  (execOp (ev f) ⟨d,.convert t E x,ty,ps,af,gd⟩).run P w=.ok (.value (.int k' n)) w:=by
 simp[execOp,hx,convert,run_underlying h.u,run_underlying h'.u,Conv.intToInt,Yj I]
class St (P:Program) (t:Nat):Prop where
 u:P.underlying t=some .string
end
theorem QZ {α:Type}{l:List α}{k:Nat}(h:k<l.length):l.drop k=l[k]::l.drop (k+1):=LH h
theorem UJ.at {L:LN}{H:Array Obj}{v:Value}{E:List Ed}(h:UJ L H v E) {i:Nat}(hi:i<E.length) :
  ∃a cap,v=.slice (some a) E.length cap∧At L H (a.add (i*3)) (Qw E[i]):=by
 obtain ⟨a,cap,h1,h2⟩:=Zq.at h hi;rw[YU Qw 3 Xt E i hi] at h2;exact ⟨a,cap,h1,h2⟩
section
variable {P:Program} {ops:List Oper} {K:Fr→World→Prop} {f:Fr} {w:World} {d:Option Nat} {ty:Nat} {ps:String} {af:Array Edge} {gd:Option (Nat×Bool)} {l:List Oper} {C:World→Prop} {pl:List (Nat×Bool)} {i0:Nat}
theorem xie {x y:Operand}{t e bys:Nat}{z:Value}[Sl P t e 3 bys z] {L:LN}{E:List Ed}{v:Value}{k:IntKind}{i:Nat}
  (h:UJ L w.heap v E) (G:ev f x=v) (hy:ev f y=.int k i) (hi:i<E.length)
  (I:∀a,At L w.heap a (Qw E[i])→XL P ops K l (QR f d (.pointer (some a))) w) (J:Z8 ops f ⟨d,.indexAddr t x y,ty,ps,af,gd⟩=true:=by rfl) :
  XL P ops K (⟨d,.indexAddr t x y,ty,ps,af,gd⟩::l) f w:=by
 obtain ⟨a,cap,h1,h2⟩:=UJ.at h hi;refine xl J (xv (YH (G.trans h1) hy (by omega) (by omega)) (I _ ?_));simpa using h2
theorem pie {x y:Operand}{t e bys:Nat}{z:Value}[Sl P t e 3 bys z] {L:LN}{E:List Ed}{v:Value}{H:Array Obj}{k:IntKind}{i:Nat}
  (G:Q3 ops i0=⟨d,.indexAddr t x y,ty,ps,af,gd⟩) (h:UJ L H v E) (I:ev f x=v) (hy:ev f y=.int k i) (hi:i<E.length)
  (J:∀a,At L H a (Qw E[i])→XP P ops C K pl (QR f d (.pointer (some a))) w) (S:Z8 ops f (Q3 ops i0)=true:=by rfl) :
  XP P ops C K ((i0,true)::pl) f w:=by
 obtain ⟨a,cap,h1,h2⟩:=UJ.at h hi;refine Lg.p (λw'=>by rw[G];exact YH (I.trans h1) hy (by omega) (by omega)) ?_ S;rw[G];refine J _ ?_;simpa using h2
end
section
variable {P:Program} {f:Fr} {w:World} {d:Option Nat} {ty:Nat} {ps:String} {af:Array Edge} {gd:Option (Nat×Bool)}
theorem Qav {t E:Nat}{x y:Operand}{k k':IntKind}{a:Int}{n:Nat}(hx:ev f x=.int k a) (hy:ev f y=.int k' n) (G:n≤k.bits) :
  (execOp (ev f) ⟨d,.binOp .shr t x y E,ty,ps,af,gd⟩).run P w=.ok (.value (.int k (a / 2 ^ n))) w:=by
 refine Xr hx hy ?_;have h1:¬((n:Int)<0):=by omega
 simp only[binOp,Op.shift,h1,if_false,Int.toNat_natCast,Nat.min_eq_left G,Sem.run_pure];rw[Int.fdiv_eq_ediv_of_nonneg _ (Int.le_of_lt (Int.pow_pos (by decide)))]
class S3 (P:Program) (t:Nat):Prop where
 u:∃f0 f1 f2,P.underlying t=some (.struct #[f0,f1,f2])∧f0.name ≠ "_" ∧ f1.name ≠ "_" ∧ f2.name ≠ "_" ∧ f0.offset=0∧f1.offset=1∧f2.offset=2 ∧
  P.underlying f0.type=some (.int .i64)∧P.underlying f1.type=some (.int .i64)∧P.underlying f2.type=some (.int .i64)
 s:P.stoodInHeld t=false
 g:P.eqGuardType P.depth t=false
theorem Ku {t:Nat}[h:S3 P t] (w:World) (p q:Ed):(Op.equal t (.agg (Qw p).toArray) (.agg (Qw q).toArray)).run P w=.ok (decide (p=q)) w:=by
 obtain ⟨a,b,c⟩:=p;obtain ⟨T,V,Y⟩:=q;obtain ⟨f0,f1,f2,hu,J,n1,n2,S,o1,o2,G,I,u2⟩:=h.u;have ha:∀e w,P.underlying e=some (.int .i64)→(isAgg e).run P w=.ok false w:=λe w he=>by simp[isAgg,run_underlying he]
 have hp:∀e (x y z:Int) (w:World),P.underlying e=some (.int .i64)→(part e #[.int .i64 x,.int .i64 y,.int .i64 z] 0).run P w=.ok (.int .i64 x) w:=λe x y z w he=>by simp[part,ha e w he]
 have hb:∀e (x y z:Int) (w:World),P.underlying e=some (.int .i64)→(part e #[.int .i64 x,.int .i64 y,.int .i64 z] 1).run P w=.ok (.int .i64 y) w:=λe x y z w he=>by simp[part,ha e w he]
 have hc:∀e (x y z:Int) (w:World),P.underlying e=some (.int .i64)→(part e #[.int .i64 x,.int .i64 y,.int .i64 z] 2).run P w=.ok (.int .i64 z) w:=λe x y z w he=>by simp[part,ha e w he]
 have E:∀e (m:Nat) (x y:Int) (w:World),P.underlying e=some (.int .i64)→(Op.equalIn (m+1) e (.int .i64 x) (.int .i64 y)).run P w=.ok (x == y) w:=λe m x y w he=>by simp[Op.equalIn,run_underlying he]
 have key:∀m,(Op.equalIn (m+2) t (.agg (Qw (a,b,c)).toArray) (.agg (Qw (T,V,Y)).toArray)).run P w=.ok (decide ((a,b,c)=(T,V,Y))) w:=by
  intro m;simp only[Qw];unfold Op.equalIn;simp only[Sem.run_bind,run_underlying hu,Result.andThen_ok];by_cases e1:a=T
  ·subst e1;by_cases e2:b=V
   ·subst e2;by_cases e3:c=Y
    ·subst e3;simp[h.s,J,n1,n2,S,o1,o2,hp _ _ _ _ _ G,hb _ _ _ _ _ I,hc _ _ _ _ _ u2,E _ _ _ _ _ G,E _ _ _ _ _ I,E _ _ _ _ _ u2]
    simp[h.s,J,n1,n2,S,o1,o2,hp _ _ _ _ _ G,hb _ _ _ _ _ I,hc _ _ _ _ _ u2,E _ _ _ _ _ G,E _ _ _ _ _ I,E _ _ _ _ _ u2,e3]
   simp[h.s,J,n1,S,o1,hp _ _ _ _ _ G,hb _ _ _ _ _ I,E _ _ _ _ _ G,E _ _ _ _ _ I,e2]
  simp[h.s,J,S,hp _ _ _ _ _ G,E _ _ _ _ _ G,e1]
 exact key 9998
theorem Kw {t E:Nat}[h:S3 P t] {x y:Operand}{p q:Ed}(hx:ev f x=.agg (Qw p).toArray) (hy:ev f y=.agg (Qw q).toArray) :
  (execOp (ev f) ⟨d,.binOp .neq t x y E,ty,ps,af,gd⟩).run P w=.ok (.value (.bool (decide (¬p=q)))) w:=by
 have G:(eqGuard .neq t x y (.agg (Qw p).toArray) (.agg (Qw q).toArray)).run P w=.ok () w:=by simp[eqGuard,h.g]
 simp only[execOp,hx,hy,Sem.run_bind,G,Result.andThen_ok,binOp,Ku,Sem.run_pure];by_cases e:p=q <;> simp[e]
end
theorem Step.then1 {L:LN}{w0 w w':World}{b:Nat}(h:Step L w0 w) (k:Step [b] w w') (hb:w0.heap.size≤b):Step L w0 w':=h.then k (λc hc=>.inr (by simp at hc;omega))
section
variable {P:Program} {K:Fr→World→Prop} {f:Fr} {w:World} {d:Option Nat} {ty:Nat} {ps:String} {af:Array Edge} {gd:Option (Nat×Bool)}
theorem Ky {t E e sz bys:Nat}{z:Value}[h:Sl P t e sz bys z] {x y:Operand}{a:Option Addr}{n c:Nat}(hx:ev f x=.slice a n c) (hy:ev f y=nS) :
  (execOp (ev f) ⟨d,.binOp .eql t x y E,ty,ps,af,gd⟩).run P w=.ok (.value (.bool a.isNone)) w:=by
 have G:(eqGuard .eql t x y (.slice a n c) (nS)).run P w=.ok () w:=by simp[eqGuard]
 have key:∀m,(Op.equalIn (m+1) t (.slice a n c) (nS)).run P w=.ok a.isNone w:=by
  intro m;unfold Op.equalIn;cases a <;> simp[run_underlying h.u]
 have he:(Op.equal t (.slice a n c) (nS)).run P w=.ok a.isNone w:=key 9999;simp only[execOp,hx,hy,Sem.run_bind,G,Result.andThen_ok,binOp,he,Sem.run_pure]
theorem J2 {t e sz bys:Nat}{z:Value}[h:Sl P t e sz bys z]
  (E:∀b w',Step [] w w'→w.heap.size≤b→Q4 w'.heap b e []→K (QR f d (.slice (some ⟨b,0,none⟩) 0 0)) w'):XO P ⟨d,.buildSlice t 0 #[],ty,ps,af,gd⟩ f w K:=by
 obtain ⟨ie,G,hz,J,_⟩:=Sl.info h;have I:(execOp (ev f) ⟨d,.buildSlice t 0 #[],ty,ps,af,gd⟩).run P w=.ok (.value (.slice (some ⟨w.heap.size,0,none⟩) 0 0)) (w.alloc (.cells #[] e)):=by
  simp[execOp,Instr.buildSlice,run_underlying h.u,sizeOf,typeInfo,G,Instr.fill,newRow];have e0:Array.map (λ_=>(default:Value)) (Array.range 0)=#[]:=by apply Array.ext';simp
  rw[e0]
 exact xv I (E _ _ (Step.alloc w _) (Lr _) (Jw w _))
end
abbrev Qu (e base:Nat) (w:World) (v:Value) (l:LI):Prop:=w.ownsRow base e 1 v l.length (l.map (.int .i64))
theorem Qu.ints {e base:Nat}{w:World}{v:Value}{l:LI}{L:LN}(h:Qu e base w v l) (E:l.length≤1099511627776) (G:∀b∈L,b<base):QK L w.heap v l :=
 QS h E (λb hb I=>by have:=(Qn h b hb).1;have:=G b I;omega)
theorem Kz (l:LI):∀u∈l.map (Value.int .i64),u.oneCell'=true:=by
 intro u hu;obtain ⟨n,_,rfl⟩:=Ly.1 hu;rfl
section
variable {P:Program} {ops:List Oper} {K:Fr→World→Prop} {f:Fr} {w:World} {d:Option Nat} {ty:Nat} {ps:String} {af:Array Edge} {gd:Option (Nat×Bool)} {l:List Oper} {C:World→Prop} {pl:List (Nat×Bool)} {i0:Nat}
 {t e sz bys:Nat} {z:Value} {x y1 y2:Operand} {L:LN} {v:Value} {n:Nat} {cs:LV} {H:Array Obj} {k k':IntKind} {lo hi:Nat}
theorem QhM [h:Sl P t e sz bys z] (E:Q3 ops i0=⟨d,.slice t x (some y1) none none,ty,ps,af,gd⟩) (G:Zq L H v n sz cs) (hx:ev f x=v) (hl:ev f y1=.int k lo) (h1:lo≤n) (I:∀v',Zq L H v' (n - lo) sz (cs.drop (lo*sz))→XP P ops C K pl (QR f d v') w)
  (J:Z8 ops f (Q3 ops i0)=true:=by rfl):XP P ops C K ((i0,true)::pl) f w:=by
 obtain ⟨v',h2,h3⟩:=Qdd (P:=P) (d:=d) (ty:=ty) (ps:=ps) (af:=af) (gd:=gd) (t:=t) G hx hl h1;exact Lg.p (λw'=>by rw[E];exact h3 w') (by rw[E];exact I v' h2) J
theorem QjW [h:Sl P t e sz bys z] (E:Zq L H v n sz cs) (hx:ev f x=v) (hl:ev f y1=.int k lo) (G:ev f y2=.int k' hi) (h1:lo≤hi) (h2:hi≤n) (I:∀v',Zq L H v' (hi - lo) sz ((cs.drop (lo*sz)).take ((hi - lo)*sz))→XL P ops K l (QR f d v') w)
  (J:Z8 ops f ⟨d,.slice t x (some y1) (some y2) none,ty,ps,af,gd⟩=true:=by rfl):XL P ops K (⟨d,.slice t x (some y1) (some y2) none,ty,ps,af,gd⟩::l) f w:=by
 obtain ⟨v',h3,S⟩:=QfR (P:=P) (d:=d) (ty:=ty) (ps:=ps) (af:=af) (gd:=gd) (t:=t) E hx hl G h1 h2;exact xl J (xv (S w) (I v' h3))
theorem Qhu [h:Sl P t e sz bys z] (E:Zq L H v n sz cs) (hx:ev f x=v) (G:ev f y2=.int k hi) (h1:hi≤n) (I:∀v',Zq L H v' hi sz (cs.take (hi*sz))→XL P ops K l (QR f d v') w)
  (J:Z8 ops f ⟨d,.slice t x none (some y2) none,ty,ps,af,gd⟩=true:=by rfl):XL P ops K (⟨d,.slice t x none (some y2) none,ty,ps,af,gd⟩::l) f w:=by
 obtain ⟨v',h2,h3⟩:=Qde (P:=P) (d:=d) (ty:=ty) (ps:=ps) (af:=af) (gd:=gd) (t:=t) E hx G h1;exact xl J (xv (h3 w) (I v' h2))
end
theorem QK.drop {L:LN}{H:Array Obj}{v:Value}{l:LI}{lo:Nat}(h:Zq L H v (l.length - lo) 1 ((l.map (Value.int .i64)).drop (lo*1))):QK L H v (l.drop lo):=by
 rw[Nat.mul_one,←List.map_drop] at h;have e:(l.drop lo).length=l.length - lo:=L6;unfold QK;rw[e];exact h
theorem Qu.snoc {e base:Nat}{w:World}{v:Value}{l:LI}{n:Int}(h:w.ownsRow base e 1 v (l.length+1) (l.map (Value.int .i64)++[.int .i64 n])):Qu e base w v (l++[n]):=by
 unfold Qu;rw[Lk,Lt];exact h
def Dj (u v:Value):Prop:=∀b∈ob u,b∉ob v
theorem Dj.symm {u v:Value}(h:Dj u v):Dj v u:=λb hb hu=>h b hu hb
theorem Dj.nil (v:Value):Dj (nS) v:=λb hb=>by simp[ob] at hb
theorem Dj.nil' (v:Value):Dj v (nS):=(Dj.nil v).symm
theorem Dj.grow {u v v':Value}{N:Nat}(h:Dj u v) (E:∀b∈ob v',b∈ob v∨N≤b) (hu:∀b∈ob u,b<N):Dj u v' :=
 λb hb G=>by rcases E b G with h1 | h1;exact h b hb h1;have:=hu b hb;omega
theorem QO {w:World}{base e sz n:Nat}{v:Value}{cs:LV}(h:w.ownsRow base e sz v n cs):∀b∈ob v,b<w.heap.size:=λb hb=>(Qn h b hb).2
theorem QU {w:World}{base e sz n:Nat}{v:Value}{cs:LV}(h:w.ownsRow base e sz v n cs) {b:Nat}(hb:b<base):b∉ob v:=λhm=>by have:=(Qn h b hm).1;omega
abbrev Ye (e base:Nat) (w:World) (v:Value) (l:List Ed):Prop:=w.ownsRow base e 3 v l.length (l.flatMap Qw)
theorem Ye.snoc {e base:Nat}{w:World}{v:Value}{l:List Ed}{n:Ed}(h:w.ownsRow base e 3 v (l.length+1) (l.flatMap Qw++Qw n)):Ye e base w v (l++[n]):=by
 unfold Ye;rw[Lk,LA];simpa using h
theorem Ye.eds {e base:Nat}{w:World}{v:Value}{l:List Ed}{L:LN}(h:Ye e base w v l) (E:l.length≤1099511627776) (G:∀b∈L,b<base):UJ L w.heap v l :=
 QS h E (λb hb I=>by have:=(Qn h b hb).1;have:=G b I;omega)
def YY (N:Nat) (H:Array Obj) (v:Value) (a:QP):Prop:=∃va vm ve,v=.agg #[va,.int .i64 a.st,vm,ve]∧∀L:LN,(∀b∈L,b<N)→Zu L H va vm ve a
theorem YY.v {N:Nat}{H:Array Obj}{v:Value}{a:QP}(h:YY N H v a) {L:LN}(E:∀b∈L,b<N):Qkt L H v a:=let ⟨va,vm,ve,h1,h2⟩:=h;⟨va,vm,ve,h1,h2 L E⟩
theorem YY.ext {N:Nat}{w w':World}{v:Value}{a:QP}(h:YY N w.heap v a) (hs:Step [] w w'):YY N w'.heap v a:=let ⟨va,vm,ve,h1,h2⟩:=h;⟨va,vm,ve,h1,λL E=>(h2 L E).ext hs⟩
theorem YY.mono {N M:Nat}{H:Array Obj}{v:Value}{a:QP}(h:YY N H v a) (E:M≤N):YY M H v a:=let ⟨va,vm,ve,h1,h2⟩:=h;⟨va,vm,ve,h1,λL G=>h2 L (λb hb=>LX (G b hb) E)⟩
section
variable {P:Program} {K:Fr→World→Prop} {f:Fr} {w:World} {d:Option Nat} {ty:Nat} {ps:String} {af:Array Edge} {gd:Option (Nat×Bool)}
theorem VM {t:Nat}[XS P t] {x:Operand}{b T i:Nat}{l:LI}(h:Q4 w.heap b T (l.map (.int .i64))) (hx:ev f x=.pointer (some ⟨b,0+i*1,none⟩)) (hi:i<l.length) :
  (execOp (ev f) ⟨d,.load t x,ty,ps,af,gd⟩).run P w=.ok (.value (.int .i64 l[i])) w:=Qd h hx (by simp[hi])
theorem XG {t:Nat}[h1:XS P t] {x y:Operand}{b T i:Nat}{l:LI}{u:Int}(E:Q4 w.heap b T (l.map (.int .i64))) (hx:ev f x=.pointer (some ⟨b,0+i*1,none⟩)) (hy:ev f y=.int .i64 u) (hi:i<l.length)
  (G:∀w',Step [b] w w'→Q4 w'.heap b T ((l.set i u).map (.int .i64))→K (QR f d undef) w'):XO P ⟨d,.store t x y,ty,ps,af,gd⟩ f w K:=by
 refine QL E hx hy (by simpa using hi) rfl λw' hs I=>G w' hs ?_;rw[List.map_set];simpa using I
end
theorem yc (n:Nat) (u:Value):(List.replicate n [u]).flatten=List.replicate n u:=by
 induction n with
 | zero=>rfl
 | succ n ih=>simp[List.replicate_succ,ih]
end Go.Lg
namespace Go.Proofs
open Go.Proofs.Tryz
open Go.Lg
instance:Sl prog 37 3 1 8 (.int .i64 0):=⟨underlying37,by kernel_rfl,O,by decide⟩
instance:Sl prog 42 87 5 32 (.agg #[.string ByteArray.empty,.bool false,.bool false,.bool false,.int .i64 0]):=⟨underlying42,by kernel_rfl,O,by decide⟩
instance:Sl prog 43 66 5 96 (.agg #[.string ByteArray.empty,nS,.int .i64 0,nS,nS]):=⟨underlying43,by kernel_rfl,O,by decide⟩
instance:Sl prog 44 122 2 40 (.agg #[.string ByteArray.empty,nS]):=⟨underlying44,by kernel_rfl,O,by decide⟩
instance:Sl prog 45 127 3 48 (.agg #[.string ByteArray.empty,nS,.int .i64 0]):=⟨underlying45,by kernel_rfl,O,by decide⟩
instance:Sl prog 50 39 3 40 (.agg #[.int .i64 0,.int .i64 0,nS]):=⟨underlying50,by kernel_rfl,O,by decide⟩
instance:Sl prog 56 144 3 24 (.agg #[.int .i64 0,.int .i64 0,.int .i64 0]):=⟨underlying56,by kernel_rfl,O,by decide⟩
instance:Sl prog 67 58 4 80 (.agg #[nS,.int .i64 0,nS,nS]):=⟨underlying67,by kernel_rfl,O,by decide⟩
instance:Sl prog 73 5 1 1 (.int .u8 0):=⟨underlying73,by kernel_rfl,O,by decide⟩
instance:Sl prog 74 37 1 24 (nS):=⟨underlying74,by kernel_rfl,O,by decide⟩
instance:Sl prog 75 83 4 32 (.agg #[.int .i64 0,.int .i64 0,.int .i64 0,.int .i64 0]):=⟨underlying75,by kernel_rfl,O,by decide⟩
instance:Sl prog 120 124 2 16 (.agg #[.int .i64 0,.int .i64 0]):=⟨underlying120,by kernel_rfl,O,by decide⟩
instance:Sl prog 125 129 2 16 (.agg #[.int .i64 0,.int .i64 0]):=⟨underlying125,by kernel_rfl,O,by decide⟩
instance:Sl prog 132 137 3 24 (.agg #[.int .i64 0,.int .i64 0,.nilFunc]):=⟨underlying132,by kernel_rfl,O,by decide⟩
instance:Sl prog 166 320 4 32 (.agg #[.int .i64 0,.int .i64 0,.int .i64 0,.int .i64 0]):=⟨underlying166,by kernel_rfl,O,by decide⟩
instance:Sl prog 174 173 2 32 (.agg #[nS,.int .i64 0]):=⟨underlying174,by kernel_rfl,O,by decide⟩
instance:Sl prog 190 43 1 24 (nS):=⟨underlying190,by kernel_rfl,O,by decide⟩
instance:Sl prog 196 140 1 2 (.int .u16 0):=⟨underlying196,by kernel_rfl,O,by decide⟩
instance:Sl prog 198 200 2 32 (.agg #[nS,.int .u16 0]):=⟨underlying198,by kernel_rfl,O,by decide⟩
instance:Sl prog 241 225 1 8 (.map none):=⟨underlying241,by kernel_rfl,O,by decide⟩
instance:Sl prog 260 313 1 8 (.nilFunc):=⟨underlying260,by kernel_rfl,O,by decide⟩
instance:Sl prog 283 4 1 1 (.bool false):=⟨underlying283,by kernel_rfl,O,by decide⟩
instance:Sl prog 371 56 1 24 (nS):=⟨underlying371,by kernel_rfl,O,by decide⟩
instance:Sl prog 385 384 2 32 (.agg #[nS,.int .i64 0]):=⟨underlying385,by kernel_rfl,O,by decide⟩
instance:Zj prog 39 0 0:=⟨by kernel_rfl⟩
instance:Zj prog 39 1 1:=⟨by kernel_rfl⟩
instance:Zj prog 39 2 2:=⟨by kernel_rfl⟩
instance:Zj prog 47 0 0:=⟨by kernel_rfl⟩
instance:Zj prog 47 1 1:=⟨by kernel_rfl⟩
instance:Zj prog 47 2 2:=⟨by kernel_rfl⟩
instance:Zj prog 47 3 3:=⟨by kernel_rfl⟩
instance:Zj prog 47 4 4:=⟨by kernel_rfl⟩
instance:Zj prog 58 0 0:=⟨by kernel_rfl⟩
instance:Zj prog 58 1 1:=⟨by kernel_rfl⟩
instance:Zj prog 58 2 2:=⟨by kernel_rfl⟩
instance:Zj prog 58 3 3:=⟨by kernel_rfl⟩
instance:Zj prog 66 0 0:=⟨by kernel_rfl⟩
instance:Zj prog 66 1 1:=⟨by kernel_rfl⟩
instance:Zj prog 77 0 0:=⟨by kernel_rfl⟩
instance:Zj prog 77 1 4:=⟨by kernel_rfl⟩
instance:Zj prog 77 2 5:=⟨by kernel_rfl⟩
instance:Zj prog 77 3 6:=⟨by kernel_rfl⟩
instance:Zj prog 77 4 7:=⟨by kernel_rfl⟩
instance:Zj prog 83 0 0:=⟨by kernel_rfl⟩
instance:Zj prog 87 0 0:=⟨by kernel_rfl⟩
instance:Zj prog 87 1 1:=⟨by kernel_rfl⟩
instance:Zj prog 87 2 2:=⟨by kernel_rfl⟩
instance:Zj prog 87 4 4:=⟨by kernel_rfl⟩
instance:Zj prog 95 0 0:=⟨by kernel_rfl⟩
instance:Zj prog 95 1 1:=⟨by kernel_rfl⟩
instance:Zj prog 95 2 2:=⟨by kernel_rfl⟩
instance:Zj prog 95 3 3:=⟨by kernel_rfl⟩
instance:Zj prog 122 0 0:=⟨by kernel_rfl⟩
instance:Zj prog 122 1 1:=⟨by kernel_rfl⟩
instance:Zj prog 124 0 0:=⟨by kernel_rfl⟩
instance:Zj prog 124 1 1:=⟨by kernel_rfl⟩
instance:Zj prog 127 0 0:=⟨by kernel_rfl⟩
instance:Zj prog 127 1 1:=⟨by kernel_rfl⟩
instance:Zj prog 127 2 2:=⟨by kernel_rfl⟩
instance:Zj prog 129 0 0:=⟨by kernel_rfl⟩
instance:Zj prog 129 1 1:=⟨by kernel_rfl⟩
instance:Zj prog 137 0 0:=⟨by kernel_rfl⟩
instance:Zj prog 137 1 1:=⟨by kernel_rfl⟩
instance:Zj prog 137 2 2:=⟨by kernel_rfl⟩
instance:Zj prog 144 0 0:=⟨by kernel_rfl⟩
instance:Zj prog 144 1 1:=⟨by kernel_rfl⟩
instance:Zj prog 144 2 2:=⟨by kernel_rfl⟩
instance:Zj prog 151 0 0:=⟨by kernel_rfl⟩
instance:Zj prog 151 1 1:=⟨by kernel_rfl⟩
instance:Zj prog 151 2 2:=⟨by kernel_rfl⟩
instance:Zj prog 154 0 0:=⟨by kernel_rfl⟩
instance:Zj prog 154 1 5:=⟨by kernel_rfl⟩
instance:Zj prog 154 2 9:=⟨by kernel_rfl⟩
instance:Zj prog 154 3 10:=⟨by kernel_rfl⟩
instance:Zj prog 154 4 14:=⟨by kernel_rfl⟩
instance:Zj prog 154 5 15:=⟨by kernel_rfl⟩
instance:Zj prog 154 6 18:=⟨by kernel_rfl⟩
instance:Zj prog 168 0 0:=⟨by kernel_rfl⟩
instance:Zj prog 168 1 1:=⟨by kernel_rfl⟩
instance:Zj prog 168 2 2:=⟨by kernel_rfl⟩
instance:Zj prog 170 0 0:=⟨by kernel_rfl⟩
instance:Zj prog 170 1 3:=⟨by kernel_rfl⟩
instance:Zj prog 170 2 4:=⟨by kernel_rfl⟩
instance:Zj prog 170 3 8:=⟨by kernel_rfl⟩
instance:Zj prog 173 0 0:=⟨by kernel_rfl⟩
instance:Zj prog 173 1 1:=⟨by kernel_rfl⟩
instance:Zj prog 200 0 0:=⟨by kernel_rfl⟩
instance:Zj prog 200 1 1:=⟨by kernel_rfl⟩
instance:Zj prog 243 0 0:=⟨by kernel_rfl⟩
instance:Zj prog 243 1 1:=⟨by kernel_rfl⟩
instance:Zj prog 243 2 2:=⟨by kernel_rfl⟩
instance:Zj prog 251 0 0:=⟨by kernel_rfl⟩
instance:Zj prog 251 1 1:=⟨by kernel_rfl⟩
instance:Zj prog 320 0 0:=⟨by kernel_rfl⟩
instance:Zj prog 324 0 0:=⟨by kernel_rfl⟩
instance:Zj prog 324 1 4:=⟨by kernel_rfl⟩
instance:Zj prog 324 2 5:=⟨by kernel_rfl⟩
instance:Zj prog 324 3 6:=⟨by kernel_rfl⟩
instance:Zj prog 384 0 0:=⟨by kernel_rfl⟩
instance:Zj prog 384 1 1:=⟨by kernel_rfl⟩
instance:XS prog 3:=⟨⟨_,underlying3,O⟩,by kernel_rfl⟩
instance:XS prog 4:=⟨⟨_,underlying4,O⟩,by kernel_rfl⟩
instance:XS prog 9:=⟨⟨_,underlying9,O⟩,by kernel_rfl⟩
instance:XS prog 37:=⟨⟨_,underlying37,O⟩,by kernel_rfl⟩
instance:XS prog 42:=⟨⟨_,underlying42,O⟩,by kernel_rfl⟩
instance:XS prog 43:=⟨⟨_,underlying43,O⟩,by kernel_rfl⟩
instance:XS prog 44:=⟨⟨_,underlying44,O⟩,by kernel_rfl⟩
instance:XS prog 45:=⟨⟨_,underlying45,O⟩,by kernel_rfl⟩
instance:XS prog 49:=⟨⟨_,underlying49,O⟩,by kernel_rfl⟩
instance:XS prog 56:=⟨⟨_,underlying56,O⟩,by kernel_rfl⟩
instance:XS prog 67:=⟨⟨_,underlying67,O⟩,by kernel_rfl⟩
instance:XS prog 73:=⟨⟨_,underlying73,O⟩,by kernel_rfl⟩
instance:XS prog 74:=⟨⟨_,underlying74,O⟩,by kernel_rfl⟩
instance:XS prog 75:=⟨⟨_,underlying75,O⟩,by kernel_rfl⟩
instance:XS prog 120:=⟨⟨_,underlying120,O⟩,by kernel_rfl⟩
instance:XS prog 125:=⟨⟨_,underlying125,O⟩,by kernel_rfl⟩
instance:XS prog 135:=⟨⟨_,underlying135,O⟩,by kernel_rfl⟩
instance:XS prog 140:=⟨⟨_,underlying140,O⟩,by kernel_rfl⟩
instance:XS prog 147:=⟨⟨_,underlying147,O⟩,by kernel_rfl⟩
instance:XS prog 152:=⟨⟨_,underlying152,O⟩,by kernel_rfl⟩
instance:XS prog 166:=⟨⟨_,underlying166,O⟩,by kernel_rfl⟩
instance:XS prog 225:=⟨⟨_,underlying225,O⟩,by kernel_rfl⟩
instance:XS prog 241:=⟨⟨_,underlying241,O⟩,by kernel_rfl⟩
instance:XS prog 249:=⟨⟨_,underlying249,O⟩,by kernel_rfl⟩
instance:XS prog 283:=⟨⟨_,underlying283,O⟩,by kernel_rfl⟩
instance:XS prog 313:=⟨⟨_,underlying313,O⟩,by kernel_rfl⟩
instance:XS prog 322:=⟨⟨_,underlying322,O⟩,by kernel_rfl⟩
instance:Ag prog 39 3:=⟨⟨_,underlying39,O⟩,by kernel_rfl⟩
instance:Ag prog 47 5:=⟨⟨_,underlying47,O⟩,by kernel_rfl⟩
instance:Ag prog 58 4:=⟨⟨_,underlying58,O⟩,by kernel_rfl⟩
instance:Ag prog 66 5:=⟨⟨_,underlying66,O⟩,by kernel_rfl⟩
instance:Ag prog 77 8:=⟨⟨_,underlying77,O⟩,by kernel_rfl⟩
instance:Ag prog 83 4:=⟨⟨_,underlying83,O⟩,by kernel_rfl⟩
instance:Ag prog 87 5:=⟨⟨_,underlying87,O⟩,by kernel_rfl⟩
instance:Ag prog 95 4:=⟨⟨_,underlying95,O⟩,by kernel_rfl⟩
instance:Ag prog 122 2:=⟨⟨_,underlying122,O⟩,by kernel_rfl⟩
instance:Ag prog 124 2:=⟨⟨_,underlying124,O⟩,by kernel_rfl⟩
instance:Ag prog 127 3:=⟨⟨_,underlying127,O⟩,by kernel_rfl⟩
instance:Ag prog 129 2:=⟨⟨_,underlying129,O⟩,by kernel_rfl⟩
instance:Ag prog 137 3:=⟨⟨_,underlying137,O⟩,by kernel_rfl⟩
instance:Ag prog 144 3:=⟨⟨_,underlying144,O⟩,by kernel_rfl⟩
instance:Ag prog 151 3:=⟨⟨_,underlying151,O⟩,by kernel_rfl⟩
instance:Ag prog 170 9:=⟨⟨_,underlying170,O⟩,by kernel_rfl⟩
instance:Ag prog 173 2:=⟨⟨_,underlying173,O⟩,by kernel_rfl⟩
instance:Ag prog 200 2:=⟨⟨_,underlying200,O⟩,by kernel_rfl⟩
instance:Ag prog 243 3:=⟨⟨_,underlying243,O⟩,by kernel_rfl⟩
instance:Ag prog 320 4:=⟨⟨_,underlying320,O⟩,by kernel_rfl⟩
instance:Ag prog 384 2:=⟨⟨_,underlying384,O⟩,by kernel_rfl⟩
instance:Ze prog 3 (.int .i64 0):=⟨by kernel_rfl⟩
instance:Ze prog 4 (.bool false):=⟨by kernel_rfl⟩
instance:Ze prog 39 (.agg #[.int .i64 0,.int .i64 0,nS]):=⟨by kernel_rfl⟩
instance:Ze prog 47 (.agg #[nS,nS,nS,nS,nS]):=⟨by kernel_rfl⟩
instance:Ze prog 49 (.int .i64 0):=⟨by kernel_rfl⟩
instance:Ze prog 58 (.agg #[nS,.int .i64 0,nS,nS]):=⟨by kernel_rfl⟩
instance:Ze prog 66 (.agg #[.string ByteArray.empty,nS,.int .i64 0,nS,nS]):=⟨by kernel_rfl⟩
instance:Ze prog 77 (.agg #[nS,.int .i64 0,nS,nS,nS,nS,nS,nS]):=⟨by kernel_rfl⟩
instance:Ze prog 83 (.agg #[.int .i64 0,.int .i64 0,.int .i64 0,.int .i64 0]):=⟨by kernel_rfl⟩
instance:Ze prog 87 (.agg #[.string ByteArray.empty,.bool false,.bool false,.bool false,.int .i64 0]):=⟨by kernel_rfl⟩
instance:Ze prog 95 (.agg #[nS,nS,nS,nS]):=⟨by kernel_rfl⟩
instance:Ze prog 122 (.agg #[.string ByteArray.empty,nS]):=⟨by kernel_rfl⟩
instance:Ze prog 124 (.agg #[.int .i64 0,.int .i64 0]):=⟨by kernel_rfl⟩
instance:Ze prog 127 (.agg #[.string ByteArray.empty,nS,.int .i64 0]):=⟨by kernel_rfl⟩
instance:Ze prog 129 (.agg #[.int .i64 0,.int .i64 0]):=⟨by kernel_rfl⟩
instance:Ze prog 137 (.agg #[.int .i64 0,.int .i64 0,.nilFunc]):=⟨by kernel_rfl⟩
instance:Ze prog 144 (.agg #[.int .i64 0,.int .i64 0,.int .i64 0]):=⟨by kernel_rfl⟩
instance:Ze prog 151 (.agg #[nS,nS,nS]):=⟨by kernel_rfl⟩
instance:Ze prog 170 (.agg #[nS,nS,nS,.int .i64 0,nS,.int .i64 0,nS,nS,nS]):=⟨by kernel_rfl⟩
instance:Ze prog 173 (.agg #[nS,.int .i64 0]):=⟨by kernel_rfl⟩
instance:Ze prog 200 (.agg #[nS,.int .u16 0]):=⟨by kernel_rfl⟩
instance:Ze prog 243 (.agg #[nS,nS,nS]):=⟨by kernel_rfl⟩
instance:Ze prog 251 (.agg #[.pointer none,nS]):=⟨by kernel_rfl⟩
instance:Ze prog 320 (.agg #[.int .i64 0,.int .i64 0,.int .i64 0,.int .i64 0]):=⟨by kernel_rfl⟩
instance:Ze prog 384 (.agg #[nS,.int .i64 0]):=⟨by kernel_rfl⟩
instance:Bs prog 39 [.int .i64 0,.int .i64 0,nS] [0,1,2]:=⟨by kernel_rfl,by decide⟩
instance:Bs prog 47 [nS,nS,nS,nS,nS] [0,1,2,3,4]:=⟨by kernel_rfl,by decide⟩
instance:Bs prog 58 [nS,.int .i64 0,nS,nS] [0,1,2,3]:=⟨by kernel_rfl,by decide⟩
instance:Bs prog 83 [.int .i64 0,.int .i64 0,.int .i64 0,.int .i64 0] [0,1,2,3]:=⟨by kernel_rfl,by decide⟩
instance:Bs prog 87 [.string ByteArray.empty,.bool false,.bool false,.bool false,.int .i64 0] [0,1,2,3,4]:=⟨by kernel_rfl,by decide⟩
instance:Bs prog 95 [nS,nS,nS,nS] [0,1,2,3]:=⟨by kernel_rfl,by decide⟩
instance:Bs prog 122 [.string ByteArray.empty,nS] [0,1]:=⟨by kernel_rfl,by decide⟩
instance:Bs prog 124 [.int .i64 0,.int .i64 0] [0,1]:=⟨by kernel_rfl,by decide⟩
instance:Bs prog 127 [.string ByteArray.empty,nS,.int .i64 0] [0,1,2]:=⟨by kernel_rfl,by decide⟩
instance:Bs prog 129 [.int .i64 0,.int .i64 0] [0,1]:=⟨by kernel_rfl,by decide⟩
instance:Bs prog 137 [.int .i64 0,.int .i64 0,.nilFunc] [0,1,2]:=⟨by kernel_rfl,by decide⟩
instance:Bs prog 144 [.int .i64 0,.int .i64 0,.int .i64 0] [0,1,2]:=⟨by kernel_rfl,by decide⟩
instance:Bs prog 151 [nS,nS,nS] [0,1,2]:=⟨by kernel_rfl,by decide⟩
instance:Bs prog 173 [nS,.int .i64 0] [0,1]:=⟨by kernel_rfl,by decide⟩
instance:Bs prog 200 [nS,.int .u16 0] [0,1]:=⟨by kernel_rfl,by decide⟩
instance:Bs prog 227 [.int .i64 0,.int .i64 0] [0,1]:=⟨by kernel_rfl,by decide⟩
instance:Bs prog 243 [nS,nS,nS] [0,1,2]:=⟨by kernel_rfl,by decide⟩
instance:Bs prog 320 [.int .i64 0,.int .i64 0,.int .i64 0,.int .i64 0] [0,1,2,3]:=⟨by kernel_rfl,by decide⟩
instance:Bs prog 384 [nS,.int .i64 0] [0,1]:=⟨by kernel_rfl,by decide⟩
instance:Ik prog 3 .i64:=⟨underlying3⟩
instance:St prog 9:=⟨underlying9⟩
instance:Ik prog 21 .i32:=⟨underlying21⟩
instance:Ik prog 269 .u64:=⟨underlying269⟩
instance:S3 prog 144:=⟨⟨_,_,_,underlying144,by decide,by decide,by decide,O,O,O,underlying3,underlying3,underlying3⟩,by kernel_rfl,by kernel_rfl⟩
instance:Mp prog 152 9 3 (.int .i64 0):=⟨underlying152,by kernel_rfl⟩
instance:Key prog 9 Y7:=Qgc underlying9
instance:Mp prog 192 9 4 (.bool false):=⟨underlying192,by kernel_rfl⟩
instance:Mp prog 214 3 213 (.nilFunc):=⟨underlying214,by kernel_rfl⟩
instance:Key prog 3 J4:=Qgd underlying3
instance:Mp prog 225 227 3 (.int .i64 0):=⟨underlying225,by kernel_rfl⟩
instance:Key prog 227 YQ:=QdM underlying227 underlying3 (by kernel_rfl)
instance:Mp prog 302 3 3 (.int .i64 0):=⟨underlying302,by kernel_rfl⟩
instance:Mp prog 322 3 37 (nS):=⟨underlying322,by kernel_rfl⟩
instance:Fu prog 12 Tryz.f12:=Zg func12
instance:Fu prog 16 Tryz.f16:=Zg func16
instance:Fu prog 17 Tryz.f17:=Zg func17
instance:Fu prog 18 Tryz.f18:=Zg func18
instance:Fu prog 19 Tryz.f19:=Zg func19
instance:Fu prog 20 Tryz.f20:=Zg func20
instance:Fu prog 22 Tryz.f22:=Zg func22
instance:Fu prog 23 Tryz.f23:=Zg func23
instance:Fu prog 25 Tryz.f25:=Zg func25
instance:Fu prog 26 Tryz.f26:=Zg func26
instance:Fu prog 27 Tryz.f27:=Zg func27
instance:Fu prog 28 Tryz.f28:=Zg func28
instance:Fu prog 29 Tryz.f29:=Zg func29
instance:Fu prog 30 Tryz.f30:=Zg func30
instance:Fu prog 31 Tryz.f31:=Zg func31
instance:Fu prog 32 Tryz.f32:=Zg func32
instance:Fu prog 33 Tryz.f33:=Zg func33
instance:Fu prog 36 Tryz.f36:=Zg func36
instance:Fu prog 37 Tryz.f37:=Zg func37
instance:Fu prog 38 Tryz.f38:=Zg func38
instance:Fu prog 39 Tryz.f39:=Zg func39
instance:Fu prog 41 Tryz.f41:=Zg func41
instance:Fu prog 44 Tryz.f44:=Zg func44
instance:Fu prog 49 Tryz.f49:=Zg func49
instance:Fu prog 50 Tryz.f50:=Zg func50
instance:Fu prog 57 Tryz.f57:=Zg func57
instance:Fu prog 61 Tryz.f61:=Zg func61
instance:Fu prog 62 Tryz.f62:=Zg func62
instance:Fu prog 63 Tryz.f63:=Zg func63
instance:Fu prog 64 Tryz.f64:=Zg func64
instance:Fu prog 65 Tryz.f65:=Zg func65
instance:Fu prog 66 Tryz.f66:=Zg func66
instance:Fu prog 67 Tryz.f67:=Zg func67
instance:Fu prog 68 Tryz.f68:=Zg func68
instance:Fu prog 69 Tryz.f69:=Zg func69
instance:Fu prog 70 Tryz.f70:=Zg func70
instance:Fu prog 71 Tryz.f71:=Zg func71
instance:Fu prog 72 Tryz.f72:=Zg func72
instance:Fu prog 73 Tryz.f73:=Zg func73
instance:Fu prog 74 Tryz.f74:=Zg func74
instance:Fu prog 75 Tryz.f75:=Zg func75
instance:Fu prog 76 Tryz.f76:=Zg func76
instance:Fu prog 77 Tryz.f77:=Zg func77
instance:Fu prog 78 Tryz.f78:=Zg func78
instance:Fu prog 79 Tryz.f79:=Zg func79
instance:Fu prog 80 Tryz.f80:=Zg func80
instance:Fu prog 81 Tryz.f81:=Zg func81
instance:Fu prog 82 Tryz.f82:=Zg func82
instance:Fu prog 83 Tryz.f83:=Zg func83
instance:Fu prog 84 Tryz.f84:=Zg func84
instance:Fu prog 94 Tryz.f94:=Zg func94
instance:Fu prog 95 Tryz.f95:=Zg func95
instance:Fu prog 96 Tryz.f96:=Zg func96
instance:Fu prog 97 Tryz.f97:=Zg func97
instance:Fu prog 98 Tryz.f98:=Zg func98
instance:Fu prog 99 Tryz.f99:=Zg func99
instance:Fu prog 100 Tryz.f100:=Zg func100
instance:Fu prog 101 Tryz.f101:=Zg func101
instance:Fu prog 102 Tryz.f102:=Zg func102
instance:Fu prog 109 Tryz.f109:=Zg func109
instance:Fu prog 114 Tryz.f114:=Zg func114
instance:Fu prog 118 Tryz.f118:=Zg func118
instance:Fu prog 123 Tryz.f123:=Zg func123
instance:Fu prog 126 Tryz.f126:=Zg func126
instance:Fu prog 127 Tryz.f127:=Zg func127
instance:Fu prog 128 Tryz.f128:=Zg func128
instance:Fu prog 131 Tryz.f131:=Zg func131
instance:Fu prog 132 Tryz.f132:=Zg func132
instance:Fu prog 134 Tryz.f134:=Zg func134
instance:Fu prog 135 Tryz.f135:=Zg func135
instance:Fu prog 136 Tryz.f136:=Zg func136
instance:Fu prog 137 Tryz.f137:=Zg func137
instance:Fu prog 138 Tryz.f138:=Zg func138
instance:Fu prog 139 Tryz.f139:=Zg func139
instance:Fu prog 140 Tryz.f140:=Zg func140
instance:Fu prog 141 Tryz.f141:=Zg func141
instance:Fu prog 142 Tryz.f142:=Zg func142
instance:Fu prog 143 Tryz.f143:=Zg func143
instance:Fu prog 144 Tryz.f144:=Zg func144
instance:Fu prog 145 Tryz.f145:=Zg func145
instance:Fu prog 146 Tryz.f146:=Zg func146
instance:Fu prog 147 Tryz.f147:=Zg func147
instance:Fu prog 148 Tryz.f148:=Zg func148
instance:Fu prog 149 Tryz.f149:=Zg func149
instance:Fu prog 150 Tryz.f150:=Zg func150
instance:Fu prog 151 Tryz.f151:=Zg func151
instance:Fu prog 152 Tryz.f152:=Zg func152
instance:Fu prog 153 Tryz.f153:=Zg func153
instance:Fu prog 154 Tryz.f154:=Zg func154
instance:Fu prog 155 Tryz.f155:=Zg func155
instance:Fu prog 156 Tryz.f156:=Zg func156
instance:Fu prog 157 Tryz.f157:=Zg func157
instance:Fu prog 158 Tryz.f158:=Zg func158
instance:Fu prog 159 Tryz.f159:=Zg func159
instance:Fu prog 160 Tryz.f160:=Zg func160
instance:Fu prog 161 Tryz.f161:=Zg func161
instance:Fu prog 162 Tryz.f162:=Zg func162
instance:Fu prog 163 Tryz.f163:=Zg func163
instance:Fu prog 164 Tryz.f164:=Zg func164
instance:Fu prog 165 Tryz.f165:=Zg func165
instance:Fu prog 166 Tryz.f166:=Zg func166
instance:Fu prog 167 Tryz.f167:=Zg func167
instance:Fu prog 168 Tryz.f168:=Zg func168
instance:Fu prog 169 Tryz.f169:=Zg func169
instance:Fu prog 170 Tryz.f170:=Zg func170
instance:Fu prog 171 Tryz.f171:=Zg func171
instance:Fu prog 172 Tryz.f172:=Zg func172
instance:Fu prog 173 Tryz.f173:=Zg func173
instance:Fu prog 174 Tryz.f174:=Zg func174
instance:Fu prog 185 Tryz.f185:=Zg func185
instance:Fu prog 194 Tryz.f194:=Zg func194
instance:Fu prog 195 Tryz.f195:=Zg func195
instance:Fu prog 196 Tryz.f196:=Zg func196
instance:Fu prog 197 Tryz.f197:=Zg func197
instance:Fu prog 198 Tryz.f198:=Zg func198
instance:Fu prog 199 Tryz.f199:=Zg func199
instance:Fu prog 200 Tryz.f200:=Zg func200
instance:Fu prog 202 Tryz.f202:=Zg func202
instance:Fu prog 203 Tryz.f203:=Zg func203
instance:Fu prog 204 Tryz.f204:=Zg func204
instance:Fu prog 206 Tryz.f206:=Zg func206
instance:Fu prog 207 Tryz.f207:=Zg func207
instance:Fu prog 208 Tryz.f208:=Zg func208
instance:Fu prog 209 Tryz.f209:=Zg func209
instance:Fu prog 210 Tryz.f210:=Zg func210
instance:Fu prog 211 Tryz.f211:=Zg func211
instance:Fu prog 212 Tryz.f212:=Zg func212
instance:Fu prog 213 Tryz.f213:=Zg func213
instance:Fu prog 214 Tryz.f214:=Zg func214
instance:Fu prog 215 Tryz.f215:=Zg func215
instance:Fu prog 217 Tryz.f217:=Zg func217
instance:Fu prog 218 Tryz.f218:=Zg func218
instance:Fu prog 219 Tryz.f219:=Zg func219
instance:Fu prog 220 Tryz.f220:=Zg func220
instance:Fu prog 244 Tryz.f244:=Zg func244
instance:Fu prog 245 Tryz.f245:=Zg func245
instance:Fu prog 247 Tryz.f247:=Zg func247
instance:Fu prog 248 Tryz.f248:=Zg func248
instance:Fu prog 249 Tryz.f249:=Zg func249
instance:Fu prog 250 Tryz.f250:=Zg func250
instance:Fu prog 251 Tryz.f251:=Zg func251
instance:Fu prog 252 Tryz.f252:=Zg func252
instance:Fu prog 253 Tryz.f253:=Zg func253
instance:Fu prog 254 Tryz.f254:=Zg func254
instance:Fu prog 255 Tryz.f255:=Zg func255
instance:Fu prog 256 Tryz.f256:=Zg func256
instance:Fu prog 259 Tryz.f259:=Zg func259
instance:Fu prog 260 Tryz.f260:=Zg func260
instance:Fu prog 261 Tryz.f261:=Zg func261
instance:Fu prog 262 Tryz.f262:=Zg func262
instance:Fu prog 263 Tryz.f263:=Zg func263
instance:Fu prog 264 Tryz.f264:=Zg func264
instance:Fu prog 265 Tryz.f265:=Zg func265
instance:Fu prog 278 Tryz.f278:=Zg func278
instance:Fu prog 279 Tryz.f279:=Zg func279
instance:Fu prog 280 Tryz.f280:=Zg func280
instance:Fu prog 281 Tryz.f281:=Zg func281
instance:Fu prog 282 Tryz.f282:=Zg func282
instance:Fu prog 287 Tryz.f287:=Zg func287
instance:Fu prog 306 Tryz.f306:=Zg func306
instance:Fu prog 307 Tryz.f307:=Zg func307
instance:Fu prog 319 Tryz.f319:=Zg func319
theorem mixed:prog.follows .mixedOrders=true:=by kernel_rfl
end Go.Proofs
namespace Go.Proofs.YtdffckgdcegpaaaGreatDoor
open Go.Lg
def nxt (E:List Ed) (s e:Int):Int:=match E with
 | []=>-1
 | x::E=>if x.1=s∧x.2.1=e then x.2.2 else nxt E s e
abbrev YX (l:LI):Prop:=l.Pairwise (·<·)
def zo:Option Int→Int→Bool
 | none,_=>false
 | some b,a=>decide (a≤b)
def Xi (n:Int):Option Int→LI→Int
 | _,[]=>0
 | pr,a::l=>if a<0∨n≤a then 2 else if zo pr a=true then 5 else Xi n (some a) l
def pv {α:Type}(l:List α) (k:Nat):Option α:=if k=0 then none else l[k - 1]?
theorem XZ {α:Type}{l:List α}{k:Nat}(h:k<l.length):pv l (k+1)=some l[k]:=by simp[pv,h]
def edO:Option Ed→Ed→Bool
 | none,_=>false
 | some y,a=>decide (a.1<y.1∨(a.1=y.1∧a.2.1≤y.2.1))
def ckE (al:LI) (st:Int):Option Ed→List Ed→Int
 | _,[]=>0
 | pr,a::l=>if a.1<0∨st≤a.1∨a.2.2<0∨st≤a.2.2 then 2 else if a.2.1∉al then 9 else if edO pr a=true then 5 else ckE al st (some a) l
def X2 (a:QP):Int :=
 if Xi 32 none a.al≠0 then Xi 32 none a.al else if a.st<0 then 2 else if 4096<a.st then 3 else if Xi a.st none a.mr≠0 then Xi a.st none a.mr else ckE a.al a.st none a.ed
def YT:LI→LI→Bool
 | [],_=>false
 | _::_,[]=>true
 | a::_,b::_=>decide (a≤b)
def tl (c:Bool) (l:LI):LI:=bif c then l.tail else l
def hx (a b:LI):Int:=bif YT b a then b.headD 0 else a.headD 0
def US (keep:Bool→Bool→Bool):Nat→LI→LI→LI
 | 0,_,_=>[]
 | n+1,a,b=>if a=[]∧b=[] then [] else (bif keep (YT a b) (YT b a) then [hx a b] else [])++US keep n (tl (YT a b) a) (tl (YT b a) b)
def mrg (keep:Bool→Bool→Bool) (a b:LI):LI:=US keep (a.length+b.length) a b
theorem Uf {a b:LI}(h:¬(a=[]∧b=[])):(tl (YT a b) a).length+(tl (YT b a) b).length<a.length+b.length:=by
 cases a with
 | nil=>cases b with
  | nil=>simp at h
  | cons y b=>simp[YT,tl]
 | cons x a=>cases b with
  | nil=>simp[YT,tl]
  | cons y b =>
   simp only[YT,tl];by_cases h1:x≤y <;> by_cases h2:y≤x <;> simp[h1,h2] <;> omega
theorem qn (keep:Bool→Bool→Bool):∀(n:Nat) (a b:LI),a.length+b.length≤n→US keep n a b=mrg keep a b:=by
 have key:∀(n m:Nat) (a b:LI),a.length+b.length≤n→a.length+b.length≤m→US keep n a b=US keep m a b:=by
  intro n;induction n with
  | zero =>
   intro m a b h1 _;have ha:a=[]:=Ln (by omega);have hb:b=[]:=Ln (by omega);subst ha hb;cases m <;> simp[US]
  | succ n ih =>
   intro m a b h1 h2;by_cases h:a=[]∧b=[]
   ·obtain ⟨rfl,rfl⟩:=h;cases m <;> simp[US]
   have E:=Uf h;cases m with
   | zero=>omega
   | succ m=>rw[US,US,if_neg h,if_neg h,ih m _ _ (by omega) (by omega)]
 intro n a b h;exact key n _ a b h (Lr _)
theorem X1 (keep:Bool→Bool→Bool):mrg keep [] []=[]:=rfl
theorem XJ (keep:Bool→Bool→Bool) {a b:LI}(h:¬(a=[]∧b=[])) :
  mrg keep a b=(bif keep (YT a b) (YT b a) then [hx a b] else [])++mrg keep (tl (YT a b) a) (tl (YT b a) b):=by
 have E:=Uf h;rw[←qn keep (a.length+b.length - 1+1) a b (by omega),US,if_neg h,qn keep _ _ _ (by omega)]
theorem jJ (keep:Bool→Bool→Bool):∀(n:Nat) (a b:LI),a.length+b.length≤n→(mrg keep a b).length≤a.length+b.length:=by
 intro n;induction n with
 | zero =>
  intro a b h;have ha:a=[]:=Ln (by omega);have hb:b=[]:=Ln (by omega);subst ha hb;simp[X1]
 | succ n ih =>
  intro a b E;by_cases h:a=[]∧b=[]
  ·obtain ⟨rfl,rfl⟩:=h;simp[X1]
  have G:=Uf h;rw[XJ keep h];have:=ih (tl (YT a b) a) (tl (YT b a) b) (by omega);cases keep (YT a b) (YT b a) <;> simp <;> omega
theorem zj (keep:Bool→Bool→Bool) (a b:LI):(mrg keep a b).length≤a.length+b.length:=jJ keep _ a b (Lr _)
theorem jZ {α:Type}(q:α→Bool) (E:List α) (lo hi:Nat) (h1:lo≤hi) (h2:hi≤E.length) (ha:∀m (hm:m<E.length),m<lo→q E[m]=false) (hb:∀m (hm:m<E.length),lo≤m→m<hi→q E[m]=true)
  (hc:∀m (hm:m<E.length),hi≤m→q E[m]=false):(E.drop lo).take (hi - lo)=E.filter q:=by
 have e1:E=E.take lo++((E.drop lo).take (hi - lo)++E.drop hi):=by
  conv=>lhs;rw[←Mu lo E]
  congr 1;conv=>lhs;rw[←Mu (hi - lo) (E.drop lo)]
  rw[List.drop_drop];congr 2;omega
 have H:(E.take lo).filter q=[]:=by
  rw[List.filter_eq_nil_iff];intro a G;obtain ⟨m,hm,rfl⟩:=LD G;rw[Lx] at hm;rw[MR,ha m (by omega) (by omega)];simp
 have f3:(E.drop hi).filter q=[]:=by
  rw[List.filter_eq_nil_iff];intro a G;obtain ⟨m,hm,rfl⟩:=LD G;rw[L6] at hm;rw[List.getElem_drop,hc (hi+m) (by omega) (by omega)];simp
 have f2:((E.drop lo).take (hi - lo)).filter q=(E.drop lo).take (hi - lo):=by
  rw[List.filter_eq_self];intro a G;obtain ⟨m,hm,rfl⟩:=LD G;rw[Lx,L6] at hm;rw[MR,List.getElem_drop];exact hb (lo+m) (by omega) (by omega) (by omega)
 conv=>rhs;rw[e1]
 rw[L9,L9,H,f2,f3];simp
def ZJ (E:List Ed) (s:Int):List Ed:=E.filter λe=>decide (e.1=s)
open Go.Proofs.Tryz
theorem Qd3 {L:LN}{w:World}{v:Value}{l:LI}(h:QK L w.heap v l) (n:Int) :
  QI prog 132 [v,.int .i64 n] w λr w'=>w'=w∧∃i:Int,r=.int .i64 i∧(0≤i↔n∈l):=by
 have I:=h.le;refine QI.of_W func132 O ntmps132 results132 (by simp) ?_;refine Qc<|Qe<|Qg<|Qc<|Qb<|x (Qs h O)<|Qb<|xe<|Qh<|QA (α:=Nat) [(4,5),(8,18)] (λk=>[(8,.int .i64 k)]) (λk w'=>w'=w∧k≤l.length∧(n∈l↔n∈l.drop k)) (λk=>l.length - k) (by rfl) 0 Z ⟨O,Lj _,by simp⟩ ?_;rintro k g J ⟨rfl,hk,hm⟩;refine Qc<|x (QB O O)<|xe<|Qg<|QH O (λh9=>?_) (λh9=>?_)
 ·refine Qy<|Qc<|Qe<|Qm ⟨[.int .i64 (-1)],Z,O,-1,O,?_⟩;rw[Lp (by omega)] at hm;simp[hm]
 have G:k<l.length:=by omega
 have hd:=QZ G;refine Qi<|Qg<|Qh<|Qc<|Qb<|Qe<|Qc<|Qb<|Qb<|Qb<|xii h O O G λS H=>x (Qv H O)<|x (Q5 O O)<|xe<|Q7 rfl (λE=>?_) (λE=>?_)
 ·refine Qc<|Qb<|Qe<|Qm ⟨[.int .i64 k],Z,O,k,O,?_⟩;have:n∈l:=by rw[hm,hd,E];exact Ls
  simp[this]
 refine Qi<|Qz<|QN O O<|Qb<|xe<|⟨k+1,by omega,Z,O,by omega,?_⟩;rw[hm,hd,Lb];exact ⟨λh=>h.resolve_left E,.inr⟩
theorem ZR {L:LN}{w:World}{v:Value}{l:LI}(h:QK L w.heap v l) (n:Int) :
  QI prog 57 [v,.int .i64 n] w λr w'=>r=.bool (decide (n∈l))∧w'=w:=by
 refine QI.of_W func57 O ntmps57 results57 (by simp) ?_;refine Qc<|Qe<|Qc<|Qb<|Qb<|xl O<|xf<|(Qd3 h n).mono ?_;rintro E G ⟨rfl,i,rfl,hi⟩;refine x (ZX O O)<|Qe<|Qm ⟨[.bool (decide (0≤i))],Z,?_,O⟩;simp[tup,hi]
theorem JK {L L':LN}{w:World}{v v':Value}{l l':LI}(h:QK L w.heap v l) (h':QK L' w.heap v' l') :
  QI prog 64 [v,v'] w λr w'=>r=.bool (decide (l=l'))∧Step [] w w':=by
 have ha:=h.le;refine QI.of_W func64 O ntmps64 results64 (by simp) ?_;refine Qc<|Qe<|Qg<|Qc<|Qb<|x (Qs h O)<|Qb<|x (Qs h' O)<|x (Q9 O O)<|xe<|Q7 rfl (λG=>?_) (λG=>?_)
 ·refine Qc<|Qe<|Qm ⟨[.bool false],Z,?_,Step.refl _ _⟩;have:l≠l':=λe=>G (by rw[e]);simp[tup,this]
 have hb:l.length=l'.length:=by omega
 refine Qi<|Qg<|Qc<|Qb<|x (Qs h O)<|Qb<|xe<|Qh<|QA (α:=Nat) [(4,5),(13,25)] (λk=>[(13,.int .i64 k)]) (λk w'=>Step [] w w'∧k≤l.length∧(l=l'↔l.drop k=l'.drop k)) (λk=>l.length - k) (by rfl) 0 Z ⟨Step.refl _ _,Lj _,by simp⟩ ?_;rintro k g H ⟨hs,hk,hm⟩
 replace h:=h.ext hs
 replace h':=h'.ext hs;refine Qc<|x (QB O O)<|xe<|Qg<|QH O (λT=>?_) (λT=>?_)
 ·refine Qy<|Qc<|Qe<|Qm ⟨[.bool true],Z,?_,hs⟩;rw[Lp (by omega),Lp (by omega)] at hm;simp[tup,hm]
 have I:k<l.length:=by omega
 have J:k<l'.length:=by omega
 refine Qi<|Qg<|Qh<|Qc<|Qb<|Qe<|Qg<|QW (Step [] H) [(0,true),(1,true),(2,true),(3,true),(4,true),(5,true),(6,true),(7,true),(8,true)] mixed (by rfl) (by kernel_rfl) (Step.drew _ _) ?_;refine p (λ_=>Qo)<|p (λ_=>Qo)<|pii O h O O I λhe V=>pq (λ_ hc=>Qv (V.ext hc) O) <|
  p (λ_=>Qo)<|p (λ_=>Qo)<|pii O h' O O J λhf Y=>pq (λ_ hc=>Qv (Y.ext hc) O)<|p (λ_=>Q9 O O)<|pe ?_
 have S:=hs.trans (Step.drew [] H);refine Q7 rfl (λE=>?_) (λE=>?_)
 ·refine Qc<|Qe<|Qm ⟨[.bool false],Z,?_,S⟩;have:l≠l':=λe=>E (by simp[e]);simp[tup,this]
 refine Qi<|Qz<|QN O O<|Qb<|xe<|⟨k+1,by omega,Z,S,by omega,?_⟩;have e:l[k]=l'[k]:=Lq.1 E;rw[hm,QZ I,QZ J,e];exact ⟨λh=>(List.cons.inj h).2,λh=>by rw[h]⟩
theorem Qca {L L':LN}{w:World}{v v':Value}{l l':List Ed}(h:UJ L w.heap v l) (h':UJ L' w.heap v' l') :
  QI prog 68 [v,v'] w λr w'=>r=.bool (decide (l=l'))∧Step [] w w':=by
 have ha:=h.le;refine QI.of_W func68 O ntmps68 results68 (by simp) ?_;refine Qc<|Qe<|Qg<|Qc<|Qb<|x (Qs h O)<|Qb<|x (Qs h' O)<|x (Q9 O O)<|xe<|Q7 rfl (λG=>?_) (λG=>?_)
 ·refine Qc<|Qe<|Qm ⟨[.bool false],Z,?_,Step.refl _ _⟩;have:l≠l':=λe=>G (by rw[e]);simp[tup,this]
 have hb:l.length=l'.length:=by omega
 refine Qi<|Qg<|Qc<|Qb<|x (Qs h O)<|Qb<|xe<|Qh<|QA (α:=Nat) [(4,5),(13,25)] (λk=>[(13,.int .i64 k)]) (λk w'=>Step [] w w'∧k≤l.length∧(l=l'↔l.drop k=l'.drop k)) (λk=>l.length - k) (by rfl) 0 Z ⟨Step.refl _ _,Lj _,by simp⟩ ?_;rintro k g H ⟨hs,hk,hm⟩
 replace h:=h.ext hs
 replace h':=h'.ext hs;refine Qc<|x (QB O O)<|xe<|Qg<|QH O (λT=>?_) (λT=>?_)
 ·refine Qy<|Qc<|Qe<|Qm ⟨[.bool true],Z,?_,hs⟩;rw[Lp (by omega),Lp (by omega)] at hm;simp[tup,hm]
 have I:k<l.length:=by omega
 have J:k<l'.length:=by omega
 refine Qi<|Qg<|Qh<|Qc<|Qb<|Qe<|Qg<|QW (Step [] H) [(0,true),(1,true),(2,true),(3,true),(4,true),(5,true),(6,true),(7,true),(8,true)] mixed (by rfl) (by kernel_rfl) (Step.drew _ _) ?_;refine p (λ_=>Qo)<|p (λ_=>Qo)<|pie O h O O I λhe V=>pq (λ_ hc=>QF (V.ext hc) O O) <|
  p (λ_=>Qo)<|p (λ_=>Qo)<|pie O h' O O J λhf Y=>pq (λ_ hc=>QF (Y.ext hc) O O)<|p (λ_=>Kw O O)<|pe ?_
 have S:=hs.trans (Step.drew [] H);refine Q7 rfl (λE=>?_) (λE=>?_)
 ·refine Qc<|Qe<|Qm ⟨[.bool false],Z,?_,S⟩;have:l≠l':=λe=>E (by simp[e]);simp[tup,this]
 refine Qi<|Qz<|QN O O<|Qb<|xe<|⟨k+1,by omega,Z,S,by omega,?_⟩;have e:l[k]=l'[k]:=Lq.1 E;rw[hm,QZ I,QZ J,e];exact ⟨λh=>(List.cons.inj h).2,λh=>by rw[h]⟩
theorem yu {w:World}(n:Int):QI prog 161 [.int .i64 n] w λr w'=>r=.bool false∧w'=w:=by
 refine QI.of_W func161 O ntmps161 results161 (by simp) ?_;refine Qc<|Qe<|Qc<|Qb<|Qb<|x (Q9 O O)<|Qe ?_;exact Qm ⟨[.bool (decide (¬n=n))],Z,by simp[tup],rfl⟩
theorem QbV {w:World}(n:Int):QI prog 219 [.int .i64 n] w λr w'=>r=.bool false∧w'=w:=by
 refine QI.of_W func219 O ntmps219 results219 (by simp) ?_;refine Qc<|Qe<|Qc<|Qb<|Qb<|x (Q9 O O)<|Qe ?_;exact Qm ⟨[.bool (decide (¬n=n))],Z,by simp[tup],rfl⟩
theorem QaQ {w:World}(m n:Int):QI prog 160 [.int .i64 m,.int .i64 n] w λr w'=>r=.bool (decide (m<n))∧w'=w:=by
 refine QI.of_W func160 O ntmps160 results160 (by simp) ?_;refine Qc<|Qe<|Qc<|Qb<|xl O<|xf<|(QbV m).mono ?_;rintro E G ⟨rfl,rfl⟩;refine Qb<|xs O<|xs O<|xs O<|x (Qj O)<|Qb<|Qb<|Qb<|x (QB O O)<|x (Qj O)<|Qe ?_;exact Qm ⟨[.bool (decide (m<n))],Z,O,O⟩
theorem YX.get {l:LI}(h:YX l) {i j:Nat}(E:j<l.length) (G:i<j):l[i]<l[j]:=LM.1 h i j (by omega) E G
theorem UA {L:LN}{w:World}{v:Value}{l:LI}(h:QK L w.heap v l) (hi:YX l) (n:Int) :
  QI prog 84 [v,.int .i64 n] w λr w'=>w'=w∧∃i:Int,r=.tuple #[.int .i64 i,.bool (decide (n∈l))]:=by
 have ht:=h.le;refine QI.of_W func84 O ntmps84 results84 (by simp) ?_;refine Qc<|x Qf<|Qe<|Qc<|Qb<|x (Qs h O)<|Qe<|Qc<|Qb<|x Qf<|Qe<|Qg<|Qh<|QA (α:=Nat×Nat) [(7,9),(13,30)] (λz=>[(7,.int .i64 z.1),(8,.int .i64 z.2)])
  (λz w'=>w'=w∧z.1≤z.2∧z.2≤l.length∧(∀m (hm:m<l.length),m<z.1→l[m]<n)∧(∀m (hm:m<l.length),z.2≤m→n≤l[m])) (λz=>z.2 - z.1) (by rfl) (0,l.length) ⟨O,O,U⟩
  ⟨O,Lj _,Lr _,λm _ I=>absurd I (Nf m),λm h1 I=>absurd h1 (by simp only[] at I;omega)⟩ ?_
 rintro ⟨i,j⟩ g w1 ⟨rfl,hb,T,E,J⟩;simp only[] at hb T E J;refine Qg<|Qc<|Qb<|Qb<|x (QB O O)<|xe<|QH rfl (λhc=>?_) (λhc=>?_)
 ·have e:i=j:=by omega
  subst e;refine Qy<|Q0 (α:=Bool) [(4,5),(31,53)] (λz=>[(4,.int .i64 i),(5,.bool z)]) (λz w'=>w'=w1∧z=decide (n∈l)) (by rfl) ?_ ?_
  ·refine Qz<|Qb<|Qb<|Qb<|xb (QB O O) (λhe=>?_) (λhe=>?_)
   ·have G:i<l.length:=by omega
    refine Qb<|Qb<|Qb<|xii h O O G λhu hf=>x (Qv hf O)<|Qb<|xb (Q5 O O) (λS=>?_) (λS=>?_)
    ·refine Qb<|xs O<|xs O<|xs O<|xs O<|xs O<|xs O<|xs O<|xs O<|xs O<|x (Qj O)<|x (Qj O)<|x Qf<|Qe ?_;have:n∈l:=by rw[←S];exact Lc G
     exact ⟨true,⟨O,O,U⟩,O,by simp[this]⟩
    refine Qb<|Qb<|Qb<|xii h O O G λhv hg=>x (Qv hg O)<|xl O<|xf<|(yu _).mono ?_;rintro r3 w3 ⟨rfl,rfl⟩;refine Qb<|xs O<|xs O<|x (Qj O)<|x (Qj O)<|x (Qj O)<|x Qf<|Qe<|⟨false,⟨O,O,U⟩,O,?_⟩;have:n∉l:=by
     intro hm;obtain ⟨m,H,V⟩:=LD hm;by_cases hk:m<i
     ·have:=E m H hk;omega
     by_cases hl:m=i
     ·subst hl;exact S V
     have:=YX.get hi H (show i<m by omega);have:=J i G (Lr _);omega
    simp[this]
   refine Qb<|xs O<|xs O<|xs O<|xs O<|xs O<|xs O<|xs O<|xs O<|xs O<|xs O<|xs O<|xs O<|xs O<|xs O<|xs O<|xs O<|xs O <|
    x (Qj rfl)<|x Qf<|Qe<|⟨false,⟨O,O,U⟩,O,?_⟩
   have:n∉l:=by
    intro hm;obtain ⟨m,H,V⟩:=LD hm;have:=E m H (by omega);omega
   simp[this]
  rintro z g w7 ⟨rfl,rfl⟩;exact Qm ⟨[.int .i64 i,.bool (decide (n∈l))],⟨O,O,U⟩,O,i,O⟩
 have hw:i<j:=by omega
 refine Qi<|Qh<|Qc<|Qb<|Qb<|QN O O<|x (XX O (by exact ⟨by omega,by omega⟩))<|x (Qav (n:=1) O O (by decide))<|x (XX O (by exact ⟨by omega,by omega⟩))<|Qe ?_;have hh:(((i:Int)+(j:Int)) / 2 ^ 1)=(((i+j) / 2:Nat):Int):=by omega
 rw[hh];generalize hq:(i+j) / 2=q;have hn:i≤q:=by omega
 have ho:q<j:=by omega
 have Y:q<l.length:=by omega
 refine Qc<|Qb<|Qb<|xii h O O Y λhy hp=>x (Qv hp O)<|Qb<|xl O<|xf<|(QaQ _ _).mono ?_;rintro r8 w8 ⟨rfl,rfl⟩;refine xe<|QH rfl (λha=>?_) (λha=>?_)
 ·refine Qz<|Qb<|Qe<|⟨(i,q),by simp only[];omega,⟨O,O,U⟩,O,hn,by omega,E,λm hm hr=>?_⟩;by_cases e:q=m
  ·subst e;omega
  have:=YX.get hi hm (show q<m by simp only[] at hr;omega);omega
 refine Qz<|Qb<|QN O O<|Qe<|⟨(q+1,j),by simp only[];omega,⟨O,O,U⟩,O,ho,T,λm hm hs=>?_,J⟩;by_cases e:m=q
 ·subst e;exact ha
 have:=YX.get hi Y (show m<q by simp only[] at hs;omega);omega
theorem XC {L:LN}{w:World}{v:Value}{l:LI}(h:QK L w.heap v l) (hi:YX l) (n:Int) :
  QI prog 195 [v,.int .i64 n] w λr w'=>r=.bool (decide (n∈l))∧w'=w:=by
 refine QI.of_W func195 O ntmps195 results195 (by simp) ?_;refine Qc<|Qe<|Qc<|Qb<|Qb<|xl O<|xf<|(UA h hi n).mono ?_;rintro E G ⟨rfl,i,rfl⟩;refine Qb<|x (Ql O O)<|x (Ql O O)<|x Qf<|Qe<|Qc<|Qb<|Qe ?_;exact Qm ⟨[.bool (decide (n∈l))],Z,O,O⟩
theorem VA {L:LN}{w:World}{v:Value}{l:LI}(h:QK L w.heap v l) (n:Int) :
  QI prog 211 [v,.int .i64 n] w λr w'=>r=.int .i64 (Xi n none l)∧w'=w:=by
 have he:=h.le;refine QI.of_W func211 O ntmps211 results211 (by simp) ?_;refine Qc<|Qe<|Qg<|Qc<|Qb<|x (Qs h O)<|Qb<|xe<|Qh<|QA (α:=Nat) [(4,6),(9,34)] (λk=>[(9,.int .i64 k)]) (λk w'=>w'=w∧k≤l.length∧Xi n (pv l k) (l.drop k)=Xi n none l) (λk=>l.length - k) (by rfl) 0 Z ⟨O,Lj _,O⟩ ?_;rintro k g S ⟨rfl,hk,hm⟩;refine Qc<|x (QB O O)<|xe<|Qg<|QH O (λT=>?_) (λT=>?_)
 ·refine Qy<|Qc<|Qe<|Qm ⟨[.int .i64 0],Z,?_,O⟩;rw[←hm,Lp (by omega)];rfl
 have E:k<l.length:=by omega
 have hd:=QZ E;rw[hd,Xi] at hm;refine Qi<|Qg<|Qh<|Qc<|Qb<|xii h O O E λhf V=>x (Qv V O)<|x Qf<|Qe<|Qh<|Q0 (α:=Bool) [(14,21)] (λz=>[(14,.bool z)]) (λz w'=>w'=S∧z=decide (l[k]<0∨n≤l[k])) (by rfl) ?_ ?_
 ·refine Qz<|Qb<|xb (QB O O) (λG=>?_) (λG=>?_)
  ·refine Qb<|xs O<|xs O<|xs O<|x (Qj O)<|Qe ?_;exact ⟨true,Z,O,by simp[G]⟩
  refine Qb<|Qb<|Qb<|x (ZX O O)<|x (Qj O)<|Qe ?_;exact ⟨_,Z,O,by simp[G]⟩
 rintro z g Y ⟨rfl,rfl⟩;refine Q7 rfl (λH=>?_) (λH=>?_)
 ·refine Qc<|Qe<|Qm ⟨[.int .i64 2],Z,?_,O⟩;rw[←hm,if_pos H];rfl
 rw[if_neg H] at hm;refine Q0 (α:=Bool) [(22,33)] (λz=>[(22,.bool z)]) (λz w'=>w'=Y∧z=zo (pv l k) l[k]) (by rfl) ?_ ?_
 ·refine Qz<|Qb<|xb (Zx O O) (λha=>?_) (λha=>?_)
  ·have hb:((k:Int) - 1)=((k - 1:Nat):Int):=by omega
   refine Qb<|Qb<|Qb<|Qb<|x (Ja O O ⟨by omega,by omega⟩)<|xii (i:=k - 1) h O (by show Value.int _ ((k:Int) - 1)=_;rw[hb]) (by omega) λhg hc=>x (Qv hc rfl)<|x (YK rfl rfl)<|x (Qj rfl)<|Qe<|⟨_,⟨rfl,U⟩,rfl,?_⟩;have:pv l k=some l[k - 1]:=by
    have I:k≠0:=by omega
    simp[pv,I,show k - 1<l.length by omega]
   rw[this];rfl
  refine Qb<|xs O<|xs O<|xs O<|xs O<|xs O<|xs O<|xs O<|x (Qj O)<|Qe ?_;have I:k=0:=by omega
  exact ⟨false,Z,O,by simp[pv,I,zo]⟩
 rintro z g w3 ⟨rfl,rfl⟩;refine Q2 rfl (λJ=>?_) (λJ=>?_)
 ·refine Qc<|Qe<|Qm ⟨[.int .i64 5],Z,?_,O⟩;rw[←hm,if_pos J];rfl
 rw[if_neg (by simp[J])] at hm;refine Qi<|Qz<|QN O O<|Qb<|xe ?_;exact ⟨k+1,by omega,Z,O,by omega,by rw[XZ E];exact hm⟩
theorem UU {L:LN}{w:World}{va vm ve:Value}{a:QP}(h:Zu L w.heap va vm ve a) :
  QI prog 212 [.agg #[va,.int .i64 a.st,vm,ve]] w λr w'=>r=.int .i64 (ckE a.al a.st none a.ed)∧Step [] w w':=by
 obtain ⟨I,_,G⟩:=h;have h3:=G.le;refine QI.of_W func212 O ntmps212 results212 (by simp) ?_;refine Qc<|xl O<|QQ (us:=[va,.int .i64 a.st,vm,ve]) O λb1 w1 Y h4 H=>Qe ?_
 replace I:=I.ext Y
 replace G:=G.ext Y;refine Qg<|Qc<|x (Qa O)<|x (Qd H O O)<|x (Qs G O)<|Qb<|xe<|Qh<|QA (α:=Nat) [(2,5),(9,71)] (λk=>[(9,.int .i64 k)]) (λk w'=>Step [] w1 w'∧k≤a.ed.length∧ckE a.al a.st (pv a.ed k) (a.ed.drop k)=ckE a.al a.st none a.ed) (λk=>a.ed.length - k) (by rfl) 0 Z
  ⟨Step.refl _ _,Lj _,O⟩ ?_
 rintro k g w2 ⟨J,hk,hm⟩
 replace I:=I.ext J
 replace G:=G.ext J
 replace H:=H.ext J;refine Qc<|x (QB O O)<|xe<|Qg<|QH O (λhq=>?_) (λhq=>?_)
 ·refine Qy<|Qc<|Qe<|Qm ⟨[.int .i64 0],Z,?_,Y.trans J⟩;rw[←hm,Lp (by omega)];rfl
 have ha:k<a.ed.length:=by omega
 have hd:=QZ ha;rw[hd,ckE] at hm;refine Qi<|Qg<|Qh<|Qc<|Qb<|xie G O O ha λh5 hr=>x (QF hr O O)<|xl O<|Qt (us:=[.int .i64 0,.int .i64 0,.int .i64 0]) O λb4 w3 hs ht E=>x Qf <|
  xl rfl<|Qp E O O O O ⟨O,O,O,U⟩ λw4 hu E=>xe ?_
 have S:=hs.then1 hu ht
 replace I:=I.ext S
 replace G:=G.ext S
 replace H:=H.ext S;have T:=(Y.trans J).trans S;refine Qg<|Qh<|Q0 (α:=Bool) [(14,36)] (λz=>[(14,.bool z)]) (λz w'=>w'=w4∧z=decide (a.ed[k].1<0∨a.st≤a.ed[k].1∨a.ed[k].2.2<0∨a.st≤a.ed[k].2.2)) (by rfl) ?_ ?_
 ·refine Qz<|x (Qa O)<|x (Qd E O O)<|xb (QB O O) (λhb=>?_) (λhb=>?_)
  ·refine Qb<|xs O<|xs O<|xs O<|xs O<|xs O<|x (Qj O)<|Qb<|xs O<|xs O<|xs O<|x (Qj O)<|Qb<|xs O<|xs O<|xs O<|xs O<|xs O<|x (Qj O)<|Qe ?_;exact ⟨true,Z,O,by simp[hb]⟩
  refine Qb<|x (Qa O)<|x (Qd E O O)<|x (Qa O)<|x (Qd H O O)<|xb (ZX O O) (λhc=>?_) (λhc=>?_)
  ·refine x (Qj O)<|Qb<|xs O<|xs O<|xs O<|x (Qj O)<|Qb<|xs O<|xs O<|xs O<|xs O<|xs O<|x (Qj O)<|Qe ?_;exact ⟨true,Z,O,by simp[hc]⟩
  refine x (Qj O)<|Qb<|x (Qa O)<|x (Qd E O O)<|xb (QB O O) (λhe=>?_) (λhe=>?_)
  ·refine x (Qj O)<|Qb<|xs O<|xs O<|xs O<|xs O<|xs O<|x (Qj O)<|Qe ?_;exact ⟨true,Z,O,by simp[he]⟩
  refine x (Qj O)<|Qb<|x (Qa O)<|x (Qd E O O)<|x (Qa O)<|x (Qd H O O)<|x (ZX O O)<|x (Qj O)<|Qe ?_;exact ⟨_,Z,O,by simp[hb,hc,he]⟩
 rintro z g w5 ⟨rfl,rfl⟩;refine Q7 rfl (λhf=>?_) (λhf=>?_)
 ·refine Qc<|Qe<|Qm ⟨[.int .i64 2],Z,?_,T⟩;rw[←hm,if_pos hf];rfl
 rw[if_neg hf] at hm;refine Qc<|x (Qa O)<|x (Qd H O O)<|x (Qa O)<|x (Qd E O O)<|xl O<|xf<|(ZR I _).mono ?_;rintro r4 w6 ⟨rfl,rfl⟩;refine x (Zs O)<|Qe<|Q2 O (λhg=>?_) (λhg=>?_)
 ·have hn:a.ed[k].2.1∉a.al:=by simpa using hg
  refine Qc<|Qe<|Qm ⟨[.int .i64 9],Z,?_,T⟩;rw[←hm,if_pos hn];rfl
 have hn:¬(a.ed[k].2.1∉a.al):=by simpa using hg
 rw[if_neg hn] at hm;refine Qi<|Qg<|Qc<|Qb<|x (Q5 O O)<|xe<|Q7 rfl (λhv=>?_) (λhv=>?_)
 ·have h0:k=0:=by omega
  rw[if_neg (by simp[pv,h0,edO])] at hm;refine Qy<|Qz<|QN O O<|Qb<|xe ?_;exact ⟨k+1,by omega,Z,J.trans S,by omega,by rw[XZ ha];exact hm⟩
 have h0:k≠0:=by omega
 have hw:((k:Int) - 1)=((k - 1:Nat):Int):=by omega
 have ho:k - 1<a.ed.length:=by omega
 refine Qi<|Qc<|x (Qa O)<|x (Qd H O O)<|Qb<|x (Ja O O ⟨by omega,by omega⟩)<|xie (i:=k - 1) G O (by show Value.int _ ((k:Int) - 1)=_;rw[hw]) ho λh6 hy =>
  x (QF hy O O)<|xl O<|Qt (us:=[.int .i64 0,.int .i64 0,.int .i64 0]) O λb5 w7 hz h1 V=>xl O<|Qp V O O O O ⟨O,O,O,U⟩ λw8 h2 V=>xe ?_
 have hh:=hz.then1 h2 h1
 replace E:=E.ext hh
 replace T:=T.trans hh;have hp:pv a.ed k=some a.ed[k - 1]:=by simp[pv,h0,ho]
 rw[hp] at hm;refine Q0 (α:=Bool) [(52,70)] (λz=>[(70,.bool z)]) (λz w'=>w'=w8∧z=edO (some a.ed[k - 1]) a.ed[k]) (by rfl) ?_ ?_
 ·refine Qz<|x (Qa O)<|x (Qd E O O)<|x (Qa O)<|x (Qd V O O)<|xb (QB O O) (λhi=>?_) (λhi=>?_)
  ·refine Qb<|xs O<|xs O<|xs O<|xs O<|xs O<|xs O<|xs O<|xs O<|xs O<|xs O<|xs O<|xs O<|x (Qj O)<|xe ?_;exact ⟨true,Z,O,by simp[edO,hi]⟩
  refine Qb<|x (Qa O)<|x (Qd E O O)<|x (Qa O)<|x (Qd V O O)<|xb (Q5 O O) (λhj=>?_) (λhj=>?_)
  ·refine Qb<|x (Qa O)<|x (Qd E O O)<|x (Qa O)<|x (Qd V O O)<|x (YK O O)<|x (Qj O)<|x (Qj O)<|xe ?_;exact ⟨_,Z,O,by simp[edO,hj]⟩
  refine Qb<|xs O<|xs O<|xs O<|xs O<|xs O<|x (Qj O)<|x (Qj O)<|xe ?_;exact ⟨false,Z,O,by simp[edO,hj,hi]⟩
 rintro z g w9 ⟨rfl,rfl⟩;refine Q2 rfl (λhl=>?_) (λhl=>?_)
 ·refine Qc<|Qe<|Qm ⟨[.int .i64 5],Z,?_,T⟩;rw[←hm,if_pos hl];rfl
 rw[if_neg (by simp[hl])] at hm;refine Qi<|Qz<|QN O O<|Qb<|xe ?_;exact ⟨k+1,by omega,Z,(J.trans S).trans hh,by omega,by rw[XZ ha];exact hm⟩
theorem Xb {L:LN}{w:World}{va vm ve:Value}{a:QP}(h:Zu L w.heap va vm ve a) :
  QI prog 153 [.agg #[va,.int .i64 a.st,vm,ve]] w λr w'=>r=.int .i64 (X2 a)∧Step [] w w':=by
 refine QI.of_W func153 O ntmps153 results153 (by simp) ?_;refine Qc<|xl O<|QQ (us:=[va,.int .i64 a.st,vm,ve]) O λT V E Y G=>Qe ?_
 replace h:=h.ext E;refine Qg<|Qc<|x (Qa O)<|x (Qd G O O)<|xl O<|xf<|(VA h.al 32).mono ?_;rintro r2 w2 ⟨rfl,rfl⟩;refine Qe<|Qc<|Qb<|x (Q9 O O)<|xe<|Q7 rfl (λh9=>?_) (λh9=>?_)
 ·refine Qc<|Qb<|Qe<|Qm ⟨[.int .i64 (Xi 32 none a.al)],Z,?_,E⟩;rw[X2,if_pos h9];rfl
 refine Qi<|Qg<|Qh<|Qc<|x (Qa O)<|x (Qd G O O)<|x (QB O O)<|Qe<|Q7 O (λH=>?_) (λH=>?_)
 ·refine Qc<|Qe<|Qm ⟨[.int .i64 2],Z,?_,E⟩;rw[X2,if_neg h9,if_pos H];rfl
 refine Qc<|x (Qa O)<|x (Qd G O O)<|x (Zx O O)<|Qe<|Q7 O (λI=>?_) (λI=>?_)
 ·refine Qc<|Qe<|Qm ⟨[.int .i64 3],Z,?_,E⟩;rw[X2,if_neg h9,if_neg H,if_pos I];rfl
 refine Qi<|Qg<|Qc<|x (Qa O)<|x (Qd G O O)<|x (Qa O)<|x (Qd G O O)<|xl O<|xf<|(VA h.mr a.st).mono ?_;rintro r3 w3 ⟨rfl,rfl⟩;refine Qe<|Qc<|Qb<|x (Q9 O O)<|xe<|Q7 rfl (λJ=>?_) (λJ=>?_)
 ·refine Qc<|Qb<|Qe<|Qm ⟨[.int .i64 (Xi a.st none a.mr)],Z,?_,E⟩;rw[X2,if_neg h9,if_neg H,if_neg I,if_pos J];rfl
 refine Qi<|Qc<|x (Qr G O O)<|xl O<|xf<|(UU h).mono ?_;rintro r4 w4 ⟨rfl,S⟩;refine Qe<|Qm ⟨[.int .i64 (ckE a.al a.st none a.ed)],Z,?_,E.trans S⟩;rw[X2,if_neg h9,if_neg H,if_neg I,if_neg J];rfl
theorem ZZ {L:LN}{w:World}{v:Value}{l:LI}(h:QK L w.heap v l) :
  QI prog 66 [v] w λr w'=>Step [] w w'∧Qu 3 w.heap.size w' r l:=by
 have Y:=h.le;refine QI.of_W func66 O ntmps66 results66 (by simp) ?_;refine Qc<|Qe ?_;obtain ⟨ao,cap,E⟩:=h.shape;refine Qg<|Qc<|Qb<|x (Ky (show ev _ _=_ from E) O)<|xe<|Q2 rfl (λG=>?_) (λG=>?_)
 ·refine Qc<|Qe<|Qm ⟨[nS],Z,Step.refl _ _,?_⟩;rcases h.2.2 with ⟨h1,h2⟩ | ⟨a,c,h1,_⟩
  ·have:l=[]:=Ln h2;subst this;exact QM _ _ _ _
  rw[h1] at E;cases E;cases G
 rcases h.2.2 with ⟨h1,h2⟩ | ⟨a,c,h1,h2,h3⟩
 ·rw[h1] at E;injection E with e1;subst e1;cases G
 refine Qi<|Qc<|xl O<|J2 λb5 w1 H I J=>Qb<|xl O<|Q6 (base:=w.heap.size) (J.own (n:=0) (sz:=1) O (by omega) I) O (show ev _ _=_ from h1) (by simp) (h3.ext H) (Kz l) (by omega) (by have:=J.lt;omega) λS w2 T V ha=>Qe<|Qm ⟨[S],Z,H.then1 V I,?_⟩;simpa[tup] using T
theorem ym {g:Nat}{fn:Func}[Fu prog g fn] {keep:Bool→Bool→Bool}(hk:∀(p q:Bool) (w:World),QI prog g [.bool p,.bool q] w λr w'=>r=.bool (keep p q)∧w'=w)
  {L L':LN} {w:World} {va vb:Value} {a b:LI} (ha:QK L w.heap va a) (hb:QK L' w.heap vb b) (hD:a.length+b.length≤1099511627776) :
  QI prog 166 [va,vb,.func (.func g) #[] #[]] w λr w'=>Step [] w w'∧Qu 3 w.heap.size w' r (mrg keep a b):=by
 refine QI.of_W func166 O ntmps166 results166 (by simp) ?_;refine Qc<|Qe<|Qc<|Qe<|Qg<|Qh<|QA (α:=(LI×Value)×(LI×Value)×(LI×Value)) [(0,1),(7,72)] (λz=>[(0,z.1.2),(1,z.2.1.2),(7,z.2.2.2)])
  (λz w'=>QK L w.heap z.1.2 z.1.1∧QK L' w.heap z.2.1.2 z.2.1.1∧Qu 3 w.heap.size w' z.2.2.2 z.2.2.1∧Step [] w w'∧z.2.2.1++mrg keep z.1.1 z.2.1.1=mrg keep a b∧z.2.2.1.length+z.1.1.length+z.2.1.1.length≤1099511627776)
  (λz=>z.1.1.length+z.2.1.1.length) (by rfl) ((a,va),(b,vb),([],nS)) ⟨O,O,O,U⟩ ⟨ha,hb,QM _ _ _ _,Step.refl _ _,O,by simp;omega⟩ ?_
 clear ha hb;rintro ⟨⟨a1,hy⟩,⟨E,hz⟩,⟨o,vo⟩⟩ g1 w1 ⟨ha,hb,G,hs,hm,hl⟩;simp only[] at ha hb G hs hm hl;refine Qg<|Q0 (α:=Bool) [(11,18)] (λz=>[(18,.bool z)]) (λz w'=>w'=w1∧z=decide (¬(a1=[]∧E=[]))) (by rfl) ?_ ?_
 ·refine Qz<|Qb<|x (Qs ha O)<|xb (Zx O O) (λhg=>?_) (λhg=>?_)
  ·refine Qb<|xs O<|xs O<|xs O<|x (Qj O)<|xe ?_;have:a1≠[]:=by intro e;subst e;simp at hg
   exact ⟨true,Z,O,by simp[this]⟩
  refine Qb<|Qb<|x (Qs hb O)<|x (Zx O O)<|x (Qj O)<|xe ?_;have:a1=[]:=Ln (by omega);refine ⟨_,Z,O,?_⟩;cases E <;> simp[this]
 rintro z g2 w2 ⟨rfl,rfl⟩;refine QH rfl (λT=>?_) (λT=>?_)
 ·refine Qy<|Qc<|Qb<|Qe<|Qm ⟨[vo],Z,hs,?_⟩;obtain ⟨rfl,rfl⟩:=Lq.1 T;rw[X1,LJ] at hm;rw[←hm];exact G
 refine Qi ?_;rw[XJ keep T] at hm;have hh:=Uf T;have hE:=ha.le;have hF:=hb.le;refine Qh<|Q0 (α:=Bool) [(8,8),(19,35)] (λz=>[(8,.bool z)]) (λz w'=>Step [] w2 w'∧z=YT a1 E) (by rfl) ?_ ?_
 ·refine QW (Step [] w2) [(0,true),(1,true),(2,true),(3,true),(4,true),(5,true),(6,true),(7,true),(8,true),(9,true),(10,true),(11,true),(12,true),(13,true),(14,true),(15,true),(16,true),(17,true)] mixed (by rfl) (by kernel_rfl) (Step.drew _ _) ?_;refine p (λ_=>Qo)<|p (λ_=>Qs ha O)<|pb (λ_=>Zx O O) (λhi=>?_) (λhi=>?_)
  ·refine p (λ_=>Qo)<|p (λ_=>Qo)<|p (λ_=>Qs hb O)<|pb (λ_=>Q5 O O) (λh0=>?_) (λh0=>?_)
   ·refine p (λ_=>Qo)<|ps<|ps<|ps<|ps<|ps<|ps<|ps<|p (λ_=>Qj O)<|p (λ_=>Qj O)<|p (λ_=>Qf)<|pe ?_;refine ⟨true,Z,Step.drew _ _,?_⟩;have:E=[]:=Ln (by omega);subst this;cases a1 with
    | nil=>simp at hi
    | cons y a1=>rfl
   have H:0<a1.length:=by omega
   have I:0<E.length:=by omega
   refine p (λ_=>Qo)<|p (λ_=>Qo)<|pii O (i:=0) (ha.ext hs) O O H λhG h1=>pq (λ_ hc=>Qv (h1.ext hc) O) <|
    p (λ_=>Qo)<|pii O (i:=0) (hb.ext hs) O O I λhH h2=>pq (λ_ hc=>Qv (h2.ext hc) O)<|p (λ_=>YK O O) <|
    p (λ_=>Qj O)<|p (λ_=>Qj O)<|p (λ_=>Qf)<|pe ?_
   refine ⟨_,Z,Step.drew _ _,?_⟩;cases a1 with
   | nil=>simp at H
   | cons y a1=>cases E with
    | nil=>simp at I
    | cons z E=>rfl
  refine p (λ_=>Qo)<|ps<|ps<|ps<|ps<|ps<|ps<|ps<|ps<|ps<|ps<|ps<|ps<|p (λ_=>Qj O)<|p (λ_=>Qf)<|pe ?_;refine ⟨false,Z,Step.drew _ _,?_⟩;have:a1=[]:=Ln (by omega);subst this;rfl
 rintro z g3 w3 ⟨hj,rfl⟩
 replace G:=Qq G hj
 replace hs:=hs.trans hj;refine Q0 (α:=Bool) [(9,9),(36,52)] (λz=>[(9,.bool z)]) (λz w'=>Step [] w3 w'∧z=YT E a1) (by rfl) ?_ ?_
 ·refine QW (Step [] w3) [(0,true),(1,true),(2,true),(3,true),(4,true),(5,true),(6,true),(7,true),(8,true),(9,true),(10,true),(11,true),(12,true),(13,true),(14,true),(15,true),(16,true),(17,true)] mixed (by rfl) (by kernel_rfl) (Step.drew _ _) ?_;refine p (λ_=>Qo)<|p (λ_=>Qs hb O)<|pb (λ_=>Zx O O) (λhn=>?_) (λhn=>?_)
  ·refine p (λ_=>Qo)<|p (λ_=>Qo)<|p (λ_=>Qs ha O)<|pb (λ_=>Q5 O O) (λh3=>?_) (λh3=>?_)
   ·refine p (λ_=>Qo)<|ps<|ps<|ps<|ps<|ps<|ps<|ps<|p (λ_=>Qj O)<|p (λ_=>Qj O)<|p (λ_=>Qf)<|pe ?_;refine ⟨true,Z,Step.drew _ _,?_⟩;have:a1=[]:=Ln (by omega);subst this;cases E with
    | nil=>simp at hn
    | cons y E=>rfl
   have H:0<a1.length:=by omega
   have I:0<E.length:=by omega
   refine p (λ_=>Qo)<|p (λ_=>Qo)<|pii O (i:=0) (hb.ext hs) O O I λhI h4=>pq (λ_ hc=>Qv (h4.ext hc) O) <|
    p (λ_=>Qo)<|pii O (i:=0) (ha.ext hs) O O H λhJ h5=>pq (λ_ hc=>Qv (h5.ext hc) O)<|p (λ_=>YK O O) <|
    p (λ_=>Qj O)<|p (λ_=>Qj O)<|p (λ_=>Qf)<|pe ?_
   refine ⟨_,Z,Step.drew _ _,?_⟩;cases a1 with
   | nil=>simp at H
   | cons y a1=>cases E with
    | nil=>simp at I
    | cons z E=>rfl
  refine p (λ_=>Qo)<|ps<|ps<|ps<|ps<|ps<|ps<|ps<|ps<|ps<|ps<|ps<|ps<|p (λ_=>Qj O)<|p (λ_=>Qf)<|pe ?_;refine ⟨false,Z,Step.drew _ _,?_⟩;have:E=[]:=Ln (by omega);subst this;rfl
 rintro z g4 w4 ⟨hp,rfl⟩
 replace G:=Qq G hp
 replace hs:=hs.trans hp;refine Qc<|Qe<|Q0 (α:=Value) [(0,0),(10,10),(53,58)] (λz=>[(0,z),(10,.int .i64 (bif YT a1 E then a1.headD 0 else 0))]) (λz w'=>Step [] w4 w'∧QK L w.heap z (tl (YT a1 E) a1)) (by rfl) ?_ ?_
 ·refine Qc<|Qb<|xe<|Q2 O (λJ=>?_) (λJ=>?_)
  ·have H:0<a1.length:=by cases a1 with | nil=>simp[YT] at J | cons y a1=>simp
   refine QW (Step [] w4) [(0,true),(1,true),(2,true),(3,true),(4,true),(5,true),(6,true)] mixed (by rfl) (by kernel_rfl) (Step.drew _ _) ?_;refine p (λ_=>Qo)<|pii O (i:=0) (ha.ext hs) O O H λh6 V=>pq (λ_ hc=>Qv (V.ext hc) O)<|p (λ_=>Qo) <|
    QhM rfl (lo:=1) ha O O H λv' hv'=>p (λ_=>Qf)<|p (λ_=>Qf)<|pe ?_
   have Y:=QK.drop hv';refine ⟨v',⟨O,?_,U⟩,Step.drew _ _,?_⟩
   ·show Value.int .i64 a1[0]=_;rw[J];cases a1 with | nil=>simp at H | cons y a1=>rfl
   rw[J];simpa[tl] using Y
  refine Qi<|⟨hy,⟨O,by show _=_;rw[J];rfl,U⟩,Step.refl _ _,?_⟩;rw[J];exact ha
 rintro hq g5 w5 ⟨hr,ht⟩
 replace G:=Qq G hr
 replace hs:=hs.trans hr;refine Q0 (α:=Value) [(1,1),(10,10),(59,64)] (λz=>[(1,z),(10,.int .i64 (bif YT E a1 then E.headD 0 else bif YT a1 E then a1.headD 0 else 0))]) (λz w'=>Step [] w5 w'∧QK L' w.heap z (tl (YT E a1) E)) (by rfl) ?_ ?_
 ·refine Qc<|Qb<|xe<|Q2 O (λS=>?_) (λS=>?_)
  ·have I:0<E.length:=by cases E with | nil=>simp[YT] at S | cons y E=>simp
   refine QW (Step [] w5) [(0,true),(1,true),(2,true),(3,true),(4,true),(5,true),(6,true)] mixed (by rfl) (by kernel_rfl) (Step.drew _ _) ?_;refine p (λ_=>Qo)<|pii O (i:=0) (hb.ext hs) O O I λh6 V=>pq (λ_ hc=>Qv (V.ext hc) O)<|p (λ_=>Qo) <|
    QhM rfl (lo:=1) hb O O I λv' hv'=>p (λ_=>Qf)<|p (λ_=>Qf)<|pe ?_
   have Y:=QK.drop hv';refine ⟨v',⟨O,?_,U⟩,Step.drew _ _,?_⟩
   ·show Value.int .i64 E[0]=_;rw[S];cases E with | nil=>simp at I | cons y E=>rfl
   rw[S];simpa[tl] using Y
  refine Qi<|⟨hz,⟨O,by show _=_;rw[S];rfl,U⟩,Step.refl _ _,?_⟩;rw[S];exact hb
 rintro hu g6 w6 ⟨hv,hw⟩
 replace G:=Qq G hv
 replace hs:=hs.trans hv;have h7:(bif YT E a1 then E.headD 0 else bif YT a1 E then a1.headD 0 else 0)=hx a1 E:=by
  unfold hx;cases e:YT E a1 with
  | true=>rfl
  | false =>
   cases e2:YT a1 E with
   | true=>rfl
   | false=>rw[e,e2] at hh;simp[tl] at hh
 refine Qc<|Qb<|Qb<|Qb<|xl O<|xc (first:=[]) (capt:=[]) O<|(hk _ _ _).mono ?_;rintro r7 w7 ⟨rfl,rfl⟩;refine xe<|Q2 rfl (λhe=>?_) (λhe=>?_)
 ·refine Qz ?_;rw[he,cond_true] at hm;refine Qb<|Qb<|xl O<|QD (us:=[[.int .i64 (hx a1 E)]]) O O (by decide) (by simp) ⟨by rw[←h7];rfl,O,U⟩ λhK w8 hf hL h8 =>
   xl rfl<|Q6 (news:=[.int .i64 (hx a1 E)]) (L:=[]) (Qq G hf) O O O (h8.at (by simp)) (by simp[Value.oneCell']) (by omega) (by have:=hs.size;have:=hf.size;omega) λv9 w9 h9 hC hM=>Qe ?_
  have hge:=Qn G;refine ⟨((tl (YT a1 E) a1,hq),(tl (YT E a1) E,hu),(o++[hx a1 E],v9)),by simp only[];omega,⟨O,O,O,U⟩,ht,hw,?_,(hs.trans hf).then hC (λb hb=>.inr (hge b hb).1),by rw[LC];exact hm,by simp only[List.length_append,List.length_singleton];omega⟩;exact Qu.snoc h9
 rw[he,cond_false,Mb] at hm;refine Qi ?_;exact ⟨((tl (YT a1 E) a1,hq),(tl (YT E a1) E,hu),(o,vo)),by simp only[];omega,⟨O,O,O,U⟩,ht,hw,G,hs,hm,by simp only[];omega⟩
theorem Qjf (p q:Bool) (w:World):QI prog 167 [.bool p,.bool q] w λr w'=>r=.bool (p || q)∧w'=w:=by
 refine QI.of_W func167 O ntmps167 results167 (by simp) ?_;refine Qc<|Qe<|Qc ?_;cases p
 ·refine Qb<|Qb<|Qb<|x (Qj O)<|Qe ?_;exact Qm ⟨[.bool q],Z,O,O⟩
 refine Qb<|Qb<|xs O<|x (Qj O)<|Qe ?_;exact Qm ⟨[.bool true],Z,O,O⟩
theorem QdF (p q:Bool) (w:World):QI prog 185 [.bool p,.bool q] w λr w'=>r=.bool (p && !q)∧w'=w:=by
 refine QI.of_W func185 O ntmps185 results185 (by simp) ?_;refine Qc<|Qe<|Qc ?_;cases p
 ·refine Qb<|Qb<|xs O<|xs O<|x (Qj O)<|Qe ?_;exact Qm ⟨[.bool false],Z,O,O⟩
 refine Qb<|Qb<|Qb<|x (Zs O)<|x (Qj O)<|Qe ?_;exact Qm ⟨[.bool (!q)],Z,O,O⟩
theorem y8 {L L':LN}{w:World}{va vb:Value}{a b:LI}(ha:QK L w.heap va a) (hb:QK L' w.heap vb b) (E:a.length+b.length≤1099511627776) :
  QI prog 96 [va,vb] w λr w'=>Step [] w w'∧Qu 3 w.heap.size w' r (mrg (· || ·) a b):=by
 refine QI.of_W func96 O ntmps96 results96 (by simp) ?_;refine Qc<|Qe<|Qc<|Qb<|Qb<|xl O<|xf<|(ym Qjf ha hb E).mono ?_;rintro G I ⟨hs,H⟩;refine Qe ?_;exact Qm ⟨[G],Z,hs,H⟩
theorem Qe3 {L L':LN}{w:World}{va vb:Value}{a b:LI}(ha:QK L w.heap va a) (hb:QK L' w.heap vb b) (E:a.length+b.length≤1099511627776) :
  QI prog 118 [va,vb] w λr w'=>Step [] w w'∧Qu 3 w.heap.size w' r (mrg (λp q=>p && !q) a b):=by
 refine QI.of_W func118 O ntmps118 results118 (by simp) ?_;refine Qc<|Qe<|Qc<|Qb<|Qb<|xl O<|xf<|(ym QdF ha hb E).mono ?_;rintro G I ⟨hs,H⟩;refine Qe ?_;exact Qm ⟨[G],Z,hs,H⟩
theorem Qco {L L':LN}{w:World}{va vb:Value}{a b:LI}(ha:QK L w.heap va a) (hb:QK L' w.heap vb b) (E:a.length+b.length≤1099511627776) :
  QI prog 165 [va,vb] w λr w'=>Step [] w w'∧r=.bool (decide (mrg (λp q=>p && !q) a b=[])):=by
 refine QI.of_W func165 O ntmps165 results165 (by simp) ?_;refine Qc<|Qe<|Qc<|Qb<|Qb<|xl O<|xf<|(Qe3 ha hb E).mono ?_;rintro H I ⟨hs,G⟩;have hm:=zj (λp q=>p && !q) a b;have hi:=Qu.ints (L:=[]) G (by omega) (by simp);refine x (Qs hi O)<|x (Q5 O O)<|Qe<|Qm ⟨[.bool (decide (((mrg (λp q=>p && !q) a b).length:Int)=0))],Z,hs,?_⟩;simp[tup]
theorem QeR {g:Nat}{fn:Func}[Fu prog g fn] (hk:∀(e:Ed) (s:Int) (w:World),0≤e.1→e.1≤1099511627776→0≤s→s≤1099511627776→QI prog g [.agg (Qw e).toArray,.int .i64 s] w λr w'=>r=.int .i64 (e.1 - s)∧Step [] w w')
  {L:LN} {w:World} {v:Value} {E:List Ed} (h:UJ L w.heap v E) (hi:E.Pairwise (λa b=>a.1≤b.1)) (hb:∀e∈E,0≤e.1∧e.1≤1099511627776) (s:Int) (Y:0≤s) (ha:s≤1099511627776) :
  QI prog 154 [v,.int .i64 s,.func (.func g) #[] #[]] w λr w'=>Step [] w w'∧∃(i:Nat) (b:Bool),r=.tuple #[.int .i64 i,.bool b]∧i≤E.length ∧
   (∀m (hm:m<E.length),m<i→E[m].1<s)∧(∀m (hm:m<E.length),i≤m→s≤E[m].1):=by
 have h2:=h.le;have hc:∀{i j:Nat} (G:j<E.length) (I:i<j),E[i].1≤E[j].1:=λ{i j} G I=>LM.1 hi i j (by omega) G I;have he:∀m (hm:m<E.length),0≤E[m].1∧E[m].1≤1099511627776:=λm hm=>hb _ (Lc hm);refine QI.of_W func154 O ntmps154 results154 (by simp) ?_
 refine Qc<|x Qf<|Qe<|Qc<|Qb<|x (Qs h O)<|Qe<|Qc<|Qb<|x Qf<|Qe<|Qg<|Qh<|QA (α:=Nat×Nat) [(9,11),(15,34)] (λz=>[(9,.int .i64 z.1),(10,.int .i64 z.2)])
  (λz w'=>Step [] w w'∧z.1≤z.2∧z.2≤E.length∧(∀m (hm:m<E.length),m<z.1→E[m].1<s)∧(∀m (hm:m<E.length),z.2≤m→s≤E[m].1)) (λz=>z.2 - z.1) (by rfl) (0,E.length) ⟨O,O,U⟩
  ⟨Step.refl _ _,Lj _,Lr _,λm _ J=>absurd J (Nf m),λm h1 J=>absurd h1 (by simp only[] at J;omega)⟩ ?_
 rintro ⟨i,j⟩ g1 w1 ⟨H,I,G,S,T⟩;simp only[] at I G S T;refine Qg<|Qc<|Qb<|Qb<|x (QB O O)<|xe<|QH rfl (λhn=>?_) (λhn=>?_)
 ·have e:i=j:=by omega
  subst e;refine Qy<|Q0 (α:=Bool) [(6,7),(35,48)] (λz=>[(6,.int .i64 i),(7,.bool z)]) (λz w'=>Step [] w1 w') (by rfl) ?_ ?_
  ·refine Qz<|Qb<|Qb<|Qb<|xb (QB O O) (λho=>?_) (λho=>?_)
   ·have hf:i<E.length:=by omega
    have hq:=he i hf;refine Qb<|Qb<|Qb<|Qb<|xie (h.ext H) O O hf λh3 hp=>x (QF hp O O)<|Qb<|xl O<|xc (first:=[]) (capt:=[]) O<|(hk E[i] s _ hq.1 hq.2 Y ha).mono ?_;rintro r2 w2 ⟨rfl,hr⟩;refine x (Q5 O O)<|x (Qj O)<|x Qf<|Qe ?_;exact ⟨_,⟨O,O,U⟩,hr⟩
   refine Qb<|xs O<|xs O<|xs O<|xs O<|xs O<|xs O<|xs O<|xs O<|x (Qj O)<|x Qf<|Qe ?_;exact ⟨false,⟨O,O,U⟩,Step.refl _ _⟩
  rintro z g3 w3 hs;exact Qm ⟨[.int .i64 i,.bool z],⟨O,O,U⟩,H.trans hs,i,z,O,G,S,T⟩
 have h4:i<j:=by omega
 refine Qi<|Qh<|Qc<|Qb<|Qb<|QN O O<|x (XX O (by exact ⟨by omega,by omega⟩))<|x (Qav (n:=1) O O (by decide))<|x (XX O (by exact ⟨by omega,by omega⟩))<|Qe ?_;have hh:(((i:Int)+(j:Int)) / 2 ^ 1)=(((i+j) / 2:Nat):Int):=by omega
 rw[hh];generalize hq:(i+j) / 2=q;have ht:i≤q:=by omega
 have hu:q<j:=by omega
 have V:q<E.length:=by omega
 have hg:=he q V;refine Qc<|Qb<|Qb<|Qb<|xie (h.ext H) O O V λh5 hv=>x (QF hv O O)<|Qb<|xl O<|xc (first:=[]) (capt:=[]) O<|(hk E[q] s _ hg.1 hg.2 Y ha).mono ?_;rintro r4 w4 ⟨rfl,hl⟩;refine x (QB O O)<|xe<|QH rfl (λhw=>?_) (λhw=>?_)
 ·refine Qz<|Qb<|Qe<|⟨(i,q),by simp only[];omega,⟨O,O,U⟩,H.trans hl,ht,by omega,S,λm hm hy=>?_⟩;by_cases e:q=m
  ·subst e;omega
  have:=hc hm (show q<m by simp only[] at hy;omega);omega
 refine Qz<|Qb<|QN O O<|Qe<|⟨(q+1,j),by simp only[];omega,⟨O,O,U⟩,H.trans hl,hu,G,λm hm hz=>?_,T⟩;by_cases e:m=q
 ·subst e;omega
 have:=hc V (show m<q by simp only[] at hz;omega);omega
theorem QfW (e:Ed) (s:Int) (w:World) (H:0≤e.1) (h1:e.1≤1099511627776) (h2:0≤s) (h3:s≤1099511627776) :
  QI prog 155 [.agg (Qw e).toArray,.int .i64 s] w λr w'=>r=.int .i64 (e.1 - s)∧Step [] w w':=by
 refine QI.of_W func155 O ntmps155 results155 (by simp) ?_;refine Qc<|xl O<|QQ (us:=Qw e) O λI J E S G=>Qe<|Qc<|x (Qa O)<|x (Qd G O O)<|Qb<|x (Ja O O ⟨by omega,by omega⟩)<|Qe ?_;exact Qm ⟨[.int .i64 (e.1 - s)],Z,O,E⟩
theorem QfV (e:Ed) (s:Int) (w:World) (H:0≤e.1) (h1:e.1≤1099511627776) (h2:0≤s) (h3:s≤1099511627776) :
  QI prog 156 [.agg (Qw e).toArray,.int .i64 s] w λr w'=>r=.int .i64 (e.1 - s)∧Step [] w w':=by
 refine QI.of_W func156 O ntmps156 results156 (by simp) ?_;refine Qc<|xl O<|QQ (us:=Qw e) O λI J E S G=>Qe<|Qc<|x (Qa O)<|x (Qd G O O)<|Qb<|x (Ja O O ⟨by omega,by omega⟩)<|Qe ?_;exact Qm ⟨[.int .i64 (e.1 - s)],Z,O,E⟩
theorem zd {L:LN}{w:World}{va vm ve:Value}{st:Int}{E:List Ed}(h:UJ L w.heap ve E) (hi:E.Pairwise (λa b=>a.1≤b.1)) (hb:∀e∈E,0≤e.1∧e.1≤1099511627776) (s:Int) (he:0≤s) (hn:s<1099511627776) :
  QI prog 77 [.agg #[va,.int .i64 st,vm,ve],.int .i64 s] w λr w'=>Step [] w w'∧UJ L w'.heap r (ZJ E s):=by
 refine QI.of_W func77 O ntmps77 results77 (by simp) ?_;refine Qc<|xl O<|QQ (us:=[va,.int .i64 st,vm,ve]) O λb2 w1 S ho G=>Qe ?_
 replace h:=h.ext S;refine Qc<|x (Qa O)<|x (Qd G O O)<|Qb<|xl O<|xf<|(QeR QfW h hi hb s he (by omega)).mono ?_;rintro r2 w2 ⟨I,lo,b,rfl,hp,T,hf⟩
 replace h:=h.ext I
 replace G:=G.ext I;refine Qb<|x (Ql O O)<|x (Ql O O)<|x Qf<|Qe<|Qc<|x (Qa O)<|x (Qd G O O)<|Qb<|QN O O<|xl O<|xf<|(QeR QfV h hi hb (s+1) (by omega) (by omega)).mono ?_;rintro r3 w3 ⟨J,H,b',rfl,V,hg,Y⟩
 replace h:=h.ext J
 replace G:=G.ext J;refine Qb<|x (Ql O O)<|x (Ql O O)<|x Qf<|Qe ?_;have ha:lo≤H:=by
  rcases Nat.lt_or_ge H lo with hh | hge
  ·have h1:=T H (by omega) hh;have h2:=Y H (by omega) (Lr _);omega
  exact hge
 refine Qc<|x (Qa O)<|x (Qd G O O)<|Qb<|Qb<|QjW h O O O ha V λv' hv'=>Qe<|Qm ⟨[v'],Z,(S.trans I).trans J,?_⟩;have hc:=jZ (λe:Ed=>decide (e.1=s)) E lo H ha V (λm hm hj=>by have:=T m hm hj;simp;omega) (λm hm h1 h2=>by have:=hf m hm h1;have:=hg m hm h2;simp;omega) (λm hm h1=>by have:=Y m hm h1;simp;omega)
 have hk:(ZJ E s).length=H - lo:=by unfold ZJ;rw[←hc,Lx,L6];omega
 show Zq L w3.heap v' (ZJ E s).length 3 _;rw[hk];have e1:(ZJ E s).flatMap Qw=((E.flatMap Qw).drop (lo*3)).take ((H - lo)*3):=by
  unfold ZJ;rw[←hc];have key:∀(l:List Ed) (k:Nat),(l.flatMap Qw).drop (k*3)=(l.drop k).flatMap Qw:=by
   intro l;induction l with
   | nil=>intro k;simp
   | cons a l ih=>intro k;cases k with
    | zero=>simp
    | succ k=>simp only[List.flatMap_cons,List.drop_succ_cons,Nat.add_mul,Nat.one_mul];rw[MO,←List.drop_drop,show (Qw a++l.flatMap Qw).drop 3=l.flatMap Qw from rfl,ih]
  have hl:∀(l:List Ed) (k:Nat),(l.flatMap Qw).take (k*3)=(l.take k).flatMap Qw:=by
   intro l;induction l with
   | nil=>intro k;simp
   | cons a l ih=>intro k;cases k with
    | zero=>simp
    | succ k =>
     simp only[List.flatMap_cons,List.take_succ_cons,Nat.add_mul,Nat.one_mul];rw[List.take_append,Xt,←ih,Ll (by simp[Xt])];simp
  rw[key,hl]
 rw[e1];exact hv'
structure Zi (a:QP):Prop where
 al:∀e∈a.al,0≤e∧e<32
 ali:YX a.al
 st0:0≤a.st
 st1:a.st≤4096
 mr:∀s∈a.mr,0≤s∧s<a.st
 mri:YX a.mr
 ed:∀e∈a.ed,0≤e.1∧e.1<a.st∧e.2.1∈a.al∧0≤e.2.2∧e.2.2<a.st
 edi:a.ed.Pairwise λx y=>x.1<y.1∨(x.1=y.1∧x.2.1<y.2.1)
theorem YA (n:Int):∀(l:LI) (pr:Option Int),Xi n pr l=0↔(∀x∈l,0≤x∧x<n)∧YX l∧∀y,pr=some y→∀x∈l,y<x
 | [],pr=>by simp[Xi]
 | a::l,pr=>by
  have ih:=YA n l (some a);rw[Xi];by_cases h1:a<0∨n≤a
  ·rw[if_pos h1];simp only[List.forall_mem_cons];constructor
   ·intro h;cases h
   rintro ⟨⟨h,_⟩,_⟩;omega
  rw[if_neg h1];by_cases h2:zo pr a=true
  ·rw[if_pos h2];constructor
   ·intro h;cases h
   rintro ⟨_,_,h⟩;cases pr with
   | none=>simp[zo] at h2
   | some y=>simp[zo] at h2;have:=h y O a Ls;omega
  rw[if_neg h2,ih];simp only[List.forall_mem_cons,List.pairwise_cons];constructor
  ·rintro ⟨h3,E,h5⟩;refine ⟨⟨by omega,h3⟩,⟨λb hb=>h5 a O b hb,E⟩,?_⟩;rintro y rfl;simp[zo] at h2;exact ⟨h2,λz hz=>by have:=h5 a O z hz;omega⟩
  rintro ⟨⟨_,h3⟩,⟨E,h5⟩,_⟩;exact ⟨h3,h5,λy hy z hz=>by cases hy;exact E z hz⟩
theorem yR (al:LI) (st:Int):∀(l:List Ed) (pr:Option Ed),ckE al st pr l=0↔(∀e∈l,0≤e.1∧e.1<st∧e.2.1∈al∧0≤e.2.2∧e.2.2<st)∧(l.Pairwise λx y=>x.1<y.1∨(x.1=y.1∧x.2.1<y.2.1)) ∧
  ∀y,pr=some y→∀e∈l,y.1<e.1∨(y.1=e.1∧y.2.1<e.2.1)
 | [],pr=>by simp[ckE]
 | a::l,pr=>by
  have ih:=yR al st l (some a);rw[ckE];by_cases h1:a.1<0∨st≤a.1∨a.2.2<0∨st≤a.2.2
  ·rw[if_pos h1];simp only[List.forall_mem_cons];constructor
   ·intro h;cases h
   rintro ⟨⟨h,_⟩,_⟩;omega
  rw[if_neg h1];by_cases h2:a.2.1∉al
  ·rw[if_pos h2];constructor
   ·intro h;cases h
   rintro ⟨h,_⟩;exact absurd (h a Ls).2.2.1 h2
  rw[if_neg h2];by_cases h3:edO pr a=true
  ·rw[if_pos h3];constructor
   ·intro h;cases h
   rintro ⟨_,_,h⟩;cases pr with
   | none=>simp[edO] at h3
   | some y=>simp[edO] at h3;have:=h y O a Ls;omega
  rw[if_neg h3,ih];simp only[List.forall_mem_cons,List.pairwise_cons];have H:a.2.1∈al:=Lq.1 h2;constructor
  ·rintro ⟨G,h5,E⟩;refine ⟨⟨⟨by omega,by omega,H,by omega,by omega⟩,G⟩,⟨λb hb=>E a O b hb,h5⟩,?_⟩;rintro y rfl;simp[edO] at h3;have I:y.1<a.1∨y.1=a.1∧y.2.1<a.2.1:=by omega
   exact ⟨I,λz hz=>by have:=E a O z hz;omega⟩
  rintro ⟨⟨_,G⟩,⟨h5,E⟩,_⟩;exact ⟨G,E,λy hy z hz=>by cases hy;exact h5 z hz⟩
theorem ZS (a:QP):X2 a=0↔Zi a:=by
 unfold X2;by_cases h1:Xi 32 none a.al≠0
 ·rw[if_pos h1];exact ⟨λh=>absurd h h1,λh=>absurd ((YA 32 a.al none).2 ⟨h.al,h.ali,λ_ h=>by cases h⟩) h1⟩
 rw[if_neg h1];have G:=(YA 32 a.al none).1 (Lq.1 h1);by_cases h2:a.st<0
 ·rw[if_pos h2];exact ⟨λh=>(by cases h),λh=>(by have:=h.st0;omega)⟩
 rw[if_neg h2];by_cases h3:4096<a.st
 ·rw[if_pos h3];exact ⟨λh=>(by cases h),λh=>(by have:=h.st1;omega)⟩
 rw[if_neg h3];by_cases E:Xi a.st none a.mr≠0
 ·rw[if_pos E];exact ⟨λh=>absurd h E,λh=>absurd ((YA a.st a.mr none).2 ⟨h.mr,h.mri,λ_ h=>by cases h⟩) E⟩
 rw[if_neg E,yR];have H:=(YA a.st a.mr none).1 (Lq.1 E);exact ⟨λh=>⟨G.1,G.2.1,by omega,by omega,H.1,H.2.1,h.1,h.2.1⟩,λh=>⟨h.ed,h.edi,λ_ h=>by cases h⟩⟩
theorem Y8:∀(l:LI) (a n:Int),YX l→(∀x∈l,a≤x∧x<n)→(l.length:Int)≤max 0 (n - a)
 | [],a,n,_,_=>by simp;omega
 | x::l,a,n,h1,h2=>by
  simp only[List.pairwise_cons,List.forall_mem_cons] at h1 h2;have:=Y8 l (x+1) n h1.2 (λy hy=>⟨by have:=h1.1 y hy;omega,(h2.2 y hy).2⟩);simp only[List.length_cons];omega
theorem Zi.al_le {a:QP}(h:Zi a):a.al.length≤32:=by have:=Y8 a.al 0 32 h.ali h.al;omega
theorem Zi.mr_le {a:QP}(h:Zi a):a.mr.length≤4096:=by have:=Y8 a.mr 0 a.st h.mri h.mr;have:=h.st1;omega
theorem Zi.eds {a:QP}(h:Zi a):a.ed.Pairwise λx y=>x.1≤y.1:=h.edi.imp λh=>by omega
structure Cs where
 ord:LI
 num:LI
 mk':LI
 ed:List Ed
def ZL (l:LI) (k:Int):Int:=l.getD k.toNat 0
def Zd (i:Nat) (c:Cs) (e:Ed):Cs :=
 if ZL c.num e.2.2<0 then ⟨c.ord++[e.2.2],c.num.set e.2.2.toNat c.ord.length,c.mk',c.ed++[((i:Int),e.2.1,(c.ord.length:Int))]⟩
 else ⟨c.ord,c.num,c.mk',c.ed++[((i:Int),e.2.1,ZL c.num e.2.2)]⟩
def ZN (a:QP) (i:Nat) (c:Cs):Cs:=if ZL c.ord i∈a.mr then ⟨c.ord,c.num,c.mk'++[(i:Int)],c.ed⟩ else c
def UQ (a:QP) (i:Nat) (c:Cs):Cs:=(ZJ a.ed (ZL c.ord i)).foldl (Zd i) (ZN a i c)
def Xc (a:QP):Nat→Nat→Cs→Cs
 | 0,_,c=>c
 | f+1,i,c=>if i<c.ord.length then Xc a f (i+1) (UQ a i c) else c
def Yd (a:QP):Cs:=⟨[0],(List.replicate a.st.toNat (-1)).set 0 0,[],[]⟩
def YV (a:QP):QP:=if a.st=0 then ⟨a.al,0,[],[]⟩ else
 let c:=Xc a a.st.toNat 0 (Yd a);⟨a.al,c.ord.length,c.mk',c.ed⟩
def neg (l:LI):Nat:=(l.filter (·<0)).length
theorem KB:∀(l:LI) (k:Nat) (v:Int) (h:k<l.length),l[k]<0→0≤v→neg (l.set k v)+1=neg l
 | a::l,0,v,_,h1,h2=>by
  have E:a<0:=h1;simp[neg,E,show ¬v<0 by omega]
 | a::l,k+1,v,h,h1,h2=>by
  have ih:=KB l k v (by simpa using h) h1 h2;unfold neg at *;simp only[List.set_cons_succ,List.filter_cons];split
  ·simp only[List.length_cons];omega
  exact ih
structure Kj (st:Int) (c:Cs):Prop where
 nl:c.num.length=st.toNat
 sum:c.ord.length+neg c.num=st.toNat
 ord:∀s∈c.ord,0≤s∧s<st
 num:∀v∈c.num,v<c.ord.length
 el:c.ed.length≤1000000000
theorem Kj.le {st:Int}{c:Cs}(h:Kj st c):c.ord.length≤st.toNat:=by have:=h.sum;omega
theorem KJ {l:LI}{k:Int}(h:k.toNat<l.length):ZL l k=l[k.toNat]:=by unfold ZL;simp[List.getD,h]
theorem zW {st:Int}{c:Cs}{i:Nat}{e:Ed}(h:Kj st c) (H:0≤e.2.2) (h1:e.2.2<st) (hl:c.ed.length+1≤1000000000):Kj st (Zd i c e):=by
 have hk:e.2.2.toNat<c.num.length:=by rw[h.nl];omega
 unfold Zd;split
 ·rename_i G;rw[KJ hk] at G;refine ⟨by simp[h.nl],?_,?_,?_,by simpa using hl⟩
  ·have:=KB c.num e.2.2.toNat c.ord.length hk G (by omega);have:=h.sum;simp only[List.length_append,List.length_singleton];omega
  ·intro s hs;simp only[List.mem_append,List.mem_singleton] at hs;rcases hs with hs | rfl
   ·exact h.ord s hs
   exact ⟨H,h1⟩
  intro v E;simp only[List.length_append,List.length_singleton];rcases List.mem_or_eq_of_mem_set E with E | rfl
  ·have:=h.num v E;omega
  omega
 exact ⟨h.nl,h.sum,h.ord,h.num,by simpa using hl⟩
theorem zY (i:Nat) (c:Cs) (e:Ed):(Zd i c e).ed.length=c.ed.length+1:=by unfold Zd;split <;> simp
theorem QdH {a:QP}{st:Int}{c:Cs}{i:Nat}(h:Kj st c):Kj st (ZN a i c):=by
 unfold ZN;split
 ·exact ⟨h.nl,h.sum,h.ord,h.num,h.el⟩
 exact h
theorem Zw {E:List Ed}{s:Int}{e:Ed}(h:e∈ZJ E s):e∈E∧e.1=s:=by unfold ZJ at h;simpa using h
theorem Qbf {a:QP}(I:0<a.st):Kj a.st (Yd a):=by
 have G:0<a.st.toNat:=by omega
 refine ⟨by simp[Yd],?_,?_,?_,by simp[Yd]⟩
 ·have H:0<(List.replicate a.st.toNat (-1:Int)).length:=by simpa using G
  have h1:=KB (List.replicate a.st.toNat (-1)) 0 0 H (by simp) (Nc _);have h2:neg (List.replicate a.st.toNat (-1))=a.st.toNat:=by
   unfold neg;rw[List.filter_eq_self.2 (by intro b hb;have:=M6 hb;subst this;rfl)];simp
  simp only[Yd,List.length_singleton];omega
 ·intro s hs;simp[Yd] at hs;subst hs;omega
 intro v E;simp only[Yd,List.length_singleton] at *;rcases List.mem_or_eq_of_mem_set E with E | rfl
 ·have:=M6 E;omega
 omega
theorem qC {a:QP}{f i:Nat}{c:Cs}(h:¬i<c.ord.length):Xc a f i c=c:=by
 cases f with
 | zero=>rfl
 | succ f=>rw[Xc,if_neg h]
theorem Zi.ed_le {a:QP}(h:Zi a):a.ed.length≤131072:=by
 have h1:YX (a.ed.map λe=>e.1*32+e.2.1):=by
  refine L7.2 (List.Pairwise.imp_of_mem ?_ h.edi);intro x y hx hy G;have h2:=h.al _ (h.ed x hx).2.2.1;have h3:=h.al _ (h.ed y hy).2.2.1;omega
 have h2:=Y8 _ 0 131072 h1 (by
  intro v E;obtain ⟨e,he,rfl⟩:=Ly.1 E;have h3:=h.ed e he;have H:=h.al _ h3.2.2.1;have:=h.st1;omega)
 simp only[List.length_map] at h2;omega
theorem Jm (E:List Ed) (s:Int):(ZJ E s).length≤E.length:=ME _ _
structure X7 (b3 b22:Nat) (r3:Value) (wS:World) (c:Cs) (vo vk ve:Value) (w:World):Prop where
 st:Step [b3,b22] wS w
 B3:Q4 w.heap b3 58 [r3,.int .i64 0,vk,ve]
 B22:Q4 w.heap b22 3 (c.num.map (Value.int .i64))
 o:Qu 3 wS.heap.size w vo c.ord
 k:Qu 3 wS.heap.size w vk c.mk'
 e:Ye 144 wS.heap.size w ve c.ed
 d1:Dj vo vk
 d2:Dj vo ve
 d3:Dj vk ve
theorem X7.ext {b3 b22:Nat}{r3:Value}{wS:World}{c:Cs}{vo vk ve:Value}{w w':World}(h:X7 b3 b22 r3 wS c vo vk ve w) (hs:Step [] w w'):X7 b3 b22 r3 wS c vo vk ve w' :=
 ⟨h.st.trans hs,h.B3.ext hs,h.B22.ext hs,Qq h.o hs,Qq h.k hs,Qq h.e hs,h.d1,h.d2,h.d3⟩
section
variable {b3 b22:Nat} {r3:Value} {wS:World} {c:Cs} {vo vk ve:Value} {w w' w'':World}
theorem X7.setK (h:X7 b3 b22 r3 wS c vo vk ve w) (T:b3<wS.heap.size) (J:b22<wS.heap.size) (ne:b3≠b22) {G:Value}{m:LI}(hs:Step (ob vk) w w') (H:Qu 3 wS.heap.size w' G m)
  (I:∀b∈ob G,b∈ob vk∨w.heap.size≤b) (E:Step [b3] w' w'') (S:Q4 w''.heap b3 58 [r3,.int .i64 0,G,ve]):X7 b3 b22 r3 wS ⟨c.ord,c.num,m,c.ed⟩ vo G ve w'':=by
 have hge:=Qn h.k;refine ⟨(h.st.then hs (λb hb=>.inr (hge b hb).1)).then E (λb hb=>.inl (by simp at hb;simp[hb])),S,(h.B22.step hs (QU h.k J)).step E (by simp;omega),
  Qk (Qk h.o hs h.d1) E (λb hb=>by have:=(Qn h.o b hb).1;simp;omega),Qk H E (λb hb=>by have:=(Qn H b hb).1;simp;omega),
  Qk (Qk h.e hs h.d3.symm) E (λb hb=>by have:=(Qn h.e b hb).1;simp;omega),h.d1.grow I (QO h.o),h.d2,(h.d3.symm.grow I (QO h.e)).symm⟩
theorem X7.setE (h:X7 b3 b22 r3 wS c vo vk ve w) (T:b3<wS.heap.size) (J:b22<wS.heap.size) (ne:b3≠b22) {G:Value}{m:List Ed}(hs:Step (ob ve) w w') (H:Ye 144 wS.heap.size w' G m)
  (I:∀b∈ob G,b∈ob ve∨w.heap.size≤b) (E:Step [b3] w' w'') (S:Q4 w''.heap b3 58 [r3,.int .i64 0,vk,G]):X7 b3 b22 r3 wS ⟨c.ord,c.num,c.mk',m⟩ vo vk G w'':=by
 have hge:=Qn h.e;refine ⟨(h.st.then hs (λb hb=>.inr (hge b hb).1)).then E (λb hb=>.inl (by simp at hb;simp[hb])),S,(h.B22.step hs (QU h.e J)).step E (by simp;omega),
  Qk (Qk h.o hs h.d2) E (λb hb=>by have:=(Qn h.o b hb).1;simp;omega),Qk (Qk h.k hs h.d3) E (λb hb=>by have:=(Qn h.k b hb).1;simp;omega),
  Qk H E (λb hb=>by have:=(Qn H b hb).1;simp;omega),h.d1,h.d2.grow I (QO h.o),h.d3.grow I (QO h.k)⟩
theorem X7.setN (h:X7 b3 b22 r3 wS c vo vk ve w) (H:b22<wS.heap.size) (ne:b3≠b22) {m:LI}(E:Step [b22] w w') (G:Q4 w'.heap b22 3 (m.map (Value.int .i64))):X7 b3 b22 r3 wS ⟨c.ord,m,c.mk',c.ed⟩ vo vk ve w' :=
 ⟨h.st.then E (λb hb=>.inl (by simp at hb;simp[hb])),h.B3.step E (by simp;omega),G,Qk h.o E (λb hb=>by have:=(Qn h.o b hb).1;simp;omega),
  Qk h.k E (λb hb=>by have:=(Qn h.k b hb).1;simp;omega),Qk h.e E (λb hb=>by have:=(Qn h.e b hb).1;simp;omega),h.d1,h.d2,h.d3⟩
theorem X7.setO (h:X7 b3 b22 r3 wS c vo vk ve w) (H:b3<wS.heap.size) (I:b22<wS.heap.size) {E:Value}{m:LI}(hs:Step (ob vo) w w') (J:Qu 3 wS.heap.size w' E m)
  (G:∀b∈ob E,b∈ob vo∨w.heap.size≤b):X7 b3 b22 r3 wS ⟨m,c.num,c.mk',c.ed⟩ E vk ve w' :=
 ⟨h.st.then hs (λb hb=>.inr (Qn h.o b hb).1),h.B3.step hs (QU h.o H),h.B22.step hs (QU h.o I),J,Qk h.k hs h.d1.symm,Qk h.e hs h.d2.symm,
  (h.d1.symm.grow G (QO h.k)).symm,(h.d2.symm.grow G (QO h.e)).symm,h.d3⟩
end
def ZP (c:Cs) (e:Ed):Cs:=if ZL c.num e.2.2<0 then ⟨c.ord++[e.2.2],c.num.set e.2.2.toNat c.ord.length,c.mk',c.ed⟩ else c
theorem QaF (c:Cs) (e:Ed):(ZP c e).num.length=c.num.length:=by unfold ZP;split <;> simp
theorem VU {i:Nat}{c:Cs}{e:Ed}(h:e.2.2.toNat<c.num.length):Zd i c e=⟨(ZP c e).ord,(ZP c e).num,(ZP c e).mk',(ZP c e).ed++[((i:Int),e.2.1,ZL (ZP c e).num e.2.2)]⟩:=by
 unfold Zd ZP;split
 ·simp[ZL,List.getD,h]
 rfl
set_option maxHeartbeats 1000000 in
theorem X3 {L:LN}{w:World}{va vm ve:Value}{a:QP}(h:Zu L w.heap va vm ve a) (T:Zi a) :
  QI prog 194 [.agg #[va,.int .i64 a.st,vm,ve]] w λr w'=>Step [] w w'∧YY w.heap.size w'.heap r (YV a):=by
 have z9:=T.st0;have hst1:=T.st1;refine QI.of_W func194 O ntmps194 results194 (by simp) ?_;refine Qc<|xl O<|QQ (us:=[va,.int .i64 a.st,vm,ve]) O λb1 w1 hK hb1 hp=>xl O<|Qt (us:=[nS,.int .i64 0,nS,nS]) O λb2 w2 V hb2 hr=>xe ?_;have hz1:=hK.size;have hz2:=V.size;have hl1:=hp.lt;have hl2:=hr.lt
 refine Qc<|x (Qa O)<|x (Qd (hp.ext V) O O)<|xl O<|xf<|(ZZ ((h.al.ext hK).ext V)).mono ?_;rintro r3 w3 ⟨Y,H⟩;have hz3:=Y.size;refine x (QE ⟨(Qu.ints (L:=[]) H h.al.le (by simp)).cells,U⟩)<|xl rfl<|Qt (us:=[nS,.int .i64 0,nS,nS]) rfl λb3 w4 ko kp ht =>
  xl rfl<|Qp (us:=[r3,.int .i64 0,nS,nS]) ht O O O O ⟨(Qu.ints (L:=[]) H h.al.le (by simp)).one,rfl,rfl,rfl,U⟩ λw5 kq ht=>xe ?_
 have G:Step [] w3 w5:=ko.then1 kq kp;have hz5:=G.size;have hl3:=ht.lt;have go:Step [] w w5:=((hK.trans V).trans Y).trans G;refine Qg<|Qc<|x (Qa O)<|x (Qd (((hp.ext V).ext Y).ext G) O O)<|x (Q5 O O)<|xe<|Q7 rfl (λhL=>?_) (λhL=>?_)
 ·refine Qc<|x (Qr ht O O)<|xl O<|Qp (us:=[r3,.int .i64 0,nS,nS]) ((hr.ext Y).ext G) O O O O ⟨(Qu.ints (L:=[]) H h.al.le (by simp)).one,rfl,rfl,rfl,U⟩ λw6 gp hr=>xe ?_;refine Qm ⟨[.agg #[r3,.int .i64 0,nS,nS]],⟨⟨_,O,Qx O (hr.at (L:=[]) (by simp)).cells⟩,U⟩,go.then1 gp (by omega),?_⟩;have kr:=Qk (Qq H G) gp (λb hb=>by have:=(Qn H b hb).1;simp;omega);unfold YV;rw[if_pos hL]
  exact ⟨r3,_,_,O,λL' hv=>⟨Qu.ints kr h.al.le (λb hb=>by have:=hv b hb;omega),Zq.nil _ _ _,Zq.nil _ _ _⟩⟩
 have kt:0<a.st:=by omega
 obtain ⟨n,hn⟩:∃n:Nat,a.st=n:=⟨a.st.toNat,by omega⟩;have ku:a.st.toNat=n:=by omega
 refine Qi<|Qc<|x (Qa O)<|x (Qd (((hp.ext V).ext Y).ext G) O O)<|xl O<|K5 (n:=n) (congrArg (Value.int .i64) hn) (congrArg (Value.int .i64) hn) (by omega) λb22 w7 hh hb22 hM=>Qe ?_;have hz7:=hh.size;have hl22:=hM.lt;have kv:=go.trans hh
 rw[show (List.replicate n (Value.int .i64 0).cells.toList).flatten=((List.replicate n 0).map (Value.int .i64)) by rw[show (Value.int .i64 0).cells.toList=[Value.int .i64 0] from rfl,yc,List.map_replicate]] at hM;have kw:Step [] w3 w7:=G.trans hh;refine Qg<|Qc<|Qb<|x (Jb O)<|Qb<|xe ?_
 refine Qh<|QA (α:=Nat) [(5,5),(25,31)] (λk=>[(25,.int .i64 k)]) (λk w'=>Step [b22] w7 w'∧k≤n∧Q4 w'.heap b22 3 ((List.replicate k (-1)++List.replicate (n - k) 0).map (Value.int .i64))) (λk=>n - k) (by rfl) 0 Z
  ⟨Step.refl _ _,Lj _,by simpa using hM⟩ ?_
 rintro k g w8 ⟨hN,hk,hO⟩;refine Qc<|x (QB O O)<|xe<|Qg<|QH O (λkx=>?_) (λkx=>?_)
 rotate_left
 ·have J:k<n:=by omega
  refine Qi<|Qg<|Qh<|Qc<|Qb<|Qe<|Qz<|Qb<|Qb<|x (Zf O O J)<|xl O<|XG hO O O (by simp;omega) λw9 h6 gq=>xe ?_;refine Qz<|QN O O<|Qb<|xe<|⟨k+1,by omega,Z,hN.trans' h6,by omega,?_⟩;have e:(List.replicate k (-1:Int)++List.replicate (n - k) 0).set k (-1)=List.replicate (k+1) (-1)++List.replicate (n - (k+1)) 0:=by
   rw[List.set_append_right _ _ (by simp)];obtain ⟨m,hm⟩:∃m,n - k=m+1:=⟨n - k - 1,by omega⟩;rw[hm,show n - (k+1)=m by omega,List.replicate_succ,List.replicate_succ' (n:=k)];simp
  rw[e] at gq;exact gq
 have ky:n=k:=by omega
 subst ky;simp only[Nat.sub_self,List.replicate_zero,List.append_nil] at hO;refine Qy<|Qc<|Qb<|x (Zf (i:=0) O O (by omega))<|xl O<|XG (i:=0) hO O O (by simp;omega) λwS h6 kz=>xe ?_;have hzS:w8.heap.size≤wS.heap.size:=h6.size;have hz8:=hN.size;have hw:Step [b22] w7 wS:=hN.trans' h6;have hy:Step [] w wS:=kv.then1 hw (by omega)
 have hA:Zu [b3,b22] wS.heap va vm ve a:=(h.up (λb hb=>.inr (by simp at hb;omega))).ext hy;have gr:Q4 wS.heap b1 58 [va,.int .i64 a.st,vm,ve]:=((((hp.ext V).ext Y).ext G).ext hh).step hw (by simp;omega);have k0:Q4 wS.heap b2 58 [nS,.int .i64 0,nS,nS]:=(((hr.ext Y).ext G).ext hh).step hw (by simp;omega)
 have k4:Q4 wS.heap b3 58 [r3,.int .i64 0,nS,nS]:=(ht.ext hh).step hw (by simp;omega);have k5:Qu 3 w2.heap.size wS r3 a.al:=Qk (Qq H kw) hw (λb hb=>by have:=QO H b hb;simp;omega);have k6:∀b∈ob r3,b<w3.heap.size:=QO H;have hz:b3<wS.heap.size:=by omega
 have h0:b22<wS.heap.size:=by omega
 have hP:b3≠b22:=by omega
 refine Qc<|xl O<|QD (us:=[[.int .i64 0]]) O O (by decide) (by simp) ⟨rfl,rfl,U⟩ λgs k7 hQ hb34 k8=>Qe ?_;have k9:Qu 3 wS.heap.size k7 (.slice (some ⟨gs,0,none⟩) 1 1) [0]:=k8.own (n:=1) (sz:=1) O (by omega) (by omega);refine Qg<|Qc<|Qe ?_;have hedle:=T.ed_le;have ma:∀e∈a.ed,0≤e.1∧e.1≤1099511627776:=λe he=>by have:=T.ed e he;omega
 refine Qh<|QA (α:=Nat×Cs×Value×Value×Value) [(6,9),(11,11),(35,100)] (λz=>[(6,z.2.2.1),(7,.int .i64 z.1)])
  (λz w'=>X7 b3 b22 r3 wS z.2.1 z.2.2.1 z.2.2.2.1 z.2.2.2.2 w'∧z.1≤z.2.1.ord.length∧Kj a.st z.2.1∧z.2.1.mk'.length≤z.1∧z.2.1.ed.length≤z.1*131072∧Xc a (a.st.toNat - z.1) z.1 z.2.1=Xc a a.st.toNat 0 (Yd a))
  (λz=>a.st.toNat - z.1) (by rfl) (0,Yd a,.slice (some ⟨gs,0,none⟩) 1 1,nS,nS) ⟨O,O,U⟩
  ⟨⟨hQ.any,k4.ext hQ,by show Q4 _ _ _ (List.map _ ((List.replicate a.st.toNat (-1)).set 0 0));rw[ku];exact kz.ext hQ,k9,QM _ _ _ _,QM _ _ _ _,Dj.nil' _,Dj.nil' _,Dj.nil' _⟩,Lj _,Qbf kt,Lj _,Lj _,O⟩ ?_
 rintro ⟨i,c,vo,vk,I⟩ g2 gt ⟨E,hi,hc,mc,mf,hR⟩;simp only[] at E hi hc mc mf hR;have hcle:=hc.le;have hS:=Qu.ints (L:=[]) E.o (by omega) (by simp);have mg:=hA.st E.st;have mh:=gr.step E.st (by simp;omega);refine Qg<|Qc<|Qb<|Qb<|x (Qs hS O)<|x (QB O O)<|xe<|QH rfl (λmi=>?_) (λmi=>?_)
 ·have mj:c=Xc a a.st.toNat 0 (Yd a):=by rw[←hR,qC (by omega)]
  refine Qy<|Qc<|Qb<|x (Qs hS O)<|x (Qa O)<|xl O<|QL E.B3 O O (by simp) rfl λmn h7 mo=>xe ?_;refine Qc ?_;have mq:=Qu.ints (L:=[]) E.k (by omega) (by simp);have mu:=Ye.eds (L:=[]) E.e (by have:=hc.el;omega) (by simp);have mv:=Qu.ints (L:=[]) H h.al.le (by simp)
  refine x (Qr mo O O)<|xl O<|Qp (us:=[r3,.int .i64 c.ord.length,vk,I]) (((k0.step E.st (by simp;omega))).step h7 (by simp;omega)) O O O O ⟨mv.one,O,mq.one,mu.one,U⟩ λmw h8 my=>xe ?_;have gu:Step [b3,b22] wS mn:=E.st.then h7 (λb hb=>.inl (by simp at hb;simp[hb]));have mz:Step [] w mw:=(hy.then gu (λb hb=>.inr (by simp at hb;omega))).then1 h8 (by omega)
  refine Qm ⟨[.agg #[r3,.int .i64 c.ord.length,vk,I]],⟨⟨_,O,Qx O (my.at (L:=[]) (by simp)).cells⟩,U⟩,mz,?_⟩;unfold YV;rw[if_neg hL];simp only[];rw[←mj];have hNge:w.heap.size≤wS.heap.size:=hy.size;have k1:=Qk (Qk E.k h7 (λb hb=>by have:=(Qn E.k b hb).1;simp;omega)) h8 (λb hb=>by have:=(Qn E.k b hb).1;simp;omega)
  have k2:=Qk (Qk E.e h7 (λb hb=>by have:=(Qn E.e b hb).1;simp;omega)) h8 (λb hb=>by have:=(Qn E.e b hb).1;simp;omega);have k3:=Qk (Qk k5 gu (λb hb=>by have:=k6 b hb;simp;omega)) h8 (λb hb=>by have:=(Qn H b hb).1;simp;omega)
  exact ⟨r3,vk,I,O,λL' hv=>⟨Qu.ints k3 h.al.le (λb hb=>by have:=hv b hb;omega),Qu.ints k1 (by show c.mk'.length≤_;omega) (λb hb=>by have:=hv b hb;omega),Ye.eds k2 (by show c.ed.length≤_;have:=hc.el;omega) (λb hb=>by have:=hv b hb;omega)⟩⟩
 have J:i<c.ord.length:=by omega
 refine Qi<|Qg<|Qh<|Q0 (α:=Value) [(8,9),(41,57)] (λz=>[]) (λz w'=>X7 b3 b22 r3 wS (ZN a i c) vo z I w') (by rfl) ?_ ?_
 ·refine Qg<|QW (Step [] gt) [(0,true),(1,true),(2,true),(3,true),(4,true),(5,true),(6,false),(7,true),(8,true),(9,true),(10,true),(11,true)] mixed (by rfl) (by kernel_rfl) (Step.drew _ _) ?_;refine p (λ_=>Qa O)<|pq (λ_ hc=>Qd (mh.ext hc) O O)<|p (λ_=>Qo)<|p (λ_=>Qo)<|pii O hS O O J λa46 m0 =>
   pq (λ_ hc=>Qv (m0.ext hc) O)<|pk<|xf<|(UA (mg.mr.ext (Step.drew _ _)) T.mri _).mono ?_
  rintro r14 w14 ⟨rfl,j14,rfl⟩;refine ⟨Step.drew _ _,?_⟩;refine p (λ_=>Qo)<|p (λ_=>Ql O O)<|p (λ_=>Ql O O)<|p (λ_=>Qf)<|p (λ_=>Qf)<|pe ?_;have hT:=E.ext (Step.drew [] gt);refine Qc<|Qb<|xe ?_;have h9:ZL c.ord i=c.ord[i]:=KJ (by simpa using J);refine QH O (λhU=>?_) (λhU=>?_)
  ·refine Qi<|⟨vk,U,?_⟩;unfold ZN;rw[h9,if_neg hU];exact hT
  refine Qz<|x (Qa O)<|x (Qd hT.B3 O O)<|Qb<|xl O<|QD (us:=[[.int .i64 i]]) O O (by decide) (by simp) ⟨rfl,rfl,U⟩ λb55 w15 m1 hb55 m2=>?_;have h2:=hT.ext m1;refine xl O<|Q6 (news:=[.int .i64 i]) (L:=[]) h2.k O O O (m2.at (by simp)) (by simp[Value.oneCell']) (by omega) h2.st.size λgv m3 m4 gw m5=>?_;have gx:Qu 3 wS.heap.size m3 gv (c.mk'++[(i:Int)]):=Qu.snoc m4
  refine x (Qa O)<|xl O<|QL (h2.B3.step gw (QU h2.k hz)) O O (by simp) (Qu.ints (L:=[]) gx (by simp;omega) (by simp)).one λw17 m6 m7=>xe ?_;refine ⟨gv,U,?_⟩;unfold ZN;rw[h9,if_pos hU];exact h2.setK hz h0 hP gw gx m5 m6 m7
 rintro hV g3 hj ha;have m8:Kj a.st (ZN a i c):=QdH hc;have hW:(ZN a i c).ord=c.ord:=by unfold ZN;split <;> rfl
 have m9:(ZN a i c).ed=c.ed:=by unfold ZN;split <;> rfl
 have pa:(ZN a i c).mk'.length≤i+1:=by
  unfold ZN;split
  ·simp only[List.length_append,List.length_singleton];omega
  omega
 have gy:QK [] hj.heap vo (ZN a i c).ord:=Qu.ints (L:=[]) ha.o (by rw[hW];omega) (by simp);rw[hW] at gy;have pc:Step [] w hj:=hy.then ha.st (λb hb=>.inr (by simp at hb;omega));have hNw:=hy.size;have pd:Zu (b3::b22::(ob vo++ob I)) hj.heap va vm ve a:=(h.up (λb hb=>.inr (by
  simp only[List.mem_cons,List.mem_append] at hb;rcases hb with rfl | rfl | hb | hb
  ·omega
  ·omega
  ·have:=(Qn ha.o b hb).1;omega
  have:=(Qn ha.e b hb).1;omega))).ext pc
 have pf:=gr.step ha.st (by simp;omega);have hs:=hc.ord c.ord[i] (Lc J);refine Qg<|QW (Step [] hj) [(0,true),(1,true),(2,true),(3,true),(4,true),(7,true),(5,false),(6,true)] mixed (by rfl) (by kernel_rfl) (Step.drew _ _) ?_;refine pq (λ_ hc=>Qr (pf.ext hc) O O)<|p (λ_=>Qo)<|p (λ_=>Qo)<|pii O gy O O J λa61 pg =>
  pq (λ_ hc=>Qv (pg.ext hc) O)<|p (λ_=>Qo)<|pk<|xf<|(zd (pd.ed.ext (Step.drew _ _)) T.eds ma c.ord[i] hs.1 (by omega)).mono ?_
 rintro r19 ho ⟨ph,gz⟩;have hX:Step [] hj ho:=(Step.drew [] hj).trans ph;refine ⟨hX,?_⟩;refine p (λ_=>Qs gz O)<|pe ?_;have pj:=ha.ext hX;have h9:ZL c.ord i=c.ord[i]:=KJ (by simpa using J);have hol:=Jm a.ed c.ord[i];have pm:UQ a i c=(ZJ a.ed c.ord[i]).foldl (Zd i) (ZN a i c):=by unfold UQ;rw[h9]
 generalize pn:ZJ a.ed c.ord[i]=os at *;have po:∀e∈os,0≤e.2.2∧e.2.2<a.st:=λe he=>by rw[←pn] at he;have:=T.ed e (Zw he).1;omega
 refine Qh<|QA (α:=Nat×Cs×Value×Value) [(6,6),(11,11),(65,100)] (λz=>[(6,z.2.2.1),(65,.int .i64 z.1)])
  (λz w'=>X7 b3 b22 r3 wS z.2.1 z.2.2.1 hV z.2.2.2 w'∧Step (b3::b22::(ob vo++ob I)) ho w'∧(∀b∈ob z.2.2.1,b∈ob vo∨ho.heap.size≤b)∧(∀b∈ob z.2.2.2,b∈ob I∨ho.heap.size≤b)∧z.1≤os.length∧Kj a.st z.2.1∧z.2.1.mk'=(ZN a i c).mk'∧z.2.1.ed.length=c.ed.length+z.1∧c.ord.length≤z.2.1.ord.length∧(os.drop z.1).foldl (Zd i) z.2.1=UQ a i c)
  (λz=>os.length - z.1) (by rfl) (0,ZN a i c,vo,I) ⟨O,O,U⟩
  ⟨pj,Step.refl _ _,λ_ hb=>.inl hb,λ_ hb=>.inl hb,Lj _,m8,O,by simp[m9],by simp[hW],by rw[pm];rfl⟩ ?_
 rintro ⟨k,d,g0,hB⟩ g4 pp ⟨hf,hC,hD,hY,pt,S,hZ,ga,pu,h3⟩;simp only[] at hf hC hD hY pt S hZ ga pu h3;refine Qc<|x (QB O O)<|xe<|Qg<|QH O (λpw=>?_) (λpw=>?_)
 ·rw[Lp (by omega),Na] at h3;subst h3;refine Qy<|Qz<|Qb<|QN O O<|Qe ?_;have pz:=S.le;refine ⟨(i+1,UQ a i c,g0,hV,hB),by simp only[];omega,⟨O,O,U⟩,hf,by simp only[];omega,S,by simp only[];rw[hZ];exact pa,by simp only[];omega,?_⟩;simp only[];rw[←hR];obtain ⟨m,hm⟩:∃m,a.st.toNat - i=m+1:=⟨a.st.toNat - i - 1,by omega⟩
  rw[hm,Xc,if_pos J,show a.st.toNat - (i+1)=m by omega]
 have gb:k<os.length:=by omega
 have p0:=QZ gb;rw[p0,LO] at h3;have g6:=po os[k] (Lc gb);have p1:=gz.st hC;have pz:=S.le;have hz19:=hX.size;have hzS4:=hC.size;have hz18:=ha.st.size;have hI4z:=hf.st.size;have p2:=Qu.ints (L:=[]) hf.o (by omega) (by simp);obtain ⟨q,hq⟩:∃q:Nat,os[k].2.2=q:=⟨os[k].2.2.toNat,by omega⟩;have gc:os[k].2.2.toNat=q:=by omega
 have ge:q<n:=by omega
 have gg:q<d.num.length:=by rw[S.nl];omega
 have g7:ZL d.num os[k].2.2=d.num[q]:=by rw[KJ (by omega)];simp only[gc]
 have p3:=QO hf.e;have p4:=QO hf.o;refine Qi<|Qg<|Qh<|Qc<|xie p1 O O gb λa67 p5=>x (QF p5 O O)<|xl O<|Qt (us:=[.int .i64 0,.int .i64 0,.int .i64 0]) O λg8 w21 p6 p7 hg=>xl O<|Qp (us:=Qw os[k]) hg O O O O ⟨O,O,O,U⟩ λp8 p9 hg=>xe ?_;have gh:Step [] pp p8:=p6.then1 p9 p7;have hE:=hf.ext gh;have hz22:=gh.size;have hl11:=hg.lt;have G:=hC.trans gh
 refine Q0 (α:=Value) [(6,6),(69,85)] (λz=>[(6,z)]) (λz w'=>X7 b3 b22 r3 wS (ZP d os[k]) z hV hB w'∧Step (b3::b22::(ob vo++ob I)) ho w'∧(∀b∈ob z,b∈ob vo∨ho.heap.size≤b)∧Q4 w'.heap g8 144 (Qw os[k])) (by rfl) ?_ ?_
 ·refine Qc<|Qb<|x (Qa O)<|x (Qd hg O O)<|x (Zf O (congrArg (Value.int .i64) hq) ge)<|x (VM hE.B22 O gg)<|x (QB O O)<|xe<|QH O (λgi=>?_) (λgi=>?_)
  ·refine Qi<|⟨g0,Z,?_,G,hD,hg⟩;unfold ZP;rw[g7,if_neg gi];exact hE
  refine Qc<|Qb<|x (Qa O)<|x (Qd hg O O)<|Qb<|x (Qs p2 O)<|x (Zf O (congrArg (Value.int .i64) hq) ge)<|xl O<|XG hE.B22 O O gg λw23 hF qb=>xe ?_;have qc:=hE.setN h0 hP hF qb;have g9:=hg.step hF (by simp;omega);refine Qz<|Qb<|x (Qa O)<|x (Qd g9 O O)<|xl O<|QD (us:=[[.int .i64 os[k].2.2]]) O O (by decide) (by simp) ⟨rfl,rfl,U⟩ λb84 w24 hG hb84 qj=>?_
  have gj:=qc.ext hG;refine xl O<|Q6 (news:=[.int .i64 os[k].2.2]) (L:=[]) gj.o O O O (qj.at (by simp)) (by simp[Value.oneCell']) (by show d.ord.length+1≤_;omega) gj.st.size λka qk qo gk kb=>Qe ?_;have qr:Qu 3 wS.heap.size qk ka (d.ord++[os[k].2.2]):=Qu.snoc qo;have hz23:=hF.size;have hz24:=hG.size
  refine ⟨ka,Z,?_,?_,?_,(g9.ext hG).step gk (λhb=>by have:=p4 _ hb;omega)⟩
  ·unfold ZP;rw[g7,if_pos gi,gc];exact gj.setO hz h0 gk qr kb
  ·refine ((G.then hF (λb hb=>.inl ?_)).trans hG).then gk (λb hb=>?_)
   ·simp at hb;simp[hb]
   rcases hD b hb with h1 | h1
   ·exact .inl (by simp[h1])
   exact .inr h1
  intro b hb;rcases kb b hb with h1 | h1
  ·exact hD b h1
  exact .inr (by omega)
 rintro q0 g5 gl ⟨h4,kc,q1,ke⟩;have gm:Zd i d os[k]=⟨(ZP d os[k]).ord,(ZP d os[k]).num,(ZP d os[k]).mk',(ZP d os[k]).ed++[((i:Int),os[k].2.1,ZL (ZP d os[k]).num os[k].2.2)]⟩:=VU (by omega);have q2:q<(ZP d os[k]).num.length:=by rw[QaF];exact gg
 have q3:ZL (ZP d os[k]).num os[k].2.2=(ZP d os[k]).num[q]:=by rw[KJ (by omega)];simp only[gc]
 have kf:=QU h4.e hz;have q4:=QU h4.e h0;have kg:g8∉ob hB:=λhb=>by have:=p3 _ hb;omega
 have kh:(ZP d os[k]).ed=d.ed:=by unfold ZP;split <;> rfl
 have za:Kj a.st (Zd i d os[k]):=zW S g6.1 g6.2 (by rw[ga];omega);refine QW (Step (ob hB) gl) [(0,true),(1,true),(2,true),(3,true),(4,true),(5,true),(6,true),(7,true),(8,true),(9,true),(10,true),(11,false),(12,false),(13,true),(14,false)] mixed (by rfl) (by kernel_rfl) (Step.drew _ _) ?_
 refine p (λ_=>Qa O)<|pq (λ_ hc=>Qd (h4.B3.step hc kf) O O)<|p (λ_=>Qo)<|p (λ_=>Qa O)<|pq (λ_ hc=>Qd (ke.step hc kg) O O) <|
  p (λ_=>Qo)<|p (λ_=>Qa O)<|pq (λ_ hc=>Qd (ke.step hc kg) O O)<|p (λ_=>Zf O (congrArg (Value.int .i64) hq) ge) <|
  pq (λ_ hc=>VM (h4.B22.step hc q4) O q2)<|p (λ_=>QE ⟨O,O,O,U⟩)<|pk<|QD (us:=[Qw ((i:Int),os[k].2.1,(ZP d os[k]).num[q])]) O O (by decide) (by exact (by decide:1*3≤1000000)) ⟨O,O,U⟩ λb97 zv z0 hb97 z2=>?_
 have h5:Step [] gl zv:=(Step.drew [] gl).trans z0;refine ⟨h5.any,?_⟩;have hH:=h4.ext h5;refine pk<|Q6 (news:=Qw ((i:Int),os[k].2.1,(ZP d os[k]).num[q])) (L:=[]) hH.e O O O (z2.at (by simp)) (λu hu=>by simp only[Qw,List.mem_cons,List.not_mem_nil,or_false] at hu;rcases hu with rfl | rfl | rfl <;> rfl) (by rw[kh];have:=S.el;omega) hH.st.size λki z3 z4 hJ kj=>?_
 refine ⟨h5.any.trans' hJ,?_⟩;have kk:Ye 144 wS.heap.size z3 ki ((ZP d os[k]).ed++[((i:Int),os[k].2.1,(ZP d os[k]).num[q])]):=Ye.snoc z4;refine p (λ_=>Qa O)<|pkl (hl:=by kernel_rfl)<|QL (hH.B3.step hJ kf) O O (by simp) (Ye.eds (L:=[]) kk (by simp[kh];have:=S.el;omega) (by simp)).one λw29 kn z5=>pe ?_;have gn:=hH.setE hz h0 hP hJ kk kj kn z5
 rw[←q3] at gn;rw[←gm] at gn;refine Qz<|QN O O<|Qb<|xe ?_;have hz26:=kc.size;have hz27:=h5.size;refine ⟨(k+1,Zd i d os[k],q0,ki),by simp only[];omega,⟨O,O,U⟩,gn,?_,q1,?_,by simp only[];omega,za,?_,?_,?_,h3⟩
 ·refine (((kc.trans h5)).then hJ (λb hb=>?_)).then kn (λb hb=>.inl (by simp at hb;simp[hb]));rcases hY b hb with h1 | h1
  ·exact .inl (by simp[h1])
  exact .inr h1
 ·intro b hb;rcases kj b hb with h1 | h1
  ·exact hY b h1
  exact .inr (by omega)
 ·simp only[];rw[←hZ,gm];simp only[];unfold ZP;split <;> rfl
 ·simp only[];rw[zY,ga];omega
 simp only[];rw[gm];simp only[];unfold ZP;split
 ·simp only[List.length_append];omega
 omega
end Go.Proofs.YtdffckgdcegpaaaGreatDoor
namespace Go.Proofs
open Go.Proofs.Tryz
open Go.Shelf
def Tryz.lays169_ren:Go.Shelf.Ren:=⟨λ| 169=>147 | n=>n,λ| 70=>249 | 9=>9 | 0=>0 | 72=>251 | 37=>73 | 127=>311 | 3=>3 | 5=>5 | n=>n,λ| n=>n⟩
theorem Tryz.lays169:Go.Proofs.Lays.n169 prog Tryz.lays169_ren:={
 mixed:=by kernel_rfl
 f169:=func147.trans (congrArg some (by kernel_rfl))
 t0:=underlying0
 a0:=Tryz.isAgg0
 z0:=Tryz.sizeOf0
 v0:=Tryz.zeroValue0
 t3:=underlying3
 a3:=Tryz.isAgg3
 z3:=Tryz.sizeOf3
 v3:=Tryz.zeroValue3
 t9:=underlying9
 a9:=Tryz.isAgg9
 z9:=Tryz.sizeOf9
 v9:=Tryz.zeroValue9
 t37:=underlying73
 a37:=Tryz.isAgg73
 z37:=Tryz.sizeOf73
 v37:=Tryz.zeroValue73
 t70:=underlying249
 a70:=Tryz.isAgg249
 z70:=Tryz.sizeOf249
 v70:=Tryz.zeroValue249
 t72:=underlying251
 a72:=Tryz.isAgg251
 z72:=Tryz.sizeOf251
 v72:=Tryz.zeroValue251
 t127:=underlying311
 a127:=Tryz.isAgg311
 z127:=Tryz.sizeOf311
 v127:=Tryz.zeroValue311 }
theorem Tryz.Builder_Extra_169:Builder.Extra prog Tryz.lays169_ren:={
 sizeBuilder:=by kernel_rfl
 liesBuilder:=by kernel_rfl
 t5:=underlying5
 a5:=Tryz.isAgg5
 z5:=Tryz.sizeOf5
 v5:=Tryz.zeroValue5
 infoByte:=by kernel_rfl
 cellsByte:=by kernel_rfl
 sizeByte:=by kernel_rfl
 neB5:=by decide }
open Go.RowKit in
open Go.RowKit in
open Go.RowKit in
theorem Tryz.Builder_String_any (B b:Nat) (l:List UInt8) (w:World) (h:Lib.IsBuilder 251 5 B b (Lib.byteCells l) w) (E:B≤w.heap.size) :
  Calls prog 147 #[.pointer (some ⟨b,0,none⟩)] w λe w'=>e=.returned (.string ⟨l.toArray⟩)∧Below B w w':=Any.Builder_String_any Tryz.lays169 Tryz.Builder_Extra_169 B b l w h E
def Tryz.laysM171_ren:Go.Shelf.Ren:=⟨λ| 171=>146 | 243=>205 | 246=>258 | 283=>283 | 284=>284 | 285=>285 | 286=>286 | 129=>230 | 317=>309 | 318=>310 | 319=>311 | 320=>312 | 337=>320 | 338=>321 | n=>n,λ| 3=>3 | 9=>9 | 2=>2 | 4=>4 | 171=>391 | 0=>0 | 53=>340 | 37=>73 | 5=>5 | 173=>393 | 212=>410 | 51=>338 | 20=>20 | 213=>411 | 46=>269 | 232=>419 | 233=>420 | n=>n,λ| 17=>0 | 18=>1 | 19=>2 | n=>n⟩
theorem Tryz.laysM171:Go.Proofs.LaysM.n171 prog Tryz.laysM171_ren:={
 mixed:=by kernel_rfl
 f129:=func230.trans (congrArg some (by kernel_rfl))
 f171:=func146.trans (congrArg some (by kernel_rfl))
 f243:=func205.trans (congrArg some (by kernel_rfl))
 f246:=func258.trans (congrArg some (by kernel_rfl))
 f283:=func283.trans (congrArg some (by kernel_rfl))
 f284:=func284.trans (congrArg some (by kernel_rfl))
 f285:=func285.trans (congrArg some (by kernel_rfl))
 f286:=func286.trans (congrArg some (by kernel_rfl))
 f317:=func309.trans (congrArg some (by kernel_rfl))
 f318:=func310.trans (congrArg some (by kernel_rfl))
 f319:=func311.trans (congrArg some (by kernel_rfl))
 f320:=func312.trans (congrArg some (by kernel_rfl))
 f337:=func320.trans (congrArg some (by kernel_rfl))
 f338:=func321.trans (congrArg some (by kernel_rfl))
 t0:=underlying0
 a0:=Tryz.isAgg0
 z0:=Tryz.sizeOf0
 v0:=Tryz.zeroValue0
 t2:=underlying2
 a2:=Tryz.isAgg2
 z2:=Tryz.sizeOf2
 v2:=Tryz.zeroValue2
 t3:=underlying3
 a3:=Tryz.isAgg3
 z3:=Tryz.sizeOf3
 v3:=Tryz.zeroValue3
 t4:=underlying4
 a4:=Tryz.isAgg4
 z4:=Tryz.sizeOf4
 v4:=Tryz.zeroValue4
 t5:=underlying5
 a5:=Tryz.isAgg5
 z5:=Tryz.sizeOf5
 v5:=Tryz.zeroValue5
 t9:=underlying9
 a9:=Tryz.isAgg9
 z9:=Tryz.sizeOf9
 v9:=Tryz.zeroValue9
 t20:=underlying20
 a20:=Tryz.isAgg20
 z20:=Tryz.sizeOf20
 v20:=Tryz.zeroValue20
 t37:=underlying73
 a37:=Tryz.isAgg73
 z37:=Tryz.sizeOf73
 v37:=Tryz.zeroValue73
 t46:=underlying269
 a46:=Tryz.isAgg269
 z46:=Tryz.sizeOf269
 v46:=Tryz.zeroValue269
 t51:=underlying338
 a51:=Tryz.isAgg338
 z51:=Tryz.sizeOf338
 v51:=Tryz.zeroValue338
 t53:=underlying340
 a53:=Tryz.isAgg340
 z53:=Tryz.sizeOf340
 v53:=Tryz.zeroValue340
 t171:=underlying391
 a171:=Tryz.isAgg391
 z171:=Tryz.sizeOf391
 v171:=Tryz.zeroValue391
 t173:=underlying393
 a173:=Tryz.isAgg393
 z173:=Tryz.sizeOf393
 v173:=Tryz.zeroValue393
 t212:=underlying410
 a212:=Tryz.isAgg410
 z212:=Tryz.sizeOf410
 v212:=Tryz.zeroValue410
 t213:=underlying411
 a213:=Tryz.isAgg411
 z213:=Tryz.sizeOf411
 t232:=underlying419
 a232:=Tryz.isAgg419
 z232:=Tryz.sizeOf419
 v232:=Tryz.zeroValue419
 t233:=underlying420
 a233:=Tryz.isAgg420
 z233:=Tryz.sizeOf420
 v233:=Tryz.zeroValue420
 g17:=by kernel_rfl
 g18:=by kernel_rfl
 g19:=by kernel_rfl
 i0:=by kernel_rfl
 i2:=by kernel_rfl
 i3:=by kernel_rfl
 i4:=by kernel_rfl
 i5:=by kernel_rfl
 i9:=by kernel_rfl
 i20:=by kernel_rfl
 i37:=by kernel_rfl
 i46:=by kernel_rfl
 i51:=by kernel_rfl
 i53:=by kernel_rfl
 i171:=by kernel_rfl
 i173:=by kernel_rfl
 i212:=by kernel_rfl
 i232:=by kernel_rfl
 i233:=by kernel_rfl
 m17:=by kernel_rfl
 m18:=by kernel_rfl
 m19:=by kernel_rfl }
open Go.RowKit Go.Sort Go.Lib in
theorem Tryz.strconv_Itoa (n:Int) (E:-9223372036854775808≤n) (h1:n≤9223372036854775807) (w:World) (G:Lib.TabIs prog w "internal/strconv.uint64pow10" .u64 Lib.pow10Tab) :
  Calls prog 146 #[.int .i64 n] w λe w'=>e=.returned (.string ⟨(Lib.itoa n).toArray⟩)∧∃k os,w'=grow (w.drewN k) os:=Any.strconv_Itoa Tryz.laysM171 n E h1 w G
def Tryz.lays171_ren:Go.Shelf.Ren:=⟨λ| 171=>146 | 243=>205 | 246=>258 | 283=>283 | 284=>284 | 285=>285 | 286=>286 | 129=>230 | 317=>309 | 318=>310 | 319=>311 | 320=>312 | 337=>320 | 338=>321 | n=>n,λ| 3=>3 | 9=>9 | 2=>2 | 4=>4 | 171=>391 | 0=>0 | 53=>340 | 37=>73 | 5=>5 | 173=>393 | 212=>410 | 51=>338 | 20=>20 | 213=>411 | 46=>269 | 232=>419 | 233=>420 | n=>n,λ| 17=>0 | 18=>1 | 19=>2 | n=>n⟩
theorem Tryz.lays171:Go.Proofs.Lays.n171 prog Tryz.lays171_ren:={
 mixed:=by kernel_rfl
 f129:=func230.trans (congrArg some (by kernel_rfl))
 f171:=func146.trans (congrArg some (by kernel_rfl))
 f243:=func205.trans (congrArg some (by kernel_rfl))
 f246:=func258.trans (congrArg some (by kernel_rfl))
 f283:=func283.trans (congrArg some (by kernel_rfl))
 f284:=func284.trans (congrArg some (by kernel_rfl))
 f285:=func285.trans (congrArg some (by kernel_rfl))
 f286:=func286.trans (congrArg some (by kernel_rfl))
 f317:=func309.trans (congrArg some (by kernel_rfl))
 f318:=func310.trans (congrArg some (by kernel_rfl))
 f319:=func311.trans (congrArg some (by kernel_rfl))
 f320:=func312.trans (congrArg some (by kernel_rfl))
 f337:=func320.trans (congrArg some (by kernel_rfl))
 f338:=func321.trans (congrArg some (by kernel_rfl))
 t0:=underlying0
 a0:=Tryz.isAgg0
 z0:=Tryz.sizeOf0
 v0:=Tryz.zeroValue0
 t2:=underlying2
 a2:=Tryz.isAgg2
 z2:=Tryz.sizeOf2
 v2:=Tryz.zeroValue2
 t3:=underlying3
 a3:=Tryz.isAgg3
 z3:=Tryz.sizeOf3
 v3:=Tryz.zeroValue3
 t4:=underlying4
 a4:=Tryz.isAgg4
 z4:=Tryz.sizeOf4
 v4:=Tryz.zeroValue4
 t5:=underlying5
 a5:=Tryz.isAgg5
 z5:=Tryz.sizeOf5
 v5:=Tryz.zeroValue5
 t9:=underlying9
 a9:=Tryz.isAgg9
 z9:=Tryz.sizeOf9
 v9:=Tryz.zeroValue9
 t20:=underlying20
 a20:=Tryz.isAgg20
 z20:=Tryz.sizeOf20
 v20:=Tryz.zeroValue20
 t37:=underlying73
 a37:=Tryz.isAgg73
 z37:=Tryz.sizeOf73
 v37:=Tryz.zeroValue73
 t46:=underlying269
 a46:=Tryz.isAgg269
 z46:=Tryz.sizeOf269
 v46:=Tryz.zeroValue269
 t51:=underlying338
 a51:=Tryz.isAgg338
 z51:=Tryz.sizeOf338
 v51:=Tryz.zeroValue338
 t53:=underlying340
 a53:=Tryz.isAgg340
 z53:=Tryz.sizeOf340
 v53:=Tryz.zeroValue340
 t171:=underlying391
 a171:=Tryz.isAgg391
 z171:=Tryz.sizeOf391
 v171:=Tryz.zeroValue391
 t173:=underlying393
 a173:=Tryz.isAgg393
 z173:=Tryz.sizeOf393
 v173:=Tryz.zeroValue393
 t212:=underlying410
 a212:=Tryz.isAgg410
 z212:=Tryz.sizeOf410
 v212:=Tryz.zeroValue410
 t213:=underlying411
 a213:=Tryz.isAgg411
 z213:=Tryz.sizeOf411
 t232:=underlying419
 a232:=Tryz.isAgg419
 z232:=Tryz.sizeOf419
 v232:=Tryz.zeroValue419
 t233:=underlying420
 a233:=Tryz.isAgg420
 z233:=Tryz.sizeOf420
 v233:=Tryz.zeroValue420
 g17:=by kernel_rfl
 g18:=by kernel_rfl
 g19:=by kernel_rfl }
open Go.RowKit Go.Sort Go.Lib in
theorem Tryz.strconv_Itoa_small (i:Nat) (hi:i<100) (w:World) :
  Calls prog 146 #[.int .i64 i] w λe w'=>e=.returned (.string ⟨(Lib.decDigits i).toArray⟩)∧w'=w:=Any.strconv_Itoa_small Tryz.lays171 i hi w
end Go.Proofs
namespace Go.Lg
open Go.RowKit
section
variable {P:Program} {K:Fr→World→Prop} {f:Fr} {w:World} {d:Option Nat} {ty:Nat} {ps:String} {af:Array Edge} {gd:Option (Nat×Bool)}
theorem Qax {t te E:Nat}(hp:P.underlying t=some (.pointer te)) {x y:Operand}{a:Option Addr}(hx:ev f x=.pointer a) (hy:ev f y=.pointer none) :
  (execOp (ev f) ⟨d,.binOp .eql t x y E,ty,ps,af,gd⟩).run P w=.ok (.value (.bool a.isNone)) w:=by
 have G:(eqGuard .eql t x y (.pointer a) (.pointer none)).run P w=.ok () w:=by simp[eqGuard]
 have key:∀m,(Op.equalIn (m+1) t (.pointer a) (.pointer none)).run P w=.ok a.isNone w:=by
  intro m;unfold Op.equalIn;cases a <;> simp[run_underlying hp]
 have he:(Op.equal t (.pointer a) (.pointer none)).run P w=.ok a.isNone w:=key 9999;simp only[execOp,hx,hy,Sem.run_bind,G,Result.andThen_ok,binOp,he,Sem.run_pure]
theorem QbL {t te E:Nat}{j:TypeInfo}(hp:P.underlying t=some (.pointer te)) (G:P.info? te=some j) {x y:Operand}{a:Addr}(hx:ev f x=.pointer (some a)) (hy:ev f y=.pointer (some a)) :
  (execOp (ev f) ⟨d,.binOp .neq t x y E,ty,ps,af,gd⟩).run P w=.ok (.value (.bool false)) w:=by
 have H:(eqGuard .neq t x y (.pointer (some a)) (.pointer (some a))).run P w=.ok () w:=by simp[eqGuard]
 simp only[execOp,hx,hy,Sem.run_bind,H,Result.andThen_ok,Lib.run_neq_ptr_same w a hp G,Sem.run_pure]
theorem q8 {t E:Nat}{x:Operand}{v v':Value}(hx:ev f x=v) (h:(convert t E v).run P w=.ok v' w) :
  (execOp (ev f) ⟨d,.convert t E x,ty,ps,af,gd⟩).run P w=.ok (.value v') w:=by
 simp[execOp,hx,h]
theorem Qdl {g:Nat}{fn:Func}{e:Array Value→Sem Value}{x:Operand}{v:Value}{ts:Array Nat}(E:P.funcs[g]?=some fn) (G:(fn.name == "runtime.NumGoroutine")=false)
  (hb:fn.body.isNone=true) (H:Extern.findNext fn=none) (he:Extern.find fn=some e) (h:(e #[ev f x]).run P w=.ok v w) :
  (execOp (ev f) ⟨d,.call ⟨.value (.func g),#[x],ts⟩,ty,ps,af,gd⟩).run P w=.ok (.value v) w:=by
 have hc:=run_callFunc_extern E G hb H he #[ev f x] w;rw[h] at hc;have I:ev f (.func g)=.func (.func g) #[] #[]:=rfl;simp[execOp,resolve,I,Deferred.ofValue,invoke,hc,Result.andThen]
theorem QhN {t e u:Nat}[h:Sl P t e 1 1 (.int .u8 0)] (hu:P.underlying u=some .string) {s y:Operand}{base:Nat}{v:Value}{n:Nat}{cs:LV}(E:w.ownsRow base e 1 v n cs) (hs:ev f s=v)
  {b:ByteArray} (hy:ev f y=.string b) (hb:n+b.size≤1099511627776) (G:base≤w.heap.size)
  (H:∀v' w',w'.ownsRow base e 1 v' (n+b.size) (cs++Lib.strCells b)→Step (ob v) w w'→K (QR f d v') w') :
  XO P ⟨d,.call ⟨.builtin .append,#[s,y],#[t,u]⟩,ty,ps,af,gd⟩ f w K:=by
 obtain ⟨i,hi,hz,I,J⟩:=Sl.info h;obtain ⟨v',w',S,h2,h3,_⟩:=Lib.run_append_own_string (P:=P) w base t u ty e i h.u hu hi hz I J v n cs E b (by simp only[maxLen];omega) (by omega) G;have T:(execOp (ev f) ⟨d,.call ⟨.builtin .append,#[s,y],#[t,u]⟩,ty,ps,af,gd⟩).run P w=.ok (.value v') w':=by
  simp[execOp,resolve,invoke,builtin,hs,hy,S]
 exact xv T (H v' w' h2 (by rw[zf];exact Step.of_grown h3))
theorem Qdj {x:Operand}{u:Nat}(hu:P.underlying u=some .string) {b:ByteArray}(hx:ev f x=.string b) :
  (execOp (ev f) ⟨d,.call ⟨.builtin .len,#[x],#[u]⟩,ty,ps,af,gd⟩).run P w=.ok (.value (.int .i64 b.size)) w:=by
 simp[execOp,resolve,invoke,builtin,Builtin.len_,hx,run_underlying hu,goInt]
end
end Go.Lg
namespace Go.Proofs.YtdffckgdcegpaaaGreatDoor
open Go.Proofs.Tryz
open Go.Lg
def Bl (p:Value) (b:Nat) (E:List UInt8) (w:World):Prop:=∃v,Q4 w.heap b 251 [p,v]∧w.ownsRow (b+1) 5 1 v E.length (Lib.byteCells E)
def me (b:Nat):Value:=.pointer (some ⟨b,0,none⟩)
theorem Qgs {P:Program}{t n:Nat}(h:(P.info? t).map (·.size)=some n):∃j,P.info? t=some j∧j.size=n:=by
 simpa using h
theorem qE {w:World}{b T:Nat}{cs:LV}(h:Q4 w.heap b T cs):w.shape? b=some (T,cs.length):=by
 unfold Q4 at h;simp[World.shape?,h]
theorem KP {G w:World}{b:Nat}{J:List UInt8}{p:Value}(S:Step [] G w) (hb:G.heap.size≤b) (hp:p=.pointer none∨p=me b) (h:Bl p b J w) :
  QI prog 204 [me b] w λr w'=>r=.tuple #[]∧Step [] G w'∧Bl (me b) b J w':=by
 obtain ⟨v,E,H⟩:=h;obtain ⟨j,I,V⟩:=Qgs (P:=prog) (t:=251) (n:=2) (by kernel_rfl);refine QI.of_W func204 O ntmps204 results204 (by simp) ?_;refine Qc ?_;rcases hp with rfl | rfl
 ·refine Qb<|x (QC O)<|x (Qa O)<|x (Qd E O O)<|x (Qax underlying249 O O)<|xe<|UD O ?_;refine Qz<|Qb<|Qb<|x (q8 (v':=me b) O (Lib.run_to_unsafe w ⟨b,0,none⟩ underlying249 underlying363 I (by rw[V];decide) (qE E) (by simp))) <|
   x (Qdl (v:=me b) func257 (by kernel_rfl) (by kernel_rfl) (by kernel_rfl) (e:=Extern.AbiNoEscape.same) (by kernel_rfl) O) <|
   x (q8 (v':=me b) O (Lib.run_from_unsafe w ⟨b,0,none⟩ underlying363 underlying249 I (qE E) (by kernel_rfl)))<|x (QC O) <|
   x (Qa rfl)<|xl O<|QL E O O (by simp) rfl λw2 T Y=>xe ?_
  exact ⟨[],U,O,S.then1 T hb,v,Y,Qk H T (λc hc=>by have:=(Qn H c hc).1;simp;omega)⟩
 refine Qb<|x (QC O)<|x (Qa O)<|x (Qd E O O)<|x (Qax underlying249 O O)<|xe<|Yc O ?_;refine Qc<|Qb<|x (QC O)<|x (Qa O)<|x (Qd E O O)<|Qb<|x (QbL underlying249 I O O)<|xe<|Yc O ?_;refine Qi ?_;exact ⟨[],U,O,S,v,E,H⟩
theorem qN {H w:World}{b:Nat}{E:List UInt8}{p:Value}(h0:Step [] H w) (hb:H.heap.size≤b) (hp:p=.pointer none∨p=me b) (h:Bl p b E w) (c:UInt8) (hl:E.length+1≤1000000000) :
  QI prog 203 [me b,.int .u8 c.toNat] w λ_ w'=>Step [] H w'∧Bl (me b) b (E++[c]) w':=by
 refine QI.of_W func203 O ntmps203 results203 (by simp) ?_;refine Qc<|Qe<|Qc<|Qb<|xl O<|xf<|(KP h0 hb hp h).mono ?_;rintro r1 w1 ⟨rfl,ha,v,I,J⟩;refine xe ?_;have hj:=I.lt;refine Qc<|Qb<|Qb<|x (QC O)<|x (Qa O)<|x (Qd I O O)<|Qb<|xl O<|QD (us:=[[.int .u8 c.toNat]]) O O (by decide) (by simp) ⟨rfl,rfl,U⟩ λhk w2 G hm he=>?_;have hn:=G.size;have hf:=Qq J G
 refine xl rfl<|Q6 (news:=[.int .u8 c.toNat]) (L:=[]) hf O O O (he.at (by simp)) (by simp[Value.oneCell']) (by omega) (by omega) λT w3 hg V hq=>?_;have hh:=(I.ext G).step V (λhc=>by have:=(Qn J b hc).1;omega);have S:w3.ownsRow (b+1) 5 1 T (E++[c]).length (Lib.byteCells (E++[c])):=by simpa[Lib.byteCells] using hg
 refine x (QC O)<|x (Qa O)<|xl O<|QL hh O O (by simp) (QS (L:=[]) S (by simp;omega) (by simp)).one λw4 Y hi=>xe ?_;refine Qc<|Qe<|Qm ⟨[.nilIface],Z,(((ha.trans G).then V (λc hc=>.inr ?_)).then1 Y hb),T,hi,Qk S Y (λc hc=>by have:=(Qn S c hc).1;simp;omega)⟩;have:=(Qn J c hc).1;omega
theorem Ji {G w:World}{b:Nat}{E:List UInt8}{p:Value}(h0:Step [] G w) (hb:G.heap.size≤b) (hp:p=.pointer none∨p=me b) (h:Bl p b E w) (s:ByteArray) (hl:E.length+s.size≤1000000000) :
  QI prog 145 [me b,.string s] w λ_ w'=>Step [] G w'∧Bl (me b) b (E++s.data.toList) w':=by
 refine QI.of_W func145 O ntmps145 results145 (by simp) ?_;refine Qc<|x Qf<|Qe<|Qc<|Qb<|xl O<|xf<|(KP h0 hb hp h).mono ?_;rintro r1 w1 ⟨rfl,ha,v,H,I⟩;refine xe ?_;have hh:=H.lt;refine Qc<|Qb<|Qb<|x (QC O)<|x (Qa O)<|x (Qd H O O)<|Qb<|xl O<|QhN underlying9 I O O (by omega) (by omega) λS w3 he T=>?_;have hf:=H.step T (λhc=>by have:=(Qn I b hc).1;omega)
 have V:s.size=s.data.toList.length:=rfl;have J:w3.ownsRow (b+1) 5 1 S (E++s.data.toList).length (Lib.byteCells (E++s.data.toList)):=by
  rw[Lk,←V,show Lib.byteCells (E++s.data.toList)=Lib.byteCells E++Lib.strCells s by simp[Lib.byteCells,Lib.strCells_eq]];exact he
 refine x (QC O)<|x (Qa O)<|xl O<|QL hf O O (by simp) (QS (L:=[]) J (by rw[Lk,←V];omega) (by simp)).one λw4 Y hg=>xe ?_;refine Qc<|Qb<|x (Qdj underlying9 O)<|x Qf<|Qe<|Qm ⟨[.int .i64 s.size,.nilIface],⟨O,O,U⟩,((ha.then T (λc hc=>.inr ?_)).then1 Y hb),S,hg,Qk J Y (λc hc=>by have:=(Qn J c hc).1;simp;omega)⟩;have:=(Qn I c hc).1;omega
theorem U7 {I w:World}{b:Nat}{H:List UInt8}{p:Value}(E:Step [] I w) (hb:I.heap.size≤b) (hp:p=.pointer none∨p=me b) (h:Bl p b H w) :
  QI prog 147 [me b] w λr w'=>r=.string ⟨H.toArray⟩∧Step [] I w':=by
 obtain ⟨v,J,S⟩:=h;have Y:=J.lt;have T:Lib.BuilderAt 251 5 b b p (Lib.byteCells H) w:=⟨Lr _,v,J,by rw[Lib.byteCells_length];exact Zk S (by omega),λe=>by
  have:b∈ob v:=by rw[zf,e];simp
  have:=(Qn S b this).1;omega⟩
 unfold QI;refine Calls.mono (Tryz.Builder_String_any b b H w (by rcases hp with rfl | rfl;exact .inl T;exact .inr T) (by omega)) ?_
 rintro e w' ⟨rfl,G⟩;exact ⟨O,⟨G.os.trans E.os,G.tape.trans E.tape,G.output.trans E.output,LS E.size G.size,λk hk V=>(G.block k (by omega)).trans (E.block k hk V)⟩⟩
def Tb (w:World):Prop:=Lib.TabIs prog w "internal/strconv.uint64pow10" .u64 Lib.pow10Tab
theorem QcF {P:Program}{w w':World}{name:String}{v:Array Value}(h:w.var? P name=some v) (hs:Step [] w w'):w'.var? P name=some v:=by
 unfold World.var? at *;rw[Mv] at *;obtain ⟨g,h1,h2⟩:=h;refine ⟨g,h1,?_⟩;cases E:w.heap[g]? with
 | none=>rw[E] at h2;cases h2
 | some o =>
  have G:g<w.heap.size:=(Lz.1 E).1;rw[hs.block g G (by simp)];exact h2
theorem Tb.ext {w w':World}(h:Tb w) (hs:Step [] w w'):Tb w':=QcF h hs
def Kb (w:World) (m:Int):Prop:=m≤100∨(m≤1000000∧Tb w)
theorem Kb.ext {w w':World}{m:Int}(h:Kb w m) (hs:Step [] w w'):Kb w' m:=h.imp id λh=>⟨h.1,h.2.ext hs⟩
theorem Kb.le {w:World} {m:Int} (h:Kb w m):m≤1000000:=by rcases h with h | h <;> omega
theorem jq {w:World}{k:Nat}{os:Array Obj}:Step [] w (Sort.grow (w.drewN k) os):=by
 refine ⟨O,O,O,?_,λi hi _=>?_⟩
 ·show w.heap.size≤(w.heap++os).size;simp
 show (w.heap++os)[i]?=w.heap[i]?;rw[Array.getElem?_append_left hi]
theorem QaT {m:Int}(i:Nat) (hi:(i:Int)<m) (w:World) (hk:Kb w m):QI prog 146 [.int .i64 i] w λr w'=>r=.string ⟨(Lib.decDigits i).toArray⟩∧Step [] w w':=by
 unfold QI;rcases hk with hk | hk
 ·refine Calls.mono (Tryz.strconv_Itoa_small i (by omega) w) ?_;rintro e w' ⟨rfl,rfl⟩;exact ⟨O,Step.refl _ _⟩
 refine Calls.mono (Tryz.strconv_Itoa i (by omega) (by omega) w hk.2) ?_;rintro e w' ⟨rfl,k,os,rfl⟩;refine ⟨?_,jq⟩;unfold Lib.itoa;rw[if_neg (by omega),MC]
def Xh (l:LI):List UInt8:=l.flatMap λn=>Lib.decDigits n.toNat++[32]
theorem Vh:∀(k u:Nat),u<10 ^ k→(Lib.decDigits u).length≤max 1 k
 | 0,u,h=>by
  unfold Lib.decDigits;rw[dif_pos (by simp at h;omega)];simp
 | k+1,u,h=>by
  unfold Lib.decDigits;split
  ·simp
  rename_i hu;have ih:=Vh k (u / 10) (by rw[Nat.pow_succ] at h;omega);rw[Lk];simp only[List.length_singleton];have h1:k≠0:=λe=>by subst e;simp at h;omega
  omega
theorem Bl.ext {w w':World}{p:Value}{b:Nat}{E:List UInt8}(h:Bl p b E w) (hs:Step [] w w'):Bl p b E w':=by
 obtain ⟨v,h1,h2⟩:=h;exact ⟨v,h1.ext hs,Qq h2 hs⟩
theorem zq {L:LN}{w:World}{v:Value}{l:LI}{m:Int}(h:QK L w.heap v l) (S:Kb w m) (hb:∀n∈l,0≤n∧n<m) (hl:l.length≤1000000) :
  QI prog 142 [v] w λr w'=>r=.string ⟨(Xh l).toArray⟩∧Step [] w w':=by
 refine QI.of_W func142 O ntmps142 results142 (by simp) ?_;refine Qc<|Qe<|Qc<|xl O<|Qt (us:=[.pointer none,nS]) O λH w1 Y I ha=>xe ?_;refine Qg<|Qc<|Qb<|x (Qs h O)<|Qb<|xe ?_
 refine Qh<|QA (α:=Nat×Value) [(5,5),(8,16)] (λz=>[(8,.int .i64 z.1)]) (λz w'=>z.1≤l.length∧Step [] w w'∧(z.2=.pointer none∨z.2=me H)∧Bl z.2 H (Xh (l.take z.1)) w'∧(Xh (l.take z.1)).length≤8*z.1) (λz=>l.length - z.1) (by rfl) (0,.pointer none) Z
  ⟨Lj _,Y,.inl O,⟨_,ha,QM _ _ _ _⟩,Lr _⟩ ?_
 rintro ⟨k,p⟩ g w2 ⟨hk,E,hp,G,hc⟩;simp only[] at hk hp G hc;refine Qc<|x (QB O O)<|xe<|Qg<|QH O (λh9=>?_) (λh9=>?_)
 ·refine Qy<|Qc ?_;rw[Ll (by omega)] at G;refine xl O<|xf<|(U7 E I hp G).mono ?_;rintro r3 w3 ⟨rfl,he⟩;refine Qe ?_;exact Qm ⟨[.string ⟨(Xh l).toArray⟩],Z,O,he⟩
 have J:k<l.length:=by omega
 have hn:=hb l[k] (Lc J);obtain ⟨q,hq⟩:∃q:Nat,l[k]=q:=⟨l[k].toNat,by omega⟩;have hf:l[k].toNat=q:=by omega
 have ho:=Vh 7 q (by have:=S.le;omega);have T:Xh (l.take (k+1))=Xh (l.take k)++Lib.decDigits q++[32]:=by
  rw[Le J];unfold Xh;rw[LA,List.flatMap_singleton,hf,LC]
 refine Qi<|Qg<|Qh<|Qc<|xii (h.ext E) O O J λhr hg=>x (Qv hg O)<|Qe<|Qc<|Qb<|xl O<|xf ?_;refine (show QI _ _ [.int .i64 l[k]] _ _ by rw[hq];exact (QaT q (by omega) w2 (S.ext E))).mono ?_;rintro r4 w4 ⟨rfl,V⟩;refine xl rfl<|xf<|(Ji (E.trans V) I hp (G.ext V) ⟨(Lib.decDigits q).toArray⟩ (by show _+(Lib.decDigits q).toArray.size≤_;simp;omega)).mono ?_;rintro r5 w5 ⟨hh,hi⟩
 refine xe<|Qz<|xl O<|xf<|(qN hh I (.inr O) hi 32 (by simp;omega)).mono ?_;rintro r6 w6 ⟨hj,hm⟩;refine xe<|Qz<|QN O O<|Qb<|xe<|⟨(k+1,me H),by simp only[];omega,Z,by simp only[];omega,hj,.inr O,?_,?_⟩
 ·simp only[];rw[T];simpa using hm
 simp only[];rw[T];simp;omega
end Go.Proofs.YtdffckgdcegpaaaGreatDoor
namespace Go.Lg
section
variable {P:Program} {ops:List Oper} {K:Fr→World→Prop} {f:Fr} {w:World} {d:Option Nat} {ty:Nat} {ps:String} {af:Array Edge} {gd:Option (Nat×Bool)} {l:List Oper} {C:World→Prop} {pl:List (Nat×Bool)} {i0:Nat}
theorem xig {α:Type}{g:α→LV}{x y:Operand}{t e sz bys:Nat}{z:Value}[Sl P t e sz bys z] (G:∀x,(g x).length=sz) {L:LN}{E:List α}{v:Value}{k:IntKind}{i:Nat}
  (h:Zq L w.heap v E.length sz (E.flatMap g)) (H:ev f x=v) (hy:ev f y=.int k i) (hi:i<E.length)
  (I:∀a,At L w.heap a (g E[i])→XL P ops K l (QR f d (.pointer (some a))) w) (J:Z8 ops f ⟨d,.indexAddr t x y,ty,ps,af,gd⟩=true:=by rfl) :
  XL P ops K (⟨d,.indexAddr t x y,ty,ps,af,gd⟩::l) f w:=by
 obtain ⟨a,cap,h1,h2⟩:=Zq.at h hi;rw[YU g sz G E i hi] at h2;refine xl J (xv (YH (H.trans h1) hy (by omega) (by omega)) (I _ ?_));simpa using h2
theorem pig {α:Type}{g:α→LV}{x y:Operand}{t e sz bys:Nat}{z:Value}[Sl P t e sz bys z] (G:Q3 ops i0=⟨d,.indexAddr t x y,ty,ps,af,gd⟩) (I:∀x,(g x).length=sz) {L:LN}{E:List α}{v:Value}{H:Array Obj}{k:IntKind}{i:Nat}
  (h:Zq L H v E.length sz (E.flatMap g)) (J:ev f x=v) (hy:ev f y=.int k i) (hi:i<E.length)
  (S:∀a,At L H a (g E[i])→XP P ops C K pl (QR f d (.pointer (some a))) w) (T:Z8 ops f (Q3 ops i0)=true:=by rfl) :
  XP P ops C K ((i0,true)::pl) f w:=by
 obtain ⟨a,cap,h1,h2⟩:=Zq.at h hi;rw[YU g sz I E i hi] at h2;refine Lg.p (λw'=>by rw[G];exact YH (J.trans h1) hy (by omega) (by omega)) ?_ T;rw[G];refine S _ ?_;simpa using h2
end
theorem Zq.grow {X X' Y:LN}{w w':World}{v:Value}{n sz:Nat}{cs:LV}(h:Zq X w.heap v n sz cs) (hs:Step Y w w') (E:∀b∈Y,b∈X) (G:∀b∈X',b∈X∨w.heap.size≤b):Zq X' w'.heap v n sz cs:=by
 have h1:Zq (X++X') w.heap v n sz cs:=h.up (λb hb=>by
  rcases Li.1 hb with h1 | h1
  ·exact .inl h1
  exact G b h1)
 have h2:=h1.step hs (λb hb=>Li.2 (.inl (E b hb)));exact h2.up (λb hb=>.inl (Li.2 (.inr hb)))
structure AV where
 va:Value
 vm:Value
 ve:Value
 a:QP
abbrev Zc (p:AV):LV:=[p.va,.int .i64 p.a.st,p.vm,p.ve]
structure Xg (L:LN) (H:Array Obj) (v:Value) (ps:List AV):Prop where
 arr:Zq L H v ps.length 4 (ps.flatMap Zc)
 each:∀p∈ps,Zu L H p.va p.vm p.ve p.a
theorem Xg.ext {L:LN}{w w':World}{v:Value}{ps:List AV}(h:Xg L w.heap v ps) (hs:Step [] w w'):Xg L w'.heap v ps:=⟨h.arr.ext hs,λp hp=>(h.each p hp).ext hs⟩
theorem Xg.st {L:LN}{w w':World}{v:Value}{ps:List AV}(h:Xg L w.heap v ps) (hs:Step L w w'):Xg L w'.heap v ps:=⟨h.arr.st hs,λp hp=>(h.each p hp).st hs⟩
theorem Xg.up {L L':LN}{H:Array Obj}{v:Value}{ps:List AV}(h:Xg L H v ps) (E:∀b∈L',b∈L∨H.size≤b):Xg L' H v ps:=⟨h.arr.up E,λp hp=>(h.each p hp).up E⟩
abbrev TV:=Value×LI
abbrev ZH (p:TV):LV:=[p.1]
structure Xk (L:LN) (H:Array Obj) (v:Value) (ps:List TV):Prop where
 arr:Zq L H v ps.length 1 (ps.flatMap ZH)
 each:∀p∈ps,QK L H p.1 p.2
theorem Xk.ext {L:LN}{w w':World}{v:Value}{ps:List TV}(h:Xk L w.heap v ps) (hs:Step [] w w'):Xk L w'.heap v ps:=⟨h.arr.ext hs,λp hp=>(h.each p hp).ext hs⟩
theorem Xk.st {L:LN}{w w':World}{v:Value}{ps:List TV}(h:Xk L w.heap v ps) (hs:Step L w w'):Xk L w'.heap v ps:=⟨h.arr.st hs,λp hp=>(h.each p hp).st hs⟩
theorem Xk.up {L L':LN}{H:Array Obj}{v:Value}{ps:List TV}(h:Xk L H v ps) (E:∀b∈L',b∈L∨H.size≤b):Xk L' H v ps:=⟨h.arr.up E,λp hp=>(h.each p hp).up E⟩
def y9 (N:Nat) (H:Array Obj) (v:Value) (l:List (LI)):Prop:=∃ps:List TV,ps.map (·.2)=l∧∀L:LN,(∀b∈L,b<N)→Xk L H v ps
theorem y9.mono {N M:Nat}{H:Array Obj}{v:Value}{l:List (LI)}(h:y9 N H v l) (E:M≤N):y9 M H v l:=let ⟨ps,h1,h2⟩:=h;⟨ps,h1,λL G=>h2 L (λb hb=>LX (G b hb) E)⟩
abbrev UV (e base:Nat) (w:World) (v:Value) (ps:List TV):Prop:=w.ownsRow base e 1 v ps.length (ps.flatMap ZH)
theorem UV.snoc {e base:Nat}{w:World}{v:Value}{ps:List TV}{p:TV}(h:w.ownsRow base e 1 v (ps.length+1) (ps.flatMap ZH++[p.1])):UV e base w v (ps++[p]):=by
 unfold UV;rw[Lk,LA];simpa using h
theorem JE {w:World}{base e sz n:Nat}{v:Value}{cs:LV}(h:w.ownsRow base e sz v n cs) (E:0<n):∃g cap,v=.slice (some ⟨g,0,none⟩) n cap:=by
 rcases h.2 with ⟨_,G⟩ | ⟨g,cap,cur,h1,_⟩
 ·omega
 exact ⟨g,cap,h1⟩
section
variable {P:Program} {ops:List Oper} {K:Fr→World→Prop} {f:Fr} {w:World} {d:Option Nat} {ty:Nat} {ps:String} {af:Array Edge} {gd:Option (Nat×Bool)} {l:List Oper}
theorem Qdu {t:Nat}[h1:XS P t] {x y:Operand}{base e n g cap i:Nat}{cs:LV}{u:Value}(h:w.ownsRow base e 1 (.slice (some ⟨g,0,none⟩) n cap) n cs) (hx:ev f x=.pointer (some ⟨g,0+i*1,none⟩)) (hy:ev f y=u) (hi:i<n) (hu:u.oneCell'=true)
  (G:∀w',Step [g] w w'→w'.ownsRow base e 1 (.slice (some ⟨g,0,none⟩) n cap) n (cs.set i u)→K (QR f d undef) w'):XO P ⟨d,.store t x y,ty,ps,af,gd⟩ f w K:=by
 obtain ⟨hl,h⟩:=h;rcases h with ⟨H,_⟩ | ⟨g',cap',cur,e1,hb,I,J,hm,E,S⟩
 ·cases H
 cases e1
 have T:Q4 w.heap g e cur.toList:=by unfold Q4;simpa using I
 refine QL (j:=i) T (by rw[hx];simp) hy (by simp[E];omega) hu λw' hs V=>G w' hs ⟨by simpa using hl,.inr ⟨g,cap,(cur.toList.set i u).toArray,rfl,hb,V,J,hm,by simpa using E,?_⟩⟩;rw[←S];simp[List.take_set]
end
section
variable {P:Program} {f:Fr} {w:World} {d:Option Nat} {ty:Nat} {ps:String} {af:Array Edge} {gd:Option (Nat×Bool)} {κ:Type} [DecidableEq κ]
theorem ql {t kt et:Nat}{z:Value}[hm:Mp P t kt et z] {enc:κ→Value}[hk:Key P kt enc] {x y:Operand}{b:Nat}{m:List (κ×Value)}{k:κ}{u:Value}(h:Z0 enc w.heap b m) (hx:ev f x=.map (some b)) (hy:ev f y=enc k) (E:mget m k=some u) :
  (execOp (ev f) ⟨d,.lookup t x y true,ty,ps,af,gd⟩).run P w=.ok (.value (.tuple #[u,.bool true])) w:=by
 have:=Kx (P:=P) (t:=t) (d:=d) (ty:=ty) (ps:=ps) (af:=af) (gd:=gd) h hx hy;rw[E] at this;exact this
theorem QbM {t kt et:Nat}{z:Value}[hm:Mp P t kt et z] {enc:κ→Value}[hk:Key P kt enc] {x y:Operand}{b:Nat}{m:List (κ×Value)}{k:κ}(h:Z0 enc w.heap b m) (hx:ev f x=.map (some b)) (hy:ev f y=enc k) (E:mget m k=none) :
  (execOp (ev f) ⟨d,.lookup t x y true,ty,ps,af,gd⟩).run P w=.ok (.value (.tuple #[z,.bool false])) w:=by
 have:=Kx (P:=P) (t:=t) (d:=d) (ty:=ty) (ps:=ps) (af:=af) (gd:=gd) h hx hy;rw[E] at this;exact this
end
end Go.Lg
namespace Go.Proofs.YtdffckgdcegpaaaGreatDoor
open Go.Lg
def ckL:List QP→Int
 | []=>0
 | a::l=>if X2 a≠0 then X2 a else ckL l
def KX (l:List QP):Int:=if 12<l.length then 3 else ckL l
theorem yP:∀(l:List QP),ckL l=0↔∀a∈l,Zi a
 | []=>by simp[ckL]
 | a::l=>by
  rw[ckL];by_cases h:X2 a=0
  ·rw[if_neg (by simpa using h),yP l];simp[(ZS a).1 h]
  rw[if_pos h];simp only[List.forall_mem_cons];exact ⟨λe=>absurd e h,λe=>absurd ((ZS a).2 e.1) h⟩
def evs (l:List QP):LI:=l.foldl (λacc a=>mrg (· || ·) acc a.al) []
def Vw (m:List ((Int×Int)×Value)) (E:List Ed):List ((Int×Int)×Value):=E.foldl (λm e=>mput m (e.1,e.2.1) (.int .i64 e.2.2)) m
def eget:List Ed→Int→Int→Option Int
 | [],_,_=>none
 | e::l,s,v=>if e.1=s∧e.2.1=v then some e.2.2 else eget l s v
theorem qw {l:List Ed}{s v:Int}(h:∀e∈l,¬(e.1=s∧e.2.1=v)):eget l s v=none:=by
 induction l with
 | nil=>rfl
 | cons e l ih =>
  rw[eget,if_neg (h e Ls)];exact ih λe he=>h e (Lm _ he)
theorem qy:∀(E:List Ed) (m:List ((Int×Int)×Value)) (s v:Int),(E.Pairwise λx y=>x.1<y.1∨(x.1=y.1∧x.2.1<y.2.1)) →
  mget (Vw m E) (s,v)=match eget E s v with | some t=>some (.int .i64 t) | none=>mget m (s,v)
 | [],m,s,v,_=>rfl
 | e::E,m,s,v,h=>by
  simp only[List.pairwise_cons] at h;have ih:=qy E (mput m (e.1,e.2.1) (.int .i64 e.2.2)) s v h.2;unfold Vw at *;rw[LO,ih,eget];by_cases hk:e.1=s∧e.2.1=v
  ·rw[if_pos hk,qw (λx hx G=>by have:=h.1 x hx;omega)];simp only[XK];rw[if_pos (by rw[hk.1,hk.2])]
  rw[if_neg hk];cases eget E s v with
  | some t=>rfl
  | none =>
   simp only[XK];rw[if_neg (λhe=>hk (by simpa using he))]
def Ya (ev:Int):List QP→LI→Option (LI)
 | a::bs,t::ts=>if ev∉a.al then (Ya ev bs ts).map (t::·) else match eget a.ed t ev with | none=>none | some u=>(Ya ev bs ts).map (u::·)
 | _,_=>some []
def Y5:List QP→LI→Bool
 | a::bs,t::ts=>decide (t∈a.mr) && Y5 bs ts
 | _,_=>true
structure Sy where
 tup:List (LI)
 mk':LI
 ed:List Ed
def syE (aa:List QP) (i:Nat) (t:LI) (s:Sy) (v:Int):Option Sy :=
 match Ya v aa t with
 | none=>some s
 | some u=>if u∈s.tup then some ⟨s.tup,s.mk',s.ed++[((i:Int),v,(s.tup.idxOf u:Int))]⟩
  else if s.tup.length=4096 then none else some ⟨s.tup++[u],s.mk',s.ed++[((i:Int),v,(s.tup.length:Int))]⟩
def VT (aa:List QP) (i:Nat) (t:LI):LI→Sy→Option Sy
 | [],s=>some s
 | v::vs,s=>(syE aa i t s v).bind (VT aa i t vs)
def ZI (aa:List QP) (i:Nat) (t:LI) (s:Sy):Sy:=if Y5 aa t=true then ⟨s.tup,s.mk'++[(i:Int)],s.ed⟩ else s
def U3 (s:Sy) (i:Nat):LI:=s.tup.getD i []
def syL (aa:List QP):Nat→Nat→Sy→Option Sy
 | 0,_,s=>some s
 | f+1,i,s=>if i<s.tup.length then (VT aa i (U3 s i) (evs aa) (ZI aa i (U3 s i) s)).bind (syL aa f (i+1)) else some s
def U6 (aa:List QP):Sy:=⟨[List.replicate aa.length 0],[],[]⟩
def sync (aa:List QP):Option (QP×List (LI)) :=
 if ∃a∈aa,a.st=0 then some (⟨evs aa,0,[],[]⟩,[]) else (syL aa 4096 0 (U6 aa)).map λs=>(⟨evs aa,s.tup.length,s.mk',s.ed⟩,s.tup)
theorem QcO {aa:List QP}{f i:Nat}{s:Sy}(h:¬i<s.tup.length):syL aa f i s=some s:=by
 cases f with
 | zero=>rfl
 | succ f=>rw[syL,if_neg h]
def Vt (aa:List QP) (t:LI):Prop:=t.length=aa.length∧∀i (h:i<t.length) (h':i<aa.length),0≤t[i]∧t[i]<aa[i].st
theorem Vt.cons {a:QP}{aa:List QP}{u:Int}{t:LI}(E:0≤u) (h1:u<a.st) (h:Vt aa t):Vt (a::aa) (u::t):=by
 refine ⟨by simp[h.1],λi h2 h3=>?_⟩;cases i with
 | zero=>exact ⟨E,h1⟩
 | succ i=>exact h.2 i (by simpa using h2) (by simpa using h3)
theorem yG {l:List Ed}{s v u:Int}(h:eget l s v=some u):(s,v,u)∈l:=by
 induction l with
 | nil=>cases h
 | cons e l ih =>
  rw[eget] at h;split at h
  ·rename_i he;obtain ⟨e1,e2⟩:=he;cases h
   obtain ⟨a,b,c⟩:=e;simp only[] at e1 e2;subst e1 e2;exact Ls
  exact Lm _ (ih h)
theorem Xn {v:Int}:∀{aa:List QP}{t u:LI},(∀a∈aa,Zi a)→Vt aa t→Ya v aa t=some u→Vt aa u
 | [],t,u,_,h,hs=>by
  cases t with
  | nil=>simp[Ya] at hs;subst hs;exact h
  | cons x t=>have:=h.1;simp at this
 | a::aa,[],u,_,h,hs=>by have:=h.1;simp at this
 | a::aa,x::t,u,E,h,hs=>by
  have hx:=h.2 0 (by simp) (by simp);have G:Vt aa t:=⟨by have:=h.1;simpa using this,λi h2 h3=>h.2 (i+1) (by simpa using h2) (by simpa using h3)⟩;have H:∀a∈aa,Zi a:=λa ha=>E a (Lm _ ha);rw[Ya] at hs;split at hs
  ·obtain ⟨I,h1,rfl⟩:=MI.1 hs;exact Vt.cons hx.1 hx.2 (Xn H G h1)
  split at hs
  ·cases hs
  rename_i q hq;obtain ⟨I,h1,rfl⟩:=MI.1 hs;have:=(E a Ls).ed _ (yG hq);exact Vt.cons this.2.2.2.1 this.2.2.2.2 (Xn H G h1)
structure Vn (aa:List QP) (s:Sy):Prop where
 v:∀t∈s.tup,Vt aa t
 le:s.tup.length≤4096
theorem U4 {aa:List QP}{i:Nat}{t:LI}{s:Sy}(h:Vn aa s):Vn aa (ZI aa i t s):=by
 unfold ZI;split
 ·exact ⟨h.v,h.le⟩
 exact h
theorem QcR {aa:List QP}{i:Nat}{t:LI}{s G:Sy}{v:Int}(H:∀a∈aa,Zi a) (h:Vn aa s) (E:Vt aa t) (hs:syE aa i t s v=some G):Vn aa G:=by
 unfold syE at hs;split at hs
 ·cases hs;exact h
 rename_i u hu;have I:=Xn H E hu;split at hs
 ·cases hs;exact ⟨h.v,h.le⟩
 split at hs
 ·cases hs
 cases hs
 have:=h.le;refine ⟨λt E=>?_,by simp;omega⟩;simp only[List.mem_append,List.mem_singleton] at E;rcases E with E | rfl
 ·exact h.v t E
 exact I
open Go.Proofs.Tryz
theorem Kc (p:AV):(Zc p).length=4:=rfl
theorem J0 (p:TV):(ZH p).length=1:=rfl
theorem Xg.le {L:LN}{H:Array Obj}{v:Value}{ps:List AV}(h:Xg L H v ps):ps.length≤1099511627776:=h.arr.le
theorem QeJ {l:List QP}{k:Nat}(h:k<l.length):ckL (l.drop k)=if X2 l[k]≠0 then X2 l[k] else ckL (l.drop (k+1)):=by
 rw[LH h,ckL]
theorem QbO {L:LN}{w:World}{v:Value}{ps:List AV}(h:Xg L w.heap v ps) :
  QI prog 139 [v] w λr w'=>r=.int .i64 (KX (ps.map (·.a)))∧Step [] w w':=by
 have hi:=Xg.le h;refine QI.of_W func139 O ntmps139 results139 (by simp) ?_;refine Qc<|Qe<|Qg<|Qc<|Qb<|x (Qs h.arr O)<|x (Zx O O)<|xe<|Q7 rfl (λY=>?_) (λY=>?_)
 ·refine Qc<|Qe<|Qm ⟨[.int .i64 3],Z,?_,Step.refl _ _⟩;unfold KX;rw[if_pos (by simp;omega)];rfl
 refine Qi ?_;have hP:KX (ps.map (·.a))=ckL (ps.map (·.a)):=by unfold KX;rw[if_neg (by simp;omega)]
 rw[hP];refine Qg<|Qc<|Qb<|x (Qs h.arr O)<|Qb<|xe<|Qh<|QA (α:=Nat) [(2,2),(4,5),(11,20)] (λz=>[(11,.int .i64 z)]) (λz w'=>z≤ps.length∧Step [] w w'∧ckL (ps.map (·.a))=ckL ((ps.map (·.a)).drop z)) (λz=>ps.length - z) (by rfl) 0 Z
  ⟨Lj _,Step.refl _ _,O⟩ ?_
 rintro k g w1 ⟨hk,E,G⟩;refine Qc<|x (QB O O)<|xe<|Qg<|QH O (λha=>?_) (λha=>?_)
 ·refine Qy<|Qc<|Qe<|Qm ⟨[.int .i64 0],Z,?_,E⟩;rw[G,Lp (by simp;omega)];rfl
 have H:k<ps.length:=by omega
 have hb:k<(ps.map (·.a)).length:=by simpa using H
 rw[QeJ hb,MN] at G;refine Qi<|Qg<|Qh<|Qc<|xig Kc (h.ext E).arr O O H λhj hc=>x (QF hc O O)<|xl O<|Qt (us:=[nS,.int .i64 0,nS,nS]) O λb4 w2 he hf J=>?_;have I:=h.each ps[k] (Lc H);refine xl rfl<|Qp (us:=Zc ps[k]) J O O O O ⟨I.al.one,O,I.mr.one,I.ed.one,U⟩ λw3 hg J=>xe ?_;have T:Step [] w1 w3:=he.then1 hg hf
 refine Qc<|x (Qr J O O)<|xl O<|xf<|(Xb ((I.ext E).ext T)).mono ?_;rintro r4 w4 ⟨rfl,hh⟩;refine Qe ?_;have V:=(E.trans T).trans hh;refine Qc<|Qb<|x (Q9 O O)<|xe<|Q7 rfl (λS=>?_) (λS=>?_)
 ·refine Qc<|Qb<|Qe<|Qm ⟨[.int .i64 (X2 ps[k].a)],Z,?_,V⟩;rw[G,if_pos S];rfl
 refine Qi<|Qz<|QN O O<|Qb<|xe<|⟨k+1,by omega,Z,H,V,?_⟩;rw[G,if_neg S]
theorem Qev {l:List QP}{k:Nat}(h:k<l.length):evs (l.take (k+1))=mrg (· || ·) (evs (l.take k)) l[k].al:=by
 unfold evs;rw[Le h,Md];rfl
theorem zC (l:List QP) (h:∀a∈l,a.al.length≤32):(evs l).length≤32*l.length:=by
 have key:∀(l:List QP) (acc:LI),(∀a∈l,a.al.length≤32)→(l.foldl (λacc a=>mrg (· || ·) acc a.al) acc).length≤acc.length+32*l.length:=by
  intro l;induction l with
  | nil=>intro acc _;simp
  | cons a l ih =>
   intro acc h;have h1:=ih (mrg (· || ·) acc a.al) (λa ha=>h a (Lm _ ha));have h2:=zj (· || ·) acc a.al;have h3:=h a Ls;simp only[List.foldl_cons,List.length_cons];omega
 have:=key l [] h;unfold evs;simpa using this
theorem Qb8 {L:LN}{w:World}{v:Value}{ps:List AV}(h:Xg L w.heap v ps) (hn:ps.length≤12) (T:∀p∈ps,p.a.al.length≤32) :
  QI prog 202 [v] w λr w'=>Step [] w w'∧Qu 3 w.heap.size w' r (evs (ps.map (·.a))):=by
 refine QI.of_W func202 O ntmps202 results202 (by simp) ?_;refine Qc<|Qe<|Qc<|Qe<|Qg<|Qc<|Qb<|x (Qs h.arr O)<|Qb<|xe<|Qh<|QA (α:=Nat×Value) [(3,3),(5,5),(8,16)] (λz=>[(3,z.2),(8,.int .i64 z.1)]) (λz w'=>z.1≤ps.length∧Step [] w w'∧Qu 3 w.heap.size w' z.2 (evs ((ps.map (·.a)).take z.1))) (λz=>ps.length - z.1) (by rfl) (0,nS) ⟨O,O,U⟩
  ⟨Lj _,Step.refl _ _,QM _ _ _ _⟩ ?_
 rintro ⟨k,vo⟩ g Y ⟨hk,I,G⟩;simp only[] at hk G;have hi:=zC ((ps.map (·.a)).take k) (λa ha=>by obtain ⟨p,hp,rfl⟩:=Ly.1 (LW ha);exact T p hp);have hj:((ps.map (·.a)).take k).length≤12:=by simp;omega
 refine Qc<|x (QB O O)<|xe<|Qg<|QH O (λh9=>?_) (λh9=>?_)
 ·refine Qy<|Qc<|Qb<|Qe<|Qm ⟨[vo],Z,I,?_⟩;rw[Ll (by simp;omega)] at G;exact G
 have E:k<ps.length:=by omega
 refine Qi<|Qg<|Qh<|Qc<|xig Kc (h.ext I).arr O O E λhl hb=>x (QF hb O O)<|xl O<|Qt (us:=[nS,.int .i64 0,nS,nS]) O λb5 w2 hc he J=>?_;have H:=h.each ps[k] (Lc E);have hm:=T ps[k] (Lc E);refine xl rfl<|Qp (us:=Zc ps[k]) J O O O O ⟨H.al.one,O,H.mr.one,H.ed.one,U⟩ λw3 hf J=>xe ?_;have V:Step [] Y w3:=hc.then1 hf he
 have S:=I.trans V;refine Qz<|Qb<|x (Qa O)<|x (Qd J O O)<|xl O<|xf<|(y8 (Qu.ints (L:=[]) (Qq G V) (by omega) (by simp)) (H.al.ext S) (by omega)).mono ?_;rintro r4 w4 ⟨hg,hh⟩;refine Qe<|Qz<|QN O O<|Qb<|xe<|⟨(k+1,r4),by simp only[];omega,⟨O,O,U⟩,E,S.trans hg,?_⟩;simp only[];rw[Qev (by simpa using E),MN];exact Zk hh S.size
abbrev QaM (b:Nat):LV:=[.map (some b)]
structure Jz (L:LN) (H:Array Obj) (vl ve vs:Value) (ps:List AV) (ms:LN):Prop where
 al:Xg L H vl ps
 ev:QK L H ve (evs (ps.map (·.a)))
 ml:ms.length=ps.length
 sl:Zq L H vs ms.length 1 (ms.flatMap QaM)
 mp:∀i (h:i<ms.length) (h':i<ps.length),Z0 YQ H ms[i] (Vw [] ps[i].a.ed)∧ms[i]∉L
theorem Jz.ext {L:LN}{w w':World}{vl ve vs:Value}{ps:List AV}{ms:LN}(h:Jz L w.heap vl ve vs ps ms) (hs:Step [] w w'):Jz L w'.heap vl ve vs ps ms :=
 ⟨h.al.ext hs,h.ev.ext hs,h.ml,h.sl.ext hs,λi h1 h2=>⟨(h.mp i h1 h2).1.ext hs,(h.mp i h1 h2).2⟩⟩
theorem Jz.st {L:LN}{w w':World}{vl ve vs:Value}{ps:List AV}{ms:LN}(h:Jz L w.heap vl ve vs ps ms) (hs:Step L w w'):Jz L w'.heap vl ve vs ps ms :=
 ⟨h.al.st hs,h.ev.st hs,h.ml,h.sl.st hs,λi h1 h2=>⟨(h.mp i h1 h2).1.step hs (h.mp i h1 h2).2,(h.mp i h1 h2).2⟩⟩
theorem Jz.up {L L':LN}{H:Array Obj}{vl ve vs:Value}{ps:List AV}{ms:LN}(h:Jz L H vl ve vs ps ms) (E:∀b∈L',b∈L∨H.size≤b):Jz L' H vl ve vs ps ms :=
 ⟨h.al.up E,h.ev.up E,h.ml,h.sl.up E,λi h1 h2=>⟨(h.mp i h1 h2).1,λhm=>by rcases E _ hm with h3 | h3;exact (h.mp i h1 h2).2 h3;have:=(h.mp i h1 h2).1.lt;omega⟩⟩
theorem jW {m:List ((Int×Int)×Value)}{E:List Ed}{k:Nat}(h:k<E.length):Vw m (E.take (k+1))=mput (Vw m (E.take k)) (E[k].1,E[k].2.1) (.int .i64 E[k].2.2):=by
 unfold Vw;rw[Le h,Md];rfl
theorem QfX {L:LN}{w:World}{vl:Value}{ps:List AV}(h:Xg L w.heap vl ps) (hn:ps.length≤12) (hE:∀p∈ps,p.a.al.length≤32) (hL:∀b∈L,b<w.heap.size) :
  QI prog 140 [vl] w λr w'=>Step [] w w'∧∃ve vs ms,r=.agg #[vl,ve,vs]∧Jz L w'.heap vl ve vs ps ms∧Qu 3 w.heap.size w' ve (evs (ps.map (·.a))):=by
 refine QI.of_W func140 O ntmps140 results140 (by simp) ?_;refine Qc<|xl O<|Qt (us:=[nS,nS,nS]) O λb2 w1 ht hQ hu=>xe ?_;refine Qc<|Qb<|Qb<|xl O<|xf<|(Qb8 (h.ext ht) hn hE).mono ?_;rintro ve w2 ⟨Y,hc⟩;have hR:=zC (ps.map (·.a)) (λa ha=>by obtain ⟨p,hp,rfl⟩:=Ly.1 ha;exact hE p hp);have g8:(evs (ps.map (·.a))).length≤1000:=by simp at hR;omega
 have hv:=Qu.ints (L:=[]) hc (by omega) (by simp);refine x (QE ⟨h.arr.cells,hv.cells,U⟩)<|xl O<|Qt (us:=[nS,nS,nS]) O λb3 w3 hS hT he =>
  xl rfl<|Qp (us:=[vl,ve,nS]) he O O O O ⟨h.arr.one,hv.one,O,U⟩ λE hU he=>xe ?_
 have hV:=ht.size;have g9:=Y.size;have S:Step [] w2 E:=hS.then1 hU hT;have ka:=S.size;have kb:=hu.lt;have kc:=he.lt;have hW:Step [] w E:=(ht.trans Y).trans S;have hX:=Qq hc S;refine Qg<|Qc<|Qb<|x (Qs h.arr O)<|Qb<|xe ?_;have hY:=QO hc;refine Qh<|QA (α:=Nat×LN×Value) [(5,6),(8,8),(15,42)] (λz=>[(15,.int .i64 z.1)])
  (λz w'=>z.1≤ps.length∧z.2.1.length=z.1∧Step [b3] E w'∧Q4 w'.heap b3 243 [vl,ve,z.2.2]∧w'.ownsRow E.heap.size 225 1 z.2.2 z.2.1.length (z.2.1.flatMap QaM) ∧
   (∀i (h:i<z.2.1.length) (h':i<ps.length),Z0 YQ w'.heap z.2.1[i] (Vw [] ps[i].a.ed)∧E.heap.size≤z.2.1[i]∧z.2.1[i]∉ob z.2.2)) (λz=>ps.length - z.1) (by rfl) (0,[],nS) Z
  ⟨Lj _,O,Step.refl _ _,he,QM _ _ _ _,λi h=>by simp at h⟩ ?_
 rintro ⟨k,ms,vs⟩ g w5 ⟨hk,hf,G,hw,H,hg⟩;simp only[] at hk hf G hw H hg;have hh:Step [] w w5:=hW.then1 G (by omega);have ke:=G.size;have hl:=Qn H;refine Qc<|x (QB O O)<|xe<|Qg<|QH O (λhZ=>?_) (λhZ=>?_)
 ·have ga:k=ps.length:=by omega
  subst ga;refine Qy<|Qc ?_;have gb:=QS (L:=[]) H (by omega) (by simp);refine x (Qr hw O O)<|xl O<|Qp (us:=[vl,ve,vs]) (((hu.ext Y).ext S).step G (by simp;omega)) O O O O ⟨h.arr.one,hv.one,gb.one,U⟩ λw6 ho gc=>xe ?_;have hF:=hh.then1 ho hQ
  have hG:Qu 3 w1.heap.size w6 ve _:=Qk (Qk hX G (λb hb=>by have:=hY b hb;simp;omega)) ho (λb hb=>by have:=(Qn hc b hb).1;simp;omega);have hH:=Qk H ho (λb hb=>by have:=(hl b hb).1;simp;omega)
  refine Qm ⟨[.agg #[vl,ve,vs]],⟨⟨_,O,Qx O (gc.at (L:=[]) (by simp)).cells⟩,U⟩,hF,ve,vs,ms,rfl,⟨h.ext hF,Qu.ints hG (by omega) (λb hb=>by have:=hL b hb;omega),hf,QS hH (by omega) (λb hb hy=>by have:=hL b hy;have:=(Qn hH b hb).1;omega),λi h1 h2=>⟨?_,λhy=>by have:=hL _ hy;have:=(hg i h1 h2).2.1;omega⟩⟩,Zk hG hV⟩;obtain ⟨I,m2,_⟩:=hg i h1 h2;exact I.step ho (λhb=>by
   simp only[List.mem_singleton] at hb;have h7:=(((hu.ext Y).ext S).step G (by simp;omega));rw[hb] at I;obtain ⟨es,c,m4,_⟩:=I;unfold Q4 at h7;rw[h7] at m4;cases m4)
 have hz:k<ps.length:=by omega
 have J:=h.each ps[k] (Lc hz);refine Qi<|Qg<|Qh<|Qc<|xig Kc (h.ext hh).arr O O hz λkf ge=>x (QF ge O O)<|xl O<|Qt (us:=[nS,.int .i64 0,nS,nS]) O λb5 w7 gg gh gi =>
  xl rfl<|Qp (us:=Zc ps[k]) gi O O O O ⟨J.al.one,O,J.mr.one,J.ed.one,U⟩ λw8 gj hI=>xe ?_
 have hJ:Step [] w5 w8:=gg.then1 gj gh;have kg:=hJ.size;have kh:=hI.lt;refine Qc<|xl O<|Yk YQ λbm w9 h0 ki hK=>Qe ?_;have kj:=h0.size;have kk:=hK.lt;have hM:=hJ.trans h0;have gk:=hh.trans hM;refine Qg<|Qc<|x (Qa O)<|x (Qd (hI.ext h0) O O)<|x (Qs J.ed O)<|Qb<|xe ?_;have gl:=(J.ed.up (L':=[bm]) (λb hb=>.inr (by simp at hb;have:=hh.size;omega))).ext gk
 have kn:=J.ed.le;refine Qh<|QA (α:=Nat) [(8,8),(23,35)] (λz=>[(23,.int .i64 z)]) (λz w'=>z≤ps[k].a.ed.length∧Step [bm] w9 w'∧Z0 YQ w'.heap bm (Vw [] (ps[k].a.ed.take z))) (λz=>ps[k].a.ed.length - z) (by rfl) 0 Z
  ⟨Lj _,Step.refl _ _,hK⟩ ?_
 rintro j g2 T ⟨hj,hr,h3⟩;have ko:=hr.size;refine Qc<|x (QB O O)<|xe<|Qg<|QH O (λgm=>?_) (λgm=>?_)
 ·refine Qy ?_;rw[Ll (by omega)] at h3;have h4:Step [] w5 T:=hM.then1 hr (by omega);have hN:Q4 T.heap b3 243 [vl,ve,vs]:=hw.ext h4;refine Qz<|x (Qa O)<|x (Qd hN O O)<|Qb<|xl O<|QD (us:=[[.map (some bm)]]) O O (by decide) (by simp) ⟨rfl,rfl,U⟩ λkp gn hs kq go=>?_;have h6:=h4.trans hs;have gp:=Qq H h6;have kr:=h6.size
  refine xl O<|Q6 (news:=[.map (some bm)]) (L:=[]) gp O O O (go.at (by simp)) (by simp[Value.oneCell']) (by omega) (by omega) λh8 gq gr h9 hO=>?_;have hB:gq.ownsRow E.heap.size 225 1 h8 (ms++[bm]).length ((ms++[bm]).flatMap QaM):=by
   rw[Lk,LA];simpa using gr
  have gs:=(hN.ext hs).step h9 (QU H (by omega));refine x (Qa O)<|xl O<|QL gs O O (by simp) (QS (L:=[]) hB (by simp;omega) (by simp)).one λgt hC gu=>xe ?_;refine Qz<|QN O O<|Qb<|xe ?_;have gv:∀b∈ob h8,E.heap.size≤b:=λb hb=>(Qn hB b hb).1;have kt:T.heap.size≤gn.heap.size:=hs.size
  refine ⟨(k+1,ms++[bm],h8),by simp only[];omega,Z,hz,by simp[hf],?_,gu,Qk hB hC (λb hb=>by have:=gv b hb;simp;omega),?_⟩
  ·exact ((G.trans h6).then h9 (λb hb=>.inr (hl b hb).1)).trans' hC
  intro i h1 h2;simp only[List.length_append,List.length_singleton] at h1;have keep:∀(c:Nat) (m:List ((Int×Int)×Value)),Z0 YQ T.heap c m→c≠b3→c∉ob vs→Z0 YQ gt.heap c m:=λc m hm gw gx =>
   ((hm.ext hs).step h9 gx).step hC (by simpa using gw)
  by_cases hi:i<ms.length
  ·obtain ⟨I,m2,m3⟩:=hg i hi h2;simp only[List.getElem_append_left hi];refine ⟨keep _ _ (I.ext h4) (by omega) m3,m2,λhb=>?_⟩;have ku:=I.lt;rcases hO _ hb with h5 | h5
   ·exact m3 h5
   omega
  have gy:i=ms.length:=by omega
  subst gy;simp only[List.getElem_append_right (Nat.le_refl _),Nat.sub_self,List.getElem_singleton];have hq:ms.length=k:=hf;have e2:ps[ms.length]=ps[k]:=by simp only[hq]
  rw[e2];refine ⟨keep _ _ h3 (by omega) (λhb=>by have:=(hl _ hb).2;omega),by omega,λhb=>?_⟩;rcases hO _ hb with h5 | h5
  ·have:=(hl _ h5).2;omega
  omega
 have hD:j<ps[k].a.ed.length:=by omega
 refine Qi<|Qg<|Qh<|Qc<|xie (gl.st hr) O O hD λkv gz=>x (QF gz O O)<|xl O<|Qt (us:=[.int .i64 0,.int .i64 0,.int .i64 0]) O λb8 kw g0 g3 V=>xl O<|Qp (us:=Qw ps[k].a.ed[j]) V O O O O ⟨O,O,O,U⟩ λg4 g5 V=>xe ?_;have hP:Step [] T g4:=g0.then1 g5 g3;refine Qz<|Qb<|x (Qa O)<|x (Qd V O O)<|x (Qa O)<|x (Qd V O O)<|x (QE ⟨O,O,U⟩)<|x (Qa O) <|
  x (Qd V O O)<|xl O<|Y3 (k:=(ps[k].a.ed[j].1,ps[k].a.ed[j].2.1)) (h3.ext hP) O O λkx g6 g7=>xe ?_
 refine Qz<|QN O O<|Qb<|xe<|⟨j+1,by omega,Z,hD,(hr.trans hP).trans' g6,?_⟩;rw[jW hD];exact g7
theorem jR {L:LN}{w:World}{vl ve vs:Value}{ps:List AV}{ms:LN}(h:Jz L w.heap vl ve vs ps ms) (hn:ps.length≤12) :
  QI prog 141 [.agg #[vl,ve,vs]] w λr w'=>Step [] w w' ∧
   if ∃p∈ps,p.a.st=0 then r=.tuple #[nS,.bool false] else ∃v,r=.tuple #[v,.bool true]∧Qu 3 w.heap.size w' v (List.replicate ps.length 0):=by
 refine QI.of_W func141 O ntmps141 results141 (by simp) ?_;refine Qc<|xl O<|QQ (us:=[vl,ve,vs]) O λb1 w1 G hl T=>x Qf<|Qe<|Qg<|Qc<|x (Qa O)<|x (Qd T O O)<|x (Qs h.al.arr O)<|Qb<|xe<|Qh<|QA (α:=Nat) [(2,3),(5,5),(9,16)] (λz=>[(9,.int .i64 z)]) (λz w'=>z≤ps.length∧Step [] w1 w'∧∀i (h:i<ps.length),i<z→ps[i].a.st≠0) (λz=>ps.length - z) (by rfl) 0 Z
  ⟨Lj _,Step.refl _ _,λi _ h=>by omega⟩ ?_
 rintro k g w2 ⟨hk,E,V⟩;refine Qc<|x (QB O O)<|xe<|Qg<|QH O (λhb=>?_) (λhb=>?_)
 ·refine Qy<|Qc<|x (Qa O)<|x (Qd (T.ext E) O O)<|x (Qs h.al.arr O)<|xl O<|K5 (n:=ps.length) O O (by omega) λhc w3 he hm Y=>x Qf<|Qe ?_;rw[show (List.replicate ps.length (Value.int .i64 0).cells.toList).flatten=((List.replicate ps.length 0).map (Value.int .i64)) by rw[show (Value.int .i64 0).cells.toList=[Value.int .i64 0] from rfl,yc,List.map_replicate]] at Y
  have hz:=(G.trans E).size;refine Qm ⟨[.slice (some ⟨hc,0,none⟩) ps.length ps.length,.bool true],⟨O,O,U⟩,(G.trans E).trans he,?_⟩;rw[if_neg (by
   rintro ⟨p,hp,h0⟩;obtain ⟨i,hi,rfl⟩:=LD hp;exact V i hi (by omega) h0)]
  refine ⟨_,O,?_⟩;have:=Y.own (n:=ps.length) (sz:=1) (base:=w.heap.size) (by simp) (by omega) (by omega);unfold Qu;rw[List.length_replicate];exact this
 have H:k<ps.length:=by omega
 have I:=h.al.each ps[k] (Lc H);refine Qi<|Qg<|Qh<|Qc<|xig Kc ((h.al.ext G).ext E).arr O O H λho hf=>x (QF hf O O)<|xl O<|Qt (us:=[nS,.int .i64 0,nS,nS]) O λb5 w4 hg hh J =>
  xl rfl<|Qp (us:=Zc ps[k]) J O O O O ⟨I.al.one,O,I.mr.one,I.ed.one,U⟩ λw5 hj J=>xe ?_
 have ha:Step [] w2 w5:=hg.then1 hj hh;refine Qc<|x (Qa O)<|x (Qd J O O)<|x (Q5 O O)<|xe<|Q7 rfl (λS=>?_) (λS=>?_)
 ·refine Qc<|x Qf<|Qe<|Qm ⟨[nS,.bool false],⟨O,O,U⟩,(G.trans E).trans ha,?_⟩;rw[if_pos ⟨ps[k],Lc H,S⟩];rfl
 refine Qi<|Qz<|QN O O<|Qb<|xe<|⟨k+1,by omega,Z,H,E.trans ha,λi hi hik=>?_⟩;by_cases e:i=k
 ·subst e;exact S
 exact V i hi (by omega)
theorem jL {aa:List QP}{ts:LI}{k:Nat}(h:k<aa.length) (h':k<ts.length):Y5 (aa.drop k) (ts.drop k)=(decide (ts[k]∈aa[k].mr) && Y5 (aa.drop (k+1)) (ts.drop (k+1))):=by
 rw[LH h,LH h',Y5]
theorem QbT {L:LN}{w:World}{vl ve vs vt:Value}{ps:List AV}{ms:LN}{ts:LI}(h:Jz L w.heap vl ve vs ps ms) (ht:QK L w.heap vt ts) (hl:ts.length=ps.length) (hi:∀p∈ps,YX p.a.mr) (hn:ps.length≤12) :
  QI prog 143 [.agg #[vl,ve,vs],vt] w λr w'=>r=.bool (Y5 (ps.map (·.a)) ts)∧Step [] w w':=by
 refine QI.of_W func143 O ntmps143 results143 (by simp) ?_;refine Qc<|xl O<|QQ (us:=[vl,ve,vs]) O λb2 w1 hb hq he=>Qe<|Qg<|Qc<|x (Qa O)<|x (Qd he O O)<|x (Qs h.al.arr O)<|Qb<|xe<|Qh<|QA (α:=Nat) [(4,6),(10,23)] (λz=>[(10,.int .i64 z)]) (λz w'=>z≤ps.length∧Step [] w w'∧Y5 (ps.map (·.a)) ts=Y5 ((ps.map (·.a)).drop z) (ts.drop z)) (λz=>ps.length - z) (by rfl) 0 Z
  ⟨Lj _,hb,O⟩ ?_
 rintro k g w2 ⟨hk,I,G⟩;refine Qc<|x (QB O O)<|xe<|Qg<|QH O (λhf=>?_) (λhf=>?_)
 ·refine Qy<|Qc<|Qe<|Qm ⟨[.bool true],Z,?_,I⟩;rw[G,Lp (by simp;omega)];rfl
 have E:k<ps.length:=by omega
 have Y:k<ts.length:=by omega
 have H:=h.al.each ps[k] (Lc E);rw[jL (by simpa using E) Y,MN] at G;refine Qi<|Qg<|Qh<|Qc<|Qb<|xig Kc (h.al.ext I).arr O O E λhr hg=>x (QF hg O O)<|xl O<|Qt (us:=[nS,.int .i64 0,nS,nS]) O λb6 w3 hh hj J=>x Qf <|
  xl rfl<|Qp (us:=Zc ps[k]) J O O O O ⟨H.al.one,O,H.mr.one,H.ed.one,U⟩ λS hm J=>xe ?_
 have ho:Step [] w2 S:=hh.then1 hm hj;have T:=I.trans ho;refine Qg<|QW (Step [] S) [(0,true),(1,true),(2,true),(3,true),(4,true),(5,true),(6,false),(7,true)] mixed (by rfl) (by kernel_rfl) (Step.drew _ _) ?_;refine p (λ_=>Qa O)<|pq (λ_ hc=>Qd (J.ext hc) O O)<|p (λ_=>Qo)<|p (λ_=>Qo)<|pii O (ht.ext T) O O Y λhs hp =>
  pq (λ_ hc=>Qv (hp.ext hc) O)<|pk<|xf<|(XC ((H.mr.ext T).ext (Step.drew _ _)) (hi ps[k] (Lc E)) _).mono ?_
 rintro r5 w5 ⟨rfl,rfl⟩;refine ⟨Step.drew _ _,?_⟩;refine p (λ_=>Zs O)<|pe ?_;have ha:=T.trans (Step.drew [] S);refine Q2 rfl (λV=>?_) (λV=>?_)
 ·refine Qc<|Qe<|Qm ⟨[.bool false],Z,?_,ha⟩;rw[G,show decide (ts[k]∈ps[k].a.mr)=false by simpa using V];rfl
 refine Qi<|Qz<|QN O O<|Qb<|xe<|⟨k+1,by omega,Z,E,ha,?_⟩;rw[G,show decide (ts[k]∈ps[k].a.mr)=true by simpa using V,Bool.true_and]
theorem jr {aa:List QP}{ts:LI}{k:Nat}{v:Int}(h:k<aa.length) (h':k<ts.length):Ya v (aa.drop k) (ts.drop k) =
  if v∉aa[k].al then (Ya v (aa.drop (k+1)) (ts.drop (k+1))).map (ts[k]::·) else match eget aa[k].ed ts[k] v with | none=>none | some u=>(Ya v (aa.drop (k+1)) (ts.drop (k+1))).map (u::·):=by
 rw[LH h,LH h'];show (if v∉aa[k].al then _ else _)=_
 split
 ·rfl
 cases eget aa[k].ed ts[k] v <;> rfl
theorem Qdn {L:LN}{w:World}{vl ve vs vt:Value}{ps:List AV}{ms:LN}{ts:LI}(h:Jz L w.heap vl ve vs ps ms) (ht:QK L w.heap vt ts) (hl:ts.length=ps.length) (hi:∀p∈ps,YX p.a.al)
  (hz:∀p∈ps,p.a.ed.Pairwise λx y=>x.1<y.1∨(x.1=y.1∧x.2.1<y.2.1)) (hn:ps.length≤12) (v:Int) :
  QI prog 144 [.agg #[vl,ve,vs],vt,.int .i64 v] w λr w'=>Step [] w w' ∧
   match Ya v (ps.map (·.a)) ts with | none=>r=.tuple #[nS,.bool false] | some u=>∃v',r=.tuple #[v',.bool true]∧Qu 3 w.heap.size w' v' u:=by
 refine QI.of_W func144 O ntmps144 results144 (by simp) ?_;refine Qc<|xl O<|QQ (us:=[vl,ve,vs]) O λb3 w1 hf hL hg=>x Qf<|Qe<|Qc<|Qb<|xl O<|xf<|(ZZ (ht.ext hf)).mono ?_;rintro vx w2 ⟨S,hr⟩;refine Qe ?_;have h0:=hf.size;have hM:=S.size;have hN:=hg.lt;have hh:=hf.trans S;refine Qg<|Qc<|x (Qa O)<|x (Qd (hg.ext S) O O)<|x (Qs h.al.arr O)<|Qb<|xe ?_;have hge:=Qn hr
 have h1:Jz (ob vx) w2.heap vl ve vs ps ms:=((h.up (L':=ob vx) (λb hb=>.inr (by have:=(hge b hb).1;omega))).ext hh);have h2:QK (ob vx) w2.heap vt ts:=((ht.up (L':=ob vx) (λb hb=>.inr (by have:=(hge b hb).1;omega))).ext hh);refine Qh<|QA (α:=Nat×LI) [(6,7),(9,12),(18,49)] (λz=>[(18,.int .i64 z.1)])
  (λz w'=>z.1≤ps.length∧z.2.length=z.1∧Step (ob vx) w2 w'∧Qu 3 w1.heap.size w' vx (z.2++ts.drop z.1)∧Ya v (ps.map (·.a)) ts=(Ya v ((ps.map (·.a)).drop z.1) (ts.drop z.1)).map (z.2++·)) (λz=>ps.length - z.1) (by rfl) (0,[]) Z
  ⟨Lj _,O,Step.refl _ _,hr,by simp⟩ ?_
 rintro ⟨k,pre⟩ g w3 ⟨hk,T,H,J,E⟩;simp only[] at hk T J E;have hO:=H.size;have hj:Step [] w w3:=hh.then H (λb hb=>.inr (by have:=(hge b hb).1;omega));refine Qc<|x (QB O O)<|xe<|Qg<|QH O (λh3=>?_) (λh3=>?_)
 ·refine Qy<|Qc<|Qb<|x Qf<|Qe<|Qm ⟨[vx,.bool true],⟨O,O,U⟩,hj,?_⟩;rw[Lp (by simp;omega),Lp (by omega)] at E;rw[Lp (by omega)] at J;rw[E];simp only[Ya,Option.map_some];exact ⟨vx,O,Zk J h0⟩
 have G:k<ps.length:=by omega
 have hm:k<ts.length:=by omega
 have hs:k<ms.length:=by rw[h.ml];exact G
 have V:=h.al.each ps[k] (Lc G);rw[jr (by simpa using G) hm,MN] at E;have hu:=h1.st H;have h4:=h2.st H;refine Qi<|Qg<|Qh<|Qc<|Qb<|xig Kc hu.al.arr O O G λhP h5=>x (QF h5 O O)<|xl O<|Qt (us:=[nS,.int .i64 0,nS,nS]) O λhQ w4 h6 h7 ho=>x Qf <|
  xl rfl<|Qp (us:=Zc ps[k]) ho O O O O ⟨V.al.one,O,V.mr.one,V.ed.one,U⟩ λw5 h8 ho=>xe ?_
 have I:Step [] w3 w5:=h6.then1 h8 h7;have h9:=hj.trans I;refine Qg<|Qc<|x (Qa O)<|x (Qd ho O O)<|Qb<|xl O<|xf<|(XC (V.al.ext h9) (hi ps[k] (Lc G)) v).mono ?_;rintro r6 Y ⟨rfl,rfl⟩;refine x (Zs O)<|xe ?_;have hv:=QZ hm;refine Q2 rfl (λhp=>?_) (λhp=>?_)
 ·have hB:v∉ps[k].a.al:=by simpa using hp
  refine Qy<|Qz<|QN O O<|Qb<|xe<|⟨(k+1,pre++[ts[k]]),by simp only[];omega,Z,G,by simp[T],H.trans I,?_,?_⟩
  ·simp only[List.append_assoc,List.singleton_append];rw[←hv];exact Qq J I
  simp only[];rw[E,if_pos hB,Option.map_map];congr 1;funext l;simp
 have hC:¬(v∉ps[k].a.al):=by simpa using hp
 rw[if_neg hC] at E;refine Qi ?_;have hD:=(hg.ext S).step H (λhb=>by have:=(hge b3 hb).1;omega);have hw:=hu.ext I;obtain ⟨hE,hR⟩:=hw.mp k hs G
 refine Qg<|QW (Step [] Y) [(0,true),(1,true),(2,true),(3,true),(4,true),(5,true),(6,true),(7,true),(8,true),(9,true),(10,true),(11,true),(12,true),(13,true),(14,true),(15,true),(16,true)] mixed (by rfl) (by kernel_rfl) (Step.drew _ _) ?_;refine p (λ_=>Qa O)<|pq (λ_ hc=>Qd ((hD.ext I).ext hc) O O)<|p (λ_=>Qo)<|pig O (g:=QaM) (λ_=>O) hw.sl O O hs λhS hF =>
  pq (λ_ hc=>Qv (hF.ext hc) O)<|p (λ_=>Qo)<|p (λ_=>Qo)<|pii O (h4.ext I) O O hm λhT hG=>pq (λ_ hc=>Qv (hG.ext hc) O) <|
  p (λ_=>Qo)<|p (λ_=>QE ⟨O,O,U⟩)<|pq (λ_ hc=>Kx (k:=(ts[k],v)) (hE.ext hc) O O)<|?_
 rw[qy ps[k].a.ed [] ts[k] v (hz ps[k] (Lc G))];have hq:Step [] w3 { Y with drawn:=Y.drawn+1 }:=I.trans (Step.drew [] Y)
 cases he:eget ps[k].a.ed ts[k] v with
 | none =>
  rw[he] at E;refine p (λ_=>Qo)<|p (λ_=>Ql O O)<|p (λ_=>Ql O O)<|p (λ_=>Qf)<|p (λ_=>Qf)<|pe ?_;refine Qg<|Qc<|Qb<|x (Zs O)<|xe<|UD O ?_;refine Qc<|x Qf<|Qe<|Qm ⟨[nS,.bool false],⟨O,O,U⟩,hj.trans hq,?_⟩;rw[E];rfl
 | some u =>
  rw[he] at E;refine p (λ_=>Qo)<|p (λ_=>Ql O O)<|p (λ_=>Ql O O)<|p (λ_=>Qf)<|p (λ_=>Qf)<|pe ?_;refine Qg<|Qc<|Qb<|x (Zs O)<|xe<|Yc O ?_;refine Qi ?_;have hy:=Qq J hq;have hU:(pre++ts.drop k).length=ts.length:=by simp;omega
  obtain ⟨gx,cx,ha⟩:=JE J (by omega);have hH:ob vx=[gx]:=by rw[ha];rfl
  refine Qz<|Qb<|Qb<|Qb<|x (Zf ha O (by omega))<|xl O<|Qdu (u:=.int .i64 u) (by rw[ha] at hy;exact hy) O O (by omega) O λw7 hI hJ=>xe ?_;refine Qz<|QN O O<|Qb<|xe ?_;have hK:(pre++ts.drop k).set k u=(pre++[u])++ts.drop (k+1):=by
   rw[hv,List.set_append_right _ _ (by omega),T,Nat.sub_self,List.set_cons_zero,LC];rfl
  refine ⟨(k+1,pre++[u]),by simp only[];omega,Z,G,by simp[T],(H.trans hq).then hI (λb hb=>.inl (by rw[hH];exact hb)),?_,?_⟩
  ·simp only[];rw[←hK];unfold Qu;rw[MS,List.map_set,ha];exact hJ
  simp only[];rw[E,Option.map_map];congr 1;funext l;simp
theorem Km {n:Nat}(h:n<256):(UInt8.ofNat n).toNat=n:=by
 simp[Nat.mod_eq_of_lt h]
theorem yL (u:Nat):(32:UInt8)∉Lib.decDigits u:=by
 induction u using Nat.strongRecOn with
 | _ u ih =>
  unfold Lib.decDigits;split
  ·intro h;simp only[List.mem_singleton] at h;have:=congrArg UInt8.toNat h;rw[Km (by omega)] at this;have E:(32:UInt8).toNat=32:=rfl;omega
  intro h;rcases Li.1 h with h | h
  ·exact ih _ (by omega) h
  simp only[List.mem_singleton] at h;have:=congrArg UInt8.toNat h;rw[Km (by omega)] at this;have E:(32:UInt8).toNat=32:=rfl;omega
def dval (l:List UInt8):Nat:=l.foldl (λa b=>a*10+(b.toNat - 48)) 0
theorem yJ (u:Nat):dval (Lib.decDigits u)=u:=by
 induction u using Nat.strongRecOn with
 | _ u ih =>
  unfold Lib.decDigits;split
  ·simp only[dval,List.foldl_cons,List.foldl_nil];rw[Km (by omega)];omega
  have:=ih (u / 10) (by omega);unfold dval at *;rw[Md,this];simp only[List.foldl_cons,List.foldl_nil];rw[Km (by omega)];omega
theorem Qap:∀{a b r E:List UInt8},(32:UInt8)∉a→(32:UInt8)∉b→a++32::r=b++32::E→a=b∧r=E
 | [],[],_,_,_,_,h=>by simpa using h
 | [],y::b,_,_,_,hb,h=>by simp at h;exact absurd h.1 (by intro e;exact hb (by simp[e]))
 | x::a,[],_,_,ha,_,h=>by simp at h;exact absurd h.1 (by intro e;exact ha (by simp[e]))
 | x::a,y::b,_,_,ha,hb,h=>by
  simp only[List.cons_append,List.cons.injEq] at h;have:=Qap (λe=>ha (Lm _ e)) (λe=>hb (Lm _ e)) h.2;exact ⟨by rw[h.1,this.1],this.2⟩
theorem yq:∀{l l':LI},(∀n∈l,0≤n)→(∀n∈l',0≤n)→Xh l=Xh l'→l=l'
 | [],[],_,_,_=>rfl
 | [],y::b,_,_,h=>by simp[Xh] at h
 | x::a,[],_,_,h=>by simp[Xh] at h
 | x::a,y::b,ha,hb,h=>by
  have h':Lib.decDigits x.toNat++32::Xh a=Lib.decDigits y.toNat++32::Xh b:=by simpa[Xh] using h
  obtain ⟨h1,h2⟩:=Qap (yL _) (yL _) h';have h3:x.toNat=y.toNat:=by rw[←yJ x.toNat,←yJ y.toNat,h1]
  have G:=yq (λn E=>ha n (Lm _ E)) (λn E=>hb n (Lm _ E)) h2;have h5:=ha x Ls;have H:=hb y Ls;rw[G,show x=y by omega]
def Jf (l:LI):ByteArray:=⟨(Xh l).toArray⟩
theorem QdN {l l':LI}(h1:∀n∈l,0≤n) (h2:∀n∈l',0≤n) (h:Jf l=Jf l'):l=l':=by
 refine yq h1 h2 ?_;have:=congrArg (λb:ByteArray=>b.data.toList) h;simpa[Jf] using this
def Vp (n:Nat) (m:List (ByteArray×Value)) (tup:List (LI)):Prop :=
 ∀u:LI,u.length=n→(∀x∈u,0≤x)→mget m (Jf u)=if u∈tup then some (.int .i64 (tup.idxOf u:Int)) else none
theorem Vp.add {n:Nat}{m:List (ByteArray×Value)}{tup:List (LI)}(h:Vp n m tup) {u:LI}(hu:u∉tup) (E:∀x∈u,0≤x):Vp n (mput m (Jf u) (.int .i64 (tup.length:Int))) (tup++[u]):=by
 intro v G h1;rw[XK];by_cases e:u=v
 ·subst e;rw[if_pos rfl,if_pos (by simp),Ml,if_neg hu];simp
 rw[if_neg (λhk=>e (QdN E h1 hk)),h v G h1];by_cases hm:v∈tup
 ·rw[if_pos hm,if_pos (by simp[hm]),Ml,if_pos hm]
 rw[if_neg hm,if_neg (by simp[hm,Ne.symm e])]
structure qI (N b2 b38 b37:Nat) (ve:Value) (wS:World) (s:Sy) (m:List (ByteArray×Value)) (qs:List TV) (vt vk vd:Value) (w:World):Prop where
 st:Step [b2,b38,b37] wS w
 A:Q4 w.heap b2 58 [ve,.int .i64 0,vk,vd]
 M:Z0 Y7 w.heap b38 m
 t:UV 37 N w vt qs
 tb:∀b∈ob vt,b=b37∨wS.heap.size≤b
 k:Qu 3 wS.heap.size w vk s.mk'
 e:Ye 144 wS.heap.size w vd s.ed
 q:qs.map (·.2)=s.tup
 el:∀p∈qs,Qu 3 N w p.1 p.2
 sep:∀p∈qs,∀b∈ob p.1,b≠b38∧b∉ob vt∧b∉ob vk∧b∉ob vd
 d1:Dj vt vk
 d2:Dj vt vd
 d3:Dj vk vd
section
variable {N b2 b38 b37:Nat} {ve:Value} {wS:World} {s:Sy} {m:List (ByteArray×Value)} {qs:List TV} {vt vk vd:Value} {w w' w'':World}
theorem qI.ext (h:qI N b2 b38 b37 ve wS s m qs vt vk vd w) (hs:Step [] w w'):qI N b2 b38 b37 ve wS s m qs vt vk vd w' :=
 ⟨h.st.trans hs,h.A.ext hs,h.M.ext hs,Qq h.t hs,h.tb,Qq h.k hs,Qq h.e hs,h.q,λp hp=>Qq (h.el p hp) hs,h.sep,h.d1,h.d2,h.d3⟩
structure SyN (N b2 b38 b37:Nat) (wS:World):Prop where
 l2:b2<N
 l38:b38<wS.heap.size
 l37:b37<wS.heap.size
 n37:N≤b37
 n38:b37<b38
 nS:N≤wS.heap.size
theorem qI.setK (h:qI N b2 b38 b37 ve wS s m qs vt vk vd w) (n:SyN N b2 b38 b37 wS) {G:Value}{l:LI}(hs:Step (ob vk) w w') (I:Qu 3 wS.heap.size w' G l)
  (H:∀b∈ob G,b∈ob vk∨w.heap.size≤b) (E:Step [b2] w' w'') (J:Q4 w''.heap b2 58 [ve,.int .i64 0,G,vd]):qI N b2 b38 b37 ve wS ⟨s.tup,l,s.ed⟩ m qs vt G vd w'':=by
 have hge:=Qn h.k;have l2:=n.l2;have l38:=n.l38;have n37:=n.n37;have n38:=n.n38;have nS:=n.nS;refine ⟨(h.st.then hs (λb hb=>.inr (hge b hb).1)).then E (λb hb=>.inl (by simp at hb;simp[hb])),J,(h.M.step hs (QU h.k (by omega))).step E (by simp;omega),
  Qk (Qk h.t hs h.d1) E (λb hb=>by have:=(Qn h.t b hb).1;simp;omega),h.tb,Qk I E (λb hb=>by have:=(Qn I b hb).1;simp;omega),
  Qk (Qk h.e hs h.d3.symm) E (λb hb=>by have:=(Qn h.e b hb).1;simp;omega),h.q,
  λp hp=>Qk (Qk (h.el p hp) hs (λb hb=>(h.sep p hp b hb).2.2.1)) E (λb hb=>by have:=(Qn (h.el p hp) b hb).1;simp;omega),
  λp hp b hb=>⟨(h.sep p hp b hb).1,(h.sep p hp b hb).2.1,λS=>?_,(h.sep p hp b hb).2.2.2⟩,h.d1.grow H (QO h.t),h.d2,(h.d3.symm.grow H (QO h.e)).symm⟩
 rcases H b S with h1 | h1
 ·exact (h.sep p hp b hb).2.2.1 h1
 have:=QO (h.el p hp) b hb;omega
theorem qI.setE (h:qI N b2 b38 b37 ve wS s m qs vt vk vd w) (n:SyN N b2 b38 b37 wS) {G:Value}{l:List Ed}(hs:Step (ob vd) w w') (I:Ye 144 wS.heap.size w' G l)
  (H:∀b∈ob G,b∈ob vd∨w.heap.size≤b) (E:Step [b2] w' w'') (J:Q4 w''.heap b2 58 [ve,.int .i64 0,vk,G]):qI N b2 b38 b37 ve wS ⟨s.tup,s.mk',l⟩ m qs vt vk G w'':=by
 have hge:=Qn h.e;have l2:=n.l2;have l38:=n.l38;have n37:=n.n37;have n38:=n.n38;have nS:=n.nS;refine ⟨(h.st.then hs (λb hb=>.inr (hge b hb).1)).then E (λb hb=>.inl (by simp at hb;simp[hb])),J,(h.M.step hs (QU h.e (by omega))).step E (by simp;omega),
  Qk (Qk h.t hs h.d2) E (λb hb=>by have:=(Qn h.t b hb).1;simp;omega),h.tb,Qk (Qk h.k hs h.d3) E (λb hb=>by have:=(Qn h.k b hb).1;simp;omega),
  Qk I E (λb hb=>by have:=(Qn I b hb).1;simp;omega),h.q,
  λp hp=>Qk (Qk (h.el p hp) hs (λb hb=>(h.sep p hp b hb).2.2.2)) E (λb hb=>by have:=(Qn (h.el p hp) b hb).1;simp;omega),
  λp hp b hb=>⟨(h.sep p hp b hb).1,(h.sep p hp b hb).2.1,(h.sep p hp b hb).2.2.1,λS=>?_⟩,h.d1,h.d2.grow H (QO h.t),h.d3.grow H (QO h.k)⟩
 rcases H b S with h1 | h1
 ·exact (h.sep p hp b hb).2.2.2 h1
 have:=QO (h.el p hp) b hb;omega
theorem qI.setM (h:qI N b2 b38 b37 ve wS s m qs vt vk vd w) (n:SyN N b2 b38 b37 wS) {E:List (ByteArray×Value)}(hs:Step [b38] w w') (hm:Z0 Y7 w'.heap b38 E):qI N b2 b38 b37 ve wS s E qs vt vk vd w':=by
 have l2:=n.l2;have l38:=n.l38;have n37:=n.n37;have n38:=n.n38;have nS:=n.nS;exact ⟨h.st.then hs (λb hb=>.inl (by simp at hb;simp[hb])),h.A.step hs (by simp;omega),hm,Qk h.t hs (λb hb=>by have:=h.tb b hb;simp;omega),h.tb,
  Qk h.k hs (λb hb=>by have:=(Qn h.k b hb).1;simp;omega),Qk h.e hs (λb hb=>by have:=(Qn h.e b hb).1;simp;omega),h.q,
  λp hp=>Qk (h.el p hp) hs (λb hb=>by have:=(h.sep p hp b hb).1;simpa using this),h.sep,h.d1,h.d2,h.d3⟩
theorem qI.setT (h:qI N b2 b38 b37 ve wS s m qs vt vk vd w) (n:SyN N b2 b38 b37 wS) {E vx:Value}{u:LI}(hx:Qu 3 wS.heap.size w vx u) (H:∀b∈ob vx,b∉ob vt∧b∉ob vk∧b∉ob vd) (hs:Step (ob vt) w w')
  (I:UV 37 N w' E (qs++[(vx,u)])) (G:∀b∈ob E,b∈ob vt∨w.heap.size≤b):qI N b2 b38 b37 ve wS ⟨s.tup++[u],s.mk',s.ed⟩ m (qs++[(vx,u)]) E vk vd w':=by
 have l2:=n.l2;have l38:=n.l38;have n37:=n.n37;have n38:=n.n38;have nS:=n.nS;have S:=h.st.size;have nott:∀c,c<w.heap.size→c∉ob vt→c∉ob E:=λc hc J hv'=>by
  rcases G c hv' with h1 | h1
  ·exact J h1
  omega
 refine ⟨h.st.then hs (λb hb=>by have:=h.tb b hb;simp;omega),h.A.step hs (λhb=>by have:=h.tb b2 hb;omega),h.M.step hs (λhb=>by have:=h.tb b38 hb;omega),I,
  λb hb=>?_,Qk h.k hs h.d1.symm,Qk h.e hs h.d2.symm,by rw[Lt,h.q];rfl,λp hp=>?_,λp hp b hb=>?_,(h.d1.symm.grow G (QO h.k)).symm,(h.d2.symm.grow G (QO h.e)).symm,h.d3⟩
 ·rcases G b hb with h1 | h1
  ·exact h.tb b h1
  exact .inr (by omega)
 ·rcases Li.1 hp with hp | hp
  ·exact Qk (h.el p hp) hs (λb hb=>(h.sep p hp b hb).2.1)
  simp only[List.mem_singleton] at hp;subst hp;exact Zk (Qk hx hs (λb hb=>(H b hb).1)) nS
 rcases Li.1 hp with hp | hp
 ·have:=h.sep p hp b hb;exact ⟨this.1,nott b (QO (h.el p hp) b hb) this.2.1,this.2.2⟩
 simp only[List.mem_singleton] at hp;subst hp;have h1:=(Qn hx b hb);have h2:=H b hb;exact ⟨by omega,nott b h1.2 h2.1,h2.2⟩
end
end Go.Proofs.YtdffckgdcegpaaaGreatDoor
