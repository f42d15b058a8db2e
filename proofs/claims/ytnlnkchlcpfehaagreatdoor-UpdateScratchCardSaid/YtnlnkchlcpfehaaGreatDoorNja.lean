/- Merged out of 39 texts. -/
import Derived.Orders
import Derived.Below
import Derived.WalkKit
import Derived.Laws.AppendOwn
import Derived.Laws.Rows
import Derived.Laws.Tables
import Derived.Great.BuildSlice
import Derived.Deep.OwnRows
import Derived.MapKept
import Derived.Test.YtnlnkchlcpfehaaGreatDoorProg
import Derived.Shelf.SlBodiesH
import Derived.Shelf.SlBodiesN
import Derived.Shelf.SlGeneric
import Derived.Laws.StructEq
import Derived.Shelf.Strings.Builder1
import Derived.Shelf.Small.Bits
import Derived.Shelf.Strings.BuilderF
import Derived.Shelf.Strings.BuilderK
import Derived.Shelf.Strconv.Itoa0
import Derived.Shelf.Strconv.Itoa1
import Derived.Shelf.LaysM
import Derived.Shelf.Strconv.Itoa2
import Derived.Shelf.Strconv.Itoa3
import Derived.Shelf.Strings.BuilderCap
import Derived.Lib.Builder
import Derived.Laws.Externs
set_option maxHeartbeats 40000000
set_option maxRecDepth 100000
set_option linter.all false
abbrev Eq.I:=@Eq.trans
abbrev Iff.I:=@Iff.trans
abbrev List.Perm.I:=@List.Perm.trans
namespace Go
abbrev sL (b n c:Nat):Value:=.slice (some ⟨b,0,none⟩) n c
abbrev sP (b:Nat):Value:=.pointer (some ⟨b,0,none⟩)
instance:CoeOut World Nat:=⟨λw=>w.heap.size⟩
instance:CoeOut World (Array Obj):=⟨λw=>w.heap⟩
abbrev sS (n:Int):Value:=.int .i64 n
abbrev sT (l:List Value):Value:=.agg l.toArray
abbrev xC:=Option (Nat×Bool)
abbrev xD:=List (Nat×Bool)
abbrev xE:=List (Nat×Nat)
abbrev xF:=List (Int×Int)
abbrev xH:=World→Prop
abbrev xI:=Array Obj
abbrev xJ:=Array Edge
abbrev xK:=List Oper
abbrev xL:=Option Nat
theorem ov{p q:Prop}(a:q)(h:q→p:=by intro _;omega):p:=h a
theorem oy{p q r:Prop}(a:q)(b:r)(h:q→r→p:=by intro _ _;omega):p:=h a b
theorem oz{p q r s:Prop}(a:q)(b:r)(c:s)(h:q→r→s→p:=by intro _ _ _;omega):p:=h a b c
theorem oA{p q:Prop}(a:q)(h:q→p:=by intro h;simpa using h):p:=h a
theorem oa{p:Prop}(h:p:=by omega):p:=h
theorem od{p:Prop}(h:p:=by kernel_rfl):p:=h
theorem oe{p:Prop}(h:p:=by simp):p:=h
theorem og{p:Prop}(h:p:=by simp only[];omega):p:=h
theorem oh{p:Prop}(h:p:=by decide):p:=h
theorem ol{p:Prop}(h:p:=by simp only[List.mem_singleton];omega):p:=h
theorem om{p:Prop}(h:p:=by rfl):p:=h
theorem oq{p:Prop}(h:p:=by simp[Value.oneCell']):p:=h
theorem ot{p:Prop}(h:p:=by simp only[List.mem_cons,List.not_mem_nil,or_false];omega):p:=h
theorem ou{p:Prop}(h:p:=by simp[ow]):p:=h
abbrev oE(j:Nat):Nat×Bool:=(j,true)
abbrev oF(j:Nat):Nat×Bool:=(j,false)
abbrev O0:=@if_neg
abbrev O1:=@if_pos
abbrev O2:=@congrArg
abbrev O3:=@absurd
abbrev O4:=@decide_eq_true
abbrev O5:=@of_decide_eq_true
abbrev O6:=@decide_eq_false
abbrev O7:=@of_decide_eq_false
end Go
open Go
open Go.Value renaming int->oG
open Go.IntKind renaming i64->oH
open _root_.List renaming mem_singleton->oJ,replicate->oK,not_mem_nil->oL,mem_cons->oM,length_append->oN,length_singleton->oP,getD->oQ,range'->oS,range->oT,mem_append->oU,length_cons->oV,map_cons->oX,append_assoc->oY,getElem?_toArray->o0,length_map->o6,length_drop->Oa,length_take->Ob,size_toArray->Oc,flatMap_cons->Od,getElem?_eq_getElem->Of,nil_append->Oh,all_cons->Ok,append_nil->Ol,cons_append->On,forall_mem_cons->Ou,all_eq_true->Ow,singleton_append->Ox,range'_succ->OF,take_append->OR
open _root_.Bool renaming and_eq_true->oO,or_eq_false_iff->Og,not_eq_true'->OA,true_and->OU
open _root_.Array renaming replicate->oW,getElem?_eq_getElem->Oj
open _root_.Nat renaming zero_add->oZ,add_mul->Ot,add_zero->OH,lt_or_ge->OO,sub_zero->OP,le_of_not_lt->OQ,add_assoc->OT,zero_mul->OV,sub_self->OW,le_refl->OX,beq->OZ
open _root_.Int renaming toNat_natCast->Ov
open _root_.Option renaming map_some->Oz
open Go renaming World->O8,Value->O9,Operand->xd,Program->xh
open Go.Proofs Go.Proofs.Tryz
open Go.Proofs.Tryz renaming prog->sV
variable {w w':O8}{n t i sz b T j N E g ty id cap b1 B kt lo hi b2 et M gp:Nat}{α β:Type}{y:xd}{z va ve vm vt v' vl vs vx vb vk:O9}{P:xh}{fn:Func}{s:Int}{o:Oper}{d:xL}{af:xJ}{gd:xC}{D:xE}{k':IntKind}{at_:Array Nat}{ops:xK}
namespace Go
abbrev nS:O9:=.slice none 0 0
abbrev LI:=List Int
abbrev LN:=List Nat
abbrev LV:=List O9
theorem U.{u}{α:Sort u}{a:α}:a=a:=rfl
theorem La:True:=trivial
theorem Lb.{u}{α:Sort u}{a:α}:a=a/\True:=⟨rfl,trivial⟩
abbrev Lc:=@List.mem_singleton
abbrev Lh:=@List.mem_append
abbrev Lj:=@List.length_map
abbrev Lk:=@List.mem_cons
abbrev Ll:=@List.mem_cons_of_mem
abbrev Lm:=@List.getElem_mem
abbrev Ln:=@List.length_append
abbrev Lo:=@List.take_succ_eq_append_getElem
abbrev Lp:=@Nat.zero_le
abbrev Lq:=@Decidable.not_not
abbrev Lr:=@List.mem_cons_self
abbrev Ls:=@List.map_append
abbrev Lt:=@List.take_of_length_le
abbrev Lu:=@Nat.le_refl
abbrev Lv:=@List.not_mem_nil
abbrev Lx:=@List.drop_of_length_le
abbrev Ly:=@List.mem_map
abbrev LA:=@List.eq_nil_of_length_eq_zero
abbrev LB:=@List.length_take
abbrev LC:=@List.flatMap_append
abbrev LD:=@List.append_assoc
abbrev LE:=@List.getElem?_eq_getElem
abbrev LF:=@Bool.and_eq_true
abbrev LG:=@List.length_singleton
abbrev LH:=@List.drop_eq_getElem_cons
abbrev LJ:=@Nat.le_trans
abbrev LK:=@List.mem_map_of_mem
abbrev LM:=@List.getElem_of_mem
abbrev LO:=@List.map_cons
abbrev LP:=@Array.getElem?_eq_some_iff
abbrev LQ:=@List.flatMap_cons
abbrev LR:=@List.getD_eq_getElem?_getD
abbrev LS:=@Nat.zero_add
abbrev LT:=@List.append_nil
abbrev LU:=@List.size_toArray
abbrev LW:=@List.getElem_map
abbrev LX:=@List.length_cons
abbrev LY:=@List.mem_filter
abbrev LZ:=@List.foldl_cons
abbrev L3:=@List.getElem?_take
abbrev L4:=@List.map_map
abbrev L5:=@List.length_drop
abbrev L6:=@List.pairwise_cons
abbrev L7:=@List.mem_append_left
abbrev L8:=@List.mem_of_mem_take
abbrev L9:=@List.length_set
abbrev Ma:=@Nat.mul_le_mul_right
abbrev Mb:=@Nat.le_of_ble_eq_true
abbrev Mc:=@List.filter_append
abbrev Md:=@List.nil_append
abbrev Me:=@List.getElem?_eq_some_iff
abbrev Mf:=@List.mem_of_mem_drop
abbrev Mg:=@List.filter_cons
abbrev Mh:=@List.ext_getElem
abbrev Mi:=@List.nodup_append
abbrev Mj:=@List.pairwise_append
abbrev Mk:=@List.foldl_append
abbrev Ml:=@List.getElem_append_left
abbrev Mn:=@Array.size_modify
abbrev Mo:=@List.getElem?_append_left
abbrev Mq:=@List.pairwise_iff_getElem
abbrev Mr:=@List.mem_flatMap
abbrev Ms:=@Array.getElem?_append
abbrev Mt:=@List.length_filter_le
abbrev Mu:=@Nat.min_eq_left
abbrev Mv:=@List.getElem?_toArray
abbrev Mw:=@Nat.lt_of_lt_of_le
abbrev Mx:=@Array.getElem?_toList
abbrev My:=@List.all_eq_true
abbrev Mz:=@List.filterMap_cons
abbrev MA:=@List.mem_of_getElem?
abbrev MB:=@Nat.add_mul
abbrev MC:=@List.pairwise_map
abbrev MD:=@Array.getElem?_modify
abbrev ME:=@List.length_replicate
abbrev MF:=@List.getElem?_drop
abbrev MG:=@Array.getElem?_eq_getElem
abbrev MH:=@Option.map_eq_some_iff
abbrev MI:=@List.range'_1_concat
abbrev MJ:=@List.idxOf_append
abbrev MK:=@Int.toNat_natCast
abbrev ML:=@List.mem_range'_1
abbrev MM:=@List.mem_append_right
abbrev MN:=@List.cons_append
abbrev MO:=@Nat.mod_eq_of_lt
abbrev MP:=@List.getElem?_set_ne
abbrev MQ:=@List.mem_range
abbrev MR:=@List.idxOf_lt_length_of_mem
abbrev MS:=@List.getElem?_eq_none
abbrev MT:=@List.take_append_drop
abbrev MU:=@List.map_congr_left
abbrev MW:=@Nat.add_sub_cancel_left
abbrev MX:=@List.getElem?_append_right
abbrev MY:=@List.nodup_nil
abbrev MZ:=@Option.bind_eq_some_iff
abbrev M0:=@Bool.or_eq_false_iff
abbrev M1:=@List.mem_or_eq_of_mem_set
abbrev M2:=@List.map_singleton
abbrev M4:=@List.all_cons
abbrev M5:=@Array.size_append
abbrev M6:=@List.mem_filterMap
abbrev M7:=@List.map_nil
abbrev M8:=@List.getElem_append_right
abbrev M9:=@List.take_succ_cons
abbrev Na:=@List.filter_sublist
abbrev Nb:=@List.take_append_of_le_length
abbrev Nc:=@List.headD_cons
abbrev Nd:=@List.take_length
abbrev Nf:=@List.getElem_set
abbrev Ng:=@Int.le_refl
abbrev Nh:=@List.ext_getElem?
abbrev Ni:=@List.take_take
abbrev Nj:=@List.getElem_take
abbrev Nk:=@List.tail_cons
abbrev Nl:=@List.range_succ
abbrev Nm:=@List.nodup_cons
abbrev Nn:=@List.range'_succ
abbrev Np:=@List.take_zero
abbrev Nq:=@List.forall_mem_cons
abbrev Nr:=@List.getElem?_map
abbrev Ns:=@List.pairwise_singleton
abbrev Nt:=@List.pairwise_lt_range'
abbrev Nu:=@List.dropLast_concat_getLast
abbrev Nv:=@List.filter_nil
abbrev Nw:=@Nat.add_zero
abbrev Nx:=@List.filter_eq_nil_iff
abbrev Ny:=@Nat.add_comm
abbrev Nz:=@List.zipIdx_cons
abbrev NA:=@Array.getElem?_mapIdx
abbrev NB:=@List.singleton_append
abbrev NC:=@Option.map_some
abbrev ND:=@List.length_nil
abbrev NE:=@Bool.not_eq_true'
abbrev NF:=@Nat.mod_lt
abbrev NG:=@List.eq_of_mem_replicate
abbrev NH:=@Option.isSome_iff_exists
abbrev NI:=@List.mergeSort_perm
abbrev NJ:=@List.filter_eq_self
abbrev NK:=@List.any_eq_true
abbrev NL:=@List.foldl_nil
abbrev NM:=@Nat.one_mul
abbrev NN:=@List.getElem_range
abbrev NO:=@Option.isSome_none
abbrev NP:=@Bool.false_eq_true
abbrev NQ:=@Nat.sub_zero
abbrev NS:=@List.set_cons_succ
abbrev NT:=@List.map_set
abbrev NU:=@Bool.eq_iff_iff
abbrev NV:=@List.map_take
abbrev NW:=@Nat.le_succ
theorem oB.{u,v}{α:Sort u}{β:Sort v}{a:α}{b:β}:a=a/\b=b/\True:=⟨rfl,rfl,trivial⟩
theorem oC.{u,v,w}{α:Sort u}{β:Sort v}{γ:Sort w}{a:α}{b:β}{c:γ}:a=a/\b=b/\c=c/\True:=⟨rfl,rfl,rfl,trivial⟩
theorem oD.{u,v,w,x}{α:Sort u}{β:Sort v}{γ:Sort w}{δ:Sort x}{a:α}{b:β}{c:γ}{d:δ}:a=a/\b=b/\c=c/\d=d/\True:=⟨rfl,rfl,rfl,rfl,trivial⟩
end Go
namespace Go.Lg
open Go.RowKit
abbrev Fr:=Nat->O9
def upd (f:Fr)(d:Nat)(v:O9):Fr:=λt=>bif OZ t d then v else f t
def ev (f:Fr):xd->O9
 | .tmp t=>f t
 | .const v=>v
 | .global g=>.pointer (some ⟨g,0,none⟩)
 | .func g=>.func (.func g) #[] #[]
def QT (f:Fr):xL->O9->Fr
 | some d,v=>upd f d v
 | none,_=>f
structure Rel (n:Nat)(a:Act)(f:Fr):Prop where
 size:a.tmps.size=n
 defers:a.defers=[]
 get:∀t,a.tmps.getD t undef=f t
theorem Jj (f:Fr)(d:Nat)(v:O9):upd f d v d=v:=by simp[upd]
theorem KB (f:Fr){d:Nat}(v:O9)(h:t≠d):upd f d v t=f t:=by
 have:OZ t d=false:=by
  cases e:OZ t d with
  | false=>rfl
  | true=>exact O3 (Nat.eq_of_beq_eq_true e) h
 simp[upd,this]
theorem Rel.eval {n:Nat}{a:Act}{f:Fr}(h:Rel n a f):a.eval=ev f:=by
 funext x;cases x with
 | tmp t=>exact h.get t
 | _=>rfl
theorem Rel.put {n:Nat}{a:Act}{f:Fr}(h:Rel n a f){dst:xL}(hd:∀d,dst=some d->d<n)(v:O9):Rel n (a.put dst v) (QT f dst v):=by
 cases dst with
 | none=>exact h
 | some d =>
  have E:d<a.tmps.size:=by rw[h.size];exact hd d U
  refine⟨by simp[Act.put,h.size],h.defers,λt=>?_⟩;by_cases e:t=d
  .subst e;rw[QT,Jj];simp[Act.put,E]
  rw[QT,KB _ _ e,<-h.get t];simp[Act.put,Array.getElem?_setIfInBounds_ne (Ne.symm e)]
def Yq (l:xK)(t:Nat):Bool:=l.any λo=>match o.dst with|some d=>OZ d t|none=>false
def wrs:Code->Nat->Bool
 | .region _ ops _,t=>Yq ops.toList t
 | .seq a b,t=>wrs a t || wrs b t
 | .cond _ a b,t=>wrs a t || wrs b t
 | .block _ a,t=>wrs a t
 | .loop a,t=>wrs a t
 | .skip,_| .exit _,_| .label _,_| .goto _,_| .ret,_=>false
 | _,_=>true
def KD (D:xE)(t:Nat):Bool:=match D with
 | []=>false
 | (lo,hi)::D=>bif (Nat.ble lo t && Nat.ble t hi)then true else KD D t
def inD (D:xE)(d:xL):Bool:=match d with|none=>true|some d=>KD D d
def Qf4 (D:xE)(l:xK):Bool:=l.all λo=>inD D o.dst
def wr (D:xE):Code->Bool
 | .region _ ops _=>Qf4 D ops.toList
 | .seq a b=>wr D a && wr D b
 | .cond _ a b=>wr D a && wr D b
 | .block _ a=>wr D a
 | .loop a=>wr D a
 | .skip| .exit _| .label _| .goto _| .ret=>true
 | _=>false
theorem Qah {l:xK}(h:Qf4 D l=true)(H:KD D t=false):Yq l t=false:=by
 unfold Qf4 at h;unfold Yq;rw[List.any_eq_false];intro o I;have E:=My.1 h o I;cases hd:o.dst with
 | none=>simp
 | some d =>
  rw[hd]at E;simp only[inD]at E;intro e;have:=Nat.eq_of_beq_eq_true e;subst this;rw[E]at H;cases H
theorem Vx {D:xE}{t:Nat}(E:KD D t=false):∀c:Code,wr D c=true->wrs c t=false
 | .region _ ops _,h=>Qah h E
 | .seq a b,h=>by simp only[wr,oO]at h;simp[wrs,Vx E a h.1,Vx E b h.2]
 | .cond _ a b,h=>by simp only[wr,oO]at h;simp[wrs,Vx E a h.1,Vx E b h.2]
 | .block _ a,h=>Vx E a (by simpa[wr]using h)
 | .loop a,h=>Vx E a (by simpa[wr]using h)
 | .skip,_=>rfl
 | .exit _,_=>rfl
 | .label _,_=>rfl
 | .goto _,_=>rfl
 | .ret,_=>rfl
 | .rangeFunc ..,h=>by simp[wr]at h
 | .scope _,h=>by simp[wr]at h
 | .refuse _,h=>by simp[wr]at h
def mix (D:xE)(f g:Fr):Fr:=λt=>bif KD D t then g t else f t
theorem VF {f g:Fr}(h:∀t,KD D t=false->g t=f t):mix D f g=g:=by
 funext t;unfold mix;cases e:KD D t with
 | false=>exact(h t e).symm
 | true=>rfl
def zD (S:List (Nat×O9))(f:Fr):Fr:=match S with
 | []=>f
 | (t,v)::S=>upd (zD S f) t v
def XC (f:Fr):List (Nat×O9)->Prop
 | []=>True
 | (t,v)::S=>f t=v/\XC f S
theorem X4 {f:Fr}:∀{S:List (Nat×O9)},XC f S->zD S f=f
 | [],_=>rfl
 | (t,v)::S,h=>by
  funext s;simp only[zD,X4 h.2];by_cases e:s=t
  .subst e;rw[Jj];exact h.1.symm
  exact KB _ _ e
def W (P:xh)(n:Nat)(c:Code)(Q:Exit->Fr->O8->Prop)(f:Fr)(w:O8):Prop :=
 ∀a,Rel n a f->c.wp P (λe E w'=>∃f',Rel n E f'/\(∀t,wrs c t=false->f' t=f t)/\Q e f' w') a w
def thn (K:Fr->O8->Prop)(Q:Exit->Fr->O8->Prop):Exit->Fr->O8->Prop
 | .normal,f,w=>K f w
 | e,f,w=>Q e f w
def blk (id:Nat)(Q:Exit->Fr->O8->Prop):Exit->Fr->O8->Prop
 | .exit i,f,w=>bif OZ i id then Q .normal f w else Q (.exit i) f w
 | e,f,w=>Q e f w
section
variable {Q:Exit->Fr->O8->Prop}{f:Fr}
theorem W.S {c:Code}{Q':Exit->Fr->O8->Prop}(h:W P n c Q f w)(E:∀e f w,Q e f w->Q' e f w):W P n c Q' f w :=
 λa H=>wp_mono (h a H) λ_ _ _ ⟨I,J,O,S⟩=>⟨I,J,O,E _ _ _ S⟩
theorem W.keeps {c:Code}(h:W P n c Q f w):W P n c (λe E w'=>(∀t,wrs c t=false->E t=f t)/\Q e E w') f w :=
 λa I=>wp_mono (h a I) λ_ _ _ ⟨E,J,H,O⟩=>⟨E,J,H,H,O⟩
theorem Qe (h:Q .normal f w):W P n .skip Q f w:=λ_ E=>wp_skip ⟨f,E,λ_ _=>U,h⟩
theorem Qt (h:Q (.exit i) f w):W P n (.exit i) Q f w:=λ_ E=>wp_exit ⟨f,E,λ_ _=>U,h⟩
theorem Qi (h:Q .ret f w):W P n .ret Q f w:=λ_ E=>wp_ret ⟨f,E,λ_ _=>U,h⟩
theorem Qd {x y:Code}(h:W P n x (thn (λf w=>W P n y Q f w) Q) f w):W P n (.seq x y) Q f w:=by
 intro a O;refine wp_seq (wp_mono (h a O) ?_);rintro e S w' ⟨E,H,T,I⟩;have k1:∀t,wrs (.seq x y) t=false->E t=f t:=λt J=>T t (by simp only[wrs,Og]at J;exact J.1);cases e with
 | normal =>
  refine wp_mono (I S H) λ_ _ _ ⟨V,g1,Y,Z⟩=>⟨V,g1,λt J=>(Y t ?_).I (k1 t J),Z⟩;simp only[wrs,Og]at J;exact J.2
 | exit id=>exact⟨E,H,k1,I⟩
 | goto l=>exact⟨E,H,k1,I⟩
 | ret=>exact⟨E,H,k1,I⟩
 | panic ch=>exact⟨E,H,k1,I⟩
 | outgrown=>exact⟨E,H,k1,I⟩
theorem QX {x y:Code}(D:xE)(S:α->List (Nat×O9))(I:α->O8->Prop)(hD:wr D x=true)
  (O:W P n x (thn (λH w'=>∃z,XC H (S z)/\I z w') Q) f w)
  (T:∀z g w',I z w'->W P n y Q (zD (S z) (mix D f g)) w'):W P n (.seq x y) Q f w:=by
 refine Qd (O.keeps.S ?_);rintro e H w' ⟨hk,E⟩;cases e with
 | normal =>
  obtain⟨z,V,hi⟩:=E;have J:=T z H w' hi;rw[VF (λt Y=>hk t (Vx Y x hD)),X4 V]at J;exact J
 | exit id=>exact E
 | goto l=>exact E
 | ret=>exact E
 | panic ch=>exact E
 | outgrown=>exact E
theorem Q6 {c:xd}{x y:Code}{t:Bool}(I:ev f c=.bool t)(E:t=true->W P n x Q f w)(hf:t=false->W P n y Q f w):
  W P n (.cond c x y) Q f w:=by
 intro a H;have J:a.eval c=.bool t:=by rw[H.eval];exact I
 refine wp_cond_split J (λe=>wp_mono (E e a H) ?_) (λe=>wp_mono (hf e a H) ?_) <;>
  (rintro e Y w' ⟨O,S,T,V⟩
   refine⟨O,S,λt E=>T t ?_,V⟩;simp only[wrs,Og]at E
   first|exact E.1|exact E.2)
theorem QY {c:xd}{x y:Code}{p:Prop}[Decidable p](E:ev f c=.bool (decide p))(H:p->W P n x Q f w)(hf:¬p->W P n y Q f w):
  W P n (.cond c x y) Q f w :=
 Q6 E (λe=>H (O5 e)) (λe=>hf (O7 e))
theorem ZI {c:xd}{x y:Code}{p:Prop}[Decidable p](E:ev f c=.bool (decide p))(hf:¬p->W P n y Q f w)(H:p->W P n x Q f w):
  W P n (.cond c x y) Q f w:=QY E H hf
theorem jE {c:xd}{x y:Code}(E:ev f c=.bool true)(h:W P n x Q f w):W P n (.cond c x y) Q f w:=Q6 E (λ_=>h) (λe=>by cases e)
theorem Zl {c:xd}{x y:Code}(E:ev f c=.bool false)(h:W P n y Q f w):W P n (.cond c x y) Q f w:=Q6 E (λe=>by cases e) (λ_=>h)
theorem Qn {c:Code}(h:W P n c (blk id Q) f w):W P n (.block id c) Q f w:=by
 intro a J;refine wp_block (wp_mono (h a J) ?_);rintro e V w' ⟨H,I,O,E⟩;have k1:∀t,wrs (.block id c) t=false->H t=f t:=λt S=>O t (by simpa[wrs]using S);cases e with
 | exit i =>
  simp only[Exit.inBlock];simp only[blk]at E;by_cases hi:i=id
  .subst hi;simp only[Nat.beq_refl,cond_true]at E;simp only[if_true];exact⟨H,I,k1,E⟩
  have T:OZ i id=false:=by
   cases e:OZ i id with
   | false=>rfl
   | true=>exact O3 (Nat.eq_of_beq_eq_true e) hi
  rw[T]at E;rw[O0 hi];exact⟨H,I,k1,E⟩
 | normal=>exact⟨H,I,k1,E⟩
 | goto l=>exact⟨H,I,k1,E⟩
 | ret=>exact⟨H,I,k1,E⟩
 | panic ch=>exact⟨H,I,k1,E⟩
 | outgrown=>exact⟨H,I,k1,E⟩
theorem QrS {c:Code}(D:xE)(S:α->List (Nat×O9))(I:α->O8->Prop)(m:α->Nat)(hD:wr D c=true)(z:α)
  (h0:XC f (S z)) (hI:I z w)
  (round:∀x g w',I x w'->W P n c (thn (λH Y=>∃T,m T<m x/\XC H (S T)/\I T Y) Q) (zD (S x) (mix D f g)) w'):W P n (.loop c) Q f w:=by
 intro a ha;refine wp_loop_ghost (λ(x:α) V w'=>∃H,Rel n V H/\(∀t,wrs c t=false->H t=f t)/\XC H (S x)/\I x w') m z ⟨f,ha,λ_ _=>U,h0,hI⟩ ?_;rintro x V w' ⟨H,h1,Z,h3,h4⟩;have h5:=round x H w' h4;rw[VF (λt J=>Z t (Vx J c hD)),X4 h3]at h5;refine wp_mono (h5 V h1) ?_;rintro e hb Y ⟨E,g1,g2,O⟩;have k1:∀t,wrs c t=false->E t=f t:=λt J=>(g2 t J).I (Z t J);have k2:∀t,wrs (.loop c) t=false->E t=f t:=λt J=>k1 t (by simpa[wrs]using J);cases e with
 | normal=>obtain⟨T,hm,hs,hi⟩:=O;exact⟨T,hm,E,g1,k1,hs,hi⟩
 | exit id=>exact⟨E,g1,k2,O⟩
 | goto l=>exact⟨E,g1,k2,O⟩
 | ret=>exact⟨E,g1,k2,O⟩
 | panic ch=>exact⟨E,g1,k2,O⟩
 | outgrown=>exact⟨E,g1,k2,O⟩
 where
 wp_loop_ghost {α:Type} {P:xh} {c:Code} {Q:Exit->Act->O8->Prop} {a:Act} {w:O8} (J:α->Act->O8->Prop) (m:α->Nat) (z:α) (h₀:J z a w)
   (round:∀x a w,J x a w->c.wp P (Exit.then (λa' w'=>∃x',m x'<m x/\J x' a' w') Q) a w):(Code.loop c).wp P Q a w:=by
  intro b k cs
  have key:∀i x a w,m x=i->J x a w ->
    ∃e a' w',Q e a' w'/\Arrives P (lone (b.at a (.code c::.inLoop c::k)) cs w) b k cs e a' w':=by
   intro i
   induction i using Nat.strongRecOn with
   | _ i ih =>
    intro x a w hx hJ
    obtain⟨e,a₁,w₁,hq,harr⟩:=round x a w hJ b (.inLoop c::k) cs
    cases e with
    | normal =>
     obtain⟨x',hlt,hJ'⟩:=hq
     obtain⟨e₂,a₂,w₂,hq₂,harr₂⟩:=ih (m x') (hx ▸ hlt) x' a₁ w₁ rfl hJ'
     exact⟨e₂,a₂,w₂,hq₂,.of_steps (Steps.trans harr (.one step_inLoop)) harr₂⟩
    | exit id=>exact⟨_,a₁,w₁,hq,.pass (x:=.inLoop c) rfl (λ_ _=>.inl oe) harr⟩
    | goto l=>exact⟨_,a₁,w₁,hq,.pass (x:=.inLoop c) rfl (λ_ _=>.inl oe) harr⟩
    | ret=>exact⟨_,a₁,w₁,hq,.pass (x:=.inLoop c) rfl (λ_ _=>.inl oe) harr⟩
    | panic ch=>exact⟨_,a₁,w₁,hq,.pass (x:=.inLoop c) rfl (λ_ _=>.inl oe) harr⟩
    | outgrown=>exact⟨_,a₁,w₁,hq,.pass (x:=.inLoop c) rfl (λ_ _=>.inl oe) harr⟩
  obtain⟨e,a',w',hq,harr⟩:=key _ z a w rfl h₀
  exact⟨e,a',w',hq,.of_steps (.one step_loop) harr⟩
end
def upF (P:xh)(dst:xL)(f:Fr)(K:Fr->O8->Prop):Result Next->Prop
 | .ok (.value v) w'=>K (QT f dst v) w'
 | .ok .skip w'=>K (QT f dst undef) w'
 | .ok (.enter g args) w'=>Calls P g args w' λe E=>match e with| .returned v=>K (QT f dst v) E|_=>False
 | _=>False
def XO (P:xh)(o:Oper)(f:Fr)(w:O8)(K:Fr->O8->Prop):Prop:=upF P o.dst f K ((execOp (ev f) o).run P w)
def Z4 (ops:xK)(f:Fr)(o:Oper):Bool:=match o.guard with
 | none=>true
 | some (j,want)=>match (ops[j]?).bind (·.dst)with
  | some d=>(match f d with| .bool b=>bif want then b else !b|_=>false)
  | none=>false
def XL (P:xh)(ops:xK)(K:Fr->O8->Prop):xK->Fr->O8->Prop
 | [],f,w=>K f w
 | o::l,f,w=>bif Z4 ops f o then XO P o f w (XL P ops K l)else XL P ops K l (QT f o.dst undef) w
theorem qy {l:xK}{a:Act}{f:Fr}(h:Rel n a f)(I:∀o∈l,∀d,o.dst=some d->d<n)(o:Oper):Region.wanted o (yielded l.toArray a.tmps)=Z4 l f o:=by
 unfold Region.wanted Z4;cases o.guard with
 | none=>rfl
 | some p =>
  obtain⟨j,want⟩:=p;simp only[yielded,o0];cases J:(l[j]?)with
  | none=>simp
  | some o' =>
   cases hd:o'.dst with
   | none=>simp[hd]
   | some d =>
    have E:d<a.tmps.size:=by rw[h.size];exact I o' (MA J) d hd
    have H:=h.get d;simp only[Option.bind_some,hd,Oj E];simp[E]at H;rw[H];cases f d <;> simp
    cases want <;> simp
theorem Qp5 {a:Act}{f:Fr}{K:Fr->O8->Prop}{K':Act->O8->Prop}{Q:Exit->Act->O8->Prop}(h:Rel n a f)
  (hK:∀v w',K (QT f o.dst v) w'->K' (a.put o.dst v) w') (hx:XO P o f w K):o.wp P a w K' Q:=by
 unfold XO at hx;unfold Oper.wp;rw[h.eval];generalize (execOp (ev f) o).run P w=r at hx;cases r with
 | ok nx w' =>
  cases nx <;> simp only[upF]at hx <;> simp only[Oper.upon]
  case value v=>exact hK v w' hx
  case skip=>exact hK _ w' hx
  case enter g args =>
   refine Calls.mono hx λe H E=>?_;cases e with
   | returned v=>exact hK v H E
   | panicked c=>exact E.elim
   | outgrown=>exact E.elim
 | halt x w'=>exact hx.elim
theorem XO.S {P:xh}{o:Oper}{f:Fr}{w:O8}{K K':Fr->O8->Prop}(hK:∀v w',K (QT f o.dst v) w'->K' (QT f o.dst v) w')(hx:XO P o f w K):XO P o f w K':=by
 unfold XO at *;generalize (execOp (ev f) o).run P w=r at *;cases r with
 | ok nx w' =>
  cases nx <;> simp only[upF]at hx ⊢
  case value v=>exact hK v w' hx
  case skip=>exact hK _ w' hx
  case enter g args =>
   refine Calls.mono hx λe H E=>?_;cases e with
   | returned v=>exact hK v H E
   | panicked c=>exact E.elim
   | outgrown=>exact E.elim
 | halt x w'=>exact hx.elim
def J6 (n:Nat)(l:xK):Bool:=l.all λo=>match o.dst with|some d=>Nat.blt d n|none=>true
theorem Jc {l:xK}(h:J6 n l=true):∀o∈l,∀d,o.dst=some d->d<n:=by
 intro o E d hd;have:=My.1 h o E;simp only[hd,Nat.blt_eq]at this;exact this
theorem JU {l:xK}(E:o∈l)(h:Yq l t=false):o.dst≠some t:=by
 intro e;have:=List.any_eq_false.1 h o E;simp[e]at this
theorem Y9 {f:Fr}{dst:xL}(h:dst≠some t)(v:O9):QT f dst v t=f t:=by
 cases dst with
 | none=>rfl
 | some d=>exact KB _ _ (λe=>h (by rw[e]))
section
variable {Q:Exit->Fr->O8->Prop}{f:Fr}
theorem Qp6 {all:xK}(H:∀o∈all,∀d,o.dst=some d->d<n)(f0:Fr):
  ∀(l:xK) (k:Nat) (a:Act) (f:Fr) (w:O8),(∀j,l[j]?=all[k+j]?)->Rel n a f->(∀t,Yq all t=false->f t=f0 t) ->
   XL P all (λf w=>Q .normal f w) l f w ->
   wpOps P all.toArray (λe V w'=>∃f',Rel n V f'/\(∀t,Yq all t=false->f' t=f0 t)/\Q e f' w') (oS k l.length) a w
 | [],_,a,f,w,_,E,hk,h=>⟨f,E,hk,h⟩
 | o::l,k,a,f,w,J,E,hk,h=>by
  have O:all[k]?=some o:=by simpa using(J 0).symm
  have I:o∈all:=MA O;have ih:=λa f w=>Qp6 H f0 l (k+1) a f w (λj=>by have:=J (j+1);simpa[OT,Nat.add_comm 1 j]using this);have next:∀v,(∀t,Yq all t=false->QT f o.dst v t=f0 t):=λv t S=>(Y9 (JU I S) v).I (hk t S);simp only[oV,OF,wpOps,o0,O];rw[qy E H o];simp only[XL]at h;cases T:Z4 all f o with
  | false =>
   rw[T]at h;exact ih _ _ _ (E.put (H o I) _) (next _) h
  | true =>
   rw[T]at h;exact .inl (Qp5 E (λv w' hx=>ih _ _ _ (E.put (H o I) v) (next v) hx) h)
theorem Qes {l:xK}(E:J6 n l=true)(h:XL P l (λf w=>Q .normal f w) l f w):W P n (.region id l.toArray false) Q f w:=by
 intro a H;refine wp_region ?_;have:=Qp6 (Jc E) f l 0 a f w oe H (λ_ _=>rfl) h;simpa[List.range_eq_range',wrs]using this
end
def jR (o:Oper):Bool:=match o.op with
 | .move _| .assign _| .pick .. | .alloc _| .box .. | .build .. | .buildSlice .. | .store .. | .nilCheck _| .binOp .. | .unOp .. | .makeFunc .. | .makeMap .. | .makeSlice .. | .fieldAddr .. | .field .. | .indexAddr .. | .index .. | .extract .. | .insert .. | .mapUpdate ..=>false
 | .slice ..=>false
 | .call ⟨.builtin .append,_,_⟩=>false
 | .call ⟨.builtin .min,_,_⟩=>false
 | .call ⟨.builtin .max,_,_⟩=>false
 | .call ⟨.builtin .len,_,_⟩=>false
 | .call ⟨.value _,_,_⟩=>false
 | _=>true
def VJ (all:xK)(j:Nat):Bool:=match all[j]? with
 | none=>false
 | some o=>(oT all.length).all λi=>match all[i]? with
  | none=>true
  | some oi=>!jR oi || i == j || o.after.any λe=>Region.binds .any e && e.on == i
def XA (P:xh)(all:xK)(C:xH)(K:Fr->O8->Prop):Nat->Array Bool->Fr->O8->Prop
 | 0,ls,f,w=>Region.ready .any all.toArray ls=[]/\K f w
 | k+1,ls,f,w=>(Region.ready .any all.toArray ls=[]->K f w) /\
  ∀i∈Region.ready .any all.toArray ls,∀o,all[i]?=some o ->
   bif Z4 all f o then XO P o f w (λE w'=>(VJ all i=true\/w'=w\/C w')/\XA P all C K k (ls.setIfInBounds i true) E w')else XA P all C K k (ls.setIfInBounds i true) (QT f o.dst undef) w
section
variable {f:Fr}{all:xK}{C:xH}{K:Fr->O8->Prop}
theorem QhC {Q:Exit->Act->O8->Prop}(H:∀o∈all,∀d,o.dst=some d->d<n)(f0:Fr)
  (I:∀a f w,Rel n a f->(∀t,Yq all t=false->f t=f0 t)->K f w->Q .normal a w):
  ∀(k:Nat) (ls:Array Bool) (a:Act) (f:Fr) (w:O8),Rel n a f->(∀t,Yq all t=false->f t=f0 t)->XA P all C K k ls f w->wpAny P .any all.toArray Q k ls a w
 | 0,_,a,f,w,E,hk,h=>⟨h.1,I a f w E hk h.2⟩
 | k+1,ls,a,f,w,E,hk,h=>by
  refine⟨λY=>I a f w E hk (h.1 Y),λi hi=>?_⟩;unfold wpOp;simp only[o0];cases O:all[i]? with
  | none =>
   exfalso;obtain⟨_,o,Z,_⟩:=mem_ready.1 hi;simp[O]at Z
  | some o =>
   have S:o∈all:=MA O;have J:=h.2 i hi o O;have next:∀v,(∀t,Yq all t=false->QT f o.dst v t=f0 t):=λv t T=>(Y9 (JU S T) v).I (hk t T);simp only[];rw[qy E H o];cases V:Z4 all f o with
   | false =>
    rw[V]at J;exact QhC H f0 I k _ _ _ _ (E.put (H o S) _) (next _) J
   | true =>
    rw[V]at J;exact .inl (Qp5 E (λv w' hx=>QhC H f0 I k _ _ _ _ (E.put (H o S) v) (next v) hx.2) J)
theorem qL (f:Fr){x y:xL}(v u:O9)(h:∀d,x=some d->y≠some d):QT (QT f x v) y u=QT (QT f y u) x v:=by
 cases x with
 | none=>rfl
 | some d =>
  cases y with
  | none=>rfl
  | some e =>
   have I:d≠e:=λJ=>h d U (J ▸ U);funext t;simp only[QT];by_cases E:t=d
   .subst E;rw[KB _ _ I,Jj,Jj]
   by_cases H:t=e
   .subst H;rw[Jj,KB _ _ E,Jj]
   rw[KB _ _ H,KB _ _ E,KB _ _ E,KB _ _ H]
theorem QoK {f:Fr}{dst:xL}{v:O9}{x:xd}(h:∀d,dst=some d->x≠.tmp d):ev (QT f dst v) x=ev f x:=by
 cases dst with
 | none=>rfl
 | some d =>
  cases x with
  | tmp t=>exact KB _ _ (λe=>h d U (by rw[e]))
  | _=>rfl
theorem Kr (E:∀cs b,o.op≠.select cs b)(f:Fr)(dst:xL)(v:O9)(h:∀d,dst=some d->d∉o.looksAt all.toArray):
  execOp (ev (QT f dst v)) o=execOp (ev f) o :=
 execOp_congr o E λx hx=>QoK λd hd H=>h d hd (by
  subst H;exact L7 _ (M6.2 ⟨.tmp d,oA hx,rfl⟩))
theorem U7 (o:Oper)(f:Fr)(dst:xL)(v:O9)(h:∀d,dst=some d->d∉o.looksAt all.toArray):Z4 all (QT f dst v) o=Z4 all f o:=by
 unfold Z4;cases E:o.guard with
 | none=>rfl
 | some gw =>
  obtain⟨g,want⟩:=gw;simp only[];cases H:(all[g]?).bind (·.dst)with
  | none=>rfl
  | some t =>
   have I:dst≠some t:=λe=>h t e (by simp[Oper.looksAt,E,H]);simp only[];rw[Y9 I]
def QhE (P:xh)(all:xK)(D:xH)(o:Oper)(v:O9)(f:Fr):Prop :=
 (Z4 all f o=true/\∀w,D w->(execOp (ev f) o).run P w=.ok (.value v) w)\/(Z4 all f o=false/\v=undef)
theorem Qn7 {oi oj:Oper}(hi:all[i]?=some oi)(I:all[j]?=some oj)(J:jR oi=true)(O:j≠i)(H:VJ all j=true)(S:∀e∈oj.after,Region.binds .any e=true->e.on≠i):False:=by
 simp only[VJ,I,Ow,List.mem_range]at H;have T:i<all.length:=(Me.1 hi).1;have E:=H i T;simp only[hi,J,Bool.not_true,Bool.false_or,Bool.or_eq_true,beq_iff_eq,Array.any_eq_true',oO]at E;rcases E with E|⟨e,V,Y,Z⟩
 .exact O E.symm
 exact S e V Y Z
theorem K0 {oi:Oper}{v:O9}{D:xH}(hi:all[i]?=some oi)(hD:∀w,(jR oi=true->C w)->D w)(ha:∀(j:Nat) (o:Oper) cs b,all[j]?=some o->o.op≠.select cs b):
  ∀(fuel:Nat) (ls:Array Bool) (f:Fr) (w:O8),(jR oi=true->C w) ->
   (∀j oj,all[j]?=some oj->j≠i->ls.getD j true=false->(∀e∈oj.after,Region.binds .any e=true->e.on≠i)->oi.apart all.toArray oj=true) ->
   i∈Region.ready .any all.toArray ls->QhE P all D oi v f ->
   XA P all C K fuel (ls.setIfInBounds i true) (QT f oi.dst v) w->XA P all C K (fuel+1) ls f w:=by
 have hc:∀(fuel:Nat) (ls:Array Bool) (f:Fr) (w:O8),(jR oi=true->C w)->QhE P all D oi v f->XA P all C K fuel (ls.setIfInBounds i true) (QT f oi.dst v) w->∀o,all[i]?=some o ->
   bif Z4 all f o then XO P o f w (λf' w'=>(VJ all i=true\/w'=w\/C w')/\XA P all C K fuel (ls.setIfInBounds i true) f' w')else XA P all C K fuel (ls.setIfInBounds i true) (QT f o.dst undef) w:=by
  intro fuel ls f w hC T H o ho;rw[hi]at ho;cases ho
  rcases T with⟨V,hv⟩|⟨V,rfl⟩
  .rw[V];simp only[cond_true,XO,hv w (hD w hC),upF];exact⟨.inr (.inl La),H⟩
  rw[V];exact H
 intro fuel;induction fuel with
 | zero =>
  intro ls f w hC _ O T H;refine⟨λh=>(by rw[h]at O;cases O),λj hj=>?_⟩;by_cases J:j=i
  .subst J;exact hc _ _ _ _ hC T H
  have:=ready_mono hj J;rw[H.1]at this;cases this
 | succ fuel ih =>
  intro ls f w hC hh O T H;refine⟨λh=>(by rw[h]at O;cases O),λj hj=>?_⟩;by_cases J:j=i
  .subst J;exact hc _ _ _ _ hC T H
  intro oj Y;have E:=H.2 j (ready_mono hj J) oj Y;obtain⟨hm,I,hn,hw⟩:=mem_ready.1 hj;have hz:I=oj:=by rw[Mv,Y]at hn;exact(Option.some.inj hn).symm
  subst hz;have hp:∀e∈I.after,Region.binds .any e=true->e.on≠i:=λe S hb h2=>by
   have E:=hw e S hb;have h0:=(mem_ready.1 O).1;rw[h2]at E;rcases OO i ls.size with h'|h'
   .simp[h']at h0 E;rw[h0]at E;cases E
   simp[Array.getElem?_eq_none h']at E
  obtain⟨a1,a2,a3⟩:=Oper.apart_spec (hh j I Y J hm hp);have h3:∀k ok,all[k]?=some ok->k≠i->(ls.setIfInBounds j true).getD k true=false ->
    (∀e∈ok.after,Region.binds .any e=true->e.on≠i)->oi.apart all.toArray ok=true:=λk ok hk h4 hq h5=>by
   refine hh k ok hk h4 ?_ h5;by_cases hs:j=k
   .subst hs;exact hm
   rw[getD_set_ne true hs]at hq;exact hq
  have keep:∀u,QhE P all D oi v (QT f I.dst u):=λu=>by
   unfold QhE at *;rw[U7 oi f I.dst u a3,Kr (all:=all) (ha i oi · · hi) f I.dst u a3];exact T
  have dOf:∀w',(VJ all j=true\/w'=w\/C w')->(jR oi=true->C w'):=λw' Z ht=>by
   rcases Z with Z|rfl|Z
   .exact(Qn7 hi Y ht J Z hp).elim
   .exact hC ht
   exact Z
  have go:∀u w',(jR oi=true->C w')->XA P all C K fuel ((ls.setIfInBounds i true).setIfInBounds j true) (QT (QT f oi.dst v) I.dst u) w' ->
    XA P all C K (fuel+1) (ls.setIfInBounds j true) (QT f I.dst u) w':=λu w' h6 hx=>by
   refine ih _ _ _ h6 h3 (ready_mono O (Ne.symm J)) (keep u) ?_;rw[Array.setIfInBounds_comm _ _ J,<-qL f v u a2];exact hx
  rw[U7 I f oi.dst v a1]at E;cases V:Z4 all f I with
  | false=>rw[V]at E;exact go _ _ hC E
  | true =>
   rw[V]at E;simp only[cond_true]at E ⊢;unfold XO at *;rw[Kr (all:=all) (ha j I · · Y) f oi.dst v a1]at E;generalize (execOp (ev f) I).run P w=r at *;cases r with
   | ok nx w' =>
    cases nx <;> simp only[upF]at E ⊢
    case value u=>exact⟨E.1,go _ _ (dOf _ E.1) E.2⟩
    case skip=>exact⟨E.1,go _ _ (dOf _ E.1) E.2⟩
    case enter g args =>
     refine Calls.mono E λe h7 S=>?_;cases e with
     | returned u=>exact⟨S.1,go _ _ (dOf _ S.1) S.2⟩
     | panicked c=>exact S.elim
     | outgrown=>exact S.elim
   | halt x w'=>exact E.elim
def XK (all:Array Oper):xD->Array Bool->Bool
 | [],ls=>(Region.ready .any all ls).isEmpty
 | (i,true)::pl,ls=>(Region.ready .any all ls).contains i && Region.free .any all ls i && XK all pl (ls.setIfInBounds i true)
 | (i,false)::pl,ls=>Region.ready .any all ls == [i] && XK all pl (ls.setIfInBounds i true)
def yP (all:xK)(pl:xD):Bool:=Region.noSelect all.toArray && pl.length == all.length && XK all.toArray pl (oW all.length false)
def Za:xK->Nat->Oper
 | [],_=>default
 | o::_,0=>o
 | _::l,i+1=>Za l i
theorem ZQ {l:xK}(h:l[i]?=some o):Za l i=o:=by
 induction l generalizing i with
 | nil=>simp at h
 | cons a l ih=>cases i with
  | zero=>simp at h;subst h;rfl
  | succ i=>exact ih (oA h)
def XP (P:xh)(all:xK)(C:xH)(K:Fr->O8->Prop):xD->Fr->O8->Prop
 | [],f,w=>K f w
 | (i,q)::pl,f,w=>bif Z4 all f (Za all i)then
    (bif q then ∃v,(∀w',(jR (Za all i)=true->C w')->(execOp (ev f) (Za all i)).run P w'=.ok (.value v) w')/\XP P all C K pl (QT f (Za all i).dst v) w
     else XO P (Za all i) f w λE w'=>(VJ all i=true\/w'=w\/C w')/\XP P all C K pl E w')
   else XP P all C K pl (QT f (Za all i).dst undef) w
def Qep (all:xK)(ls:Array Bool):Prop:=∀i o,all[i]?=some o->jR o=true->ls.getD i false=true
theorem Qep.set {ls:Array Bool}(h:Qep all ls)(i:Nat):Qep all (ls.setIfInBounds i true):=λj o E H=>getD_set_true (h j o E H)
theorem YG (T:Region.noSelect all.toArray=true):∀(pl:xD) (ls:Array Bool) (f:Fr) (w:O8),ls.size=all.length->(C w\/Qep all ls)->XK all.toArray pl ls=true->XP P all C K pl f w ->
  XA P all C K pl.length ls f w
 | [],ls,f,w,_,_,I,h=>⟨by simpa[XK]using I,h⟩
 | (i,true)::pl,ls,f,w,V,hC,I,h=>by
  simp only[XK,oO]at I;obtain⟨⟨O,hf⟩,Y⟩:=I;simp only[XP]at h;have S:i∈Region.ready .any all.toArray ls:=by simpa using O
  cases E:all[i]? with
  | none =>
   exfalso;obtain⟨_,o,h3,_⟩:=mem_ready.1 S;simp[E]at h3
  | some o =>
   rw[ZQ E]at h;have hn:∀(j:Nat) (o:Oper) cs b,all[j]?=some o->o.op≠.select cs b:=λj o cs b Z=>Region.noSelect_spec T j o cs b (oA Z);have hq:=λj oj Z=>Region.free_spec (ops:=all.toArray) (md:=.any) (i:=i) (oi:=o) (listed:=ls) (oA E) hf j oj (oA Z);have ht:=(mem_ready.1 S).1;have hw:jR o=true->C w:=λhh=>hC.resolve_right (λhi=>by
    have H:=hi i o E hh;have hm:i<ls.size:=by rw[V];exact(Me.1 E).1
    simp[hm]at ht H;rw[ht]at H;cases H)
   have hy:C w\/Qep all (ls.setIfInBounds i true):=hC.imp id (λh=>h.set i);have ha:(ls.setIfInBounds i true).size=all.length:=by simpa using V
   cases J:Z4 all f o with
   | false =>
    rw[J]at h;exact K0 (v:=undef) (D:=λw=>jR o=true->C w) E (λ_ h=>h) hn pl.length ls f w hw hq S (.inr ⟨J,U⟩) (YG T pl _ _ _ ha hy Y h)
   | true =>
    rw[J]at h;simp only[cond_true]at h;obtain⟨v,hv,hx⟩:=h;exact K0 (v:=v) (D:=λw=>jR o=true->C w) E (λ_ h=>h) hn pl.length ls f w hw hq S (.inl ⟨J,hv⟩) (YG T pl _ _ _ ha hy Y hx)
 | (i,false)::pl,ls,f,w,V,hC,I,h=>by
  simp only[XK,oO,beq_iff_eq]at I;obtain⟨O,Y⟩:=I;refine⟨λh0=>(by rw[h0]at O;cases O),?_⟩;have S:i∈Region.ready .any all.toArray ls:=by rw[O];simp
  rw[O];intro j Z o E;have:j=i:=by simpa using Z
  subst this;have ha:(ls.setIfInBounds j true).size=all.length:=by simpa using V
  simp only[XP,ZQ E]at h;cases J:Z4 all f o with
  | false=>rw[J]at h;exact YG T pl _ _ _ ha (hC.imp id (λh=>h.set j)) Y h
  | true =>
   rw[J]at h;simp only[cond_true,cond_false]at h ⊢;refine h.S λv w' hx=>⟨hx.1,YG T pl _ _ _ ha ?_ Y hx.2⟩;rcases hx.1 with hl|rfl|hc
   .right;intro k ok hk hh;by_cases hz:k=j
    .subst hz;have hm:k<ls.size:=by rw[V];exact(Me.1 hk).1
     simp[hm]
    simp only[VJ,E,Ow,List.mem_range]at hl;have H:=hl k (Me.1 hk).1;simp only[hk,hh,Bool.not_true,Bool.false_or,Bool.or_eq_true,beq_iff_eq,Array.any_eq_true',oO]at H;rcases H with H|⟨e,he,hb,h4⟩
    .exact O3 H hz
    obtain⟨_,o',h2,hi⟩:=mem_ready.1 S;have:o'=o:=by rw[Mv,E]at h2;exact(Option.some.inj h2).symm
    subst this;have:=hi e he hb;rw[h4]at this;exact getD_set_true this
   .exact hC.imp id (λh=>h.set j)
   exact .inl hc
theorem UF {Q:Exit->Fr->O8->Prop}(C:xH)(pl:xD)(J:P.follows .mixedOrders=true)(O:J6 n all=true)(H:yP all pl=true)
  (hC:C { w with drawn:=w.drawn+1 }) (h:XP P all C (λf w=>Q .normal f w) pl f { w with drawn:=w.drawn+1 }):W P n (.region id all.toArray true) Q f w:=by
 intro a S;simp only[yP,oO,beq_iff_eq]at H;obtain⟨⟨T,V⟩,H⟩:=H;refine wp_region_any J ?_;have I:=YG T pl _ _ _ oe (.inl hC) H h;rw[V]at I;have Y:=QhC (n:=n) (Q:=λe Z w'=>∃E,Rel n Z E/\(∀t,Yq all t=false->E t=f t)/\Q e E w') (Jc O) f
  (λa E w hr hk hq=>⟨E,hr,hk,hq⟩) _ _ a f _ S (λ_ _=>U) I
 simpa[wrs]using Y
theorem Xv {Q:Exit->Fr->O8->Prop}(C:xH)(H:P.follows .mixedOrders=true)(I:J6 n all=true)
  (h:XA P all C (λf w=>Q .normal f w) all.length (oW all.length false) f { w with drawn:=w.drawn+1 }):W P n (.region id all.toArray true) Q f w:=by
 intro a J;refine wp_region_any H ?_;have O:=QhC (n:=n) (Q:=λe S w'=>∃E,Rel n S E/\(∀t,Yq all t=false->E t=f t)/\Q e E w') (Jc I) f
  (λa E w T hk V=>⟨E,T,hk,V⟩) _ _ a f _ J (λ_ _=>U) h
 simpa[wrs]using O
end
theorem V9 {all:xK}{C:xH}{K:Fr->O8->Prop}{k:Nat}{ls:Array Bool}{f:Fr}(E:Region.ready .any all.toArray ls=[]->K f w)
  (h:∀i∈Region.ready .any all.toArray ls,∀o,all[i]?=some o ->
   bif Z4 all f o then XO P o f w (λH w'=>(VJ all i=true\/w'=w\/C w')/\XA P all C K k (ls.setIfInBounds i true) H w')else XA P all C K k (ls.setIfInBounds i true) (QT f o.dst undef) w):XA P all C K (k+1) ls f w:=⟨E,h⟩
attribute [irreducible] W XL XP XO XA
theorem sX {α:Type}{x:Option α}{f:α->Bool}(h:x.map f=some true):∃d,x=some d/\f d=true:=by cases x with |none=>cases h |some d=>exact⟨d,rfl,Option.some.inj h⟩
class Sl (P:xh)(t:Nat)(e sz bys:outParam Nat)(z:outParam O9):Prop where
 u:P.underlying t=some (.slice e):=by first|kernel_rfl|decide|rfl|exact sX (by kernel_rfl)
 i:(P.info? e).map (λi=>(i.zero,i.size,i.bytes))=some (some z,sz,bys):=by first|kernel_rfl|decide|rfl|exact sX (by kernel_rfl)
 zs:z.cells.size=sz:=by first|kernel_rfl|decide|rfl|exact sX (by kernel_rfl)
 pos:0<sz:=by first|kernel_rfl|decide|rfl|exact sX (by kernel_rfl)
def QsR (P:xh)(t j:Nat):xL:=match P.underlying t with
 | some (.struct fs)=>match fs[j]? with
  | some fd=>match P.info? fd.type with
   | some i=>if i.size=0 then none else some fd.offset
   | none=>none
  | none=>none
 | _=>none
class Zc (P:xh)(t j:Nat)(off:outParam Nat):Prop where
 h:QsR P t j=some off:=by first|kernel_rfl|decide|rfl|exact sX (by kernel_rfl)
class XZ (P:xh)(t:Nat):Prop where
 u:∃d,P.underlying t=some d/\(match d with| .struct _| .array ..=>false|_=>true)=true:=by first|kernel_rfl|decide|rfl|exact sX (by kernel_rfl)
 i:(P.info? t).map (·.size)=some 1:=by first|kernel_rfl|decide|rfl|exact sX (by kernel_rfl)
class Ag (P:xh)(t:Nat)(sz:outParam Nat):Prop where
 u:∃d,P.underlying t=some d/\(match d with| .struct _| .array ..=>true|_=>false)=true:=by first|kernel_rfl|decide|rfl|exact sX (by kernel_rfl)
 i:(P.info? t).map (·.size)=some sz:=by first|kernel_rfl|decide|rfl|exact sX (by kernel_rfl)
class Ze (P:xh)(t:Nat)(z:outParam O9):Prop where
 i:(P.info? t).map (·.zero)=some (some z):=by first|kernel_rfl|decide|rfl|exact sX (by kernel_rfl)
class Fu (P:xh)(g:Nat)(fn:outParam Func):Prop where
 f:P.funcs[g]?=some fn
 b:fn.body.isNone=false
 nm:(fn.name == "runtime.NumGoroutine")=false
section
variable {K:Fr->O8->Prop}{f:Fr}
theorem xe (h:K f w):XL P ops K [] f w:=by simp only[XL];exact h
theorem xl {l:xK}(E:Z4 ops f o=true)(h:XO P o f w (XL P ops K l)):XL P ops K (o::l) f w:=by
 simp only[XL,E,cond_true];exact h
theorem xs {l:xK}(E:Z4 ops f o=false)(h:XL P ops K l (QT f o.dst undef) w):XL P ops K (o::l) f w:=by
 simp only[XL,E,cond_false];exact h
theorem xv {v:O9}(E:(execOp (ev f) o).run P w=.ok (.value v) w')(h:K (QT f o.dst v) w'):XO P o f w K:=by
 simp only[XO,E,upF];exact h
theorem xk (E:(execOp (ev f) o).run P w=.ok .skip w')(h:K (QT f o.dst undef) w'):XO P o f w K:=by
 simp only[XO,E,upF];exact h
theorem x {l:xK}{v:O9}(E:(execOp (ev f) o).run P w=.ok (.value v) w)(h:XL P ops K l (QT f o.dst v) w)(H:Z4 ops f o=true:=by rfl):XL P ops K (o::l) f w :=
 xl H (xv E h)
theorem xb {l:xK}{q:Prop}[Decidable q](E:(execOp (ev f) o).run P w=.ok (.value (.bool (decide q))) w)(I:q->XL P ops K l (QT f o.dst (.bool true)) w)(hf:¬q->XL P ops K l (QT f o.dst (.bool false)) w)
  (H:Z4 ops f o=true:=by rfl):XL P ops K (o::l) f w:=by
 by_cases h:q
 .rw[O4 h]at E;exact x E (I h) H
 rw[O6 h]at E;exact x E (hf h) H
variable {C:xH}
theorem pe (h:K f w):XP P ops C K [] f w:=by simp only[XP];exact h
theorem pq {pl:xD}{v:O9}(E:∀w',C w'->(execOp (ev f) (Za ops i)).run P w'=.ok (.value v) w')(h:XP P ops C K pl (QT f (Za ops i).dst v) w)
  (hd:jR (Za ops i)=true:=by rfl) (H:Z4 ops f (Za ops i)=true:=by rfl):XP P ops C K ((i,true)::pl) f w:=by
 simp only[XP,H,cond_true];exact⟨v,λw' I=>E w' (I hd),h⟩
theorem p {pl:xD}{v:O9}(E:∀w',(execOp (ev f) (Za ops i)).run P w'=.ok (.value v) w')(h:XP P ops C K pl (QT f (Za ops i).dst v) w)
  (H:Z4 ops f (Za ops i)=true:=by rfl):XP P ops C K ((i,true)::pl) f w:=by
 simp only[XP,H,cond_true];exact⟨v,λw' _=>E w',h⟩
theorem ps {q:Bool}{pl:xD}(h:XP P ops C K pl (QT f (Za ops i).dst undef) w)
  (E:Z4 ops f (Za ops i)=false:=by rfl):XP P ops C K ((i,q)::pl) f w:=by
 simp only[XP,E,cond_false];exact h
theorem pb {pl:xD}{q:Prop}[Decidable q](E:∀w',(execOp (ev f) (Za ops i)).run P w'=.ok (.value (.bool (decide q))) w')(I:q->XP P ops C K pl (QT f (Za ops i).dst (.bool true)) w)(hf:¬q->XP P ops C K pl (QT f (Za ops i).dst (.bool false)) w)
  (H:Z4 ops f (Za ops i)=true:=by rfl):XP P ops C K ((i,true)::pl) f w:=by
 by_cases h:q
 .rw[O4 h]at E;exact p E (I h) H
 rw[O6 h]at E;exact p E (hf h) H
theorem pk {pl:xD}(h:XO P (Za ops i) f w λE w'=>C w'/\XP P ops C K pl E w')
  (H:Z4 ops f (Za ops i)=true:=by rfl):XP P ops C K ((i,false)::pl) f w:=by
 simp only[XP,H,cond_true,cond_false];exact h.S λ_ _ hx=>⟨.inr (.inr hx.1),hx.2⟩
theorem pkl {pl:xD}(h:XO P (Za ops i) f w λE w'=>XP P ops C K pl E w')
  (H:VJ ops i=true:=by rfl) (I:Z4 ops f (Za ops i)=true:=by rfl):XP P ops C K ((i,false)::pl) f w:=by
 simp only[XP,I,cond_true,cond_false];exact h.S λ_ _ hx=>⟨.inl H,hx⟩
end
abbrev sR (P:xh)(f:Fr)(w:O8)(d:Option Nat)(o:Op)(ty:Nat)(pS:String)(af:Array Edge)(gd:Option (Nat×Bool))(v:O9):Prop:=(execOp (ev f) ⟨d,o,ty,pS,af,gd⟩).run P w=.ok (.value v) w
section
variable {f:Fr}{pS:String}
theorem K5 {x:xd}:sR P f w d (.move x) ty pS af gd (ev f x):=by simp[sR,execOp]
theorem Qh {x:xd}:sR P f w d (.assign x) ty pS af gd (ev f x):=by simp[sR,execOp]
theorem qJ {c a b:xd}{t:Bool}(h:ev f c=.bool t):sR P f w d (.pick c a b) ty pS af gd (bif t then ev f a else ev f b):=by
 unfold sR
 cases t <;> simp[execOp,h,asBool]
theorem Zw {x:xd}{vs:LV}{v:O9}(h:ev f x=.tuple vs.toArray)(E:vs[j]?=some v):sR P f w d (.extract x j) ty pS af gd v:=by
 simp[sR,execOp,h,Instr.extract,E]
theorem QdN {op:BinOp}{t:TypeId}{x:xd}{k:IntKind}{a b:Int}:(eqGuard op t x y (.int k a) (.int k' b)).run P w=.ok () w:=by
 simp only[eqGuard];split <;> simp
theorem Jk {op:BinOp}{x:xd}{k:IntKind}{a b:Int}{v:O9}(hx:ev f x=.int k a)(H:ev f y=.int k' b)
  (h:(binOp op t (.int k a) (.int k' b)).run P w=.ok v w):sR P f w d (.binOp op t x y E) ty pS af gd v:=by
 simp[sR,execOp,hx,H,QdN,h]
def inK (k:IntKind)(n:Int):Prop:=match k with
 | .i64=>-9223372036854775808<=n/\n<=9223372036854775807
 | .u8=>0<=n/\n<=255
 | .u16=>0<=n/\n<=65535
 | .u32=>0<=n/\n<=4294967295
 | .u64=>0<=n/\n<=18446744073709551615
 | .i32=>-2147483648<=n/\n<=2147483647
 | _=>False
theorem YM {k:IntKind}{n:Int}(h:inK k n):k.wrap n=n:=by
 cases k <;> simp only[inK]at h <;> simp only[IntKind.wrap,IntKind.bits,IntKind.signed] <;> first|exact h.elim|(simp;omega)
theorem X2 {x:xd}{k:IntKind}{a b:Int}(hx:ev f x=.int k a)(H:ev f y=.int k b)(h:inK k (a+b)):
  sR P f w d (.binOp .add t x y E) ty pS af gd (.int k (a+b)):=Jk hx H (by simp[binOp,Op.intArith,YM h])
theorem X1 {x:xd}{k:IntKind}{a b:Int}(hx:ev f x=.int k a)(H:ev f y=.int k b)(h:inK k (a - b)):
  sR P f w d (.binOp .sub t x y E) ty pS af gd (.int k (a - b)):=Jk hx H (by simp[binOp,Op.intArith,YM h])
theorem QjY {x:xd}{k:IntKind}{a b:Int}(hx:ev f x=.int k a)(H:ev f y=.int k b)(h:inK k (a*b)):
  sR P f w d (.binOp .mul t x y E) ty pS af gd (.int k (a*b)):=Jk hx H (by simp[binOp,Op.intArith,YM h])
theorem YA {x:xd}{k:IntKind}{a b:Int}(hx:ev f x=.int k a)(H:ev f y=.int k b):
  sR P f w d (.binOp .lss t x y E) ty pS af gd (.bool (decide (a<b))):=Jk hx H (by simp[binOp,Op.intCmp])
theorem KL {x:xd}{k:IntKind}{a b:Int}(hx:ev f x=.int k a)(H:ev f y=.int k b):
  sR P f w d (.binOp .leq t x y E) ty pS af gd (.bool (decide (a<=b))):=Jk hx H (by simp[binOp,Op.intCmp])
theorem ZX {x:xd}{k:IntKind}{a b:Int}(hx:ev f x=.int k a)(H:ev f y=.int k b):
  sR P f w d (.binOp .gtr t x y E) ty pS af gd (.bool (decide (b<a))):=Jk hx H (by simp[binOp,Op.intCmp])
theorem YI {x:xd}{k:IntKind}{a b:Int}(hx:ev f x=.int k a)(H:ev f y=.int k b):
  sR P f w d (.binOp .geq t x y E) ty pS af gd (.bool (decide (b<=a))):=Jk hx H (by simp[binOp,Op.intCmp])
theorem QW {x:xd}{k:IntKind}{a b:Int}(hx:ev f x=.int k a)(H:ev f y=.int k b):
  sR P f w d (.binOp .eql t x y E) ty pS af gd (.bool (decide (a=b))):=
 Jk hx H (by simp[binOp,Op.intCmp];by_cases h:a=b <;> simp[h])
theorem YS {x:xd}{k:IntKind}{a b:Int}(hx:ev f x=.int k a)(H:ev f y=.int k b):
  sR P f w d (.binOp .neq t x y E) ty pS af gd (.bool (decide (¬a=b))):=
 Jk hx H (by simp[binOp,Op.intCmp];by_cases h:a=b <;> simp[h])
theorem Zr {x:xd}{b:Bool}(hx:ev f x=.bool b):sR P f w d (.unOp .not t x) ty pS af gd (.bool (!b)):=by
 simp[sR,execOp,hx,Op.unary]
theorem Un {x:xd}{e bys:Nat}[h:Sl P t e sz bys z]{a:Option Addr}{c:Nat}(hx:ev f x=.slice a n c):
  sR P f w d (.call ⟨.builtin .len,#[x],#[t]⟩) ty pS af gd (sS n):=by
 simp[sR,execOp,resolve,invoke,builtin,Builtin.len_,hx,run_underlying h.u,goInt]
theorem Sl.info {e bys:Nat}(h:Sl P t e sz bys z):∃i,P.info? e=some i/\i.zero=some z/\i.size=sz/\i.bytes=bys:=by
 have:=h.i;cases hi:P.info? e with
 | none=>simp[hi]at this
 | some i=>simp[hi]at this;exact⟨i,U,this.1,this.2.1,this.2.2⟩
theorem Xn {x:xd}{e bys:Nat}[h:Sl P t e sz bys z]{a:Addr}{c:Nat}{k:IntKind}{i:Int}(hx:ev f x=.slice (some a) n c)(E:ev f y=.int k i)(H:0<=i)(I:i<n):
  sR P f w d (.indexAddr t x y) ty pS af gd (.pointer (some (a.add (i.toNat*sz)))):=by
 unfold sR
 obtain⟨ii,hi,_,J,_⟩:=Sl.info h;simp[execOp,hx,E,Instr.indexAt,asIntOf,run_underlying h.u,H,I,sizeOf,typeInfo,hi,J]
theorem QaO [h:XZ P t]:(isAgg t).run P w=.ok false w:=by
 obtain⟨d,hu,hd⟩:=h.u;unfold isAgg;cases d <;> simp at hd <;> simp[run_underlying hu]
theorem Qk0 [h:Ag P t sz]:(isAgg t).run P w=.ok true w:=by
 obtain⟨d,hu,hd⟩:=h.u;unfold isAgg;cases d <;> simp at hd <;> simp[run_underlying hu]
theorem Xm [h:XZ P t]{a:Addr}{v:O9}(E:w.cell? a=some v):(loadVar t a).run P w=.ok v w:=by
 simp[loadVar,QaO,E]
theorem QeU [h:XZ P t]:(sizeOf t).run P w=.ok 1 w:=by
 have:=h.i;cases hi:P.info? t with
 | none=>simp[hi]at this
 | some i=>simp[hi]at this;simp[sizeOf,typeInfo,hi,this]
theorem qC [h:Ag P t sz]:(sizeOf t).run P w=.ok sz w:=by
 have:=h.i;cases hi:P.info? t with
 | none=>simp[hi]at this
 | some i=>simp[hi]at this;simp[sizeOf,typeInfo,hi,this]
theorem Ko {a:Addr}:∀(vs:LV) (i:Nat) (acc:Array O9),(∀j v,vs[j]?=some v->w.cell? (a.add (i+j))=some v)->(loadCellsFrom a i vs.length acc).run P w=.ok (acc++vs.toArray) w
 | [],_,acc,_=>by simp[loadCellsFrom]
 | v::vs,i,acc,h=>by
  have E:=h 0 v U;simp only[OH]at E;simp[loadCellsFrom,E,(Ko vs (i+1) (acc.push v) (λj u hu=>by have:=h (j+1) u (oA hu);simpa[OT,Nat.add_comm 1 j]using this))]
theorem ZR [h:Ag P t sz]{a:Addr}{vs:LV}(E:vs.length=sz)(H:∀j v,vs[j]?=some v->w.cell? (a.add j)=some v):(loadVar t a).run P w=.ok (sT vs) w:=by
 have:=Ko (P:=P) (w:=w) (a:=a) vs 0 #[] (oA H);subst E;simp[loadVar,Qk0,qC (sz:=vs.length),loadCells,this]
theorem QjZ [h:XZ P t]{x:xd}{a:Addr}{v:O9}(hx:ev f x=.pointer (some a))(E:w.cell? a=some v):
  sR P f w d (.load t x) ty pS af gd v:=by
 simp[sR,execOp,hx,Instr.loadAt,Instr.sureAddr,Xm E]
theorem z7 [h:Ag P t sz]{x:xd}{a:Addr}{vs:LV}(hx:ev f x=.pointer (some a))(E:vs.length=sz)(H:∀j v,vs[j]?=some v->w.cell? (a.add j)=some v):
  sR P f w d (.load t x) ty pS af gd (sT vs):=by
 simp[sR,execOp,hx,Instr.loadAt,Instr.sureAddr,ZR E H]
theorem Zp {off:Nat}[h:Zc P t j off]{x:xd}{a:Addr}(hx:ev f x=.pointer (some a)):
  sR P f w d (.fieldAddr t x j) ty pS af gd (.pointer (some (a.add off))):=by
 unfold sR
 have E:=h.h;unfold QsR at E;cases hu:P.underlying t with
 | none=>simp[hu]at E
 | some dd =>
  cases dd <;> simp[hu]at E
  rename_i fs;cases hf:fs[j]? with
  | none=>simp[hf]at E
  | some fd =>
   cases hi:P.info? fd.type with
   | none=>simp[hf,hi]at E
   | some i =>
    simp[hf,hi]at E;simp[execOp,hx,Instr.fieldAt,run_underlying hu,hf,Instr.sureAddr,fieldPlace,sizeOf,typeInfo,hi,E]
theorem Uw {x:xd}{a:Addr}(hx:ev f x=.pointer (some a)):sR P f w d (.nilCheck x) ty pS af gd (.pointer (some a)):=by
 simp[sR,execOp,hx]
theorem ZC {fn:Fn}{l l':List xd}:sR P f w d (.makeFunc fn l.toArray l'.toArray) ty pS af gd (.func fn (l.map (ev f)).toArray (l'.map (ev f)).toArray):=by
 simp[sR,execOp,Instr.makeFunc]
end
def QZ (P:xh)(g:Nat)(args:LV)(w:O8)(R:O9->O8->Prop):Prop :=
 Calls P g args.toArray w λe w'=>match e with| .returned v=>R v w'|_=>False
theorem QZ.S {P:xh}{g:Nat}{args:LV}{w:O8}{R R':O9->O8->Prop}(h:QZ P g args w R)(H:∀v w',R v w'->R' v w'):QZ P g args w R' :=
 Calls.mono h λe w' E=>by cases e <;> first|exact H _ _ E|exact E
theorem xc {f:Fr}{K:Fr->O8->Prop}{pS:String}{x:xd}{l:List xd}
    {first capt:LV} [hF:Fu P g fn] (hx:ev f x=.func (.func g) first.toArray capt.toArray) (h:QZ P g (first++l.map (ev f)++capt) w λv w'=>K (QT f d v) w'):
  XO P ⟨d,.call ⟨.value x,l.toArray,at_⟩,ty,pS,af,gd⟩ f w K:=by
 have E:(execOp (ev f) ⟨d,.call ⟨.value x,l.toArray,at_⟩,ty,pS,af,gd⟩).run P w=.ok (.enter g (first++l.map (ev f)++capt).toArray) w:=by
  have H:¬fn.name = "runtime.NumGoroutine" := by simpa using hF.nm
  have I:¬fn.body=none:=by have:=hF.b;intro e;rw[e]at this;cases this
  simp[execOp,resolve,hx,Deferred.ofValue,invoke,callFunc,hF.f,H,I]
 simp only[XO,E,upF];exact h
theorem xf {f:Fr}{K:Fr->O8->Prop}{pS:String}{l:List xd}
    [hF:Fu P g fn] (h:QZ P g (l.map (ev f)) w λv w'=>K (QT f d v) w'):
  XO P ⟨d,.call ⟨.value (.func g),l.toArray,at_⟩,ty,pS,af,gd⟩ f w K :=
 xc (first:=[]) (capt:=[]) (g:=g) (fn:=fn) U (oA h)
def ent:LV->Fr
 | [],_=>undef
 | v::_,0=>v
 | _::l,t+1=>ent l t
def qt (P:xh)(f:Fr)(w:O8):List ResultVar->LV->Prop
 | [],[]=>True
 | .tmp t::rs,v::vs=>f t=v/\qt P f w rs vs
 | .cell a t::rs,v::vs=>(∃ad,f a=.pointer (some ad)/\(loadVar t ad).run P w=.ok v w)/\qt P f w rs vs
 | _,_=>False
def tup:LV->O9
 | [v]=>v
 | vs=>.tuple vs.toArray
def rq (P:xh)(rs:List ResultVar)(R:O9->O8->Prop):Exit->Fr->O8->Prop
 | .ret,f,w=>∃vs,qt P f w rs vs/\R (tup vs) w
 | .normal,f,w=>∃vs,qt P f w rs vs/\R (tup vs) w
 | _,_,_=>False
theorem Kn {P:xh}{n:Nat}{a:Act}{f:Fr}{w:O8}(H:Rel n a f)(g:ResultVar->Sem O9)(g1:∀t,g (.tmp t)=pure (a.tmps.getD t undef))
  (I:∀ad t,g (.cell ad t)=(do loadVar t (<-asAddr (a.tmps.getD ad undef)))):∀(rs:List ResultVar) (vs:LV),qt P f w rs vs->(rs.mapM g).run P w=.ok vs w
 | [],[],_=>oe
 | [],_::_,h=>h.elim
 | .tmp t::rs,[],h=>h.elim
 | .cell _ _::rs,[],h=>h.elim
 | .tmp t::rs,v::vs,h=>by
  have ih:=Kn H g g1 I rs vs h.2;have E:=H.get t;rw[h.1]at E;simp only[List.mapM_cons,Sem.run_bind,Sem.run_pure,Result.andThen_ok,ih,E,g1]
 | .cell ad t::rs,v::vs,h=>by
  have ih:=Kn H g g1 I rs vs h.2;obtain⟨⟨J,O,S⟩,_⟩:=h;have E:=H.get ad;rw[O]at E;have T:(asAddr (.pointer (some J))).run P w=.ok J w:=rfl;simp only[List.mapM_cons,Sem.run_bind,I,E,T,Sem.run_pure,Result.andThen_ok,S,ih]
theorem QZ.of_W {c:Code}{args:LV}{R:O9->O8->Prop}{rs:List ResultVar}
  (hf:P.funcs[g]?=some fn) (O:fn.body=some c) (S:fn.ntmps=n) (T:fn.results=rs.toArray) (Z:args.length<=n)
  (h:W P n c (rq P rs R) (ent args) w):QZ P g args w R:=by
 unfold W at h;refine calls_of_wp hf O (wp_mono (h _ ?_) ?_)
 .refine⟨by simp[S];omega,U,λt=>?_⟩;have key:∀(l:LV) (t:Nat),l[t]?.getD undef=ent l t:=by
   intro l;induction l with
   | nil=>intro t;rfl
   | cons v l ih=>intro t;cases t with|zero=>rfl|succ t=>simpa[ent]using ih t
  rw[<-key];simp only[Array.getD_eq_getD_getElem?,Array.getElem?_append,Oc,o0];by_cases H:t<args.length
  .simp[H]
  simp[H,Array.getElem?_replicate];split <;> rfl
 rintro e I w' ⟨V,J,_,E⟩;have fin:(∃vs,qt P V w' rs vs/\R (tup vs) w')->I.defers=[]/\∃v,(results fn I.tmps).run P w'=.ok v w'/\R v w':=by
  rintro⟨vs,Y,hR⟩;refine⟨J.defers,tup vs,?_,hR⟩;simp only[results,T,List.mapM_toArray,Sem.run_bind,Sem.run_map];rw[Kn J _ (λ_=>rfl) (λ_ _=>rfl) rs vs Y];cases vs with
  | nil=>rfl
  | cons v vs=>cases vs with|nil=>rfl|cons u us=>rfl
 cases e with
 | normal=>exact fin E
 | ret=>exact fin E
 | exit id=>exact E.elim
 | goto l=>exact E.elim
 | panic c=>exact E.elim
 | outgrown=>exact E.elim
attribute [irreducible] QZ
theorem Vc (f:P.funcs[g]?=some fn)(b:fn.body.isNone=false:=by kernel_rfl)(nm:(fn.name == "runtime.NumGoroutine")=false:=by kernel_rfl):Fu P g fn:=⟨f,b,nm⟩
theorem Qc {f:Fr}{Q:Exit->Fr->O8->Prop}{l:xK}{y:Code}(h:XL P l (λf w=>thn (λf w=>W P n y Q f w) Q .normal f w) l f w)(E:J6 n l=true:=by rfl):W P n (.seq (.region id l.toArray false) y) Q f w:=Qd (Qes E h)
theorem Qq {f:Fr}{Q:Exit->Fr->O8->Prop}{l:xK}(h:XL P l (λf w=>Q .normal f w) l f w)(E:J6 n l=true:=by rfl):W P n (.region id l.toArray false) Q f w:=Qes E h
section
variable {K:Fr->O8->Prop}{f:Fr}{pS:String}{l:xK}
theorem Qa (h:XL P ops K l (QT f d (ev f y)) w)(E:Z4 ops f ⟨d,.move y,ty,pS,af,gd⟩=true:=by rfl):XL P ops K (⟨d,.move y,ty,pS,af,gd⟩::l) f w:=x K5 h E
theorem QH {I:Nat}{E H:xd}{k:IntKind}{a b:Int}(hx:ev f E=.int k a)(J:ev f H=.int k b)(h:XL P ops K l (QT f d (.int k (a+b))) w)(hk:inK k (a+b):=by exact⟨oa,oa⟩)
  (O:Z4 ops f ⟨d,.binOp .add t E H I,ty,pS,af,gd⟩=true:=by rfl):XL P ops K (⟨d,.binOp .add t E H I,ty,pS,af,gd⟩::l) f w:=x (X2 hx J hk) h O
theorem Qb (h:K (QT f d (ev f y)) w)(E:Z4 ops f ⟨d,.assign y,ty,pS,af,gd⟩=true:=by rfl):XL P ops K [⟨d,.assign y,ty,pS,af,gd⟩] f w:=x Qh (xe h) E
end
section
variable {C:xH}{K:Fr->O8->Prop}{f:Fr}{pS:String}{l:xK}
theorem Qo (h:XO P o f w (XL P ops K l))(E:Z4 ops f o=true:=by rfl):XL P ops K (o::l) f w:=xl E h
theorem K4 (h:XL P ops K l (QT f o.dst undef) w)(E:Z4 ops f o=false:=by rfl):XL P ops K (o::l) f w:=xs E h
theorem QS {E:xd}{vs:LV}{v:O9}(H:ev f E=.tuple vs.toArray)(I:vs[j]?=some v)(h:XL P ops K l (QT f d v) w)(J:Z4 ops f ⟨d,.extract E j,ty,pS,af,gd⟩=true:=by rfl):XL P ops K (⟨d,.extract E j,ty,pS,af,gd⟩::l) f w:=x (Zw H I) h J
theorem QB {c a b:xd}{t:Bool}(E:ev f c=.bool t)(h:XL P ops K l (QT f d (bif t then ev f a else ev f b)) w)(H:Z4 ops f ⟨d,.pick c a b,ty,pS,af,gd⟩=true:=by rfl):XL P ops K (⟨d,.pick c a b,ty,pS,af,gd⟩::l) f w:=x (qJ E) h H
theorem Zu {I:Nat}{E H:xd}{k:IntKind}{a b:Int}(hx:ev f E=.int k a)(J:ev f H=.int k b)(h:XL P ops K l (QT f d (.bool (decide (¬a=b)))) w)(O:Z4 ops f ⟨d,.binOp .neq t E H I,ty,pS,af,gd⟩=true:=by rfl):XL P ops K (⟨d,.binOp .neq t E H I,ty,pS,af,gd⟩::l) f w:=x (YS hx J) h O
theorem Ye {I:Nat}{E H:xd}{k:IntKind}{a b:Int}(hx:ev f E=.int k a)(J:ev f H=.int k b)(h:XL P ops K l (QT f d (.bool (decide (a<b)))) w)(O:Z4 ops f ⟨d,.binOp .lss t E H I,ty,pS,af,gd⟩=true:=by rfl):XL P ops K (⟨d,.binOp .lss t E H I,ty,pS,af,gd⟩::l) f w:=x (YA hx J) h O
theorem Z7 {E:xd}{a:Addr}(hx:ev f E=.pointer (some a))(h:XL P ops K l (QT f d (.pointer (some a))) w)(H:Z4 ops f ⟨d,.nilCheck E,ty,pS,af,gd⟩=true:=by rfl):XL P ops K (⟨d,.nilCheck E,ty,pS,af,gd⟩::l) f w:=x (Uw hx) h H
theorem Zt {c:Code}{args:LV}{R:O9->O8->Prop}{rs:List ResultVar}(hf:P.funcs[g]?=some fn)(h:W P n c (rq P rs R) (ent args) w)(E:fn.body=some c:=by rfl)(H:fn.ntmps=n:=by rfl)(I:fn.results=rs.toArray:=by rfl)(J:Nat.ble args.length n=true:=by rfl):QZ P g args w R:=QZ.of_W hf E H I (Mb J) h
def Xf:Nat->Nat->LN->List (Nat×Bool)
 | _,0,_=>[]
 | i,n+1,fs=>(i,!fs.contains i)::Xf (i+1) n fs
def fuB (P:xh)(g:Nat):Bool:=match P.funcs[g]? with|some fn=>!fn.body.isNone && !(fn.name == "runtime.NumGoroutine")|none=>false
theorem fuE (h:fuB P g=true):∃fn,Fu P g fn:=by
 unfold fuB at h;split at h
 .next fn hf=>simp only[oO,OA]at h;exact⟨fn,hf,h.1,h.2⟩
 cases h
theorem xg {f:Fr}{K:Fr->O8->Prop}{pS:String}{l:List xd}(h:QZ P g (l.map (ev f)) w λv w'=>K (QT f d v) w')(hF:fuB P g=true:=by kernel_rfl):XO P ⟨d,.call ⟨.value (.func g),l.toArray,at_⟩,ty,pS,af,gd⟩ f w K:=(fuE hF).elim λ_ _=>xf h
theorem Qx {l':List xd}(h:QZ P g (l'.map (ev f)) w λv w'=>XL P ops K l (QT f d v) w')(hF:fuB P g=true:=by kernel_rfl)(E:Z4 ops f ⟨d,.call ⟨.value (.func g),l'.toArray,at_⟩,ty,pS,af,gd⟩=true:=by rfl):XL P ops K (⟨d,.call ⟨.value (.func g),l'.toArray,at_⟩,ty,pS,af,gd⟩::l) f w:=xl E (xg h hF)
theorem Qbo {l':List xd}[Fu P g fn](h:QZ P g (l'.map (ev f)) w λv w'=>XL P ops K l (QT f d v) w')(E:Z4 ops f ⟨d,.call ⟨.value (.func g),l'.toArray,at_⟩,ty,pS,af,gd⟩=true:=by rfl):XL P ops K (⟨d,.call ⟨.value (.func g),l'.toArray,at_⟩,ty,pS,af,gd⟩::l) f w:=xl E (xf h)
theorem QA {E:xd}:∀w',(execOp (ev f) ⟨d,.move E,ty,pS,af,gd⟩).run P w'=.ok (.value (ev f E)) w':=λ_=>K5
theorem ZL {E:xd}:∀w',(execOp (ev f) ⟨d,.assign E,ty,pS,af,gd⟩).run P w'=.ok (.value (ev f E)) w':=λ_=>Qh
theorem Z9 {c a b:xd}{t:Bool}(h:ev f c=.bool t):∀w',(execOp (ev f) ⟨d,.pick c a b,ty,pS,af,gd⟩).run P w'=.ok (.value (bif t then ev f a else ev f b)) w':=λ_=>qJ h
theorem Xj {E:xd}{a:Addr}(hx:ev f E=.pointer (some a)):∀w',(execOp (ev f) ⟨d,.nilCheck E,ty,pS,af,gd⟩).run P w'=.ok (.value (.pointer (some a))) w':=λ_=>Uw hx
theorem Qj {Q:Exit->Fr->O8->Prop}{c:Code}(h:XL P (⟨d,.move y,ty,pS,af,gd⟩::l) (λf w=>thn (λf w=>W P n c Q f w) Q .normal f w) l (QT f d (ev f y)) w)(E:Z4 (⟨d,.move y,ty,pS,af,gd⟩::l) f ⟨d,.move y,ty,pS,af,gd⟩=true:=by rfl)(H:J6 n (⟨d,.move y,ty,pS,af,gd⟩::l)=true:=by rfl):W P n (.seq (.region id (⟨d,.move y,ty,pS,af,gd⟩::l).toArray false) c) Q f w:=Qc (Qa h E) H
theorem Zi {Q:Exit->Fr->O8->Prop}{I:Nat}{E H:xd}{k:IntKind}{a b:Int}{c1 c2 c3:Code}(hx:ev f E=.int k a)(J:ev f H=.int k b)(O:¬a<b->W P n c2 (thn (λf w=>W P n c3 Q f w) Q) (QT f (some j) (.bool (decide (a<b)))) w)(S:a<b->W P n c1 (thn (λf w=>W P n c3 Q f w) Q) (QT f (some j) (.bool (decide (a<b)))) w)(T:Z4 [⟨some j,.binOp .lss t E H I,ty,pS,af,gd⟩] f ⟨some j,.binOp .lss t E H I,ty,pS,af,gd⟩=true:=by rfl)(V:J6 n [⟨some j,.binOp .lss t E H I,ty,pS,af,gd⟩]=true:=by rfl):W P n (.seq (.region id #[⟨some j,.binOp .lss t E H I,ty,pS,af,gd⟩] false) (.seq (.cond (.tmp j) c1 c2) c3)) Q f w:=Qc (Ye hx J (xe (Qd (ZI (by simp[ev,QT,upd]) O S))) T) V
theorem Z6 {o2:Oper}(h:XL P ops K l (QT (QT f o.dst undef) o2.dst undef) w)(E:Z4 ops (QT f o.dst undef) o2=false:=by rfl)(H:Z4 ops f o=false:=by rfl):XL P ops K (o::o2::l) f w:=K4 (K4 h E) H
theorem Zm {o2 o3:Oper}(h:XL P ops K l (QT (QT (QT f o.dst undef) o2.dst undef) o3.dst undef) w)(E:Z4 ops (QT (QT f o.dst undef) o2.dst undef) o3=false:=by rfl)(H:Z4 ops (QT f o.dst undef) o2=false:=by rfl)(I:Z4 ops f o=false:=by rfl):XL P ops K (o::o2::o3::l) f w:=K4 (Z6 h E H) I
theorem pkk {pl:xD}(h:XO P (Za ops i) f w λE w'=>XP P ops C K pl E w')(H:VJ ops i=true:=by kernel_rfl)(I:Z4 ops f (Za ops i)=true:=by rfl):XP P ops C K ((i,false)::pl) f w:=pkl h H I
theorem Q2 {Q:Exit->Fr->O8->Prop}{c:Code}(D:xE)(S:α->List (Nat×O9))(I:α->O8->Prop)(m:α->Nat)(z:α)(E:XC f (S z))(H:I z w)(round:∀x g w',I x w'->W P n c (thn (λJ O=>∃x',m x'<m x/\XC J (S x')/\I x' O) (blk id Q)) (zD (S x) (mix D f g)) w')(hD:wr D c=true:=by rfl):W P n (.block id (.loop c)) Q f w:=Qn (QrS D S I m hD z E H round)
end
structure xj (L:LN)(w w':O8):Prop where
 os:w'.os=w.os
 tape:w'.tape=w.tape
 output:w'.output=w.output
 size:w.heap.size<=↑w'
 block:∀k,k<↑w->k∉L->w'.heap[k]?=w.heap[k]?
abbrev sW (w w':World):Prop:=xj [] w w'
theorem xj.Y (L:LN)(w:O8):xj L w w:=⟨U,U,U,Lu _,λ_ _ _=>U⟩
theorem xj.X (L:LN)(w:O8):xj L w { w with drawn:=w.drawn+1 }:=⟨U,U,U,Lu _,λ_ _ _=>U⟩
theorem xj.S {L L':LN}(h:xj L w w')(E:∀b∈L,b∈L'):xj L' w w' :=
 ⟨h.os,h.tape,h.output,h.size,λk hk H=>h.block k hk (λI=>H (E k I))⟩
theorem xj.any {L:LN}(h:sW w w'):xj L w w':=h.S (λ_ E=>by cases E)
theorem xj.G {L L':LN}{E:O8}(h:xj L E w)(k:xj L' w w')(J:∀b∈L',b∈L\/↑E<=b):xj L E w' :=
 ⟨k.os.I h.os,k.tape.I h.tape,k.output.I h.output,LJ h.size k.size,λi hi H =>
  (k.block i (Mw hi h.size) (λO=>by rcases J i O with I|I;exact H I;omega)).I (h.block i hi H)⟩
theorem xj.I {L:LN}{E:O8}(h:xj L E w)(k:sW w w'):xj L E w':=h.G k (λ_ H=>by cases H)
theorem xj.V {L:LN}{E:O8}(h:xj L E w)(k:xj L w w'):xj L E w':=h.G k (λ_ H=>.inl H)
theorem xj.below (h:sW w w'):Below ↑w w w':=⟨h.os,h.tape,h.output,h.size,λk hk=>h.block k hk oe⟩
theorem xj.of_below (h:Below ↑w w w'):sW w w':=⟨h.os,h.tape,h.output,h.size,λk hk _=>h.block k hk⟩
theorem xj.of_grown {row:xL}(h:w.grownBy w' row):xj row.toList w w' :=
 ⟨h.os,h.tape,h.output,h.size,λk hk E=>h.block k hk (λe=>E (by simp[<-e]))⟩
theorem zi (w:O8)(o:Obj)(k:Nat)(h:k<↑w):(w.alloc o).heap[k]?=w.heap[k]?:=by
 show(w.heap.push o)[k]?=_;rw[Array.getElem?_push,O0 oa]
theorem KI (w:O8)(o:Obj):(w.alloc o).heap[w.heap.size]?=some o:=by
 show(w.heap.push o)[w.heap.size]?=_;simp
theorem V8 (w:O8)(o:Obj):(w.alloc o).heap.size=w.heap.size+1:=by show(w.heap.push o).size=_;simp
theorem xj.alloc (w:O8)(o:Obj):sW w (w.alloc o):=⟨U,U,U,by rw[V8];omega,λk hk _=>zi w o k hk⟩
theorem xj.setRow (w:O8)(g:Nat)(cs:Array O9):xj [g] w (w.setRow g cs):=
 ⟨U,U,U,by simp[World.setRow],λk _ E=>setRow_other w g k cs (λe=>E (by simp[e]))⟩
def cel (H:xI)(a:Addr):Option O9:=match H[a.block]? with
 | some (.cells c _ _)=>if a.spot.isSome then none else c[a.off]?
 | _=>none
theorem JT (w:O8)(a:Addr):w.cell? a=cel ↑w a:=rfl
structure At (L:LN)(H:xI)(a:Addr)(us:LV):Prop where
 out:∀u∈us,a.block∉L
 lt:∀u∈us,a.block<H.size
 cell:∀j u,us[j]?=some u->cel H (a.add j)=some u
theorem Yz (a:Addr)(j:Nat):(a.add j).block=a.block:=by unfold Addr.add;split <;> rfl
theorem Ql7 {L:LN}(h:xj L w w'){a:Addr}(E:a.block∉L)(H:a.block<↑w):cel ↑w' a=cel ↑w a:=by
 unfold cel;rw[h.block _ H E]
theorem At.O {L X:LN}{a:Addr}{us:LV}(h:At L ↑w a us)(E:xj X w w')(I:∀b∈X,b∈L):At L ↑w' a us :=
 ⟨h.out,λu hu=>Mw (h.lt u hu) E.size,λj u hu=>by
  have H:=MA hu;rw[Ql7 (L:=X) E (by rw[Yz];exact λhx=>h.out u H (I _ hx)) (by rw[Yz];exact h.lt u H)];exact h.cell j u hu⟩
theorem At.J {L:LN}{a:Addr}{us:LV}(h:At L ↑w a us)(E:sW w w'):At L ↑w' a us:=h.O E (λ_ H=>by cases H)
theorem At.st {L:LN}{a:Addr}{us:LV}(h:At L ↑w a us)(E:xj L w w'):At L ↑w' a us:=h.O E (λ_ H=>H)
theorem At.one {L:LN}{a:Addr}{u:O9}(h:At L ↑w a [u]):w.cell? a=some u:=by
 have:=h.cell 0 u U;simp only[Addr.add,if_true]at this;exact this
theorem At.cells {L:LN}{a:Addr}{us:LV}(h:At L ↑w a us):∀j v,us[j]?=some v->w.cell? (a.add j)=some v:=h.cell
theorem Addr.add_add (a:Addr)(i j:Nat):(a.add i).add j=a.add (i+j):=by
 unfold Addr.add;by_cases hi:i=0
 .subst hi;simp
 by_cases E:j=0
 .subst E;simp
 simp[hi,E,OT]
theorem At.fld {L:LN}{H:xI}{a:Addr}{us:LV}(h:At L H a us)(j:Nat)(u:O9)(hu:us[j]?=some u):At L H (a.add j) [u]:=
 ⟨λ_ _=>by rw[Yz];exact h.out u (MA hu),λ_ _=>by rw[Yz];exact h.lt u (MA hu),λi v E=>by
  cases i with
  | zero=>simp at E;subst E;rw[Addr.add_add,Nw];exact h.cell j u hu
  | succ i=>simp at E⟩
theorem At.up {L L':LN}{H:xI}{a:Addr}{us:LV}(h:At L H a us)(I:∀b∈L',b∈L\/H.size<=b):At L' H a us :=
 ⟨λu hu J=>by rcases I _ J with E|E;exact h.out u hu E;have:=h.lt u hu;omega,h.lt,h.cell⟩
def Zk (L:LN)(H:xI)(v:O9)(n sz:Nat)(cs:LV):Prop :=
 cs.length=n*sz/\n<=1099511627776/\((v=nS/\n=0)\/∃a cap,v=.slice (some a) n cap/\n<=cap/\At L H a cs)
theorem Zk.O {L X:LN}{w w':O8}{v:O9}{n sz:Nat}{cs:LV}(h:Zk L ↑w v n sz cs)(E:xj X w w')(H:∀b∈X,b∈L):Zk L ↑w' v n sz cs :=
 ⟨h.1,h.2.1,h.2.2.imp id λ⟨a,cap,I,J,O⟩=>⟨a,cap,I,J,O.O E H⟩⟩
theorem Zk.J {L:LN}{v:O9}{cs:LV}(h:Zk L ↑w v n sz cs)(E:sW w w'):Zk L ↑w' v n sz cs:=h.O E (λ_ H=>by cases H)
theorem Zk.st {L:LN}{v:O9}{cs:LV}(h:Zk L ↑w v n sz cs)(E:xj L w w'):Zk L ↑w' v n sz cs:=h.O E (λ_ H=>H)
theorem Zk.up {L L':LN}{H:xI}{v:O9}{n sz:Nat}{cs:LV}(h:Zk L H v n sz cs)(E:∀b∈L',b∈L\/H.size<=b):Zk L' H v n sz cs :=
 ⟨h.1,h.2.1,h.2.2.imp id λ⟨a,cap,I,J,O⟩=>⟨a,cap,I,J,O.up E⟩⟩
theorem Zk.nil (L:LN)(H:xI)(sz:Nat):Zk L H (nS) 0 sz []:=⟨oe,oa,.inl ⟨rfl,rfl⟩⟩
theorem Zk.shape {L:LN}{H:xI}{v:O9}{cs:LV}(h:Zk L H v n sz cs):∃a cap,v=.slice a n cap:=by
 rcases h.2.2 with⟨E,I⟩|⟨a,cap,E,_⟩
 .exact⟨none,0,by rw[E,I]⟩
 exact⟨some a,cap,E⟩
theorem Zk.one {L:LN}{H:xI}{v:O9}{cs:LV}(h:Zk L H v n sz cs):v.oneCell'=true:=by obtain⟨a,cap,rfl⟩:=h.shape;rfl
theorem Zk.cells {L:LN}{H:xI}{v:O9}{n sz:Nat}{cs:LV}(h:Zk L H v n sz cs):v.cells=#[v]:=by obtain⟨a,cap,rfl⟩:=h.shape;rfl
theorem Zk.le {L:LN}{H:xI}{v:O9}{cs:LV}(h:Zk L H v n sz cs):n<=1099511627776:=h.2.1
theorem Zk.at {L:LN}{H:xI}{v:O9}{n sz:Nat}{cs:LV}(h:Zk L H v n sz cs){i:Nat}(hi:i<n):
  ∃a cap,v=.slice (some a) n cap/\At L H (a.add (i*sz)) ((cs.drop (i*sz)).take sz):=by
 rcases h.2.2 with⟨_,J⟩|⟨a,cap,I,_,E⟩
 .omega
 refine⟨a,cap,I,λu hu=>by rw[Yz];exact E.out u (Mf (L8 hu)),λu hu=>by rw[Yz];exact E.lt u (Mf (L8 hu)),λj u hu=>?_⟩;rw[Addr.add_add];refine E.cell _ u ?_;rw[L3]at hu;split at hu
 .simpa using hu
 cases hu
abbrev QG (L:LN)(H:xI)(v:O9)(l:LI):Prop:=Zk L H v l.length 1 (l.map (.int .i64))
theorem QG.at {L:LN}{H:xI}{v:O9}{l:LI}(h:QG L H v l){i:Nat}(hi:i<l.length):
  ∃a cap,v=.slice (some a) l.length cap/\At L H (a.add (i*1)) [sS l[i]]:=by
 obtain⟨a,cap,I,E⟩:=Zk.at h hi;refine⟨a,cap,I,?_⟩;have:((l.map (Value.int .i64)).drop (i*1)).take 1=[sS l[i]]:=by
  rw[Nat.mul_one,LH (oA hi)];simp
 rw[this]at E;exact E
def QP (H:xI)(b T:Nat)(cs:LV):Prop:=H[b]?=some (.cells cs.toArray T (0,0))
theorem QP.lt {H:xI}{cs:LV}(h:QP H b T cs):b<H.size:=(LP.1 h).1
theorem QP.O {X:LN}{cs:LV}(h:QP ↑w b T cs)(E:xj X w w')(H:b∉X):QP ↑w' b T cs:=by
 unfold QP;rw[E.block b h.lt H];exact h
theorem QP.J {cs:LV}(h:QP ↑w b T cs)(E:sW w w'):QP ↑w' b T cs:=h.O E oe
theorem QP.cell {H:xI}{cs:LV}(h:QP H b T cs)(j:Nat):cel H ⟨b,j,none⟩=cs[j]?:=by
 unfold QP at h;simp[cel,h]
theorem QgL (b j:Nat):(⟨b,0,none⟩:Addr).add j=⟨b,j,none⟩:=by unfold Addr.add;split <;> simp_all
theorem KP (b i j:Nat):(⟨b,i,none⟩:Addr).add j=⟨b,i+j,none⟩:=by unfold Addr.add;split <;> simp_all
theorem QP.at {L:LN}{H:xI}{cs:LV}(h:QP H b T cs)(E:b∉L):At L H ⟨b,0,none⟩ cs :=
 ⟨λ_ _=>E,λ_ _=>h.lt,λj u hu=>by rw[QgL,h.cell];exact hu⟩
theorem QP.arr {L:LN}{H:xI}{cs:LV}(h:QP H b T cs)(E:b∉L)(I:cs.length=n*sz)(J:n<=1099511627776)(O:n<=cap):
  Zk L H (sL b n cap) n sz cs:=⟨I,J,.inr ⟨_,_,U,O,h.at E⟩⟩
def ob:O9->LN
 | .slice (some a) _ _=>[a.block]
 | _=>[]
theorem yT (v:O9):ob v=v.ownBlock.toList:=by
 cases v <;> try rfl
 rename_i a _ _;cases a <;> rfl
theorem Qf {X:LN}{base e:Nat}{v:O9}{cs:LV}(h:w.ownsRow base e sz v n cs)(I:xj X w w')(J:∀b∈ob v,b∉X):w'.ownsRow base e sz v n cs:=by
 refine⟨h.1,h.2.imp id λ⟨g,cap,cur,E,O,H,S⟩=>⟨g,cap,cur,E,O,?_,S⟩⟩;rw[I.block g (LP.1 H).1 (J g (by rw[E];simp[ob]))];exact H
theorem Ql {base e:Nat}{v:O9}{cs:LV}(h:w.ownsRow base e sz v n cs)(E:sW w w'):w'.ownsRow base e sz v n cs:=Qf h E (λ_ _=>oe)
theorem Qg {base e:Nat}{v:O9}{cs:LV}(h:w.ownsRow base e sz v n cs):∀b∈ob v,base<=b/\b<w.heap.size:=by
 intro b E;rcases h.2 with⟨H,_⟩|⟨g,cap,cur,H,I,J,_⟩
 .subst H;simp[ob]at E
 subst H;simp[ob]at E;subst E;exact⟨I,(LP.1 J).1⟩
theorem Zv {base base' e:Nat}{v:O9}{cs:LV}(h:w.ownsRow base e sz v n cs)(E:base'<=base):w.ownsRow base' e sz v n cs :=
 ⟨h.1,h.2.imp id λ⟨g,cap,cur,H,I,J⟩=>⟨g,cap,cur,H,LJ E I,J⟩⟩
theorem QC {L:LN}{base e:Nat}{v:O9}{cs:LV}(h:w.ownsRow base e sz v n cs)(I:n<=1099511627776)(J:∀b∈ob v,b∉L):Zk L ↑w v n sz cs:=by
 refine⟨h.1,I,?_⟩;rcases h.2 with E|⟨g,cap,cur,E,T,H,O,V,Y,S⟩
 .exact .inl E
 refine .inr ⟨_,_,E,O,λ_ _=>J g (by rw[E];simp[ob]),λ_ _=>(LP.1 H).1,λj u hu=>?_⟩;rw[QgL];unfold cel;simp only[H];rw[<-S,L3]at hu;split at hu
 .simpa using hu
 cases hu
theorem QI (w:O8)(base e sz:Nat):w.ownsRow base e sz (nS) 0 []:=World.ownsRow_nil w base e sz
theorem QP.own {cs:LV}(h:QP ↑w b T cs)(E:cs.length=n*sz)(I:n<=1099511627776){base:Nat}(H:base<=b):w.ownsRow base T sz (sL b n n) n cs :=
 ⟨E,.inr ⟨b,n,cs.toArray,U,H,h,Lu _,by simp only[maxLen];omega,by simp[E],by simp[<-E]⟩⟩
section
variable {K:Fr->O8->Prop}{f:Fr}{pS:String}{l:xK}
theorem Xr {x:xd}{e bys:Nat}[Sl P t e E bys z]{L:LN}{cs:LV}{v:O9}{H:xI}(h:Zk L H v n sz cs)(I:ev f x=v):
  sR P f w d (.call ⟨.builtin .len,#[x],#[t]⟩) ty pS af gd (sS n):=by
 unfold sR
 obtain⟨a,cap,J⟩:=h.shape;exact Un (I.I J)
theorem xi {x:xd}{e bys:Nat}[Sl P t e sz bys z]{L:LN}{cs:LV}{v:O9}{k:IntKind}
  (h:Zk L ↑w v n sz cs) (E:ev f x=v) (H:ev f y=.int k i) (hi:i<n)
  (hK:∀a,At L ↑w a ((cs.drop (i*sz)).take sz)->XL P ops K l (QT f d (.pointer (some a))) w) (I:Z4 ops f ⟨d,.indexAddr t x y,ty,pS,af,gd⟩=true:=by rfl):
  XL P ops K (⟨d,.indexAddr t x y,ty,pS,af,gd⟩::l) f w:=by
 obtain⟨a,cap,J,O⟩:=h.at hi;refine xl I (xv (Xn (E.I J) H oa oa) (hK _ ?_));simpa using O
theorem xii {x:xd}{e bys:Nat}[Sl P t e 1 bys z]{L:LN}{li:LI}{v:O9}{k:IntKind}
  (h:QG L ↑w v li) (E:ev f x=v) (H:ev f y=.int k i) (hi:i<li.length)
  (hK:∀a,At L ↑w a [sS li[i]]->XL P ops K l (QT f d (.pointer (some a))) w) (I:Z4 ops f ⟨d,.indexAddr t x y,ty,pS,af,gd⟩=true:=by rfl):
  XL P ops K (⟨d,.indexAddr t x y,ty,pS,af,gd⟩::l) f w:=by
 obtain⟨a,cap,J,O⟩:=QG.at h hi;refine xl I (xv (Xn (E.I J) H oa oa) (hK _ ?_));simpa using O
theorem Qy [XZ P t]{x:xd}{a:Addr}{L:LN}{u:O9}(h:At L ↑w a [u])(hx:ev f x=.pointer (some a)):
  sR P f w d (.load t x) ty pS af gd u:=QjZ hx h.one
theorem Qu [Ag P t sz]{x:xd}{a:Addr}{L:LN}{us:LV}(h:At L ↑w a us)(hx:ev f x=.pointer (some a))(E:us.length=sz):
  sR P f w d (.load t x) ty pS af gd (sT us):=z7 hx E h.cells
theorem Qk [XZ P t]{x:xd}{cs:LV}{u:O9}(h:QP ↑w b T cs)(hx:ev f x=.pointer (some ⟨b,j,none⟩))(E:cs[j]?=some u):
  sR P f w d (.load t x) ty pS af gd u:=QjZ hx (by rw[JT,h.cell];exact E)
theorem ZN [Ag P t sz]{x:xd}{cs:LV}(h:QP ↑w b T cs)(hx:ev f x=sP b)(E:cs.length=sz):
  sR P f w d (.load t x) ty pS af gd (sT cs):=z7 hx E (h.at (L:=[]) oe).cells
theorem VD {off:Nat}[Zc P t j off]{x:xd}{o:Nat}(hx:ev f x=.pointer (some ⟨b,o,none⟩)):
  sR P f w d (.fieldAddr t x j) ty pS af gd (.pointer (some ⟨b,o+off,none⟩)):=by
 unfold sR
 rw[<-KP];exact Zp hx
end
section
variable {K:Fr->O8->Prop}{f:Fr}{pS:String}
theorem QaD {x:xd}{us:LV}(hx:(ev f x).cells=us.toArray)
  (hK:∀b w',sW w w'->↑w<=b->QP ↑w' b t us->K (QT f d (sP b)) w'):XO P ⟨d,.box t x,ty,pS,af,gd⟩ f w K:=by
 have E:(execOp (ev f) ⟨d,.box t x,ty,pS,af,gd⟩).run P w=.ok (.value (.pointer (some ⟨↑w,0,none⟩))) (w.alloc (.cells us.toArray t)):=by
  simp[execOp,Instr.box,newVar,newRow,hx]
 exact xv E (hK _ _ (xj.alloc w _) (Lu _) (KI w _))
theorem Jh [h:Ze P t z]{us:LV}(H:z.cells=us.toArray)
  (hK:∀b w',sW w w'->↑w<=b->QP ↑w' b t us->K (QT f d (sP b)) w'):XO P ⟨d,.alloc t,ty,pS,af,gd⟩ f w K:=by
 have I:(execOp (ev f) ⟨d,.alloc t,ty,pS,af,gd⟩).run P w=.ok (.value (.pointer (some ⟨↑w,0,none⟩))) (w.alloc (.cells us.toArray t)):=by
  have hi:=h.i;cases E:P.info? t with
  | none=>simp[E]at hi
  | some i =>
   simp[E]at hi;simp[execOp,Instr.alloc,newVar,newRow,zeroValue,typeInfo,E,hi,H]
 exact xv I (hK _ _ (xj.alloc w _) (Lu _) (KI w _))
def yt (sz:Nat):LV->List (LV)->Prop
 | [],[]=>True
 | v::vs,u::us=>v.cells=u.toArray/\u.length=sz/\yt sz vs us
 | _,_=>False
theorem jm {sz:Nat}:∀(vs:LV) (us:List (LV)) (E:Nat) (pre rest:LV),yt sz vs us->pre.length=E*sz->rest.length=vs.length*sz ->
  Instr.fill (λi=>some (i*sz,sz)) (pre++rest).toArray ((vs.zipIdx E).map λx=>(x.2,x.1))=some (pre++us.flatten).toArray
 | [],[],E,pre,rest,_,_,H=>by
  have:rest=[]:=LA (oA H);subst this;simp[Instr.fill]
 | [],_::_,_,_,_,h,_,_=>h.elim
 | _::_,[],_,_,_,h,_,_=>h.elim
 | v::vs,u::us,E,pre,rest,h,I,H=>by
  obtain⟨J,O,T⟩:=h;have Z:sz<=rest.length:=by rw[H];simp[Ot]
  have ih:=jm vs us (E+1) (pre++u) (rest.drop sz) T (by simp[I,O,Ot]) (by simp only[Oa,H,oV,Ot,Nat.one_mul];omega);simp only[List.zipIdx_cons,oX];unfold Instr.fill;have V:v.cells.size=sz:=by rw[J];simp[O]
  simp only[V];rw[O0 (by simp;omega)];have key:v.cells.zipIdx.foldl (λcs (x:O9×Nat)=>cs.setIfInBounds (E*sz+x.2) x.1) (pre++rest).toArray=(pre++u++rest.drop sz).toArray:=by
   rw[<-Array.foldl_toList,Array.toList_zipIdx,J];obtain⟨g1,Y⟩:=Great.foldl_set (E*sz) u 0 (pre++rest).toArray;apply Array.ext';apply Nh;intro k;simp only[Array.getElem?_toList];rw[(Y k)];simp only[OH,Oc,oN,o0];split
   .rename_i S;rw[LD,MX oa,Mo oa,<-I]
   rename_i S;by_cases hk:k<pre.length
   .rw[LD,Mo hk,Mo hk]
   rw[LD,MX oa,MX oa];by_cases ha:k<pre.length+sz
   .exfalso;apply S;omega
   rw[MX oa,MF];congr 1;omega
  have hb:=ih;rw[LD pre u]at key;rw[show(v.cells.zipIdx.foldl (λcs (x:O9×Nat)=>cs.setIfInBounds (E*sz+x.2) x.1) (pre++rest).toArray)=(pre++u++rest.drop sz).toArray by rw[key,LD]];rw[ih];simp
theorem Qag (f:Fr):∀(ps:List (Nat×xd)) (i:Nat),ps.map (·.1)=oS i ps.length->(ps.map λx=>(x.1,ev f x.2))=((ps.map λx=>ev f x.2).zipIdx i).map λx=>(x.2,x.1)
 | [],_,_=>rfl
 | p::ps,i,h=>by
  simp only[oX,oV,OF,List.cons.injEq]at h;simp only[oX,List.zipIdx_cons];rw[Qag f ps (i+1) h.2,h.1]
theorem XQ {e bys:Nat}[h:Sl P t e sz bys z]{parts:List (Nat×xd)}{us:List (LV)}(H:parts.map (·.1)=oS 0 n)(I:parts.length=n)(J:0<n)(Z:n*sz<=1000000)
  (O:yt sz (parts.map λx=>ev f x.2) us)
  (hK:∀b w',sW w w'->↑w<=b->QP ↑w' b e us.flatten->K (QT f d (sL b n n)) w'):XO P ⟨d,.buildSlice t n parts.toArray,ty,pS,af,gd⟩ f w K:=by
 obtain⟨ie,S,T,E,_⟩:=Sl.info h;subst I;have hm:0<parts.length*sz:=Nat.mul_pos J h.pos;have V:Instr.fill (λi=>some (i*ie.size,ie.size)) ((Array.range (parts.length*ie.size)).map (z.cells[· % z.cells.size]!)) (parts.toArray.map λ(i,x)=>(i,ev f x)).toList=some us.flatten.toArray:=by
  rw[E];have:=jm (parts.map λx=>ev f x.2) us 0 [] ((Array.range (parts.length*sz)).map (z.cells[· % z.cells.size]!)).toList O oe oe;simp only[Oh,Array.toArray_toList]at this;rw[<-this,<-Qag f parts 0 H];simp
 have Y:(execOp (ev f) ⟨d,.buildSlice t parts.length parts.toArray,ty,pS,af,gd⟩).run P w=.ok (.value (.slice (some ⟨↑w,0,none⟩) parts.length parts.length)) (w.alloc (.cells us.flatten.toArray e)):=by
  have:=run_buildSlice (P:=P) w t e parts.length (parts.toArray.map λ(i,x)=>(i,ev f x)) us.flatten.toArray ie z h.u S T (by rw[E];omega) (by rw[E];omega) V;simp only[execOp,Sem.run_bind,this,Result.andThen_ok,Sem.run_pure]
 exact xv Y (hK _ _ (xj.alloc w _) (Lu _) (KI w _))
theorem jW {base e:Nat}{bys:Nat}[h:Sl P t e sz bys z]{v:O9}{cs:LV}(H:w.ownsRow base e sz v n cs)
  {a:Addr} {m c:Nat} {news:LV} (I:news.length=m*sz) (V:∀j u,news[j]?=some u->w.cell? (a.add j)=some u) (h1:∀u∈news,u.oneCell'=true)
  (hb:n+m<=1099511627776) (ht:bys<=128) (he:base<=↑w):
  ∃v' w',(Builtin.append_ #[t,t] ty #[v,.slice (some a) m c]).run P w=.ok v' w'/\w'.ownsRow base e sz v' (n+m) (cs++news)/\xj (ob v) w w'/\(∀b∈ob v',b∈ob v\/↑w<=b):=by
 obtain⟨i,hi,Z,O,ha⟩:=Sl.info h;have hc:(n+m)*bys<=140737488355328:=LJ (Nat.mul_le_mul hb ht) oa;have hh:n+m<=maxLen:=by simp only[maxLen];omega
 by_cases hg:∃g cap cur,v=sL g n cap/\w.heap[g]?=some (.cells cur e (0,0))/\n+m<=cap
 .obtain⟨v',w',T,ho,hv,_⟩:=run_append_own (P:=P) w base t ty e i z sz bys h.u hi Z O ha h.zs h.pos v n cs H a m c news I V h1 hh hc he;refine⟨v',w',T,ho,by rw[yT];exact xj.of_grown hv,?_⟩;obtain⟨g,cap,cur,rfl,hj,S⟩:=hg;rcases H.2 with⟨h2,_⟩|⟨g2,cap2,hp,h2,h3,h4,h5,h6,h7,h8⟩
  .cases h2
  cases h2
  have hw:n*i.size+news.length<=hp.size:=by rw[I,h7,O,<-MB];exact Ma _ S
  rw[(run_append_room (P:=P) w t ty e i h.u hi g n cap hp h4 a m c news (by rw[O];exact I) V h1 S hw)]at T;cases T
  intro b E;exact .inl E
 have new:∀(old:Nat),old<n+m->∀J,J=(Obj.cells (cs.toArray++news.toArray++Builtin.zeroCells z.cells (grownCap w (n+m) old e - (n+m))) e) ->
   (w.drew.alloc J).ownsRow base e sz (.slice (some ⟨↑w,0,none⟩) (n+m) (grownCap w (n+m) old e)) (n+m) (cs++news):=by
  intro old ho J hy;subst hy;have hge:=grownCap_ge w (n+m) old e;have hq:grownCap w (n+m) old e<=maxLen:=grownCap_le_maxLen w (n+m) old e hh;have hs:(cs++news).length=(n+m)*sz:=by rw[Ln,H.1,I,MB]
  refine⟨hs,.inr ⟨↑w,_,_,U,he,KI w.drew _,hge,hq,?_,?_⟩⟩
  .simp only[Array.size_append,Oc,size_zeroCells,h.zs,H.1,I,<-Ot];congr 1;omega
  simp only[Array.toList_append,oY];rw[<-LD,<-hs];exact List.take_left
 have stp:∀J,xj (ob v) w (w.drew.alloc J):=λJ=>⟨U,U,U,by rw[V8];exact NW _,λk hk _=>zi w.drew J k hk⟩;have fin:∀(b:Nat),b∈ob (.slice (some ⟨↑w,0,none⟩) (n+m) 0)->b∈ob v\/↑w<=b:=λb E=>by simp[ob]at E;omega
 rcases H.2 with⟨rfl,rfl⟩|⟨g,cap,cur,rfl,hB,hj,hC,hq,hD,hE⟩
 .have hx:cs=[]:=LA (oA H.1);subst hx;by_cases hm:m=0
  .subst hm;have Y:news=[]:=LA (oA I);subst Y;refine⟨nS,w,?_,QI _ _ _ _,xj.Y _ _,λb E=>by simp[ob]at E⟩;simp[Builtin.append_,run_underlying h.u,sizeOf,typeInfo,hi,Builtin.lenOf,Builtin.firstCells,loadCells,loadCellsFrom]
  have T:=run_append_nil (P:=P) w t ty e i z h.u hi Z a m c news (by rw[O];exact I) V oa oa (by rw[ha];have h0:=hc;simp only[oZ]at h0;omega);have Y:=new 0 oa _ U;simp only[oZ,Oh,Array.empty_append]at Y ⊢;exact⟨_,_,T,Y,stp _,λb E=>fin b E⟩
 have S:cap<n+m:=by
  rcases OO cap (n+m)with h9|hge
  .exact h9
  exact O3 ⟨g,cap,cur,U,hj,hge⟩ hg
 have hA:∀j u,cs[j]?=some u->w.cell? ((⟨g,0,none⟩:Addr).add j)=some u:=H.cells (g:=g) U;exact⟨_,_,(run_append_grow (P:=P) w t ty e i z h.u hi Z ⟨g,0,none⟩ n cap cs (by rw[O];exact H.1) hA a m c news (by rw[O];exact I) V S oa (growslice_fits S (by rw[ha];exact hc))),new cap S _ U,stp _,λb E=>fin b E⟩
theorem Q9 {e bys:Nat}[h:Sl P t e sz bys z]{s:xd}{base:Nat}{v:O9}{cs:LV}(E:w.ownsRow base e sz v n cs)(H:ev f s=v)
  {a:Addr} {m c:Nat} {news:LV} (I:ev f y=.slice (some a) m c) (J:news.length=m*sz) {L:LN} (O:At L ↑w a news) (S:∀u∈news,u.oneCell'=true)
  (T:n+m<=1099511627776) (V:base<=↑w)
  (hK:∀v' w',w'.ownsRow base e sz v' (n+m) (cs++news)->xj (ob v) w w'->(∀b∈ob v',b∈ob v\/↑w<=b)->K (QT f d v') w') (Y:bys<=128:=by decide):
  XO P ⟨d,.call ⟨.builtin .append,#[s,y],#[t,t]⟩,ty,pS,af,gd⟩ f w K:=by
 obtain⟨v',w',Z,h2,h3,h4⟩:=jW (P:=P) (t:=t) (ty:=ty) E J O.cells S T Y V (c:=c);have ha:(execOp (ev f) ⟨d,.call ⟨.builtin .append,#[s,y],#[t,t]⟩,ty,pS,af,gd⟩).run P w=.ok (.value v') w':=by
  simp[execOp,resolve,invoke,builtin,H,I,Z]
 exact xv ha (hK v' w' h2 h3 h4)
end
def QrN (P:xh)(t:Nat):Option (LV×LN):=match P.info? t,P.underlying t with
 | some it,some (.struct fs)=>match it.zero,fs.toList.mapM (λf=>(P.info? f.type).bind λi=>if i.size=1 then some f.offset else none)with
  | some (.agg zs),some offs=>some (zs.toList,offs)
  | _,_=>none
 | some it,some (.array n e)=>match it.zero,P.info? e with
  | some (.agg zs),some ie=>if ie.size=1 then some (zs.toList,oT n)else none
  | _,_=>none
 | _,_=>none
class Bs (P:xh)(t:Nat)(zs:outParam (LV))(offs:outParam (LN)):Prop where
 h:QrN P t=some (zs,offs):=by first|kernel_rfl|decide|rfl|exact sX (by kernel_rfl)
 b:offs.all (·<zs.length)=true:=by first|kernel_rfl|decide|rfl|exact sX (by kernel_rfl)
def bld (offs:LN)(zs:LV):List (Nat×O9)->LV
 | []=>zs
 | (j,v)::ps=>bld offs (zs.set (offs.getD j 0) v) ps
def Qpy:LV->Prop
 | []=>True
 | v::vs=>v.cells=#[v]/\Qpy vs
theorem jl {place:Nat->Option (Nat×Nat)}{offs:LN}(H:∀j,j<offs.length->place j=some (offs.getD j 0,1)):∀(ps:List (Nat×O9)) (zs:LV),Qpy (ps.map (·.2))->ps.all (λp=>p.1<offs.length)=true ->
  (∀o∈offs,o<zs.length)->Instr.fill place zs.toArray ps=some (bld offs zs ps).toArray
 | [],zs,_,_,_=>rfl
 | (j,v)::ps,zs,I,E,J=>by
  simp only[Ok,oO,decide_eq_true_eq]at E;have T:offs.getD j 0<zs.length:=J _ (by simp[oQ,Of E.1]);unfold Instr.fill;simp only[(H j E.1)];have O:v.cells=#[v]:=I.1;simp only[O];rw[O0 (by rw[show(#[v]:Array O9).size=1 from rfl,LU];simp only[ne_eq,not_true,decide_false,Bool.false_or,decide_eq_true_eq];omega)];have:(#[v]:Array O9).zipIdx.foldl (λcs (x:O9×Nat)=>cs.setIfInBounds (offs.getD j 0+x.2) x.1) zs.toArray=(zs.set (offs.getD j 0) v).toArray:=by
   simp[Array.zipIdx]
  rw[this];exact jl H ps _ I.2 E.2 (λo S=>by rw[L9];exact J o S)
theorem QfP {zs:LV}{offs:LN}(h:QrN P t=some (zs,offs))(Z:offs.all (·<zs.length)=true)(ps:List (Nat×O9))(T:Qpy (ps.map (·.2)))(V:ps.all (λp=>p.1<offs.length)=true):
  P.built t ps=some (bld offs zs ps).toArray:=by
 have Y:∀o∈offs,o<zs.length:=λo ho=>oA (My.1 Z o ho)
 unfold QrN at h;unfold Program.built;cases hi:P.info? t with
 | none=>simp[hi]at h
 | some it =>
  cases hu:P.underlying t with
  | none=>simp[hi,hu]at h
  | some dd =>
   simp only[hi,hu]at h;cases dd <;> simp only[]at h <;> try (cases h)
   case struct fs =>
    cases E:it.zero with
    | none=>simp[E]at h
    | some z =>
     cases z <;> simp only[E]at h <;> try (cases h)
     rename_i za;cases J:fs.toList.mapM (λf=>(P.info? f.type).bind λi=>if i.size=1 then some f.offset else none)with
     | none=>simp[J]at h
     | some offs' =>
      simp only[J,Option.some.injEq,Prod.mk.injEq]at h;obtain⟨rfl,rfl⟩:=h;have key:∀(l:List Field) (offs:LN),l.mapM (λf=>(P.info? f.type).bind λi=>if i.size=1 then some f.offset else none)=some offs ->
        l.mapM (λf=>(P.info? f.type).map λi=>(f.offset,i.size))=some (offs.map λo=>(o,1)):=by
       intro l;induction l with
       | nil=>intro offs h;simp at h;subst h;rfl
       | cons f l ih =>
        intro offs h;simp only[List.mapM_cons]at h ⊢;cases hf:P.info? f.type with
        | none=>simp[hf]at h
        | some i =>
         by_cases H:i.size=1
         .simp only[hf,Option.bind_some,H,if_true,Option.bind_eq_bind]at h;cases O:l.mapM (λf=>(P.info? f.type).bind λi=>if i.size=1 then some f.offset else none)with
          | none=>simp[O]at h
          | some os =>
           simp[O]at h;subst h;simp[ih os O,H]
         simp[hf,H]at h
      simp only[E,(key _ _ J),Value.cells];rw[<-jl (place:=λj=>((offs'.map λo=>(o,1)).toArray)[j]?) (λj I=>by simp[Of I,oQ]) ps za.toList T V Y]
   case array n e =>
    cases E:it.zero with
    | none=>simp[E]at h
    | some z =>
     cases z <;> simp only[E]at h <;> try (cases h)
     rename_i za;cases S:P.info? e with
     | none=>simp[S]at h
     | some ie =>
      simp only[S]at h;split at h
      .rename_i H;simp only[Option.some.injEq,Prod.mk.injEq]at h;obtain⟨rfl,rfl⟩:=h;simp only[E,S,Value.cells];rw[<-jl (place:=λi=>some (i*ie.size,ie.size)) (λj I=>by simp at I;simp[H,oQ,I]) ps za.toList T V Y]
      cases h
theorem Qv {f:Fr}{pS:String}{zs:LV}{offs:LN}[h:Bs P t zs offs]{parts:List (Nat×xd)}
  (E:Qpy (parts.map λx=>ev f x.2)) (H:parts.all (λp=>p.1<offs.length)=true:=by rfl):
  sR P f w d (.build t parts.toArray) ty pS af gd (.agg (bld offs zs (parts.map λx=>(x.1,ev f x.2))).toArray):=by
 unfold sR
 simp only[execOp,Sem.run_bind,(run_build (P:=P) w t (parts.toArray.map λ(i,x)=>(i,ev f x)) _ (by simpa using(QfP h.h h.b (parts.map λx=>(x.1,ev f x.2)) (by rw[List.map_map];exact E) (by rw[List.all_map];exact H)))),Result.andThen_ok,Sem.run_pure]
section
variable {K:Fr->O8->Prop}{f:Fr}{pS:String}{l:xK}
theorem QN {off:Nat}[Zc P t j off]{E:xd}{o:Nat}(hx:ev f E=.pointer (some ⟨b,o,none⟩))(h:XL P ops K l (QT f d (.pointer (some ⟨b,o+off,none⟩))) w)(H:Z4 ops f ⟨d,.fieldAddr t E j,ty,pS,af,gd⟩=true:=by rfl):XL P ops K (⟨d,.fieldAddr t E j,ty,pS,af,gd⟩::l) f w:=x (VD hx) h H
theorem Xe [XZ P t]{E:xd}{cs:LV}{u:O9}(H:QP ↑w b T cs)(hx:ev f E=.pointer (some ⟨b,j,none⟩))(I:cs[j]?=some u)(h:XL P ops K l (QT f d u) w)(J:Z4 ops f ⟨d,.load t E,ty,pS,af,gd⟩=true:=by rfl):XL P ops K (⟨d,.load t E,ty,pS,af,gd⟩::l) f w:=x (Qk H hx I) h J
theorem QV [Ag P t sz]{E:xd}{cs:LV}(H:QP ↑w b T cs)(hx:ev f E=sP b)(I:cs.length=sz)(h:XL P ops K l (QT f d (sT cs)) w)(J:Z4 ops f ⟨d,.load t E,ty,pS,af,gd⟩=true:=by rfl):XL P ops K (⟨d,.load t E,ty,pS,af,gd⟩::l) f w:=x (ZN H hx I) h J
theorem QE {E:xd}{e I bys:Nat}[Sl P t e I bys z]{L:LN}{cs:LV}{v:O9}{H:xI}(hA:Zk L H v n sz cs)(J:ev f E=v)(h:XL P ops K l (QT f d (sS n)) w)(O:Z4 ops f ⟨d,.call ⟨.builtin .len,#[E],#[t]⟩,ty,pS,af,gd⟩=true:=by rfl):XL P ops K (⟨d,.call ⟨.builtin .len,#[E],#[t]⟩,ty,pS,af,gd⟩::l) f w:=x (Xr hA J) h O
theorem QF {off:Nat}[Zc P t j off]{E:xd}{o:Nat}(hx:ev f E=.pointer (some ⟨b,o,none⟩)):∀w',(execOp (ev f) ⟨d,.fieldAddr t E j,ty,pS,af,gd⟩).run P w'=.ok (.value (.pointer (some ⟨b,o+off,none⟩))) w':=λ_=>VD hx
theorem Qm {off:Nat}[Zc P t j off]{E:xd}{o:Nat}{H:Nat}[XZ P H]{d2:xL}{J:Nat}{pS2:String}{O:xJ}{S:xC}{I:xd}{cs:LV}{u:O9}(hx:ev f E=.pointer (some ⟨b,o,none⟩))(V:QP ↑w b T cs)(Y:ev (QT f d (.pointer (some ⟨b,o+off,none⟩))) I=.pointer (some ⟨b,i,none⟩))(Z:cs[i]?=some u)(h:XL P ops K l (QT (QT f d (.pointer (some ⟨b,o+off,none⟩))) d2 u) w)
  (hg:Z4 ops f ⟨d,.fieldAddr t E j,ty,pS,af,gd⟩=true:=by rfl) (ha:Z4 ops (QT f d (.pointer (some ⟨b,o+off,none⟩))) ⟨d2,.load H I,J,pS2,O,S⟩=true:=by rfl):XL P ops K (⟨d,.fieldAddr t E j,ty,pS,af,gd⟩::⟨d2,.load H I,J,pS2,O,S⟩::l) f w:=QN hx (Xe V Y Z h ha) hg
theorem Zb {e bys:Nat}[Sl P t e sz bys z]{parts:List (Nat×xd)}{K:Fr->O8->Prop}(us:List (LV))(hK:∀b w',sW w w'->↑w<=b->QP ↑w' b e us.flatten->K (QT f d (sL b n n)) w')(E:parts.map (·.1)=oS 0 n:=by rfl)(H:parts.length=n:=by rfl)(I:0<n:=by decide)(J:n*sz<=1000000:=by decide)(O:yt sz (parts.map λx=>ev f x.2) us:=by first|exact(oB)|exact(oD)):XO P ⟨d,.buildSlice t n parts.toArray,ty,pS,af,gd⟩ f w K:=XQ E H I J O hK
theorem Zg {E:xd}(us:LV)(hK:∀b w',sW w w'->↑w<=b->QP ↑w' b t us->XL P ops K l (QT f d (sP b)) w')(hx:(ev f E).cells=us.toArray:=by rfl)(H:Z4 ops f ⟨d,.box t E,ty,pS,af,gd⟩=true:=by rfl):XL P ops K (⟨d,.box t E,ty,pS,af,gd⟩::l) f w:=xl H (QaD hx hK)
end
section
variable {κ:Type}[DecidableEq κ]
def xt:List (κ×O9)->κ->Option O9
 | [],_=>none
 | (k',v)::m,k=>if k'=k then some v else xt m k
def xu:List (κ×O9)->κ->O9->List (κ×O9)
 | [],k,v=>[(k,v)]
 | (k',v')::m,k,v=>if k'=k then(k',v)::m else(k',v')::xu m k v
theorem Xy (m:List (κ×O9))(k k':κ)(v:O9):xt (xu m k v) k'=if k=k' then some v else xt m k':=by
 induction m with
 | nil=>simp[xt,xu]
 | cons p m ih =>
  obtain⟨q,u⟩:=p;simp only[xu];by_cases h:q=k
  .subst h;simp[xt];by_cases E:q=k' <;> simp[E]
  simp only[h,if_false,xt,ih];by_cases E:q=k'
  .subst E;simp[Ne.symm h]
  simp[E]
def fnd (k:κ):List κ->List MapEntry->Nat->Option (Nat×O9)
 | q::ks,e::es,i=>if k=q then some (i,e.val)else fnd k ks es (i+1)
 | _,_,_=>none
end
class Key (P:xh)(kt:Nat){κ:Type}[DecidableEq κ](enc:κ->O9):Prop where
 check:∀(w:O8) (em:Bool) (k:κ),(Instr.checkKey em 10000 kt (enc k)).run P w=.ok () w
 find:∀(w:O8) (k:κ) (ks:List κ) (es:List MapEntry),es.map (·.key)=ks.map enc->(Instr.findKey kt (enc k) es).run P w=.ok (fnd k ks es 0) w
 same:∀k,Instr.sameBits 10000 (enc k) (enc k)=true
abbrev Ui (n:Int):O9:=sS n
abbrev Ju (p:Int×Int):O9:=.agg #[sS p.1,sS p.2]
abbrev J2 (s:ByteArray):O9:=.string s
theorem Qoa (hu:P.underlying kt=some (.int .i64)):Key P kt Ui:=by
 refine⟨λw em k=>?_,λw k ks es h=>?_,λk=>by simp[Instr.sameBits]⟩
 .have H:∀n,(Instr.checkKey em (n+1) kt (Ui k)).run P w=.ok () w:=λn=>by simp[Instr.checkKey,run_underlying hu]
  exact H 9999
 have key:∀(ks:LI) (es:List MapEntry) (i:Nat),es.map (·.key)=ks.map Ui->Instr.findNow (.int .i64) (Ui k) es i=some (fnd k ks es i):=by
  intro ks;induction ks with
  | nil=>intro es i h;simp at h;subst h;rfl
  | cons q ks ih =>
   intro es i h;cases es with
   | nil=>simp at h
   | cons e es =>
    simp only[oX,List.cons.injEq]at h;simp only[Instr.findNow,h.1,Instr.sameNow,Ui,if_true,fnd];by_cases E:k=q
    .subst E;simp
    have:(k == q)=false:=by simpa using E
    simp[E,this,(ih es (i+1) h.2)]
 simp[Instr.findKey,run_underlying hu,key ks es 0 h]
theorem Qn9 (hu:P.underlying kt=some .string):Key P kt J2:=by
 refine⟨λw em k=>?_,λw k ks es h=>?_,λk=>by simp[Instr.sameBits,(MapKept.bytes_beq k k).2 rfl]⟩
 .have H:∀n,(Instr.checkKey em (n+1) kt (J2 k)).run P w=.ok () w:=λn=>by simp[Instr.checkKey,run_underlying hu]
  exact H 9999
 have key:∀(ks:List ByteArray) (es:List MapEntry) (i:Nat),es.map (·.key)=ks.map J2->Instr.findNow .string (J2 k) es i=some (fnd k ks es i):=by
  intro ks;induction ks with
  | nil=>intro es i h;simp at h;subst h;rfl
  | cons q ks ih =>
   intro es i h;cases es with
   | nil=>simp at h
   | cons e es =>
    simp only[oX,List.cons.injEq]at h;simp only[Instr.findNow,h.1,Instr.sameNow,J2,fnd];by_cases E:k=q
    .subst E;simp[(MapKept.bytes_beq k k).2 rfl]
    have:(k == q)=false:=by
     cases I:(k == q)with
     | false=>rfl
     | true=>exact O3 ((MapKept.bytes_beq k q).1 I) E
    simp[E,this,(ih es (i+1) h.2)]
 simp[Instr.findKey,run_underlying hu,key ks es 0 h]
theorem yE {e:Nat}(hu:P.underlying kt=some (.array 2 e))(J:P.underlying e=some (.int .i64))(E:(P.info? e).map (·.size)=some 1)(w:O8)(p q:Int×Int):
  (Op.equal kt (Ju p) (Ju q)).run P w=.ok (decide (p=q)) w:=by
 obtain⟨a,b⟩:=p;obtain⟨c,d⟩:=q;cases hi:P.info? e with
 | none=>simp[hi]at E
 | some ie =>
  simp[hi]at E;have O:∀w,(isAgg e).run P w=.ok false w:=λw=>by simp[isAgg,run_underlying J]
  have H:∀(x y:Int) (w:O8),(part e #[sS x,sS y] 0).run P w=.ok (sS x) w:=λx y w=>by simp[part,O]
  have S:∀(x y:Int) (w:O8),(part e #[sS x,sS y] 1).run P w=.ok (sS y) w:=λx y w=>by simp[part,O]
  have I:∀(m:Nat) (x y:Int) (w:O8),(Op.equalIn (m+1) e (sS x) (sS y)).run P w=.ok (x == y) w:=λm x y w=>by simp[Op.equalIn,run_underlying J]
  simp only[Op.equal,Op.maxDepth,Ju];unfold Op.equalIn;simp only[Sem.run_bind,run_underlying hu,Result.andThen_ok,sizeOf,typeInfo,run_program,hi,Sem.run_pure,E];simp only[Std.Legacy.Range.forIn_eq_forIn_range',Std.Legacy.Range.size,OP,Nat.add_sub_cancel,Nat.div_one,OF,List.range'_zero,List.forIn_cons,List.forIn_nil,OV,Nat.one_mul,oZ];by_cases T:a=c
  .subst T;by_cases V:b=d
   .subst V;simp[H,S,I]
   simp[H,S,I,V]
  simp[H,I,T]
theorem QkG {e:Nat}(hu:P.underlying kt=some (.array 2 e))(H:P.underlying e=some (.int .i64))(E:(P.info? e).map (·.size)=some 1):Key P kt Ju:=by
 refine⟨λw em k=>?_,λw k ks es h=>?_,λk=>?_⟩
 .obtain⟨a,b⟩:=k;cases hi:P.info? e with
  | none=>simp[hi]at E
  | some ie =>
   simp[hi]at E;have J:∀w,(isAgg e).run P w=.ok false w:=λw=>by simp[isAgg,run_underlying H]
   have S:∀(x y:Int) (w:O8),(part e #[sS x,sS y] 0).run P w=.ok (sS x) w:=λx y w=>by simp[part,J]
   have T:∀(x y:Int) (w:O8),(part e #[sS x,sS y] 1).run P w=.ok (sS y) w:=λx y w=>by simp[part,J]
   have V:∀(m:Nat) (x:Int) (w:O8),(Instr.checkKey em (m+1) e (sS x)).run P w=.ok () w:=λm x w=>by simp[Instr.checkKey,run_underlying H]
   simp only[Ju];unfold Instr.checkKey;simp only[Sem.run_bind,run_underlying hu,Result.andThen_ok,sizeOf,typeInfo];simp[Std.Legacy.Range.forIn_eq_forIn_range',Std.Legacy.Range.size,OF,hi,E,S,T,V]
 .have Y:∀es i,es.map (·.key)=ks.map Ju->Instr.findNow (.array 2 e) (Ju k) es i=none\/es=[]:=by
   intro es i h;cases es with
   | nil=>exact .inr U
   | cons e es=>left;simp[Instr.findNow,Instr.sameNow]
  have ask:∀(ks:xF) (es:List MapEntry) (i:Nat),es.map (·.key)=ks.map Ju->(Instr.findAsking kt (Ju k) es i).run P w=.ok (fnd k ks es i) w:=by
   intro ks;induction ks with
   | nil=>intro es i h;simp at h;subst h;simp[Instr.findAsking,fnd]
   | cons q ks ih =>
    intro es i h;cases es with
    | nil=>simp at h
    | cons e es =>
     simp only[oX,List.cons.injEq]at h;simp only[Instr.findAsking,h.1,Sem.run_bind,yE hu H E,Result.andThen_ok,fnd];by_cases O:k=q
     .subst O;simp
     simp[O,(ih es (i+1) h.2)]
  rcases Y es 0 h with I|I
  .simp[Instr.findKey,run_underlying hu,I,ask ks es 0 h]
  subst I;have:ks=[]:=by simpa using h.symm
  subst this;simp[Instr.findKey,run_underlying hu,Instr.findNow,fnd]
 simp[Instr.sameBits]
class Mp (P:xh)(t:Nat)(kt et:outParam Nat)(z:outParam O9):Prop where
 u:P.underlying t=some (.map kt et):=by first|kernel_rfl|decide|rfl|exact sX (by kernel_rfl)
 z:(P.info? et).map (·.zero)=some (some z):=by first|kernel_rfl|decide|rfl|exact sX (by kernel_rfl)
def Yh {κ:Type}(enc:κ->O9)(H:xI)(b:Nat)(m:List (κ×O9)):Prop :=
 ∃es clock,H[b]?=some (.map es clock)/\es.toList.map (λe=>(e.key,e.val))=m.map (λp=>(enc p.1,p.2))
section
variable {κ:Type}{enc:κ->O9}
theorem Yh.lt {H:xI}{m:List (κ×O9)}(h:Yh enc H b m):b<H.size:=by
 obtain⟨es,c,E,_⟩:=h;exact(LP.1 E).1
theorem Yh.O {X:LN}{m:List (κ×O9)}(h:Yh enc ↑w b m)(E:xj X w w')(H:b∉X):Yh enc ↑w' b m:=by
 have I:=h.lt;obtain⟨es,c,J,O⟩:=h;exact⟨es,c,by rw[E.block b I H];exact J,O⟩
theorem Yh.J {m:List (κ×O9)}(h:Yh enc ↑w b m)(E:sW w w'):Yh enc ↑w' b m:=h.O E oe
theorem Qb4 {m:List (κ×O9)}{es:List MapEntry}(h:es.map (λe=>(e.key,e.val))=m.map (λp=>(enc p.1,p.2))):es.map (·.key)=(m.map (·.1)).map enc:=by
 have:=O2 (List.map Prod.fst) h;simp only[List.map_map]at this ⊢;exact this
variable [DecidableEq κ]
theorem U9 {k:κ}:∀{m:List (κ×O9)}{es:List MapEntry}{i:Nat},es.map (λe=>(e.key,e.val))=m.map (λp=>(enc p.1,p.2))->xt m k=none->fnd k (m.map (·.1)) es i=none
 | [],es,i,h,_=>by simp[fnd]
 | (q,u)::m,[],i,h,_=>by simp at h
 | (q,u)::m,e::es,i,h,E=>by
  simp only[oX,List.cons.injEq]at h;simp only[xt]at E;by_cases H:q=k
  .simp[H]at E
  simp only[H,if_false]at E;simp only[oX,fnd,Ne.symm H,if_false];exact U9 h.2 E
theorem U8 {k:κ}{u:O9}:∀{m:List (κ×O9)}{es:List MapEntry}{i:Nat},es.map (λe=>(e.key,e.val))=m.map (λp=>(enc p.1,p.2))->xt m k=some u ->
  ∃j,fnd k (m.map (·.1)) es i=some (i+j,u)/\j<es.length/\(∃e,es[j]?=some e/\e.key=enc k) /\
   ∀v,(es.modify j λe=>{ e with key:=enc k,val:=v }).map (λe=>(e.key,e.val))=(xu m k v).map (λp=>(enc p.1,p.2))
 | [],es,i,_,h=>by simp[xt]at h
 | (q,x)::m,[],i,h,_=>by simp at h
 | (q,x)::m,e::es,i,h,E=>by
  simp only[oX,List.cons.injEq,Prod.mk.injEq]at h;simp only[xt]at E;by_cases H:q=k
  .subst H;simp at E;subst E;refine⟨0,by simp[fnd,h.1.2],oe,⟨e,rfl,h.1.1⟩,λv=>?_⟩;simp[xu,h.2]
  simp only[H,if_false]at E;obtain⟨j,I,V,⟨J,O,S⟩,T⟩:=U8 (i:=i+1) h.2 E;refine⟨j+1,?_,by simp;omega,⟨J,oA O,S⟩,λv=>?_⟩
  .simp only[oX,fnd,Ne.symm H,if_false,I];congr 2;omega
  simp only[xu,H,if_false,List.modify_succ_cons,oX,T v,h.1]
end
section
variable {K:Fr->O8->Prop}{f:Fr}{pS:String}{κ:Type}[DecidableEq κ]
omit [DecidableEq κ] in
theorem YZ (enc:κ->O9)
  (hK:∀b w',sW w w'->↑w<=b->Yh enc ↑w' b []->K (QT f d (.map (some b))) w'):XO P ⟨d,.makeMap t none,ty,pS,af,gd⟩ f w K:=by
 have E:(execOp (ev f) ⟨d,.makeMap t none,ty,pS,af,gd⟩).run P w=.ok (.value (.map (some ↑w))) (w.alloc (.map #[] 0)):=by
  simp[execOp,Instr.makeMap]
 exact xv E (hK _ _ (xj.alloc w _) (Lu _) ⟨#[],0,KI w _,U⟩)
theorem Jf {es:Array MapEntry}{c:Nat}(h:w.heap[b]?=some (.map es c)):(getObj b).run P w=.ok (.map es c) w:=by
 simp[getObj,Sem.run,h]
theorem Um {es E:Array MapEntry}{c H:Nat}(h:w.heap[b]?=some (.map es c)):(setObj b (.map E H)).run P w=.ok () { w with heap:=w.heap.setIfInBounds b (.map E H) }:=by
 simp[setObj,Sem.run,h]
theorem VC [hm:Mp P t kt et z]{enc:κ->O9}[hk:Key P kt enc]{x:xd}{m:List (κ×O9)}{k:κ}(h:Yh enc ↑w b m)(hx:ev f x=.map (some b))(I:ev f y=enc k):
  sR P f w d (.lookup t x y true) ty pS af gd (match xt m k with|some u=>.tuple #[u,.bool true]|none=>.tuple #[z,.bool false]):=by
 unfold sR
 obtain⟨es,c,J,E⟩:=h;have O:(zeroValue et).run P w=.ok z w:=by
  have:=hm.z;cases hi:P.info? et with
  | none=>simp[hi]at this
  | some i=>simp[hi]at this;simp[zeroValue,typeInfo,hi,this]
 simp only[execOp,Sem.run_bind,Instr.lookup,run_underlying hm.u,Result.andThen_ok,hx,I,Jf J,Sem.run_pure,hk.check,(hk.find w k (m.map (·.1)) es.toList (Qb4 E))];cases H:xt m k with
 | none=>rw[U9 E H];simp[O]
 | some u =>
  obtain⟨j,S,_⟩:=U8 (i:=0) E H;rw[S];simp
theorem JO [hm:Mp P t kt et z]{enc:κ->O9}[hk:Key P kt enc]{x:xd}{m:List (κ×O9)}{k:κ}(h:Yh enc ↑w b m)(hx:ev f x=.map (some b))(I:ev f y=enc k):
  sR P f w d (.lookup t x y false) ty pS af gd (match xt m k with|some u=>u|none=>z):=by
 unfold sR
 obtain⟨es,c,J,E⟩:=h;have O:(zeroValue et).run P w=.ok z w:=by
  have:=hm.z;cases hi:P.info? et with
  | none=>simp[hi]at this
  | some i=>simp[hi]at this;simp[zeroValue,typeInfo,hi,this]
 simp only[execOp,Sem.run_bind,Instr.lookup,run_underlying hm.u,Result.andThen_ok,hx,I,Jf J,Sem.run_pure,hk.check,(hk.find w k (m.map (·.1)) es.toList (Qb4 E))];cases H:xt m k with
 | none=>rw[U9 E H];simp[O]
 | some u =>
  obtain⟨j,S,_⟩:=U8 (i:=0) E H;rw[S];simp
theorem yD [hm:Mp P t kt et z]{enc:κ->O9}[hk:Key P kt enc]{m:List (κ×O9)}{k:κ}{u:O9}(h:Yh enc ↑w b m):
  ∃w',(Instr.mapUpdate t (.map (some b)) (enc k) u).run P w=.ok () w'/\xj [b] w w'/\Yh enc ↑w' b (xu m k u):=by
 have O:=h.lt;obtain⟨es,c,I,E⟩:=h;have hf:=hk.find w k (m.map (·.1)) es.toList (Qb4 E);have stp:∀S T,xj [b] w { w with heap:=w.heap.setIfInBounds b (.map S T) }:=λS T =>
  ⟨rfl,rfl,rfl,oe,λi hi V=>by
   have:b≠i:=λe=>V (by simp[e]);simp[Array.getElem?_setIfInBounds_ne this]⟩
 cases H:xt m k with
 | none =>
  rw[U9 E H]at hf;refine⟨_,?_,stp (es.push { key:=enc k,val:=u,born:=c }) (c+1),es.push { key:=enc k,val:=u,born:=c },c+1,?_,?_⟩
  .simp only[Instr.mapUpdate,Sem.run_bind,run_underlying hm.u,Result.andThen_ok,Jf I,hk.check,hf,Um I]
  .simp[O]
  have Y:xu m k u=m++[(k,u)]:=by
   clear E hf;induction m with
   | nil=>rfl
   | cons p m ih =>
    obtain⟨q,x⟩:=p;by_cases J:q=k
    .simp[xt,J]at H
    simp only[xt,J,if_false]at H;simp[xu,J,ih H]
  simp[Y,E]
 | some u0 =>
  obtain⟨j,Z,ho,⟨e,he,ha⟩,hb⟩:=U8 (i:=0) E H;rw[Z]at hf;simp only[oZ]at hf;have hc:∀w,(Instr.keyThatStays (enc k) (enc k)).run P w=.ok (enc k) w:=λw=>by simp[Instr.keyThatStays,hk.same]
  have hh:((es[j]?).map (·.key)).getD (enc k)=enc k:=by
   have:es[j]?=some e:=by simpa using he
   simp[this,ha]
  refine⟨_,?_,stp (es.modify j λe=>{ e with key:=enc k,val:=u }) c,es.modify j λe=>{ e with key:=enc k,val:=u },c,?_,?_⟩
  .simp only[Instr.mapUpdate,Sem.run_bind,run_underlying hm.u,Result.andThen_ok,Jf I,hk.check,hf,hh,hc,Um I]
  .simp[O]
  rw[Array.toList_modify];exact hb u
theorem XN [hm:Mp P t kt et z]{enc:κ->O9}[hk:Key P kt enc]{x v:xd}{m:List (κ×O9)}{k:κ}(h:Yh enc ↑w b m)(hx:ev f x=.map (some b))(E:ev f y=enc k)
  (hK:∀w',xj [b] w w'->Yh enc ↑w' b (xu m k (ev f v))->K (QT f d undef) w'):XO P ⟨d,.mapUpdate t x y v,ty,pS,af,gd⟩ f w K:=by
 obtain⟨w',H,I,J⟩:=yD (P:=P) (t:=t) (k:=k) (u:=ev f v) h;exact xk (w':=w') (by simp[execOp,hx,E,H]) (hK w' I J)
theorem Jl [hm:Mp P t kt et z]{enc:κ->O9}[hk:Key P kt enc]{x v:xd}{m:List (κ×O9)}{k:κ}(h:Yh enc ↑w b m)(hx:ev f x=.map (some b))(E:ev f y=enc k)
  (hK:∀w',xj [b] w w'->Yh enc ↑w' b (xu m k (ev f v))->K (QT f d undef) w'):XO P ⟨d,.insert t x y v,ty,pS,af,gd⟩ f w K:=by
 obtain⟨w',H,I,J⟩:=yD (P:=P) (t:=t) (k:=k) (u:=ev f v) h;exact xk (w':=w') (by simp[execOp,hx,E,H]) (hK w' I J)
end
section
variable {K:Fr->O8->Prop}{f:Fr}{pS:String}{l:xK}
theorem X5 {cs cs':LV}(h:QP ↑w b T cs):QP (w.setRow b cs'.toArray).heap b T cs':=setRow_heap w b cs.toArray cs'.toArray T (0,0) h
theorem jV (cs:LV)(j:Nat)(u:O9)(h:j<cs.length):cs.take j++[u]++cs.drop (j+1)=cs.set j u:=by
 rw[List.set_eq_take_append_cons_drop,O1 h];simp
theorem Qw [h1:XZ P t]{x:xd}{cs:LV}{u:O9}(E:QP ↑w b T cs)(hx:ev f x=.pointer (some ⟨b,j,none⟩))(J:ev f y=u)(O:j<cs.length)(hu:u.oneCell'=true)
  (hK:∀w',xj [b] w w'->QP ↑w' b T (cs.set j u)->K (QT f d undef) w'):XO P ⟨d,.store t x y,ty,pS,af,gd⟩ f w K:=by
 have S:u.cells=#[u]:=by cases u <;> first|rfl|cases hu
 have I:=run_storeCells_at P b j T [u] 0 cs.toArray w E (by simp;omega) (by simp[hu]);simp only[OH,oP,jV cs j u O]at I;refine xk (w':=w.setRow b (cs.set j u).toArray) ?_ (hK _ (xj.setRow _ _ _) (X5 E));simp[execOp,hx,J,Instr.storeAt,Instr.sureAddr,storeVar,QeU,S,I]
def Zj:LV->Prop
 | []=>True
 | u::us=>u.oneCell'=true/\Zj us
theorem Zj.all:∀{us:LV},Zj us->∀u∈us,u.oneCell'=true
 | [],_,u,hu=>by cases hu
 | v::us,h,u,hu=>by
  rcases Lk.1 hu with rfl|hu
  .exact h.1
  exact Zj.all h.2 u hu
theorem ZA [h1:Ag P t sz]{x:xd}{cs us:LV}(E:QP ↑w b T cs)(hx:ev f x=sP b)(O:ev f y=sT us)(I:us.length=sz)(S:cs.length=sz)(hu:Zj us)
  (hK:∀w',xj [b] w w'->QP ↑w' b T us->K (QT f d undef) w'):XO P ⟨d,.store t x y,ty,pS,af,gd⟩ f w K:=by
 have J:=run_storeCells_at P b 0 T us 0 cs.toArray w E (by simp;omega) hu.all;have e:(cs.take 0++us++cs.drop us.length)=us:=by rw[I,<-S];simp
 simp only[OH,oZ,e]at J;refine xk (w':=w.setRow b us.toArray) ?_ (hK _ (xj.setRow _ _ _) (X5 E));subst I;simp[execOp,hx,O,Instr.storeAt,Instr.sureAddr,storeVar,qC (sz:=us.length),Value.cells,J]
theorem QO {x:xd}{e bys:Nat}[h:Sl P t e sz bys z]{o c:Nat}{k:IntKind}(hx:ev f x=.slice (some ⟨b,o,none⟩) n c)(E:ev f y=.int k i)(I:i<n):
  sR P f w d (.indexAddr t x y) ty pS af gd (.pointer (some ⟨b,o+i*sz,none⟩)):=by
 unfold sR
 have:=Xn (P:=P) (w:=w) (d:=d) (ty:=ty) (pS:=pS) (af:=af) (gd:=gd) (t:=t) hx E oa oa;rw[KP]at this;simpa using this
theorem QnO {e bys:Nat}[h:Sl P t e sz bys z]{x:xd}{k:IntKind}(hx:ev f x=.int k n)(O:ev f y=.int k' n)(S:bys*n<=281474976710656)(hn:n<=1099511627776)
  (hK:∀b w',sW w w'->↑w<=b->QP ↑w' b e (oK n z.cells.toList).flatten->K (QT f d (sL b n n)) w'):
  XO P ⟨d,.makeSlice t x y,ty,pS,af,gd⟩ f w K:=by
 obtain⟨i,hi,T,V,Y⟩:=Sl.info h;have hb:i.bytes*n<=281474976710656:=by rw[Y];exact S
 have Z:(i.bytes:Int)*(n:Int)<=281474976710656:=by
  have h:((i.bytes*n:Nat):Int)<=281474976710656:=oa
  rwa [Int.natCast_mul]at h
 have I:=run_make (P:=P) w t e i z h.u hi T k k' n n oa (Ng _) Z oa;simp only[Ov]at I;have ha:madeCells z.cells (n*i.size)=(oK n z.cells.toList).flatten.toArray:=by
  have hc:z.cells.size=i.size:=by rw[h.zs,V]
  apply Array.ext';apply Nh;intro j;simp only[madeCells,<-hc,Array.toList_map,Array.toList_range,List.getElem?_map];have he:∀n,(oK n z.cells.toList).flatten.length=n*z.cells.size:=λn=>oe
  have key:∀n j,j<n*z.cells.size->(oK n z.cells.toList).flatten[j]?=some z.cells[j % z.cells.size]!:=by
   intro n;induction n with
   | zero=>intro j E;omega
   | succ n ih =>
    intro j E;rw[List.replicate_succ,List.flatten_cons];by_cases J:j<z.cells.size
    .rw[Mo (oA J),MO J];simp[J]
    rw[MX (by simp;omega)];have:=ih (j - z.cells.size) (by rw[MB]at E;omega);rw[Array.length_toList,this];rw[<-Nat.mod_eq_sub_mod oa]
  by_cases E:j<n*z.cells.size
  .rw[key n j E];simp[E]
  rw[MS (oA (OQ E)),List.getElem?_eq_none (by rw[he];omega)];rfl
 rw[ha]at I;refine xv (w':=w.alloc (.cells (oK n z.cells.toList).flatten.toArray e)) (v:=.slice (some ⟨↑w,0,none⟩) n n) ?_ (hK _ _ (xj.alloc w _) (Lu _) (KI w _));simp[execOp,hx,O,I]
theorem KC {e bys:Nat}[h:Sl P t e sz bys z]{x:xd}{k:IntKind}(hx:ev f x=.int k n)(I:ev f y=.int k' n)(E:n<=1099511627776)
  (hK:∀b w',sW w w'->↑w<=b->QP ↑w' b e (oK n z.cells.toList).flatten->K (QT f d (sL b n n)) w') (J:bys<=128:=by decide):
  XO P ⟨d,.makeSlice t x y,ty,pS,af,gd⟩ f w K:=QnO hx I (LJ (Nat.mul_le_mul J E) oa) E hK
theorem ZM {k:IntKind}{y:Nat}{c:BoundsCode}(h:i<=y):(Instr.sliceBound (.int k i) y c).run P w=.ok i w:=by
 simp[Instr.sliceBound,asIntOf,h]
theorem Zk.cut {L:LN}{H:xI}{a:Addr}{cs:LV}(h:Zk L H (.slice (some a) n cap) n sz cs)(S:lo<=hi)(T:hi<=n):
  Zk L H (.slice (if cap=lo then some a else some (a.add (lo*sz))) (hi - lo) (cap - lo)) (hi - lo) sz ((cs.drop (lo*sz)).take ((hi - lo)*sz)):=by
 obtain⟨J,V,O⟩:=h;rcases O with⟨E,_⟩|⟨a',cap',E,Y,I⟩
 .cases E
 cases E
 refine⟨?_,oa,.inr ?_⟩
 .simp only[Ob,Oa,J,<-Nat.sub_mul];rw[Mu];exact Ma _ oa
 split
 .rename_i Z;have:hi - lo=0:=oa
  refine⟨a,cap - lo,by rw[this],oa,λu hu=>?_,λu hu=>?_,λj u hu=>?_⟩
  .simp[this]at hu
  .simp[this]at hu
  simp[this]at hu
 refine⟨a.add (lo*sz),cap - lo,U,oa,λu hu=>by rw[Yz];exact I.out u (Mf (L8 hu)),λu hu=>by rw[Yz];exact I.lt u (Mf (L8 hu)),λj u hu=>?_⟩;rw[Addr.add_add];rw[L3]at hu;split at hu
 .exact I.cell _ u (oA hu)
 cases hu
theorem QnD {e bys:Nat}[h:Sl P t e sz bys z]{x y1 y2:xd}{L:LN}{v:O9}{cs:LV}{H:xI}{k:IntKind}(hA:Zk L H v n sz cs)(hx:ev f x=v)(I:ev f y1=.int k lo)(J:ev f y2=.int k' hi)
  (S:lo<=hi) (T:hi<=n):∃v',Zk L H v' (hi - lo) sz ((cs.drop (lo*sz)).take ((hi - lo)*sz))/\∀w,sR P f w d (.slice t x (some y1) (some y2) none) ty pS af gd v':=by
 unfold sR
 obtain⟨i,O,_,V,_⟩:=Sl.info h;rcases hA.2.2 with⟨E,Y⟩|⟨a,cap,E,Z,ha⟩
 .have e1:hi=0:=oa
  have e2:lo=0:=oa
  subst e1 e2;refine⟨nS,⟨oe,oa,.inl ⟨rfl,rfl⟩⟩,λw=>?_⟩;simp[execOp,hx,E,I,J,Instr.sliceAt,Instr.slice,run_underlying h.u,Instr.sliceBounds,Instr.sliceBound,asIntOf,sizeOf,typeInfo,O]
 subst E;refine⟨_,hA.cut S T,λw=>?_⟩;have e1:(Instr.sliceBound (.int k' hi) cap .sliceAcap).run P w=.ok hi w:=ZM oa;have e2:(Instr.sliceBound (.int k lo) hi .sliceB).run P w=.ok lo w:=ZM oa;simp[execOp,hx,I,J,Instr.sliceAt,Instr.slice,run_underlying h.u,Instr.sliceBounds,e1,e2,sizeOf,typeInfo,O,V]
theorem Qde {e bys:Nat}[h:Sl P t e sz bys z]{x y1:xd}{L:LN}{v:O9}{cs:LV}{H:xI}{k:IntKind}(hA:Zk L H v n sz cs)(hx:ev f x=v)(I:ev f y1=.int k lo)
  (J:lo<=n):∃v',Zk L H v' (n - lo) sz (cs.drop (lo*sz))/\∀w,sR P f w d (.slice t x (some y1) none none) ty pS af gd v':=by
 unfold sR
 obtain⟨i,O,_,T,_⟩:=Sl.info h;rcases hA.2.2 with⟨E,V⟩|⟨a,cap,E,Y,Z⟩
 .have e2:lo=0:=oa
  subst e2 V;have:cs=[]:=LA (oA hA.1);subst this;refine⟨nS,⟨oe,oa,.inl ⟨rfl,rfl⟩⟩,λw=>?_⟩;simp[execOp,hx,E,I,Instr.sliceAt,Instr.slice,run_underlying h.u,Instr.sliceBounds,Instr.sliceBound,asIntOf,sizeOf,typeInfo,O]
 subst E;have S:=hA.cut J (Lu n);have e:(cs.drop (lo*sz)).take ((n - lo)*sz)=cs.drop (lo*sz):=Lt (by rw[L5,hA.1,<-Nat.sub_mul];exact Lu _);rw[e]at S;refine⟨_,S,λw=>?_⟩;have e2:(Instr.sliceBound (.int k lo) n .sliceB).run P w=.ok lo w:=ZM J;simp[execOp,hx,I,Instr.sliceAt,Instr.slice,run_underlying h.u,Instr.sliceBounds,e2,sizeOf,typeInfo,O,T]
theorem Qdf {e bys:Nat}[h:Sl P t e sz bys z]{x y2:xd}{L:LN}{v:O9}{cs:LV}{H:xI}{k:IntKind}(hA:Zk L H v n sz cs)(hx:ev f x=v)(I:ev f y2=.int k hi)
  (S:hi<=n):∃v',Zk L H v' hi sz (cs.take (hi*sz))/\∀w,sR P f w d (.slice t x none (some y2) none) ty pS af gd v':=by
 unfold sR
 obtain⟨i,J,_,T,_⟩:=Sl.info h;rcases hA.2.2 with⟨E,V⟩|⟨a,cap,E,Y,Z⟩
 .have e2:hi=0:=oa
  subst e2;refine⟨nS,⟨oe,oa,.inl ⟨rfl,rfl⟩⟩,λw=>?_⟩;simp[execOp,hx,E,I,Instr.sliceAt,Instr.slice,run_underlying h.u,Instr.sliceBounds,Instr.sliceBound,asIntOf,sizeOf,typeInfo,J]
 subst E;have O:=hA.cut (Lp hi) S;simp only[OV,List.drop_zero,OP]at O;refine⟨_,O,λw=>?_⟩;have e2:(Instr.sliceBound (.int k hi) cap .sliceAcap).run P w=.ok hi w:=ZM oa;simp[execOp,hx,I,Instr.sliceAt,Instr.slice,run_underlying h.u,Instr.sliceBounds,e2,sizeOf,typeInfo,J]
end
section
variable {K:Fr->O8->Prop}{C:xH}{f:Fr}{w0:O8}{pS:String}{pl:xD}{i0:Nat}
theorem pi {x:xd}{e bys:Nat}[Sl P t e sz bys z]{L:LN}{cs:LV}{v:O9}{H:xI}{k:IntKind}
  (E:Za ops i0=⟨d,.indexAddr t x y,ty,pS,af,gd⟩) (h:Zk L H v n sz cs) (I:ev f x=v) (J:ev f y=.int k i) (hi:i<n)
  (hK:∀a,At L H a ((cs.drop (i*sz)).take sz)->XP P ops C K pl (QT f d (.pointer (some a))) w) (O:Z4 ops f (Za ops i0)=true:=by rfl):
  XP P ops C K ((i0,true)::pl) f w:=by
 obtain⟨a,cap,S,T⟩:=h.at hi;refine Lg.p (λw'=>by rw[E];exact Xn (I.I S) J oa oa) ?_ O;rw[E];refine hK _ ?_;simpa using T
theorem pii {x:xd}{e bys:Nat}[Sl P t e 1 bys z]{L:LN}{li:LI}{v:O9}{H:xI}{k:IntKind}
  (E:Za ops i0=⟨d,.indexAddr t x y,ty,pS,af,gd⟩) (h:QG L H v li) (I:ev f x=v) (J:ev f y=.int k i) (hi:i<li.length)
  (hK:∀a,At L H a [sS li[i]]->XP P ops C K pl (QT f d (.pointer (some a))) w) (O:Z4 ops f (Za ops i0)=true:=by rfl):
  XP P ops C K ((i0,true)::pl) f w:=by
 obtain⟨a,cap,S,T⟩:=QG.at h hi;refine Lg.p (λw'=>by rw[E];exact Xn (I.I S) J oa oa) ?_ O;rw[E];refine hK _ ?_;simpa using T
end
abbrev Ed:=Int×Int×Int
def Qz (e:Ed):LV:=[sS e.1,sS e.2.1,sS e.2.2]
abbrev zW (L:LN)(H:xI)(v:O9)(es:List Ed):Prop:=Zk L H v es.length 3 (es.flatMap Qz)
theorem Xo {α:Type}(g:α->LV)(sz:Nat)(E:∀x,(g x).length=sz):∀(l:List α) (i:Nat) (h:i<l.length),((l.flatMap g).drop (i*sz)).take sz=g l[i]
 | x::l,0,_=>by simp[E]
 | x::l,i+1,h=>by
  have:=Xo g sz E l i (oA h);simp only[Od,List.getElem_cons_succ];rw[<-this,MB,NM,Ny,List.drop_append,E];simp[Nat.add_sub_cancel_left,List.drop_eq_nil_of_le,E]
theorem YC (g:α->LV)(sz:Nat)(E:∀x,(g x).length=sz)(l:List α):(l.flatMap g).length=l.length*sz:=by
 induction l with
 | nil=>simp
 | cons x l ih=>simp[ih,E,Ot,Nat.add_comm]
theorem Ks (e:Ed):(Qz e).length=3:=rfl
structure QU where
 al:LI
 st:Int
 mr:LI
 ed:List Ed
structure ZE (L:LN)(H:xI)(va vm ve:O9)(a:QU):Prop where
 al:QG L H va a.al
 mr:QG L H vm a.mr
 ed:zW L H ve a.ed
def Qup (L:LN)(H:xI)(v:O9)(a:QU):Prop:=∃va vm ve,v=.agg #[va,sS a.st,vm,ve]/\ZE L H va vm ve a
theorem ZE.J {L:LN}{w w':O8}{va vm ve:O9}{a:QU}(h:ZE L ↑w va vm ve a)(E:sW w w'):ZE L ↑w' va vm ve a:=⟨h.al.J E,h.mr.J E,h.ed.J E⟩
theorem ZE.st {L:LN}{w w':O8}{va vm ve:O9}{a:QU}(h:ZE L ↑w va vm ve a)(E:xj L w w'):ZE L ↑w' va vm ve a:=⟨h.al.st E,h.mr.st E,h.ed.st E⟩
theorem ZE.up {L L':LN}{H:xI}{va vm ve:O9}{a:QU}(h:ZE L H va vm ve a)(E:∀b∈L',b∈L\/H.size<=b):ZE L' H va vm ve a:=⟨h.al.up E,h.mr.up E,h.ed.up E⟩
section
variable {f:Fr}{pS:String}
class Ik (P:xh)(t:Nat)(k:outParam IntKind):Prop where
 u:P.underlying t=some (.int k):=by first|kernel_rfl|decide|rfl|exact sX (by kernel_rfl)
theorem Z8 {k:IntKind}[h:Ik P t k][h':Ik P E k']{x:xd}{n:Int}{I:IntKind}(hx:ev f x=.int I n)(J:inK k' n):
  sR P f w d (.convert t E x) ty pS af gd (.int k' n):=by
 simp[sR,execOp,hx,convert,run_underlying h.u,run_underlying h'.u,Conv.intToInt,YM J]
class St (P:xh)(t:Nat):Prop where
 u:P.underlying t=some .string
end
theorem Zz {l:List α}{k:Nat}(h:k<l.length):l.drop k=l[k]::l.drop (k+1):=LH h
theorem zW.at {L:LN}{H:xI}{v:O9}{es:List Ed}(h:zW L H v es){i:Nat}(hi:i<es.length):
  ∃a cap,v=.slice (some a) es.length cap/\At L H (a.add (i*3)) (Qz es[i]):=by
 obtain⟨a,cap,I,E⟩:=Zk.at h hi;rw[Xo Qz 3 Ks es i hi]at E;exact⟨a,cap,I,E⟩
section
variable {K:Fr->O8->Prop}{f:Fr}{pS:String}{l:xK}{C:xH}{pl:xD}{i0:Nat}
theorem xie {x:xd}{e bys:Nat}[Sl P t e 3 bys z]{L:LN}{es:List Ed}{v:O9}{k:IntKind}
  (h:zW L ↑w v es) (E:ev f x=v) (I:ev f y=.int k i) (hi:i<es.length)
  (hK:∀a,At L ↑w a (Qz es[i])->XL P ops K l (QT f d (.pointer (some a))) w) (J:Z4 ops f ⟨d,.indexAddr t x y,ty,pS,af,gd⟩=true:=by rfl):
  XL P ops K (⟨d,.indexAddr t x y,ty,pS,af,gd⟩::l) f w:=by
 obtain⟨a,cap,O,S⟩:=zW.at h hi;refine xl J (xv (Xn (E.I O) I oa oa) (hK _ ?_));simpa using S
theorem pie {x:xd}{e bys:Nat}[Sl P t e 3 bys z]{L:LN}{es:List Ed}{v:O9}{H:xI}{k:IntKind}
  (E:Za ops i0=⟨d,.indexAddr t x y,ty,pS,af,gd⟩) (h:zW L H v es) (I:ev f x=v) (J:ev f y=.int k i) (hi:i<es.length)
  (hK:∀a,At L H a (Qz es[i])->XP P ops C K pl (QT f d (.pointer (some a))) w) (O:Z4 ops f (Za ops i0)=true:=by rfl):
  XP P ops C K ((i0,true)::pl) f w:=by
 obtain⟨a,cap,S,T⟩:=zW.at h hi;refine Lg.p (λw'=>by rw[E];exact Xn (I.I S) J oa oa) ?_ O;rw[E];refine hK _ ?_;simpa using T
end
section
variable {f:Fr}{pS:String}
theorem Qdg {x:xd}{k:IntKind}{a:Int}(hx:ev f x=.int k a)(I:ev f y=.int k' n)(J:n<=k.bits):
  sR P f w d (.binOp .shr t x y E) ty pS af gd (.int k (a / 2 ^ n)):=by
 unfold sR
 refine Jk hx I ?_;have O:¬((n:Int)<0):=oa
 simp only[binOp,Op.shift,O,if_false,Ov,Nat.min_eq_left J,Sem.run_pure];rw[Int.fdiv_eq_ediv_of_nonneg _ (Int.le_of_lt (Int.pow_pos oh))]
class S3 (P:xh)(t:Nat):Prop where
 u:∃f0 f1 f2,P.underlying t=some (.struct #[f0,f1,f2])/\f0.name ≠ "_" /\ f1.name ≠ "_" /\ f2.name ≠ "_" /\ f0.offset=0/\f1.offset=1/\f2.offset=2 /\
  P.underlying f0.type=some (.int .i64)/\P.underlying f1.type=some (.int .i64)/\P.underlying f2.type=some (.int .i64)
 s:P.stoodInHeld t=false
 g:P.eqGuardType P.depth t=false
end
theorem xj.Q {L:LN}{w0:O8}(h:xj L w0 w)(k:xj [b] w w')(I:↑w0<=b):xj L w0 w':=h.G k (λc E=>.inr (by simp at E;omega))
section
variable {K:Fr->O8->Prop}{f:Fr}{pS:String}
theorem QnF {e bys:Nat}[h:Sl P t e sz bys z]{x:xd}{a:Option Addr}{c:Nat}(hx:ev f x=.slice a n c)(I:ev f y=nS):
  sR P f w d (.binOp .eql t x y E) ty pS af gd (.bool a.isNone):=by
 unfold sR
 have J:(eqGuard .eql t x y (.slice a n c) (nS)).run P w=.ok () w:=by simp[eqGuard]
 have key:∀m,(Op.equalIn (m+1) t (.slice a n c) (nS)).run P w=.ok a.isNone w:=by
  intro m;unfold Op.equalIn;cases a <;> simp[run_underlying h.u]
 have O:(Op.equal t (.slice a n c) (nS)).run P w=.ok a.isNone w:=key 9999;simp only[execOp,hx,I,Sem.run_bind,J,Result.andThen_ok,binOp,O,Sem.run_pure]
theorem QbP {e bys:Nat}[h:Sl P t e sz bys z]
  (hK:∀b w',sW w w'->↑w<=b->QP ↑w' b e []->K (QT f d (sL b 0 0)) w'):XO P ⟨d,.buildSlice t 0 #[],ty,pS,af,gd⟩ f w K:=by
 obtain⟨ie,E,J,O,_⟩:=Sl.info h;have I:(execOp (ev f) ⟨d,.buildSlice t 0 #[],ty,pS,af,gd⟩).run P w=.ok (.value (.slice (some ⟨↑w,0,none⟩) 0 0)) (w.alloc (.cells #[] e)):=by
  simp[execOp,Instr.buildSlice,run_underlying h.u,sizeOf,typeInfo,E,Instr.fill,newRow];have e0:Array.map (λ_=>(default:O9)) (Array.range 0)=#[]:=by apply Array.ext';simp
  rw[e0]
 exact xv I (hK _ _ (xj.alloc w _) (Lu _) (KI w _))
end
abbrev Qp (e base:Nat)(w:O8)(v:O9)(l:LI):Prop:=w.ownsRow base e 1 v l.length (l.map (.int .i64))
theorem Qp.ints {e base:Nat}{v:O9}{l:LI}{L:LN}(h:Qp e base w v l)(E:l.length<=1099511627776)(I:∀b∈L,b<base):QG L ↑w v l :=
 QC h E (λb J hbL=>oy (Qg h b J).1 (I b hbL))
theorem UW (l:LI):∀u∈l.map (Value.int .i64),u.oneCell'=true:=by
 intro u hu;obtain⟨n,_,rfl⟩:=Ly.1 hu;rfl
section
variable {P:xh}{ops:xK}{K:Fr->O8->Prop}{f:Fr}{w:O8}{d:xL}{ty:Nat}{pS:String}{af:xJ}{gd:xC}{l:xK}{C:xH}{pl:xD}{i0:Nat}
 {t e sz bys:Nat} {z:O9} {x y1 y2:xd} {L:LN} {v:O9} {n:Nat} {cs:LV} {H:xI} {k k':IntKind} {lo hi:Nat}
theorem QqD [h:Sl P t e sz bys z](E:Za ops i0=⟨d,.slice t x (some y1) none none,ty,pS,af,gd⟩)(hA:Zk L H v n sz cs)(hx:ev f x=v)(I:ev f y1=.int k lo)(J:lo<=n)(hK:∀v',Zk L H v' (n - lo) sz (cs.drop (lo*sz))->XP P ops C K pl (QT f d v') w)
  (O:Z4 ops f (Za ops i0)=true:=by rfl):XP P ops C K ((i0,true)::pl) f w:=by
 obtain⟨v',S,T⟩:=Qde (P:=P) (d:=d) (ty:=ty) (pS:=pS) (af:=af) (gd:=gd) (t:=t) hA hx I J;exact Lg.p (λw'=>by rw[E];exact T w') (by rw[E];exact hK v' S) O
theorem QtD [h:Sl P t e sz bys z](hA:Zk L H v n sz cs)(hx:ev f x=v)(E:ev f y1=.int k lo)(I:lo<=n)(hK:∀v',Zk L H v' (n - lo) sz (cs.drop (lo*sz))->XL P ops K l (QT f d v') w)
  (J:Z4 ops f ⟨d,.slice t x (some y1) none none,ty,pS,af,gd⟩=true:=by rfl):XL P ops K (⟨d,.slice t x (some y1) none none,ty,pS,af,gd⟩::l) f w:=by
 obtain⟨v',O,S⟩:=Qde (P:=P) (d:=d) (ty:=ty) (pS:=pS) (af:=af) (gd:=gd) (t:=t) hA hx E I;exact xl J (xv (S w) (hK v' O))
theorem QtE [h:Sl P t e sz bys z](hA:Zk L H v n sz cs)(hx:ev f x=v)(E:ev f y1=.int k lo)(I:ev f y2=.int k' hi)(J:lo<=hi)(O:hi<=n)(hK:∀v',Zk L H v' (hi - lo) sz ((cs.drop (lo*sz)).take ((hi - lo)*sz))->XL P ops K l (QT f d v') w)
  (S:Z4 ops f ⟨d,.slice t x (some y1) (some y2) none,ty,pS,af,gd⟩=true:=by rfl):XL P ops K (⟨d,.slice t x (some y1) (some y2) none,ty,pS,af,gd⟩::l) f w:=by
 obtain⟨v',T,V⟩:=QnD (P:=P) (d:=d) (ty:=ty) (pS:=pS) (af:=af) (gd:=gd) (t:=t) hA hx E I J O;exact xl S (xv (V w) (hK v' T))
theorem Qqd [h:Sl P t e sz bys z](hA:Zk L H v n sz cs)(hx:ev f x=v)(E:ev f y2=.int k hi)(I:hi<=n)(hK:∀v',Zk L H v' hi sz (cs.take (hi*sz))->XL P ops K l (QT f d v') w)
  (J:Z4 ops f ⟨d,.slice t x none (some y2) none,ty,pS,af,gd⟩=true:=by rfl):XL P ops K (⟨d,.slice t x none (some y2) none,ty,pS,af,gd⟩::l) f w:=by
 obtain⟨v',O,S⟩:=Qdf (P:=P) (d:=d) (ty:=ty) (pS:=pS) (af:=af) (gd:=gd) (t:=t) hA hx E I;exact xl J (xv (S w) (hK v' O))
end
theorem QG.drop {L:LN}{H:xI}{v:O9}{l:LI}{lo:Nat}(h:Zk L H v (l.length - lo) 1 ((l.map (Value.int .i64)).drop (lo*1))):QG L H v (l.drop lo):=by
 rw[Nat.mul_one,<-List.map_drop]at h;have e:(l.drop lo).length=l.length - lo:=L5;unfold QG;rw[e];exact h
theorem Qp.snoc {e base:Nat}{v:O9}{l:LI}{n:Int}(h:w.ownsRow base e 1 v (l.length+1) (l.map (Value.int .i64)++[sS n])):Qp e base w v (l++[n]):=by
 unfold Qp;rw[Ln,Ls];exact h
def Dj (u v:O9):Prop:=∀b∈ob u,b∉ob v
theorem Dj.symm {u v:O9}(h:Dj u v):Dj v u:=λb E hu=>h b hu E
theorem Dj.nil (v:O9):Dj (nS) v:=λb E=>by simp[ob]at E
theorem Dj.nil' (v:O9):Dj v (nS):=(Dj.nil v).symm
theorem Dj.grow {u v:O9}(h:Dj u v)(J:∀b∈ob v',b∈ob v\/N<=b)(hu:∀b∈ob u,b<N):Dj u v' :=
 λb E O=>by rcases J b O with I|I;exact h b E I;have:=hu b E;omega
theorem Q3 {base e:Nat}{v:O9}{cs:LV}(h:w.ownsRow base e sz v n cs):∀b∈ob v,b<w.heap.size:=λb E=>(Qg h b E).2
theorem QR {base e:Nat}{v:O9}{cs:LV}(h:w.ownsRow base e sz v n cs)(I:b<base):b∉ob v:=λE=>ov (Qg h b E).1
abbrev YR (e base:Nat)(w:O8)(v:O9)(l:List Ed):Prop:=w.ownsRow base e 3 v l.length (l.flatMap Qz)
theorem YR.snoc {e base:Nat}{v:O9}{l:List Ed}{n:Ed}(h:w.ownsRow base e 3 v (l.length+1) (l.flatMap Qz++Qz n)):YR e base w v (l++[n]):=by
 unfold YR;rw[Ln,LC];simpa using h
theorem YR.eds {e base:Nat}{v:O9}{l:List Ed}{L:LN}(h:YR e base w v l)(E:l.length<=1099511627776)(I:∀b∈L,b<base):zW L ↑w v l :=
 QC h E (λb J hbL=>oy (Qg h b J).1 (I b hbL))
def Xi (N:Nat)(H:xI)(v:O9)(a:QU):Prop:=∃va vm ve,v=.agg #[va,sS a.st,vm,ve]/\∀L:LN,(∀b∈L,b<N)->ZE L H va vm ve a
theorem Xi.v {N:Nat}{H:xI}{v:O9}{a:QU}(h:Xi N H v a){L:LN}(E:∀b∈L,b<N):Qup L H v a:=let⟨va,vm,ve,I,J⟩:=h;⟨va,vm,ve,I,J L E⟩
theorem Xi.J {N:Nat}{w w':O8}{v:O9}{a:QU}(h:Xi N ↑w v a)(E:sW w w'):Xi N ↑w' v a:=let⟨va,vm,ve,I,J⟩:=h;⟨va,vm,ve,I,λL O=>(J L O).J E⟩
theorem Xi.S {H:xI}{v:O9}{a:QU}(h:Xi N H v a)(hM:M<=N):Xi M H v a:=let⟨va,vm,ve,E,I⟩:=h;⟨va,vm,ve,E,λL J=>I L (λb O=>Mw (J b O) hM)⟩
section
variable {K:Fr->O8->Prop}{f:Fr}{pS:String}
theorem z8 [XZ P t]{x:xd}{l:LI}(h:QP ↑w b T (l.map (.int .i64)))(hx:ev f x=.pointer (some ⟨b,0+i*1,none⟩))(hi:i<l.length):
  sR P f w d (.load t x) ty pS af gd (sS l[i]):=Qk h hx (by simp[hi])
theorem KN [h1:XZ P t]{x:xd}{l:LI}{u:Int}(E:QP ↑w b T (l.map (.int .i64)))(hx:ev f x=.pointer (some ⟨b,0+i*1,none⟩))(I:ev f y=sS u)(hi:i<l.length)
  (hK:∀w',xj [b] w w'->QP ↑w' b T ((l.set i u).map (.int .i64))->K (QT f d undef) w'):XO P ⟨d,.store t x y,ty,pS,af,gd⟩ f w K:=by
 refine Qw E hx I (oA hi) rfl λw' J O=>hK w' J ?_;rw[NT];simpa using O
end
theorem Qdd (n:Nat)(u:O9):(oK n [u]).flatten=oK n u:=by
 induction n with
 | zero=>rfl
 | succ n ih=>simp[List.replicate_succ,ih]
section
variable {K:Fr->O8->Prop}{f:Fr}{pS:String}{l:xK}
theorem QJ [Ag P t sz]{E I:xd}{cs:LV}(us:LV)(J:QP ↑w b T cs)(hu:Zj us)(hK:∀w',xj [b] w w'->QP ↑w' b T us->XL P ops K l (QT f d undef) w')(hx:ev f E=sP b:=by rfl)(O:ev f I=sT us:=by rfl)(S:us.length=sz:=by rfl)(V:cs.length=sz:=by rfl)(Y:Z4 ops f ⟨d,.store t E I,ty,pS,af,gd⟩=true:=by rfl):XL P ops K (⟨d,.store t E I,ty,pS,af,gd⟩::l) f w:=xl Y (ZA J hx O S V hu hK)
theorem QL [Ze P t z](us:LV)(hK:∀b w',sW w w'->↑w<=b->QP ↑w' b t us->XL P ops K l (QT f d (sP b)) w')(E:z.cells=us.toArray:=by rfl)(I:Z4 ops f ⟨d,.alloc t,ty,pS,af,gd⟩=true:=by rfl):XL P ops K (⟨d,.alloc t,ty,pS,af,gd⟩::l) f w:=xl I (Jh E hK)
theorem YO {ad:Nat}{us:LV}[Ag P t sz](E:QP ↑w b T us)(I:f ad=sP b:=by rfl)(J:us.length=sz:=by rfl):∃a,f ad=.pointer (some a)/\(loadVar t a).run P w=.ok (sT us) w:=⟨_,I,ZR J (E.at (L:=[]) oe).cells⟩
theorem Ux {K:Fr->O8->Prop}[Ag P t sz]{E I:xd}{cs:LV}(us:LV)(J:QP ↑w b T cs)(hu:Zj us)(hK:∀w',xj [b] w w'->QP ↑w' b T us->K (QT f d undef) w')(hx:ev f E=sP b:=by rfl)(O:ev f I=sT us:=by rfl)(S:us.length=sz:=by rfl)(V:cs.length=sz:=by rfl):XO P ⟨d,.store t E I,ty,pS,af,gd⟩ f w K:=ZA J hx O S V hu hK
end
end Go.Lg
namespace Go.Proofs
open Go.Proofs.Tryz
open Go.Lg
instance:Sl sV 32 102 4 4 (.agg #[.int .u8 0,.int .u8 0,.int .u8 0,.int .u8 0]):={}
instance:Sl sV 37 75 3 3 (.agg #[.int .u8 0,.int .u8 0,.int .u8 0]):={}
instance:Sl sV 40 169 5 32 (.agg #[.string ByteArray.empty,.bool false,.bool false,.bool false,sS 0]):={}
instance:Sl sV 41 98 5 96 (.agg #[.string ByteArray.empty,nS,sS 0,nS,nS]):={}
instance:Sl sV 42 105 2 40 (.agg #[.string ByteArray.empty,nS]):={}
instance:Sl sV 43 110 3 48 (.agg #[.string ByteArray.empty,nS,sS 0]):={}
instance:Sl sV 58 87 2 24 (.agg #[sS 0,.string ByteArray.empty]):={}
instance:Sl sV 63 3 1 8 (sS 0):={}
instance:Sl sV 64 159 3 24 (.agg #[sS 0,sS 0,sS 0]):={}
instance:Sl sV 67 145 2 24 (.agg #[.string ByteArray.empty,sS 0]):={}
instance:Sl sV 68 147 2 24 (.agg #[.string ByteArray.empty,sS 0]):={}
instance:Sl sV 76 72 10 168 (.agg #[.bool false,sS 0,.string ByteArray.empty,nS,sS 0,nS,nS,nS,nS,sS 0]):={}
instance:Sl sV 82 92 10 184 (.agg #[sS 0,.string ByteArray.empty,sS 0,nS,sS 0,nS,nS,nS,nS,nS]):={}
instance:Sl sV 88 261 4 32 (.agg #[sS 0,sS 0,sS 0,sS 0]):={}
instance:Sl sV 103 107 2 16 (.agg #[sS 0,sS 0]):={}
instance:Sl sV 108 112 2 16 (.agg #[sS 0,sS 0]):={}
instance:Sl sV 115 70 9 160 (.agg #[sS 0,.string ByteArray.empty,nS,sS 0,nS,nS,nS,nS,sS 0]):={}
instance:Sl sV 120 150 15 304 (.agg #[sS 0,.string ByteArray.empty,sS 0,nS,sS 0,nS,nS,nS,nS,nS,nS,nS,nS,nS,nS]):={}
instance:Sl sV 123 60 3 72 (.agg #[nS,nS,nS]):={}
instance:Sl sV 124 140 1 8 (.nilFunc):={}
instance:Sl sV 148 66 4 80 (.agg #[nS,sS 0,nS,nS]):={}
instance:Sl sV 160 63 1 24 (nS):={}
instance:Sl sV 161 171 4 32 (.agg #[sS 0,sS 0,sS 0,sS 0]):={}
instance:Sl sV 178 5 1 1 (.int .u8 0):={}
instance:Sl sV 187 98 5 96 (.agg #[.string ByteArray.empty,nS,sS 0,nS,nS]):={}
instance:Sl sV 204 210 3 40 (.agg #[sS 0,sS 0,nS]):={}
instance:Sl sV 235 234 1 2 (.int .u16 0):={}
instance:Sl sV 255 4 1 1 (.bool false):={}
instance:Sl sV 286 290 3 24 (.agg #[sS 0,sS 0,.nilFunc]):={}
instance:Sl sV 320 395 1 8 (.map none):={}
instance:Sl sV 341 400 1 8 (.nilFunc):={}
instance:Sl sV 371 370 2 32 (.agg #[nS,sS 0]):={}
instance:Sl sV 412 411 2 32 (.agg #[nS,sS 0]):={}
instance:Sl sV 426 64 1 24 (nS):={}
instance:Zc sV 28 0 0:={}
instance:Zc sV 28 1 1:={}
instance:Zc sV 28 2 2:={}
instance:Zc sV 36 0 0:={}
instance:Zc sV 36 1 5:={}
instance:Zc sV 36 2 6:={}
instance:Zc sV 36 3 9:={}
instance:Zc sV 36 4 90:={}
instance:Zc sV 36 5 91:={}
instance:Zc sV 36 6 93:={}
instance:Zc sV 36 7 147:={}
instance:Zc sV 36 8 148:={}
instance:Zc sV 36 9 151:={}
instance:Zc sV 45 0 0:={}
instance:Zc sV 45 1 1:={}
instance:Zc sV 45 2 2:={}
instance:Zc sV 45 3 3:={}
instance:Zc sV 45 4 4:={}
instance:Zc sV 60 0 0:={}
instance:Zc sV 60 1 1:={}
instance:Zc sV 60 2 2:={}
instance:Zc sV 66 0 0:={}
instance:Zc sV 66 1 1:={}
instance:Zc sV 66 2 2:={}
instance:Zc sV 66 3 3:={}
instance:Zc sV 70 0 0:={}
instance:Zc sV 70 1 1:={}
instance:Zc sV 70 2 2:={}
instance:Zc sV 70 3 6:={}
instance:Zc sV 70 4 7:={}
instance:Zc sV 70 5 8:={}
instance:Zc sV 72 0 0:={}
instance:Zc sV 72 1 1:={}
instance:Zc sV 75 0 0:={}
instance:Zc sV 75 1 1:={}
instance:Zc sV 75 2 2:={}
instance:Zc sV 87 1 1:={}
instance:Zc sV 90 0 0:={}
instance:Zc sV 90 1 1:={}
instance:Zc sV 90 2 2:={}
instance:Zc sV 92 0 0:={}
instance:Zc sV 92 1 2:={}
instance:Zc sV 92 2 3:={}
instance:Zc sV 92 3 7:={}
instance:Zc sV 98 0 0:={}
instance:Zc sV 98 1 1:={}
instance:Zc sV 105 0 0:={}
instance:Zc sV 105 1 1:={}
instance:Zc sV 107 0 0:={}
instance:Zc sV 107 1 1:={}
instance:Zc sV 110 0 0:={}
instance:Zc sV 110 1 1:={}
instance:Zc sV 110 2 2:={}
instance:Zc sV 112 0 0:={}
instance:Zc sV 112 1 1:={}
instance:Zc sV 126 0 0:={}
instance:Zc sV 126 1 5:={}
instance:Zc sV 126 2 6:={}
instance:Zc sV 126 3 7:={}
instance:Zc sV 126 4 8:={}
instance:Zc sV 145 0 0:={}
instance:Zc sV 145 1 1:={}
instance:Zc sV 147 0 0:={}
instance:Zc sV 147 1 1:={}
instance:Zc sV 150 0 0:={}
instance:Zc sV 150 1 10:={}
instance:Zc sV 159 0 0:={}
instance:Zc sV 159 1 1:={}
instance:Zc sV 159 2 2:={}
instance:Zc sV 163 0 0:={}
instance:Zc sV 163 1 4:={}
instance:Zc sV 163 2 5:={}
instance:Zc sV 163 3 6:={}
instance:Zc sV 163 4 7:={}
instance:Zc sV 167 0 0:={}
instance:Zc sV 167 1 4:={}
instance:Zc sV 167 2 5:={}
instance:Zc sV 169 0 0:={}
instance:Zc sV 169 1 1:={}
instance:Zc sV 169 2 2:={}
instance:Zc sV 169 3 3:={}
instance:Zc sV 169 4 4:={}
instance:Zc sV 171 0 0:={}
instance:Zc sV 196 0 0:={}
instance:Zc sV 196 1 1:={}
instance:Zc sV 196 2 2:={}
instance:Zc sV 210 0 0:={}
instance:Zc sV 210 1 1:={}
instance:Zc sV 210 2 2:={}
instance:Zc sV 216 0 0:={}
instance:Zc sV 216 1 3:={}
instance:Zc sV 216 2 4:={}
instance:Zc sV 216 3 8:={}
instance:Zc sV 246 0 0:={}
instance:Zc sV 246 1 5:={}
instance:Zc sV 246 2 9:={}
instance:Zc sV 246 3 10:={}
instance:Zc sV 246 4 14:={}
instance:Zc sV 246 5 15:={}
instance:Zc sV 246 6 18:={}
instance:Zc sV 259 0 0:={}
instance:Zc sV 259 1 4:={}
instance:Zc sV 259 2 5:={}
instance:Zc sV 259 3 6:={}
instance:Zc sV 259 4 7:={}
instance:Zc sV 259 5 8:={}
instance:Zc sV 259 6 9:={}
instance:Zc sV 261 0 0:={}
instance:Zc sV 261 1 1:={}
instance:Zc sV 261 2 2:={}
instance:Zc sV 261 3 3:={}
instance:Zc sV 290 0 0:={}
instance:Zc sV 290 1 1:={}
instance:Zc sV 290 2 2:={}
instance:Zc sV 293 0 0:={}
instance:Zc sV 293 1 1:={}
instance:Zc sV 293 2 2:={}
instance:Zc sV 293 3 3:={}
instance:Zc sV 322 0 0:={}
instance:Zc sV 322 1 1:={}
instance:Zc sV 322 2 2:={}
instance:Zc sV 332 0 0:={}
instance:Zc sV 332 1 1:={}
instance:Zc sV 370 0 0:={}
instance:Zc sV 370 1 1:={}
instance:Zc sV 383 0 0:={}
instance:Zc sV 383 1 4:={}
instance:Zc sV 383 2 5:={}
instance:Zc sV 383 3 6:={}
instance:Zc sV 411 0 0:={}
instance:Zc sV 411 1 1:={}
instance:XZ sV 3:={}
instance:XZ sV 4:={}
instance:XZ sV 5:={}
instance:XZ sV 9:={}
instance:XZ sV 24:={}
instance:XZ sV 32:={}
instance:XZ sV 33:={}
instance:XZ sV 40:={}
instance:XZ sV 41:={}
instance:XZ sV 42:={}
instance:XZ sV 43:={}
instance:XZ sV 48:={}
instance:XZ sV 58:={}
instance:XZ sV 63:={}
instance:XZ sV 64:={}
instance:XZ sV 67:={}
instance:XZ sV 68:={}
instance:XZ sV 88:={}
instance:XZ sV 103:={}
instance:XZ sV 108:={}
instance:XZ sV 120:={}
instance:XZ sV 123:={}
instance:XZ sV 124:={}
instance:XZ sV 140:={}
instance:XZ sV 148:={}
instance:XZ sV 160:={}
instance:XZ sV 161:={}
instance:XZ sV 178:={}
instance:XZ sV 234:={}
instance:XZ sV 241:={}
instance:XZ sV 244:={}
instance:XZ sV 255:={}
instance:XZ sV 288:={}
instance:XZ sV 320:={}
instance:XZ sV 330:={}
instance:XZ sV 381:={}
instance:XZ sV 395:={}
instance:XZ sV 400:={}
instance:Ag sV 23 5:={}
instance:Ag sV 28 27:={}
instance:Ag sV 36 152:={}
instance:Ag sV 45 5:={}
instance:Ag sV 60 3:={}
instance:Ag sV 66 4:={}
instance:Ag sV 70 9:={}
instance:Ag sV 72 10:={}
instance:Ag sV 75 3:={}
instance:Ag sV 87 2:={}
instance:Ag sV 90 3:={}
instance:Ag sV 92 10:={}
instance:Ag sV 98 5:={}
instance:Ag sV 102 4:={}
instance:Ag sV 105 2:={}
instance:Ag sV 107 2:={}
instance:Ag sV 110 3:={}
instance:Ag sV 112 2:={}
instance:Ag sV 145 2:={}
instance:Ag sV 147 2:={}
instance:Ag sV 150 15:={}
instance:Ag sV 159 3:={}
instance:Ag sV 163 8:={}
instance:Ag sV 167 6:={}
instance:Ag sV 169 5:={}
instance:Ag sV 171 4:={}
instance:Ag sV 196 3:={}
instance:Ag sV 210 3:={}
instance:Ag sV 216 9:={}
instance:Ag sV 259 10:={}
instance:Ag sV 261 4:={}
instance:Ag sV 290 3:={}
instance:Ag sV 293 4:={}
instance:Ag sV 322 3:={}
instance:Ag sV 370 2:={}
instance:Ag sV 411 2:={}
instance:Ze sV 3 (sS 0):={}
instance:Ze sV 4 (.bool false):={}
instance:Ze sV 45 (.agg #[nS,nS,nS,nS,nS]):={}
instance:Ze sV 48 (sS 0):={}
instance:Ze sV 60 (.agg #[nS,nS,nS]):={}
instance:Ze sV 63 (nS):={}
instance:Ze sV 66 (.agg #[nS,sS 0,nS,nS]):={}
instance:Ze sV 70 (.agg #[sS 0,.string ByteArray.empty,nS,sS 0,nS,nS,nS,nS,sS 0]):={}
instance:Ze sV 72 (.agg #[.bool false,sS 0,.string ByteArray.empty,nS,sS 0,nS,nS,nS,nS,sS 0]):={}
instance:Ze sV 87 (.agg #[sS 0,.string ByteArray.empty]):={}
instance:Ze sV 90 (.agg #[nS,nS,nS]):={}
instance:Ze sV 92 (.agg #[sS 0,.string ByteArray.empty,sS 0,nS,sS 0,nS,nS,nS,nS,nS]):={}
instance:Ze sV 98 (.agg #[.string ByteArray.empty,nS,sS 0,nS,nS]):={}
instance:Ze sV 102 (.agg #[.int .u8 0,.int .u8 0,.int .u8 0,.int .u8 0]):={}
instance:Ze sV 105 (.agg #[.string ByteArray.empty,nS]):={}
instance:Ze sV 107 (.agg #[sS 0,sS 0]):={}
instance:Ze sV 110 (.agg #[.string ByteArray.empty,nS,sS 0]):={}
instance:Ze sV 112 (.agg #[sS 0,sS 0]):={}
instance:Ze sV 120 (nS):={}
instance:Ze sV 145 (.agg #[.string ByteArray.empty,sS 0]):={}
instance:Ze sV 147 (.agg #[.string ByteArray.empty,sS 0]):={}
instance:Ze sV 150 (.agg #[sS 0,.string ByteArray.empty,sS 0,nS,sS 0,nS,nS,nS,nS,nS,nS,nS,nS,nS,nS]):={}
instance:Ze sV 159 (.agg #[sS 0,sS 0,sS 0]):={}
instance:Ze sV 163 (.agg #[nS,sS 0,nS,nS,nS,nS,nS,nS]):={}
instance:Ze sV 167 (.agg #[nS,sS 0,nS,nS,nS,nS]):={}
instance:Ze sV 169 (.agg #[.string ByteArray.empty,.bool false,.bool false,.bool false,sS 0]):={}
instance:Ze sV 171 (.agg #[sS 0,sS 0,sS 0,sS 0]):={}
instance:Ze sV 196 (.agg #[nS,nS,nS]):={}
instance:Ze sV 210 (.agg #[sS 0,sS 0,nS]):={}
instance:Ze sV 216 (.agg #[nS,nS,nS,sS 0,nS,sS 0,nS,nS,nS]):={}
instance:Ze sV 259 (.agg #[nS,sS 0,nS,nS,nS,nS,nS,nS,nS,nS]):={}
instance:Ze sV 261 (.agg #[sS 0,sS 0,sS 0,sS 0]):={}
instance:Ze sV 290 (.agg #[sS 0,sS 0,.nilFunc]):={}
instance:Ze sV 293 (.agg #[nS,nS,nS,nS]):={}
instance:Ze sV 322 (.agg #[nS,nS,nS]):={}
instance:Ze sV 332 (.agg #[.pointer none,nS]):={}
instance:Ze sV 370 (.agg #[nS,sS 0]):={}
instance:Ze sV 411 (.agg #[nS,sS 0]):={}
instance:Bs sV 45 [nS,nS,nS,nS,nS] [0,1,2,3,4]:={}
instance:Bs sV 60 [nS,nS,nS] [0,1,2]:={}
instance:Bs sV 66 [nS,sS 0,nS,nS] [0,1,2,3]:={}
instance:Bs sV 87 [sS 0,.string ByteArray.empty] [0,1]:={}
instance:Bs sV 90 [nS,nS,nS] [0,1,2]:={}
instance:Bs sV 105 [.string ByteArray.empty,nS] [0,1]:={}
instance:Bs sV 107 [sS 0,sS 0] [0,1]:={}
instance:Bs sV 110 [.string ByteArray.empty,nS,sS 0] [0,1,2]:={}
instance:Bs sV 112 [sS 0,sS 0] [0,1]:={}
instance:Bs sV 145 [.string ByteArray.empty,sS 0] [0,1]:={}
instance:Bs sV 147 [.string ByteArray.empty,sS 0] [0,1]:={}
instance:Bs sV 159 [sS 0,sS 0,sS 0] [0,1,2]:={}
instance:Bs sV 169 [.string ByteArray.empty,.bool false,.bool false,.bool false,sS 0] [0,1,2,3,4]:={}
instance:Bs sV 171 [sS 0,sS 0,sS 0,sS 0] [0,1,2,3]:={}
instance:Bs sV 196 [nS,nS,nS] [0,1,2]:={}
instance:Bs sV 210 [sS 0,sS 0,nS] [0,1,2]:={}
instance:Bs sV 261 [sS 0,sS 0,sS 0,sS 0] [0,1,2,3]:={}
instance:Bs sV 290 [sS 0,sS 0,.nilFunc] [0,1,2]:={}
instance:Bs sV 293 [nS,nS,nS,nS] [0,1,2,3]:={}
instance:Bs sV 322 [nS,nS,nS] [0,1,2]:={}
instance:Bs sV 370 [nS,sS 0] [0,1]:={}
instance:Bs sV 396 [sS 0,sS 0] [0,1]:={}
instance:Bs sV 411 [nS,sS 0] [0,1]:={}
instance:Ik sV 3 .i64:={}
instance:Ik sV 5 .u8:={}
instance:St sV 9:=⟨underlying9⟩
instance:Ik sV 21 .i32:={}
instance:Ik sV 33 .i8:={}
instance:Ik sV 269 .u64:={}
instance:S3 sV 159:=⟨⟨_,_,_,underlying159,oh,oh,oh,U,U,U,underlying3,underlying3,underlying3⟩,od,od⟩
instance:Mp sV 192 9 4 (.bool false):={}
instance:Key sV 9 J2:=Qn9 underlying9
instance:Mp sV 207 87 150 (.agg #[sS 0,.string ByteArray.empty,sS 0,nS,sS 0,nS,nS,nS,nS,nS,nS,nS,nS,nS,nS]):={}
instance:Mp sV 208 87 4 (.bool false):={}
instance:Mp sV 244 9 3 (sS 0):={}
instance:Mp sV 375 3 374 (.nilFunc):={}
instance:Key sV 3 Ui:=Qoa underlying3
instance:Mp sV 381 3 63 (nS):={}
instance:Mp sV 395 396 3 (sS 0):={}
instance:Key sV 396 Ju:=QkG underlying396 underlying3 od
instance:Mp sV 427 3 3 (sS 0):={}
instance:Fu sV 16 f16:=Vc func16
instance:Fu sV 27 f27:=Vc func27
instance:Fu sV 30 f30:=Vc func30
instance:Fu sV 44 f44:=Vc func44
instance:Fu sV 56 f56:=Vc func56
instance:Fu sV 66 f66:=Vc func66
instance:Fu sV 130 f130:=Vc func130
instance:Fu sV 134 f134:=Vc func134
instance:Fu sV 137 f137:=Vc func137
instance:Fu sV 138 f138:=Vc func138
instance:Fu sV 141 f141:=Vc func141
instance:Fu sV 146 f146:=Vc func146
instance:Fu sV 150 f150:=Vc func150
instance:Fu sV 153 f153:=Vc func153
instance:Fu sV 159 f159:=Vc func159
instance:Fu sV 179 f179:=Vc func179
instance:Fu sV 180 f180:=Vc func180
instance:Fu sV 181 f181:=Vc func181
instance:Fu sV 185 f185:=Vc func185
instance:Fu sV 214 f214:=Vc func214
instance:Fu sV 217 f217:=Vc func217
instance:Fu sV 218 f218:=Vc func218
instance:Fu sV 219 f219:=Vc func219
instance:Fu sV 220 f220:=Vc func220
instance:Fu sV 222 f222:=Vc func222
instance:Fu sV 224 f224:=Vc func224
instance:Fu sV 226 f226:=Vc func226
instance:Fu sV 244 f244:=Vc func244
instance:Fu sV 245 f245:=Vc func245
instance:Fu sV 247 f247:=Vc func247
instance:Fu sV 253 f253:=Vc func253
instance:Fu sV 259 f259:=Vc func259
instance:Fu sV 270 f270:=Vc func270
instance:Fu sV 293 f293:=Vc func293
instance:Fu sV 295 f295:=Vc func295
instance:Fu sV 296 f296:=Vc func296
instance:Fu sV 308 f308:=Vc func308
instance:Fu sV 330 f330:=Vc func330
instance:Fu sV 332 f332:=Vc func332
theorem mixed:sV.follows .mixedOrders=true:=od
theorem ZH {all:xK}{f:Fr}{Q:Exit->Fr->O8->Prop}(L:LN)(pl:xD)(h:XP sV all (xj L w) (λf w=>Q .normal f w) pl f { w with drawn:=w.drawn+1 })(E:J6 n all=true:=by rfl)(H:yP all pl=true:=by kernel_rfl):W sV n (.region id all.toArray true) Q f w:=UF (xj L w) pl mixed E H (xj.X _ _) h
theorem brG {B:Func}(E:((((P.funcs[g]?).map Func.name).getD "") == "runtime.NumGoroutine")=false) (H:P.funcs[g]?=some { B with name:=((P.funcs[g]?).map Func.name).getD "" }):∃nm:String,(nm == "runtime.NumGoroutine")=false/\P.funcs[g]?=some { B with name:=nm }:=⟨_,E,H⟩
theorem lyS {p:Prop}(h:p:=by constructor <;> first|kernel_rfl|decide|(intro _;kernel_rfl)|(apply brG <;> kernel_rfl)|(constructor <;> first|kernel_rfl|decide|(intro _;kernel_rfl)|(apply brG <;> kernel_rfl))):p:=h
end Go.Proofs
namespace Go.Lg
section
variable {K:Fr->O8->Prop}{f:Fr}{pS:String}{l:xK}{C:xH}{pl:xD}{i0:Nat}
theorem xp {g:α->LV}{x:xd}{e bys:Nat}[Sl P t e sz bys z](H:∀x,(g x).length=sz){L:LN}{es:List α}{v:O9}{k:IntKind}
  (h:Zk L ↑w v es.length sz (es.flatMap g)) (I:ev f x=v) (J:ev f y=.int k i) (hi:i<es.length)
  (hK:∀a,At L ↑w a (g es[i])->XL P ops K l (QT f d (.pointer (some a))) w) (O:Z4 ops f ⟨d,.indexAddr t x y,ty,pS,af,gd⟩=true:=by rfl):
  XL P ops K (⟨d,.indexAddr t x y,ty,pS,af,gd⟩::l) f w:=by
 obtain⟨a,cap,S,E⟩:=Zk.at h hi;rw[Xo g sz H es i hi]at E;refine xl O (xv (Xn (I.I S) J oa oa) (hK _ ?_));simpa using E
theorem pig {g:α->LV}{x:xd}{e bys:Nat}[Sl P t e sz bys z](E:Za ops i0=⟨d,.indexAddr t x y,ty,pS,af,gd⟩)(J:∀x,(g x).length=sz){L:LN}{es:List α}{v:O9}{H:xI}{k:IntKind}
  (h:Zk L H v es.length sz (es.flatMap g)) (O:ev f x=v) (S:ev f y=.int k i) (hi:i<es.length)
  (hK:∀a,At L H a (g es[i])->XP P ops C K pl (QT f d (.pointer (some a))) w) (T:Z4 ops f (Za ops i0)=true:=by rfl):
  XP P ops C K ((i0,true)::pl) f w:=by
 obtain⟨a,cap,V,I⟩:=Zk.at h hi;rw[Xo g sz J es i hi]at I;refine Lg.p (λw'=>by rw[E];exact Xn (O.I V) S oa oa) ?_ T;rw[E];refine hK _ ?_;simpa using I
end
theorem Zk.grow {X X' Y:LN}{v:O9}{cs:LV}(h:Zk X ↑w v n sz cs)(I:xj Y w w')(J:∀b∈Y,b∈X)(O:∀b∈X',b∈X\/↑w<=b):Zk X' ↑w' v n sz cs:=by
 have E:Zk (X++X') ↑w v n sz cs:=h.up (λb H=>by
  rcases Lh.1 H with E|E
  .exact .inl E
  exact O b E)
 exact(E.O I (λb H=>Lh.2 (.inl (J b H)))).up (λb H=>.inl (Lh.2 (.inr H)))
structure AV where
 va:O9
 vm:O9
 ve:O9
 a:QU
abbrev Zq (p:AV):LV:=[p.va,sS p.a.st,p.vm,p.ve]
structure JL (L:LN)(H:xI)(v:O9)(ps:List AV):Prop where
 arr:Zk L H v ps.length 4 (ps.flatMap Zq)
 each:∀p∈ps,ZE L H p.va p.vm p.ve p.a
theorem JL.J {L:LN}{w w':O8}{v:O9}{ps:List AV}(h:JL L ↑w v ps)(E:sW w w'):JL L ↑w' v ps:=⟨h.arr.J E,λp H=>(h.each p H).J E⟩
theorem JL.st {L:LN}{w w':O8}{v:O9}{ps:List AV}(h:JL L ↑w v ps)(E:xj L w w'):JL L ↑w' v ps:=⟨h.arr.st E,λp H=>(h.each p H).st E⟩
theorem JL.up {L L':LN}{H:xI}{v:O9}{ps:List AV}(h:JL L H v ps)(E:∀b∈L',b∈L\/H.size<=b):JL L' H v ps:=⟨h.arr.up E,λp I=>(h.each p I).up E⟩
abbrev TV:=O9×LI
abbrev YT (p:TV):LV:=[p.1]
structure Kj (L:LN)(H:xI)(v:O9)(ps:List TV):Prop where
 arr:Zk L H v ps.length 1 (ps.flatMap YT)
 each:∀p∈ps,QG L H p.1 p.2
theorem Kj.J {L:LN}{w w':O8}{v:O9}{ps:List TV}(h:Kj L ↑w v ps)(E:sW w w'):Kj L ↑w' v ps:=⟨h.arr.J E,λp H=>(h.each p H).J E⟩
theorem Kj.st {L:LN}{w w':O8}{v:O9}{ps:List TV}(h:Kj L ↑w v ps)(E:xj L w w'):Kj L ↑w' v ps:=⟨h.arr.st E,λp H=>(h.each p H).st E⟩
theorem Kj.up {L L':LN}{H:xI}{v:O9}{ps:List TV}(h:Kj L H v ps)(E:∀b∈L',b∈L\/H.size<=b):Kj L' H v ps:=⟨h.arr.up E,λp I=>(h.each p I).up E⟩
def QfS (N:Nat)(H:xI)(v:O9)(l:List (LI)):Prop:=∃ps:List TV,ps.map (·.2)=l/\∀L:LN,(∀b∈L,b<N)->Kj L H v ps
theorem QfS.S {H:xI}{v:O9}{l:List (LI)}(h:QfS N H v l)(hM:M<=N):QfS M H v l:=let⟨ps,E,I⟩:=h;⟨ps,E,λL J=>I L (λb O=>Mw (J b O) hM)⟩
abbrev j8 (e base:Nat)(w:O8)(v:O9)(ps:List TV):Prop:=w.ownsRow base e 1 v ps.length (ps.flatMap YT)
theorem j8.snoc {e base:Nat}{v:O9}{ps:List TV}{p:TV}(h:w.ownsRow base e 1 v (ps.length+1) (ps.flatMap YT++[p.1])):j8 e base w v (ps++[p]):=by
 unfold j8;rw[Ln,LC];simpa using h
theorem X7 {base e:Nat}{v:O9}{cs:LV}(h:w.ownsRow base e sz v n cs)(H:0<n):∃g cap,v=sL g n cap:=by
 rcases h.2 with⟨_,I⟩|⟨g,cap,cur,E,_⟩
 .omega
 exact⟨g,cap,E⟩
section
variable {K:Fr->O8->Prop}{f:Fr}{pS:String}{l:xK}
theorem Qkf [h1:XZ P t]{x:xd}{base e:Nat}{cs:LV}{u:O9}(h:w.ownsRow base e 1 (sL g n cap) n cs)(hx:ev f x=.pointer (some ⟨g,0+i*1,none⟩))(H:ev f y=u)(hi:i<n)(hu:u.oneCell'=true)
  (hK:∀w',xj [g] w w'->w'.ownsRow base e 1 (sL g n cap) n (cs.set i u)->K (QT f d undef) w'):XO P ⟨d,.store t x y,ty,pS,af,gd⟩ f w K:=by
 obtain⟨I,h⟩:=h;rcases h with⟨J,_⟩|⟨g',cap',cur,e1,O,S,T,V,E,Y⟩
 .cases J
 cases e1
 have Z:QP ↑w g e cur.toList:=by unfold QP;simpa using S
 refine Qw (j:=i) Z (by rw[hx];simp) H (by simp[E];omega) hu λw' hs ha=>hK w' hs ⟨oA I,.inr ⟨g,cap,(cur.toList.set i u).toArray,rfl,O,ha,T,V,oA E,?_⟩⟩;rw[<-Y];simp[List.take_set]
end
section
variable {f:Fr}{pS:String}{κ:Type}[DecidableEq κ]
theorem Qax [hm:Mp P t kt et z]{enc:κ->O9}[hk:Key P kt enc]{x:xd}{m:List (κ×O9)}{k:κ}{u:O9}(h:Yh enc ↑w b m)(hx:ev f x=.map (some b))(E:ev f y=enc k)(H:xt m k=some u):
  sR P f w d (.lookup t x y true) ty pS af gd (.tuple #[u,.bool true]):=by
 unfold sR
 have:=VC (P:=P) (t:=t) (d:=d) (ty:=ty) (pS:=pS) (af:=af) (gd:=gd) h hx E;rw[H]at this;exact this
theorem Qh0 [hm:Mp P t kt et z]{enc:κ->O9}[hk:Key P kt enc]{x:xd}{m:List (κ×O9)}{k:κ}(h:Yh enc ↑w b m)(hx:ev f x=.map (some b))(E:ev f y=enc k)(H:xt m k=none):
  sR P f w d (.lookup t x y true) ty pS af gd (.tuple #[z,.bool false]):=by
 unfold sR
 have:=VC (P:=P) (t:=t) (d:=d) (ty:=ty) (pS:=pS) (af:=af) (gd:=gd) h hx E;rw[H]at this;exact this
end
def Rn (t e k:Nat):Go.Shelf.Ren:=⟨λn=>n,λ|22=>t|23=>e|25=>k|n=>n,λn=>n⟩
def fix {α:Type}(q:α->Bool):Nat->List α->Int
 | _,[]=>-1
 | i,e::l=>if q e=true then(i:Int)else fix q (i+1) l
theorem YP (q:α->Bool)(i:Nat)(a:α)(l:List α):fix q i (a::l)=if q a=true then(i:Int)else fix q (i+1) l:=rfl
structure LdE {α:Type}(e:Nat)(c:α->LV)(el:α->O9):Prop where
 ld:∀{f:Fr} {w:O8} {d:xL} {E:xd} {ty:Nat} {pS:String} {af:xJ} {gd:xC} {L:LN} {a:Addr} {q:α},At L ↑w a (c q)->ev f E=.pointer (some a)->(execOp (ev f) ⟨d,.load e E,ty,pS,af,gd⟩).run sV w=.ok (.value (el q)) w
theorem ld1 {e:Nat}[XZ sV e]{c:α->LV}{el:α->O9}(E:∀q,c q=[el q]):LdE e c el:=⟨λh hx=>Qy (by rw[<-E];exact h) hx⟩
theorem ldA {e m:Nat}[Ag sV e m]{c:α->LV}(E:∀q,(c q).length=m):LdE e c λq=>sT (c q):=⟨λh hx=>Qu h hx (E _)⟩
abbrev U5 (n:Int):LV:=[sS n]
theorem Qk4 (n:Int):(U5 n).length=1:=rfl
theorem QpZ:∀l:LI,l.flatMap U5=l.map (.int .i64)
 | []=>rfl
 | a::l=>by rw[LQ,QpZ l];rfl
theorem QG.fl {L:LN}{H:xI}{v:O9}{l:LI}(h:QG L H v l):Zk L H v l.length 1 (l.flatMap U5):=by rw[QpZ];exact h
theorem Qgw {c:α->LV}(h:∀q,Zj (c q))(l:List α):∀u∈l.flatMap c,u.oneCell'=true:=λu hu=>by
 obtain⟨q,_,E⟩:=Mr.1 hu;exact(h q).all u E
theorem yj {α:Type}(q:α->Bool):∀(l:List α) (i:Nat),decide (0<=fix q i l)=l.any q
 | [],i=>rfl
 | a::l,i=>by
  rw[YP,List.any_cons];cases h:q a with
  | true=>rw[O1 rfl];simp
  | false=>rw[O0 oh,yj q l (i+1)];rfl
def IxQ {α:Type}(q:α->Bool)(es:List α)(r:O9):Prop:=(r=sS (-1)/\∀m (E:m<es.length),q (es[m]'E)=false)\/∃(i:Nat) (hi:i<es.length),r=sS i/\q (es[i]'hi)=true/\∀m (E:m<i),q (es[m]'oa)=false
theorem Qcf {α:Type}(q:α->Bool):∀(l:List α) (i:Nat),(fix q i l=-1/\∀m (E:m<l.length),q (l[m]'E)=false)\/∃k,∃hk:k<l.length,fix q i l=((i+k:Nat):Int)/\q (l[k]'hk)=true/\∀m (E:m<k),q (l[m]'oa)=false
 | [],i=>.inl ⟨U,λm E=>by cases E⟩
 | a::l,i=>by
  rw[YP];cases h:q a with
  | true=>exact .inr ⟨0,oe,rfl,h,λm E=>by cases E⟩
  | false =>
   rcases Qcf q l (i+1)with⟨H,I⟩|⟨k,hk,H,I,J⟩
   .exact .inl ⟨H,λm E=>by cases m with|zero=>exact h|succ m=>exact I m (oA E)⟩
   exact .inr ⟨k+1,oA hk,by rw[O0 oh,H];congr 1;omega,I,λm E=>by cases m with|zero=>exact h|succ m=>exact J m oa⟩
theorem Qon (q:α->Bool)(l:List α):IxQ q l (sS (fix q 0 l)):=by
 rcases Qcf q l 0 with⟨E,H⟩|⟨k,hk,E,H,I⟩
 .exact .inl ⟨by rw[E],H⟩
 exact .inr ⟨k,hk,by rw[E,LS],H,I⟩
section
variable {e m bys:Nat}[hS:Sl sV t e m bys z]{L L':LN}{v:O9}
include hS in
theorem J9 (Y:Bears sV n (SlBodyN.n41 (Rn t e 0))){k:Nat}{cs:LV}(h:Zk L ↑w v k m cs)(Z:∀u∈cs,u.oneCell'=true)(hb:bys<=128:=by decide):
  QZ sV n [v] w λr w'=>sW w w'/\w'.ownsRow ↑w e m r k cs:=by
 obtain⟨nm,_,hf⟩:=Y;obtain⟨ρ,hρ,ha⟩:∃ρ,Rn t e 0=ρ/\ρ.t 22=t:=⟨_,U,U⟩;rw[hρ]at hf;clear hρ;subst ha;have hg:=h.le;refine QZ.of_W hf U (n:=8) U U oe ?_;refine Qc<|Qb ?_;obtain⟨ao,cap,H⟩:=h.shape;refine Qd<|Qj<|x (QnF (show ev _ _=_ from H) U)<|xe<|Q6 rfl (λJ=>?_) (λJ=>?_)
 .refine Qc<|Qb<|Qi ⟨[nS],Lb,xj.Y _ _,?_⟩;rcases h.2.2 with⟨E,I⟩|⟨a,c,E,_⟩
  .have O:cs=[]:=LA (by rw[h.1,I];simp);subst O I;exact QI _ _ _ _
  rw[E]at H;cases H;cases J
 rcases h.2.2 with⟨E,I⟩|⟨a,c,E,I,O⟩
 .rw[E]at H;injection H with e1;subst e1;cases J
 refine Qe<|Qc<|Qo<|QbP λb5 w1 S T V=>Qa<|Qo<|Q9 (base:=↑w) (V.own (n:=0) (sz:=m) oe oa T) rfl (show ev _ _=_ from E) h.1 (O.J S) Z oa (ov V.lt) (λv2 w2 hc he hh=>Qb ?_) hb;refine Qi ⟨[v2],Lb,S.Q he T,?_⟩;simpa[tup]using hc
include hS in
theorem ixG {c:α->LV}{el:α->O9}{k:Nat}(V:Bears sV n (SlBodyH.n6 (Rn t e k)))(Y:∀q,(c q).length=m)(Z:LdE e c el)[Fu sV gp fn]{cap:LV}{q:α->Bool}{l:List α}(h:Zk L ↑w v l.length m (l.flatMap c))
  (hk:∀e∈l,∀H:O8,sW w H->QZ sV gp ([el e]++cap) H λr w'=>r=.bool (q e)/\sW H w'):
  QZ sV n [v,.func (.func gp) #[] cap.toArray] w λr w'=>r=sS (fix q 0 l)/\sW w w':=by
 obtain⟨nm,_,hf⟩:=V;obtain⟨ρ,hρ,ha,hb⟩:∃ρ,Rn t e k=ρ/\ρ.t 22=t/\ρ.t 23=e:=⟨_,U,U,U⟩;rw[hρ]at hf;clear hρ;subst ha hb;have hi:=h.le;refine QZ.of_W hf U (n:=19) U U oe ?_;refine Qc<|Qb<|Qd<|Qj<|QE h U<|Qa<|xe<|Q2 (α:=Nat) [(4,5),(8,18)] (λz=>[(8,sS z)]) (λz w'=>z<=l.length/\sW w w'/\fix q z (l.drop z)=fix q 0 l) (λz=>l.length - z) 0 Lb
  ⟨Lp _,xj.Y _ _,U⟩ ?_
 rintro k g H ⟨hk1,I,E⟩;refine Zi rfl U (λO=>?_) (λO=>?_)
 .refine Qt ?_;have he:l.length<=k:=by have hg:¬(k:Int)<(l.length:Int):=O;omega
  rw[Lx he]at E;refine Qc<|Qb<|Qi ⟨[_],Lb,by rw[<-E];rfl,I⟩
 have J:k<l.length:=by have hg:(k:Int)<(l.length:Int):=O;omega
 rw[Zz J,YP]at E;refine Qe<|Qd<|Qn<|Qj<|Qb<|Qj<|Qa<|Qa<|xp Y (h.J I) U U J λhj hh=>?_;refine x (Z.ld hh U)<|Qo<|xc (first:=[]) (capt:=cap) U<|(hk _ (Lm J) H I).S ?_;rintro r2 w2 ⟨rfl,T⟩;refine xe<|Q6 rfl (λS=>?_) (λS=>?_)
 .rw[O1 S]at E;refine Qj<|Qb<|Qi ⟨[_],Lb,by rw[<-E];rfl,I.I T⟩
 rw[O0 (by rw[S];decide)]at E;refine Qe<|Qq<|QH U U<|Qa<|xe ?_;exact⟨k+1,oa,Lb,J,I.I T,E⟩
include hS in
theorem eqG [DecidableEq α]{c:α->LV}{el:α->O9}(hB:Bears sV n (SlBodyN.n33 (Rn t e 0)))(E:∀q,(c q).length=m)(V:LdE e c el){l l':List α}(h:Zk L ↑w v l.length m (l.flatMap c))(H:Zk L' ↑w v' l'.length m (l'.flatMap c))
  (hn:∀{f:Fr} {w:O8} {d:xL} {X Y:xd} {ty:Nat} {pS:String} {af:xJ} {gd:xC} {a b:α},a∈l->b∈l'->ev f X=el a->ev f Y=el b->(execOp (ev f) ⟨d,.binOp .neq e X Y e,ty,pS,af,gd⟩).run sV w=.ok (.value (.bool (decide (a≠b)))) w):
  QZ sV n [v,v'] w λr w'=>r=.bool (decide (l=l'))/\sW w w':=by
 obtain⟨nm,_,hf⟩:=hB;obtain⟨ρ,hρ,hb,he⟩:∃ρ,Rn t e 0=ρ/\ρ.t 22=t/\ρ.t 23=e:=⟨_,U,U,U⟩;rw[hρ]at hf;clear hρ;subst hb he;have hj:=h.le;refine QZ.of_W hf U (n:=26) U U oe ?_;refine Qc<|Qb<|Qd<|Qj<|QE h U<|Qa<|QE H U<|Zu U U<|xe<|QY rfl (λZ=>?_) (λZ=>?_)
 .refine Qc<|Qb<|Qi ⟨[.bool false],Lb,?_,xj.Y _ _⟩;have:l≠l':=λe=>Z (by rw[e]);simp[tup,this]
 refine Qe<|Qd<|Qj<|QE h U<|Qa<|xe<|Q2 (α:=Nat) [(4,5),(13,25)] (λk=>[(13,sS k)]) (λk w'=>sW w w'/\k<=l.length/\(l=l'↔l.drop k=l'.drop k)) (λk=>l.length - k) 0 Lb ⟨xj.Y _ _,Lp _,oe⟩ ?_;rintro k g w1 ⟨I,hk,J⟩
 replace h:=h.J I
 replace H:=H.J I;refine Zi rfl U (λhg=>?_) (λhg=>?_)
 .refine Qt<|Qc<|Qb<|Qi ⟨[.bool true],Lb,?_,I⟩;rw[Lx oa,Lx oa]at J;simp[tup,J]
 have O:k<l.length:=oa
 have S:k<l'.length:=oa
 refine Qe<|Qd<|Qn<|Qj<|Qb<|Qd<|ZH [] (Xf 0 9 [])<|p QA<|p QA<|Lg.pig U E h U U O λho hh=>pq (λ_ E=>V.ld (hh.J E) U) <|
  p QA<|p QA<|Lg.pig U E H U U S λhp hi=>pq (λ_ E=>V.ld (hi.J E) U)<|p (λ_=>hn (Lm O) (Lm S) U U)<|pe ?_
 have ha:=I.I (xj.X [] w1);refine QY rfl (λT=>?_) (λT=>?_)
 .refine Qc<|Qb<|Qi ⟨[.bool false],Lb,?_,ha⟩;have:l≠l':=λe=>T (by subst e;rfl);simp[tup,this]
 refine Qe<|Qq<|QH U U<|Qa<|xe<|⟨k+1,oa,Lb,ha,oa,?_⟩;rw[J,Zz O,Zz S,Lq.1 T];exact⟨λh=>(List.cons.inj h).2,λh=>by rw[h]⟩
end
def xw (es:List Ed)(s e:Int):Int:=match es with
 | []=>-1
 | x::es=>if x.1=s/\x.2.1=e then x.2.2 else xw es s e
section
def eqV:O9->O9->Bool
 | .int _ a,.int _ b=>a == b
 | .string a,.string b=>a == b
 | .bool a,.bool b=>a == b
 | _,_=>false
def tvB:LN->LV->LV->Bool
 | [],[],[]=>true
 | 0::ks,oG oH _::xs,oG oH _::ys=>tvB ks xs ys
 | 1::ks,.string _::xs,.string _::ys=>tvB ks xs ys
 | 2::ks,.bool _::xs,.bool _::ys=>tvB ks xs ys
 | _,_,_=>false
def Kh:LV->LV->Bool
 | x::xs,y::ys=>eqV x y && Kh xs ys
 | _,_=>true
inductive Fks (P:xh):Nat->List Field->LN->Prop
 | nil {o:Nat}:Fks P o [] []
 | int {o:Nat} {f:Field} {fs:List Field} {ks:LN} (hn:f.name ≠ "_") (ho:f.offset=o) (hu:P.underlying f.type=some (.int .i64)) (h:Fks P (o+1) fs ks):Fks P o (f::fs) (0::ks)
 | str {o:Nat} {f:Field} {fs:List Field} {ks:LN} (hn:f.name ≠ "_") (ho:f.offset=o) (hu:P.underlying f.type=some .string) (h:Fks P (o+1) fs ks):Fks P o (f::fs) (1::ks)
 | flag {o:Nat} {f:Field} {fs:List Field} {ks:LN} (hn:f.name ≠ "_") (ho:f.offset=o) (hu:P.underlying f.type=some .bool) (h:Fks P (o+1) fs ks):Fks P o (f::fs) (2::ks)
theorem yb {k:Nat}{v:O9}{l:LV}(h:∀w,(isAgg t).run P w=.ok false w)(hk:l[k]?=some v)(w:O8):(part t l.toArray k).run P w=.ok v w:=by
 have e:l.toArray[k]?=some v:=by simpa using hk
 simp[part,h w,e]
theorem jp {d o:Nat}{f:Field}{fs:List Field}{x y:O9}{xs ys X Y:LV}(J:f.name ≠ "_") (O:f.offset=o) (E:∀w,(isAgg f.type).run P w=.ok false w) (S:∀m w,(Op.equalIn (m+1) f.type x y).run P w=.ok (eqV x y) w)
  (H:X.drop o=x::xs) (I:Y.drop o=y::ys) (ih:X.drop (o+1)=xs->Y.drop (o+1)=ys->∀w,(Op.eqFields (d+1) X.toArray Y.toArray fs).run P w=.ok (Kh xs ys) w) (w:O8):
  (Op.eqFields (d+1) X.toArray Y.toArray (f::fs)).run P w=.ok (Kh (x::xs) (y::ys)) w:=by
 have hx:X[o]?=some x:=by rw[<-List.head?_drop,H];rfl
 have T:Y[o]?=some y:=by rw[<-List.head?_drop,I];rfl
 have V:X.drop (o+1)=xs:=by rw[<-List.tail_drop,H];rfl
 have Z:Y.drop (o+1)=ys:=by rw[<-List.tail_drop,I];rfl
 simp only[Op.eqFields,J,ne_eq,not_false_eq_true,if_true,Sem.run_bind,O,yb E hx,yb E T,S,Result.andThen_ok,Sem.run_ite,Kh];cases hv:eqV x y with
 | false=>simp
 | true=>simpa using ih V Z w
theorem Fks.run {d:Nat}{o:Nat}{fs:List Field}{ks:LN}(h:Fks P o fs ks):∀{xs ys X Y:LV},tvB ks xs ys=true->X.drop o=xs->Y.drop o=ys->∀w,(Op.eqFields (d+1) X.toArray Y.toArray fs).run P w=.ok (Kh xs ys) w:=by
 induction h with
 | nil =>
  intro xs ys X Y E _ _ w;cases xs with
  | nil=>simp[Op.eqFields,Kh]
  | cons x xs=>cases ys <;> simp[tvB]at E
 | @int o f fs ks H I hu h ih =>
  intro xs ys X Y E J O w
  match xs,ys,E with
  | oG oH a::xs,oG oH b::ys,E=>exact jp H I (λw=>by simp[isAgg,run_underlying hu]) (λm w=>by simp[Op.equalIn,run_underlying hu,eqV]) J O (λS T=>ih E S T) w
 | @str o f fs ks H I hu h ih =>
  intro xs ys X Y E J O w
  match xs,ys,E with
  | .string a::xs,.string b::ys,E=>exact jp H I (λw=>by simp[isAgg,run_underlying hu]) (λm w=>by simp[Op.equalIn,run_underlying hu,eqV]) J O (λS T=>ih E S T) w
 | @flag o f fs ks H I hu h ih =>
  intro xs ys X Y E J O w
  match xs,ys,E with
  | .bool a::xs,.bool b::ys,E=>exact jp H I (λw=>by simp[isAgg,run_underlying hu]) (λm w=>by simp[Op.equalIn,run_underlying hu,eqV]) J O (λS T=>ih E S T) w
class Sk (P:xh)(t:Nat)(ks:outParam (LN)):Prop where
 u:∃fs:List Field,P.underlying t=some (.struct fs.toArray)/\Fks P 0 fs ks
 s:P.stoodInHeld t=false
 g:P.eqGuardType P.depth t=false
theorem JA {ks:LN}[h:Sk P t ks]{xs ys:LV}(I:tvB ks xs ys=true)(w:O8):(Op.equal t (sT xs) (sT ys)).run P w=.ok (Kh xs ys) w:=by
 obtain⟨fs,E,hk⟩:=h.u;have hf:P.fieldsOf t=fs.toArray:=by unfold Program.fieldsOf;rw[E]
 have hu:P.underlying t=some (.struct (P.fieldsOf t)):=by rw[hf];exact E
 have H:=run_equalIn_struct (P:=P) w 9999 t xs.toArray ys.toArray hu h.s;rw[hf]at H;exact H.I (hk.run (d:=9998) I U U w)
instance {t:Nat}[h:S3 P t]:Sk P t [0,0,0]:=let⟨f0,f1,f2,hu,E,n1,H,I,o1,o2,J,O,u2⟩:=h.u;⟨⟨[f0,f1,f2],hu,.int E I J<|.int n1 o1 O<|.int H o2 u2 .nil⟩,h.s,h.g⟩
theorem Qlz (p q:Ed):Kh (Qz p) (Qz q)=decide (p=q):=by
 rw[NU];simp only[Qz,Kh,eqV,oO,beq_iff_eq,decide_eq_true_eq,Prod.ext_iff,and_true]
theorem QbE [S3 P t](w:O8)(p q:Ed):(Op.equal t (sT (Qz p)) (sT (Qz q))).run P w=.ok (decide (p=q)) w:=by
 rw[<-Qlz];exact JA U w
variable {f:Fr}{pS:String}
theorem Qj4 {ks:LN}[h:Sk P t ks]{x:xd}{xs ys:LV}(H:tvB ks xs ys=true)(hx:ev f x=sT xs)(I:ev f y=sT ys):
  sR P f w d (.binOp .eql t x y E) ty pS af gd (.bool (Kh xs ys)):=by
 unfold sR
 have J:(eqGuard .eql t x y (sT xs) (sT ys)).run P w=.ok () w:=by simp[eqGuard,h.g]
 simp only[execOp,hx,I,Sem.run_bind,J,Result.andThen_ok,binOp,JA H,Sem.run_pure]
theorem JW {ks:LN}[h:Sk P t ks]{x:xd}{xs ys:LV}(H:tvB ks xs ys=true)(hx:ev f x=sT xs)(I:ev f y=sT ys):
  sR P f w d (.binOp .neq t x y E) ty pS af gd (.bool (!Kh xs ys)):=by
 unfold sR
 have J:(eqGuard .neq t x y (sT xs) (sT ys)).run P w=.ok () w:=by simp[eqGuard,h.g]
 simp only[execOp,hx,I,Sem.run_bind,J,Result.andThen_ok,binOp,JA H,Sem.run_pure]
theorem UU [S3 P t]{x:xd}{p q:Ed}(hx:ev f x=sT (Qz p))(H:ev f y=sT (Qz q)):
  sR P f w d (.binOp .neq t x y E) ty pS af gd (.bool (decide (¬p=q))):=
 (JW U hx H).I (by rw[Qlz];simp)
end
abbrev kKy (k:Int×ByteArray):O9:=.agg #[sS k.1,.string k.2]
theorem Qn8 (k k':Int×ByteArray):Kh [sS k.1,.string k.2] [sS k'.1,.string k'.2]=decide (k=k'):=by
 obtain⟨a,b⟩:=k;obtain⟨c,e⟩:=k';have E:(b == e)=decide (b=e):=by
  cases E:(b == e)with
  | true=>exact(O4 ((MapKept.bytes_beq b e).1 E)).symm
  | false=>exact(O6 λh=>by rw[(MapKept.bytes_beq b e).2 h]at E;cases E).symm
 simp only[Kh,eqV,E,Bool.and_true,Prod.mk.injEq];by_cases H:a=c
 .subst H;simp
 simp[H]
theorem QqU {f0 f1:Field}[h:Sk P kt [0,1]](hu:P.underlying kt=some (.struct #[f0,f1]))(S:f0.name ≠ "_") (n1:f1.name ≠ "_") (T:f0.offset=0) (o1:f1.offset=1) (H:P.underlying f0.type=some (.int .i64)) (I:P.underlying f1.type=some .string):Key P kt kKy:=by
 have V:∀w,(isAgg f0.type).run P w=.ok false w:=λw=>by simp[isAgg,run_underlying H]
 have Y:∀w,(isAgg f1.type).run P w=.ok false w:=λw=>by simp[isAgg,run_underlying I]
 refine⟨λw em k=>?_,λw k ks es J=>?_,λk=>?_⟩
 .obtain⟨a,b⟩:=k;have Z:∀w,(part f0.type #[sS a,.string b] 0).run P w=.ok (sS a) w:=λw=>yb (l:=[sS a,.string b]) (k:=0) V U w;have p1:∀w,(part f1.type #[sS a,.string b] 1).run P w=.ok (.string b) w:=λw=>yb (l:=[sS a,.string b]) (k:=1) Y U w;have c0:∀(m:Nat) (w:O8),(Instr.checkKey em (m+1) f0.type (sS a)).run P w=.ok () w:=λm w=>by simp[Instr.checkKey,run_underlying H]
  have c1:∀(m:Nat) (w:O8),(Instr.checkKey em (m+1) f1.type (.string b)).run P w=.ok () w:=λm w=>by simp[Instr.checkKey,run_underlying I]
  simp only[kKy];unfold Instr.checkKey;simp only[Sem.run_bind,run_underlying hu,Result.andThen_ok];simp[S,n1,T,o1,Z,p1,c0,c1]
 .have ask:∀(ks:List (Int×ByteArray)) (es:List MapEntry) (i:Nat),es.map (·.key)=ks.map kKy->(Instr.findAsking kt (kKy k) es i).run P w=.ok (fnd k ks es i) w:=by
   intro ks;induction ks with
   | nil=>intro es i h;simp at h;subst h;simp[Instr.findAsking,fnd]
   | cons q ks ih =>
    intro es i E;cases es with
    | nil=>simp at E
    | cons e es =>
     simp only[oX,List.cons.injEq]at E;have O:=JA (P:=P) (t:=kt) (xs:=[sS k.1,.string k.2]) (ys:=[sS q.1,.string q.2]) U w;rw[Qn8]at O;have ha:(Op.equal kt (kKy k) (kKy q)).run P w=.ok (decide (k=q)) w:=O;simp only[Instr.findAsking,E.1,Sem.run_bind,ha,Result.andThen_ok,fnd];by_cases hk:k=q
     .subst hk;simp
     simp[hk,(ih es (i+1) E.2)]
  cases es with
  | nil =>
   have:ks=[]:=by simpa using J.symm
   subst this;simp[Instr.findKey,run_underlying hu,Instr.findNow,fnd]
  | cons e es =>
   have hn:Instr.findNow (.struct #[f0,f1]) (kKy k) (e::es) 0=none:=by simp[Instr.findNow,Instr.sameNow]
   simp only[Instr.findKey,Sem.run_bind,run_underlying hu,Result.andThen_ok,hn];exact ask ks (e::es) 0 J
 simp[Instr.sameBits,(MapKept.bytes_beq k.2 k.2).2 rfl]
abbrev Yp (l:LI):Prop:=l.Pairwise (·<·)
def j0:Option Int->Int->Bool
 | none,_=>false
 | some b,a=>decide (a<=b)
def Kv (n:Int):Option Int->LI->Int
 | _,[]=>0
 | pr,a::l=>if a<0\/n<=a then 2 else if j0 pr a=true then 5 else Kv n (some a) l
def pv {α:Type}(l:List α)(k:Nat):Option α:=if k=0 then none else l[k - 1]?
theorem VV {l:List α}{k:Nat}(h:k<l.length):pv l (k+1)=some l[k]:=by simp[pv,h]
def edO:Option Ed->Ed->Bool
 | none,_=>false
 | some y,a=>decide (a.1<y.1\/(a.1=y.1/\a.2.1<=y.2.1))
def ckE (al:LI)(st:Int):Option Ed->List Ed->Int
 | _,[]=>0
 | pr,a::l=>if a.1<0\/st<=a.1\/a.2.2<0\/st<=a.2.2 then 2 else if a.2.1∉al then 9 else if edO pr a=true then 5 else ckE al st (some a) l
def Jt (a:QU):Int :=
 if Kv 32 none a.al≠0 then Kv 32 none a.al else if a.st<0 then 2 else if 4096<a.st then 3 else if Kv a.st none a.mr≠0 then Kv a.st none a.mr else ckE a.al a.st none a.ed
def JF:LI->LI->Bool
 | [],_=>false
 | _::_,[]=>true
 | a::_,b::_=>decide (a<=b)
def tl (c:Bool)(l:LI):LI:=bif c then l.tail else l
def hx (a b:LI):Int:=bif JF b a then b.headD 0 else a.headD 0
def jZ (keep:Bool->Bool->Bool):Nat->LI->LI->LI
 | 0,_,_=>[]
 | n+1,a,b=>if a=[]/\b=[]then[]else(bif keep (JF a b) (JF b a)then[hx a b]else[])++jZ keep n (tl (JF a b) a) (tl (JF b a) b)
def mrg (keep:Bool->Bool->Bool)(a b:LI):LI:=jZ keep (a.length+b.length) a b
theorem jd {a b:LI}(h:¬(a=[]/\b=[])):(tl (JF a b) a).length+(tl (JF b a) b).length<a.length+b.length:=by
 cases a with
 | nil=>cases b with
  | nil=>simp at h
  | cons y b=>simp[JF,tl]
 | cons x a=>cases b with
  | nil=>simp[JF,tl]
  | cons y b =>
   simp only[JF,tl];by_cases E:x<=y <;> by_cases H:y<=x <;> simp[E,H] <;> omega
theorem QaH (keep:Bool->Bool->Bool):∀(n:Nat) (a b:LI),a.length+b.length<=n->jZ keep n a b=mrg keep a b:=by
 have key:∀(n m:Nat) (a b:LI),a.length+b.length<=n->a.length+b.length<=m->jZ keep n a b=jZ keep m a b:=by
  intro n;induction n with
  | zero =>
   intro m a b E _;have H:a=[]:=LA oa;have I:b=[]:=LA oa;subst H I;cases m <;> simp[jZ]
  | succ n ih =>
   intro m a b E J;by_cases h:a=[]/\b=[]
   .obtain⟨rfl,rfl⟩:=h;cases m <;> simp[jZ]
   have O:=jd h;cases m with
   | zero=>omega
   | succ m=>rw[jZ,jZ,O0 h,O0 h,ih m _ _ oa oa]
 intro n a b h;exact key n _ a b h (Lu _)
theorem Va (keep:Bool->Bool->Bool):mrg keep [] []=[]:=rfl
theorem KO (keep:Bool->Bool->Bool){a b:LI}(h:¬(a=[]/\b=[])):
  mrg keep a b=(bif keep (JF a b) (JF b a)then[hx a b]else[])++mrg keep (tl (JF a b) a) (tl (JF b a) b):=by
 have E:=jd h;rw[<-QaH keep (a.length+b.length - 1+1) a b oa,jZ,O0 h,QaH keep _ _ _ oa]
theorem Qfd (keep:Bool->Bool->Bool):∀(n:Nat) (a b:LI),a.length+b.length<=n->(mrg keep a b).length<=a.length+b.length:=by
 intro n;induction n with
 | zero =>
  intro a b h;have E:a=[]:=LA oa;have H:b=[]:=LA oa;subst E H;simp[Va]
 | succ n ih =>
  intro a b I;by_cases h:a=[]/\b=[]
  .obtain⟨rfl,rfl⟩:=h;simp[Va]
  have J:=jd h;rw[KO keep h];have:=ih (tl (JF a b) a) (tl (JF b a) b) oa;cases keep (JF a b) (JF b a) <;> simp <;> omega
theorem QbW (keep:Bool->Bool->Bool)(a b:LI):(mrg keep a b).length<=a.length+b.length:=Qfd keep _ a b (Lu _)
theorem QfC (q:α->Bool)(es:List α)(lo hi:Nat)(S:lo<=hi)(T:hi<=es.length)(I:∀m (E:m<es.length),m<lo->q es[m]=false)(J:∀m (E:m<es.length),lo<=m->m<hi->q es[m]=true)
  (O:∀m (E:m<es.length),hi<=m->q es[m]=false):(es.drop lo).take (hi - lo)=es.filter q:=by
 have e1:es=es.take lo++((es.drop lo).take (hi - lo)++es.drop hi):=by
  conv=>lhs;rw[<-MT lo es]
  congr 1;conv=>lhs;rw[<-MT (hi - lo) (es.drop lo)]
  rw[List.drop_drop];congr 2;omega
 have f1:(es.take lo).filter q=[]:=by
  rw[Nx];intro a H;obtain⟨m,E,rfl⟩:=LM H;rw[LB]at E;rw[Nj,I m oa oa];simp
 have f3:(es.drop hi).filter q=[]:=by
  rw[Nx];intro a H;obtain⟨m,E,rfl⟩:=LM H;rw[L5]at E;rw[List.getElem_drop,O (hi+m) oa oa];simp
 have f2:((es.drop lo).take (hi - lo)).filter q=(es.drop lo).take (hi - lo):=by
  rw[NJ];intro a H;obtain⟨m,E,rfl⟩:=LM H;rw[LB,L5]at E;rw[Nj,List.getElem_drop];exact J (lo+m) oa oa oa
 conv=>rhs;rw[e1]
 rw[Mc,Mc,f1,f2,f3];simp
def Z2 (es:List Ed)(s:Int):List Ed:=es.filter λe=>decide (e.1=s)
theorem QaQ {L:LN}{v:O9}{l:LI}(h:QG L ↑w v l)(n:Int):
  QZ sV 67 [v,sS n] w λr w'=>w'=w/\r=sS (fix (λe=>decide (n=e)) 0 l):=by
 have S:=h.le;refine Zt func67 ?_;refine Qc<|Qb<|Qd<|Qj<|QE h U<|Qa<|xe<|Q2 (α:=Nat) [(4,5),(8,18)] (λk=>[(8,sS k)]) (λk w'=>w'=w/\k<=l.length/\fix (λe=>decide (n=e)) k (l.drop k)=fix (λe=>decide (n=e)) 0 l) (λk=>l.length - k) 0 Lb ⟨U,Lp _,U⟩ ?_;rintro k g T ⟨rfl,hk,E⟩;refine Zi rfl U (λJ=>?_) (λJ=>?_)
 .refine Qt<|Qc<|Qb ?_;rw[Lx oa]at E;exact Qi ⟨[sS (-1)],Lb,U,by rw[<-E];rfl⟩
 have I:k<l.length:=oa
 rw[Zz I,YP]at E;refine Qe<|Qd<|Qn<|Qj<|Qb<|Qj<|Qa<|Qa<|xii h U U I λV O=>x (Qy O U)<|x (QW U U)<|xe<|QY rfl (λH=>?_) (λH=>?_)
 .refine Qj<|Qb ?_;rw[O1 (O4 H)]at E;exact Qi ⟨[sS k],Lb,U,by rw[<-E];rfl⟩
 refine Qe<|Qq<|QH U U<|Qa<|xe ?_;rw[O0 (oA H)]at E;exact⟨k+1,oa,Lb,U,oa,E⟩
theorem Qk2 {L:LN}{v:O9}{l:LI}(h:QG L ↑w v l)(n:Int):
  QZ sV 67 [v,sS n] w λr w'=>w'=w/\∃i:Int,r=sS i/\(0<=i↔n∈l):=
 (QaQ h n).S λ_ _ ⟨E,H⟩=>⟨E,_,H,by have:=yj (λe=>decide (n=e)) l 0;rw[<-decide_eq_true_iff (p:=0<=_),this];simp⟩
theorem Yn {L:LN}{v:O9}{l:LI}(h:QG L ↑w v l)(n:Int):
  QZ sV 28 [v,sS n] w λr w'=>r=.bool (decide (n∈l))/\w'=w:=by
 refine Zt func28 ?_;refine Qc<|Qb<|Qj<|Qa<|Qx<|(Qk2 h n).S ?_;rintro r1 E ⟨rfl,i,rfl,hi⟩;refine x (YI U U)<|Qb<|Qi ⟨[.bool (decide (0<=i))],Lb,?_,U⟩;simp[tup,hi]
theorem JR {L L':LN}{v:O9}{l l':LI}(h:QG L ↑w v l)(E:QG L' ↑w v' l'):
  QZ sV 51 [v,v'] w λr w'=>r=.bool (decide (l=l'))/\sW w w' :=
 eqG ⟨_,U,func51⟩ Qk4 (ld1 λ_=>U) (QG.fl h) (QG.fl E) λ_ _ hx H=>YS hx H
theorem QaX {L L':LN}{v:O9}{l l':List Ed}(h:zW L ↑w v l)(E:zW L' ↑w v' l'):
  QZ sV 52 [v,v'] w λr w'=>r=.bool (decide (l=l'))/\sW w w' :=
 eqG (c:=Qz) ⟨_,U,func52⟩ (λ_=>U) (ldA λ_=>U) h E λ_ _ hx H=>UU hx H
theorem QkZ (n:Int):QZ sV 242 [sS n] w λr w'=>r=.bool false/\w'=w:=by
 refine Zt func242 ?_;refine Qc<|Qb<|Qj<|Qa<|Zu U U<|Qb<|Qi ⟨[.bool (decide (¬n=n))],Lb,by simp[tup],rfl⟩
theorem Qil (n:Int):QZ sV 269 [sS n] w λr w'=>r=.bool false/\w'=w:=by
 refine Zt func269 ?_;refine Qc<|Qb<|Qj<|Qa<|Zu U U<|Qb<|Qi ⟨[.bool (decide (¬n=n))],Lb,by simp[tup],rfl⟩
theorem Qn5 (m n:Int):QZ sV 205 [sS m,sS n] w λr w'=>r=.bool (decide (m<n))/\w'=w:=by
 refine Zt func205 ?_;refine Qc<|Qb<|Qj<|Qx<|(Qil m).S ?_;rintro r1 E ⟨rfl,rfl⟩;refine Qa<|Zm<|QB U<|Qa<|Qa<|Qa<|Ye U U<|QB U<|Qb<|Qi ⟨[.bool (decide (m<n))],Lb,U,U⟩
theorem Yp.get {l:LI}(h:Yp l)(E:j<l.length)(H:i<j):l[i]<l[j]:=Mq.1 h i j oa E H
def lwB (l:LI)(n:Int):Nat:=(l.filter λx=>decide (x<n)).length
theorem QqS {l:LI}{n:Int}(_:Yp l)(hi:i<=l.length)(I:∀m (E:m<l.length),m<i->l[m]<n)(J:∀m (E:m<l.length),i<=m->n<=l[m]):lwB l n=i:=by
 unfold lwB;have e1:(l.take i).filter (λx=>decide (x<n))=l.take i:=NJ.2 λx hx=>by
  obtain⟨m,E,rfl⟩:=LM hx;rw[Nj];have H:m<i/\m<l.length:=by rw[LB]at E;omega
  exact O4 (I m H.2 H.1)
 have e2:(l.drop i).filter (λx=>decide (x<n))=[]:=Nx.2 λx hx=>by
  obtain⟨m,E,rfl⟩:=LM hx;rw[List.getElem_drop];have H:i+m<l.length:=by rw[L5]at E;omega
  have:=J (i+m) H oa;simp;omega
 have O:l.filter (λx=>decide (x<n))=l.take i:=by
  conv=>lhs;rw[<-MT i l]
  rw[Mc,e1,e2,LT]
 rw[O,LB];omega
theorem zy {L:LN}{v:O9}{l:LI}(h:QG L ↑w v l)(hi:Yp l)(n:Int):
  QZ sV 168 [v,sS n] w λr w'=>w'=w/\r=.tuple #[sS (lwB l n),.bool (decide (n∈l))]:=by
 have ht:=h.le;refine Zt func168 ?_;refine Qc<|x Qh<|Qb<|Qj<|QE h U<|Qb<|Qj<|x Qh<|Qb<|Qd<|Q2 (α:=Nat×Nat) [(7,9),(13,30)] (λz=>[(7,sS z.1),(8,sS z.2)])
  (λz w'=>w'=w/\z.1<=z.2/\z.2<=l.length/\(∀m (E:m<l.length),m<z.1->l[m]<n)/\(∀m (E:m<l.length),z.2<=m->n<=l[m])) (λz=>z.2 - z.1) (0,l.length) oB
  ⟨U,Lp _,Lu _,λm _ O=>O3 O (Nat.not_lt_zero m),λm h1 O=>O3 h1 (by simp only[]at O;omega)⟩ ?_
 rintro⟨i,j⟩ g w1 ⟨rfl,hv,hj,H,S⟩;refine Qd<|Qj<|Qa<|Ye U U<|xe<|ZI rfl (λha=>?_) (λha=>?_)
 .have e:i=j:=oa
  subst e;refine Qt<|QX (α:=Bool) [(4,5),(31,53)] (λz=>[(4,sS i),(5,.bool z)]) (λz w'=>w'=w1/\z=decide (n∈l)) om ?_ ?_
  .refine Qq<|Qa<|Qa<|Qa<|xb (YA U U) (λhb=>?_) (λhb=>?_)
   .have I:i<l.length:=oa
    refine Qa<|Qa<|Qa<|xii h U U I λhw hc=>x (Qy hc U)<|Qa<|xb (QW U U) (λT=>?_) (λT=>?_)
    .refine Qa<|Zm<|Zm<|Zm<|QB U<|QB U<|x Qh<|Qb ?_;have:n∈l:=by rw[<-T];exact Lm I
     exact⟨true,oB,U,by simp[this]⟩
    refine Qa<|Qa<|Qa<|xii h U U I λhy he=>x (Qy he U)<|Qx<|(QkZ _).S ?_;rintro r3 w3 ⟨rfl,rfl⟩;refine Qa<|Z6<|QB U<|QB U<|QB U<|x Qh<|Qb<|⟨false,oB,U,?_⟩;have:n∉l:=by
     intro E;obtain⟨m,J,V⟩:=LM E;by_cases hg:m<i
     .have:=H m J hg;omega
     by_cases hl:m=i
     .subst hl;exact T V
     have:=Yp.get hi J (show i<m by omega);have:=S i I (Lu _);omega
    simp[this]
   refine Qa<|Zm<|Zm<|Zm<|Zm<|Zm<|K4<|xs U <|
    QB rfl<|x Qh<|Qb<|⟨false,oB,U,?_⟩
   have:n∉l:=by
    intro E;obtain⟨m,J,V⟩:=LM E;have:=H m J oa;omega
   simp[this]
  rintro z g w7 ⟨rfl,rfl⟩;exact Qi ⟨[sS i,.bool (decide (n∈l))],oB,U,by rw[QqS hi (show i<=l.length by omega) H S];rfl⟩
 refine Qe<|Qn<|Qj<|Qa<|QH U U<|x (Z8 U (by exact⟨oa,oa⟩))<|x (Qdg (n:=1) U U oh)<|x (Z8 U (by exact⟨oa,oa⟩))<|Qb ?_;have hh:(((i:Int)+(j:Int)) / 2 ^ 1)=(((i+j) / 2:Nat):Int):=oa
 rw[hh];generalize hq:(i+j) / 2=q;have hn:i<=q:=oa
 have ho:q<j:=oa
 have Y:q<l.length:=oa
 refine Qj<|Qa<|xii h U U Y λhz hp=>x (Qy hp U)<|Qa<|Qx<|(Qn5 _ _).S ?_;rintro r8 w8 ⟨rfl,rfl⟩;refine xe<|ZI rfl (λZ=>?_) (λZ=>?_)
 .refine Qq<|Qa<|Qb<|⟨(i,q),og,oB,U,hn,oa,H,λm E hr=>?_⟩;by_cases e:q=m
  .subst e;omega
  have:=Yp.get hi E (show q<m by simp only[]at hr;omega);omega
 refine Qq<|Qa<|QH U U<|Qb<|⟨(q+1,j),og,oB,U,ho,hj,λm E hs=>?_,S⟩;by_cases e:m=q
 .subst e;exact Z
 have:=Yp.get hi Y (show m<q by simp only[]at hs;omega);omega
theorem jA {L:LN}{v:O9}{l:LI}(h:QG L ↑w v l)(hi:Yp l)(n:Int):
  QZ sV 168 [v,sS n] w λr w'=>w'=w/\∃i:Int,r=.tuple #[sS i,.bool (decide (n∈l))]:=
 (zy h hi n).S λ_ _ ⟨E,H⟩=>⟨E,_,H⟩
theorem KJ {L:LN}{v:O9}{l:LI}(h:QG L ↑w v l)(hi:Yp l)(n:Int):
  QZ sV 248 [v,sS n] w λr w'=>r=.bool (decide (n∈l))/\w'=w:=by
 refine Zt func248 ?_;refine Qc<|Qb<|Qj<|Qa<|Qx<|(jA h hi n).S ?_;rintro r1 E ⟨rfl,i,rfl⟩;refine Qa<|QS U U<|QS U U<|x Qh<|Qb<|Qj<|Qb<|Qi ⟨[.bool (decide (n∈l))],Lb,U,U⟩
theorem zx {L:LN}{v:O9}{l:LI}(h:QG L ↑w v l)(n:Int):
  QZ sV 166 [v,sS n] w λr w'=>r=sS (Kv n none l)/\w'=w:=by
 have hc:=h.le;refine Zt func166 ?_;refine Qc<|Qb<|Qd<|Qj<|QE h U<|Qa<|xe<|Q2 (α:=Nat) [(4,6),(9,34)] (λk=>[(9,sS k)]) (λk w'=>w'=w/\k<=l.length/\Kv n (pv l k) (l.drop k)=Kv n none l) (λk=>l.length - k) 0 Lb ⟨U,Lp _,U⟩ ?_;rintro k g T ⟨rfl,hk,E⟩;refine Zi rfl U (λV=>?_) (λV=>?_)
 .refine Qt<|Qc<|Qb<|Qi ⟨[sS 0],Lb,?_,U⟩;rw[<-E,Lx oa];rfl
 have H:k<l.length:=oa
 rw[(Zz H),Kv]at E;refine Qe<|Qd<|Qn<|Qj<|xii h U U H λhe Y=>x (Qy Y U)<|x Qh<|Qb<|Qn<|QX (α:=Bool) [(14,21)] (λz=>[(14,.bool z)]) (λz w'=>w'=T/\z=decide (l[k]<0\/n<=l[k])) om ?_ ?_
 .refine Qq<|Qa<|xb (YA U U) (λI=>?_) (λI=>?_)
  .refine Qa<|Zm<|QB U<|Qb<|⟨true,Lb,U,by simp[I]⟩
  refine Qa<|Qa<|Qa<|x (YI U U)<|QB U<|Qb<|⟨_,Lb,U,by simp[I]⟩
 rintro z g Z ⟨rfl,rfl⟩;refine QY rfl (λJ=>?_) (λJ=>?_)
 .refine Qc<|Qb<|Qi ⟨[sS 2],Lb,?_,U⟩;rw[<-E,O1 J];rfl
 rw[O0 J]at E;refine QX (α:=Bool) [(22,33)] (λz=>[(22,.bool z)]) (λz w'=>w'=Z/\z=j0 (pv l k) l[k]) om ?_ ?_
 .refine Qq<|Qa<|xb (ZX U U) (λha=>?_) (λha=>?_)
  .have hk1:((k:Int) - 1)=((k - 1:Nat):Int):=oa
   refine Qa<|Qa<|Qa<|Qa<|x (X1 U U ⟨oa,oa⟩)<|xii (i:=k - 1) h U (by show Value.int _ ((k:Int) - 1)=_;rw[hk1]) oa λhg hb=>x (Qy hb rfl)<|x (KL rfl rfl)<|QB rfl<|Qb<|⟨_,⟨rfl,La⟩,rfl,?_⟩;have:pv l k=some l[k - 1]:=by
    have O:k≠0:=oa
    simp[pv,O,show k - 1<l.length by omega]
   rw[this];rfl
  refine Qa<|Zm<|Zm<|K4<|QB U<|Qb ?_;have O:k=0:=oa
  exact⟨false,Lb,U,by simp[pv,O,j0]⟩
 rintro z g w3 ⟨rfl,rfl⟩;refine Q6 rfl (λS=>?_) (λS=>?_)
 .refine Qc<|Qb<|Qi ⟨[sS 5],Lb,?_,U⟩;rw[<-E,O1 S];rfl
 rw[O0 (by simp[S])]at E;refine Qe<|Qq<|QH U U<|Qa<|xe ?_;exact⟨k+1,oa,Lb,U,oa,by rw[VV H];exact E⟩
theorem j6 {L:LN}{a:QU}(h:ZE L ↑w va vm ve a):
  QZ sV 167 [.agg #[va,sS a.st,vm,ve]] w λr w'=>r=sS (ckE a.al a.st none a.ed)/\sW w w':=by
 obtain⟨O,_,I⟩:=h;have h4:=I.le;refine Zt func167 ?_;refine Qc<|Zg [va,sS a.st,vm,ve] λb1 w1 Z h5 J=>Qb ?_
 replace O:=O.J Z
 replace I:=I.J Z;refine Qd<|Qc<|Qm U J U U<|QE I U<|Qa<|xe<|Q2 (α:=Nat) [(2,5),(9,71)] (λk=>[(9,sS k)]) (λk w'=>sW w1 w'/\k<=a.ed.length/\ckE a.al a.st (pv a.ed k) (a.ed.drop k)=ckE a.al a.st none a.ed) (λk=>a.ed.length - k) 0 Lb
  ⟨xj.Y _ _,Lp _,U⟩ ?_
 rintro k g w2 ⟨S,hk,E⟩
 replace O:=O.J S
 replace I:=I.J S
 replace J:=J.J S;refine Zi rfl U (λhr=>?_) (λhr=>?_)
 .refine Qt<|Qc<|Qb<|Qi ⟨[sS 0],Lb,?_,Z.I S⟩;rw[<-E,Lx oa];rfl
 have ha:k<a.ed.length:=oa
 rw[(Zz ha),ckE]at E;refine Qe<|Qd<|Qn<|Qj<|xie I U U ha λh6 hs=>x (Qu hs U U)<|QL [sS 0,sS 0,sS 0] λb4 w3 ht hv H=>x Qh <|
  Qo<|ZA H U U U U oC λw4 hw H=>xe ?_
 have T:=ht.Q hw hv
 replace O:=O.J T
 replace I:=I.J T
 replace J:=J.J T;have V:=(Z.I S).I T;refine Qd<|Qn<|QX (α:=Bool) [(14,36)] (λz=>[(14,.bool z)]) (λz w'=>w'=w4/\z=decide (a.ed[k].1<0\/a.st<=a.ed[k].1\/a.ed[k].2.2<0\/a.st<=a.ed[k].2.2)) om ?_ ?_
 .refine Qq<|Qm U H U U<|xb (YA U U) (λhb=>?_) (λhb=>?_)
  .refine Qa<|Zm<|Z6<|QB U<|Qa<|Zm<|QB U<|Qa<|Zm<|Z6<|QB U<|Qb<|⟨true,Lb,U,by simp[hb]⟩
  refine Qa<|Qm U H U U<|Qm U J U U<|xb (YI U U) (λhc=>?_) (λhc=>?_)
  .refine QB U<|Qa<|Zm<|QB U<|Qa<|Zm<|Z6<|QB U<|Qb<|⟨true,Lb,U,by simp[hc]⟩
  refine QB U<|Qa<|Qm U H U U<|xb (YA U U) (λhe=>?_) (λhe=>?_)
  .refine QB U<|Qa<|Zm<|Z6<|QB U<|Qb<|⟨true,Lb,U,by simp[he]⟩
  refine QB U<|Qa<|Qm U H U U<|Qm U J U U<|x (YI U U)<|QB U<|Qb<|⟨_,Lb,U,by simp[hb,hc,he]⟩
 rintro z g w5 ⟨rfl,rfl⟩;refine QY rfl (λhg=>?_) (λhg=>?_)
 .refine Qc<|Qb<|Qi ⟨[sS 2],Lb,?_,V⟩;rw[<-E,O1 hg];rfl
 rw[O0 hg]at E;refine Qc<|Qm U J U U<|Qm U H U U<|Qx<|(Yn O _).S ?_;rintro r4 w6 ⟨rfl,rfl⟩;refine x (Zr U)<|Qb<|Q6 U (λhh=>?_) (λhh=>?_)
 .have hn:a.ed[k].2.1∉a.al:=by simpa using hh
  refine Qc<|Qb<|Qi ⟨[sS 9],Lb,?_,V⟩;rw[<-E,O1 hn];rfl
 have hn:¬(a.ed[k].2.1∉a.al):=by simpa using hh
 rw[O0 hn]at E;refine Qe<|Qd<|Qj<|x (QW U U)<|xe<|QY rfl (λhy=>?_) (λhy=>?_)
 .have h0:k=0:=oa
  rw[O0 (by simp[pv,h0,edO])]at E;refine Qt<|Qq<|QH U U<|Qa<|xe ?_;exact⟨k+1,oa,Lb,S.I T,oa,by rw[VV ha];exact E⟩
 have h0:k≠0:=oa
 have hk1:((k:Int) - 1)=((k - 1:Nat):Int):=oa
 have hq:k - 1<a.ed.length:=oa
 refine Qe<|Qc<|Qm U J U U<|Qa<|x (X1 U U ⟨oa,oa⟩)<|xie (i:=k - 1) I U (by show Value.int _ ((k:Int) - 1)=_;rw[hk1]) hq λh7 hz =>
  x (Qu hz U U)<|QL [sS 0,sS 0,sS 0] λb5 w7 h1 h2 Y=>Qo<|ZA Y U U U U oC λw8 h3 Y=>xe ?_
 have hi:=h1.Q h3 h2
 replace H:=H.J hi
 replace V:=V.I hi;have hp:pv a.ed k=some a.ed[k - 1]:=by simp[pv,h0,hq]
 rw[hp]at E;refine QX (α:=Bool) [(52,70)] (λz=>[(70,.bool z)]) (λz w'=>w'=w8/\z=edO (some a.ed[k - 1]) a.ed[k]) om ?_ ?_
 .refine Qq<|Qm U H U U<|Qm U Y U U<|xb (YA U U) (λhj=>?_) (λhj=>?_)
  .refine Qa<|Zm<|Zm<|Zm<|Zm<|QB U<|xe ?_;exact⟨true,Lb,U,by simp[edO,hj]⟩
  refine Qa<|Qm U H U U<|Qm U Y U U<|xb (QW U U) (λhl=>?_) (λhl=>?_)
  .refine Qa<|Qm U H U U<|Qm U Y U U<|x (KL U U)<|QB U<|QB U<|xe ?_;exact⟨_,Lb,U,by simp[edO,hl]⟩
  refine Qa<|Zm<|Z6<|QB U<|QB U<|xe ?_;exact⟨false,Lb,U,by simp[edO,hl,hj]⟩
 rintro z g w9 ⟨rfl,rfl⟩;refine Q6 rfl (λho=>?_) (λho=>?_)
 .refine Qc<|Qb<|Qi ⟨[sS 5],Lb,?_,V⟩;rw[<-E,O1 ho];rfl
 rw[O0 (by simp[ho])]at E;refine Qe<|Qq<|QH U U<|Qa<|xe ?_;exact⟨k+1,oa,Lb,(S.I T).I hi,oa,by rw[VV ha];exact E⟩
theorem XS {L:LN}{a:QU}(h:ZE L ↑w va vm ve a):
  QZ sV 98 [.agg #[va,sS a.st,vm,ve]] w λr w'=>r=sS (Jt a)/\sW w w':=by
 refine Zt func98 ?_;refine Qc<|Zg [va,sS a.st,vm,ve] λb1 V E Y H=>Qb ?_
 replace h:=h.J E;refine Qd<|Qc<|Qm U H U U<|Qx<|(zx h.al 32).S ?_;rintro r2 Z ⟨rfl,rfl⟩;refine Qb<|Qj<|Zu U U<|xe<|QY rfl (λI=>?_) (λI=>?_)
 .refine Qj<|Qb<|Qi ⟨[sS (Kv 32 none a.al)],Lb,?_,E⟩;rw[Jt,O1 I];rfl
 refine Qe<|Qd<|Qn<|Qc<|Qm U H U U<|Ye U U<|Qb<|QY U (λJ=>?_) (λJ=>?_)
 .refine Qc<|Qb<|Qi ⟨[sS 2],Lb,?_,E⟩;rw[Jt,O0 I,O1 J];rfl
 refine Qc<|Qm U H U U<|x (ZX U U)<|Qb<|QY U (λO=>?_) (λO=>?_)
 .refine Qc<|Qb<|Qi ⟨[sS 3],Lb,?_,E⟩;rw[Jt,O0 I,O0 J,O1 O];rfl
 refine Qe<|Qd<|Qc<|Qm U H U U<|Qm U H U U<|Qx<|(zx h.mr a.st).S ?_;rintro r3 w3 ⟨rfl,rfl⟩;refine Qb<|Qj<|Zu U U<|xe<|QY rfl (λS=>?_) (λS=>?_)
 .refine Qj<|Qb<|Qi ⟨[sS (Kv a.st none a.mr)],Lb,?_,E⟩;rw[Jt,O0 I,O0 J,O0 O,O1 S];rfl
 refine Qe<|Qc<|QV H U U<|Qx<|(j6 h).S ?_;rintro r4 w4 ⟨rfl,T⟩;refine Qb<|Qi ⟨[sS (ckE a.al a.st none a.ed)],Lb,?_,E.I T⟩;rw[Jt,O0 I,O0 J,O0 O,O0 S];rfl
theorem ZU {L:LN}{v:O9}{l:LI}(h:QG L ↑w v l):
  QZ sV 62 [v] w λr w'=>sW w w'/\Qp 3 ↑w w' r l :=
 J9 ⟨_,U,func62⟩ h (UW l)
theorem Qdu [Fu sV g fn]{keep:Bool->Bool->Bool}(hk:∀(p q:Bool) (w:O8),QZ sV g [.bool p,.bool q] w λr w'=>r=.bool (keep p q)/\w'=w)
  {L L':LN}   {a b:LI} (I:QG L ↑w va a) (H:QG L' ↑w vb b) (hI:a.length+b.length<=1099511627776):
  QZ sV 136 [va,vb,.func (.func g) #[] #[]] w λr w'=>sW w w'/\Qp 3 ↑w w' r (mrg keep a b):=by
 refine Zt func136 ?_;refine Qc<|Qb<|Qc<|Qb<|Qd<|Q2 (α:=(LI×O9)×(LI×O9)×(LI×O9)) [(0,1),(7,72)] (λz=>[(0,z.1.2),(1,z.2.1.2),(7,z.2.2.2)])
  (λz w'=>QG L ↑w z.1.2 z.1.1/\QG L' ↑w z.2.1.2 z.2.1.1/\Qp 3 ↑w w' z.2.2.2 z.2.2.1/\sW w w'/\z.2.2.1++mrg keep z.1.1 z.2.1.1=mrg keep a b/\z.2.2.1.length+z.1.1.length+z.2.1.1.length<=1099511627776)
  (λz=>z.1.1.length+z.2.1.1.length) ((a,va),(b,vb),([],nS)) oC ⟨I,H,QI _ _ _ _,xj.Y _ _,U,by simp;omega⟩ ?_
 clear I H;rintro⟨⟨a1,h3⟩,⟨b1,h4⟩,⟨o,vo⟩⟩ g1 w1 ⟨I,H,J,E,T,hl⟩;simp only[]at I H J E T hl;refine Qd<|QX (α:=Bool) [(11,18)] (λz=>[(18,.bool z)]) (λz w'=>w'=w1/\z=decide (¬(a1=[]/\b1=[]))) om ?_ ?_
 .refine Qq<|Qa<|QE I U<|xb (ZX U U) (λhn=>?_) (λhn=>?_)
  .refine Qa<|Zm<|QB U<|xe ?_;have:a1≠[]:=by intro e;subst e;simp at hn
   exact⟨true,Lb,U,by simp[this]⟩
  refine Qa<|Qa<|QE H U<|x (ZX U U)<|QB U<|xe ?_;have:a1=[]:=LA oa;refine⟨_,Lb,U,?_⟩;cases b1 <;> simp[this]
 rintro z g2 w2 ⟨rfl,rfl⟩;refine ZI rfl (λZ=>?_) (λZ=>?_)
 .refine Qt<|Qj<|Qb<|Qi ⟨[vo],Lb,E,?_⟩;obtain⟨rfl,rfl⟩:=Lq.1 Z;rw[Va,LT]at T;rw[<-T];exact J
 refine Qe ?_;rw[KO keep Z]at T;have hp:=jd Z;have hJ:=I.le;have hK:=H.le;refine Qn<|QX (α:=Bool) [(8,8),(19,35)] (λz=>[(8,.bool z)]) (λz w'=>sW w2 w'/\z=JF a1 b1) om ?_ ?_
 .refine ZH [] (Xf 0 18 [])<|p QA<|p (λ_=>Xr I U)<|pb (λ_=>ZX U U) (λhq=>?_) (λhq=>?_)
  .refine p QA<|p QA<|p (λ_=>Xr H U)<|pb (λ_=>QW U U) (λh5=>?_) (λh5=>?_)
   .refine p QA<|ps<|ps<|ps<|ps<|ps<|ps<|ps<|p (Z9 U)<|p (Z9 U)<|p ZL<|pe ?_;refine⟨true,Lb,xj.X _ _,?_⟩;have:b1=[]:=LA oa;subst this;cases a1 with
    | nil=>simp at hq
    | cons y a1=>rfl
   have hA:0<a1.length:=oa
   have S:0<b1.length:=oa
   refine p QA<|p QA<|pii U (i:=0) (I.J E) U U hA λhL h6=>pq (λ_ O=>Qy (h6.J O) U) <|
    p QA<|pii U (i:=0) (H.J E) U U S λhM h7=>pq (λ_ O=>Qy (h7.J O) U)<|p (λ_=>KL U U) <|
    p (Z9 rfl)<|p (Z9 U)<|p ZL<|pe ?_
   refine⟨_,Lb,xj.X _ _,?_⟩;cases a1 with
   | nil=>simp at hA
   | cons y a1=>cases b1 with
    | nil=>simp at S
    | cons z b1=>rfl
  refine p QA<|ps<|ps<|ps<|ps<|ps<|ps<|ps<|ps<|ps<|ps<|ps<|ps<|p (Z9 U)<|p ZL<|pe ?_;refine⟨false,Lb,xj.X _ _,?_⟩;have:a1=[]:=LA oa;subst this;rfl
 rintro z g3 w3 ⟨hr,rfl⟩
 replace J:=Ql J hr
 replace E:=E.I hr;refine QX (α:=Bool) [(9,9),(36,52)] (λz=>[(9,.bool z)]) (λz w'=>sW w3 w'/\z=JF b1 a1) om ?_ ?_
 .refine ZH [] (Xf 0 18 [])<|p QA<|p (λ_=>Xr H U)<|pb (λ_=>ZX U U) (λht=>?_) (λht=>?_)
  .refine p QA<|p QA<|p (λ_=>Xr I U)<|pb (λ_=>QW U U) (λh8=>?_) (λh8=>?_)
   .refine p QA<|ps<|ps<|ps<|ps<|ps<|ps<|ps<|p (Z9 U)<|p (Z9 U)<|p ZL<|pe ?_;refine⟨true,Lb,xj.X _ _,?_⟩;have:a1=[]:=LA oa;subst this;cases b1 with
    | nil=>simp at ht
    | cons y b1=>rfl
   have hA:0<a1.length:=oa
   have S:0<b1.length:=oa
   refine p QA<|p QA<|pii U (i:=0) (H.J E) U U S λhN h9=>pq (λ_ O=>Qy (h9.J O) U) <|
    p QA<|pii U (i:=0) (I.J E) U U hA λhO hC=>pq (λ_ O=>Qy (hC.J O) U)<|p (λ_=>KL U U) <|
    p (Z9 rfl)<|p (Z9 U)<|p ZL<|pe ?_
   refine⟨_,Lb,xj.X _ _,?_⟩;cases a1 with
   | nil=>simp at hA
   | cons y a1=>cases b1 with
    | nil=>simp at S
    | cons z b1=>rfl
  refine p QA<|ps<|ps<|ps<|ps<|ps<|ps<|ps<|ps<|ps<|ps<|ps<|ps<|p (Z9 U)<|p ZL<|pe ?_;refine⟨false,Lb,xj.X _ _,?_⟩;have:b1=[]:=LA oa;subst this;rfl
 rintro z g4 w4 ⟨hv,rfl⟩
 replace J:=Ql J hv
 replace E:=E.I hv;refine Qc<|Qb<|QX (α:=O9) [(0,0),(10,10),(53,58)] (λz=>[(0,z),(10,sS (bif JF a1 b1 then a1.headD 0 else 0))]) (λz w'=>sW w4 w'/\QG L ↑w z (tl (JF a1 b1) a1)) om ?_ ?_
 .refine Qj<|xe<|Q6 U (λV=>?_) (λV=>?_)
  .have hA:0<a1.length:=by cases a1 with|nil=>simp[JF]at V|cons y a1=>simp
   refine ZH [] (Xf 0 7 [])<|p QA<|pii U (i:=0) (I.J E) U U hA λhD he=>pq (λ_ O=>Qy (he.J O) U)<|p QA <|
    QqD rfl (lo:=1) I U U hA λv' hg=>p ZL<|p ZL<|pe ?_
   have hh:=QG.drop hg;refine⟨v',⟨U,?_,La⟩,xj.X _ _,?_⟩
   .show sS a1[0]=_;rw[V];cases a1 with|nil=>simp at hA|cons y a1=>rfl
   rw[V];simpa[tl]using hh
  refine Qe<|⟨h3,⟨U,by show _=_;rw[V];rfl,La⟩,xj.Y _ _,?_⟩;rw[V];exact I
 rintro hw g5 w5 ⟨hy,hz⟩
 replace J:=Ql J hy
 replace E:=E.I hy;refine QX (α:=O9) [(1,1),(10,10),(59,64)] (λz=>[(1,z),(10,sS (bif JF b1 a1 then b1.headD 0 else bif JF a1 b1 then a1.headD 0 else 0))]) (λz w'=>sW w5 w'/\QG L' ↑w z (tl (JF b1 a1) b1)) om ?_ ?_
 .refine Qj<|xe<|Q6 U (λY=>?_) (λY=>?_)
  .have S:0<b1.length:=by cases b1 with|nil=>simp[JF]at Y|cons y b1=>simp
   refine ZH [] (Xf 0 7 [])<|p QA<|pii U (i:=0) (H.J E) U U S λhD he=>pq (λ_ O=>Qy (he.J O) U)<|p QA <|
    QqD rfl (lo:=1) H U U S λv' hg=>p ZL<|p ZL<|pe ?_
   have hh:=QG.drop hg;refine⟨v',⟨U,?_,La⟩,xj.X _ _,?_⟩
   .show sS b1[0]=_;rw[Y];cases b1 with|nil=>simp at S|cons y b1=>rfl
   rw[Y];simpa[tl]using hh
  refine Qe<|⟨h4,⟨U,by show _=_;rw[Y];rfl,La⟩,xj.Y _ _,?_⟩;rw[Y];exact H
 rintro h0 g6 w6 ⟨h1,h2⟩
 replace J:=Ql J h1
 replace E:=E.I h1;have hE:(bif JF b1 a1 then b1.headD 0 else bif JF a1 b1 then a1.headD 0 else 0)=hx a1 b1:=by
  unfold hx;cases e:JF b1 a1 with
  | true=>rfl
  | false =>
   cases e2:JF a1 b1 with
   | true=>rfl
   | false=>rw[e,e2]at hp;simp[tl]at hp
 refine Qj<|Qa<|Qa<|Qo<|xc (first:=[]) (capt:=[]) U<|(hk _ _ _).S ?_;rintro r7 w7 ⟨rfl,rfl⟩;refine xe<|Q6 rfl (λhi=>?_) (λhi=>?_)
 .refine Qq ?_;rw[hi,cond_true]at T;refine Qa<|Qa<|Qo<|XQ (us:=[[sS (hx a1 b1)]]) U U oh oe ⟨by rw[<-hE];rfl,U,La⟩ λhP w8 hj hQ hF =>
   Qo<|Q9 (news:=[sS (hx a1 b1)]) (L:=[]) (Ql J hj) U U U (hF.at oe) oq oa (oy E.size hj.size) λv9 w9 hG hH hR=>Qb ?_
  have hge:=Qg J;refine⟨((tl (JF a1 b1) a1,hw),(tl (JF b1 a1) b1,h0),(o++[hx a1 b1],v9)),og,oC,hz,h2,?_,(E.I hj).G hH (λb H=>.inr (hge b H).1),by rw[LD];exact T,by simp only[oN,oP];omega⟩;exact Qp.snoc hG
 rw[hi,cond_false,Md]at T;refine Qe ?_;exact⟨((tl (JF a1 b1) a1,hw),(tl (JF b1 a1) b1,h0),(o,vo)),og,oC,hz,h2,J,E,T,og⟩
theorem QsA (p q:Bool)(w:O8):QZ sV 137 [.bool p,.bool q] w λr w'=>r=.bool (p || q)/\w'=w:=by
 refine Zt func137 ?_;refine Qc<|Qb<|Qc ?_;cases p
 .refine Qa<|Qa<|Qa<|QB U<|Qb<|Qi ⟨[.bool q],Lb,U,U⟩
 refine Qa<|Qa<|K4<|QB U<|Qb<|Qi ⟨[.bool true],Lb,U,U⟩
theorem Qkt (p q:Bool)(w:O8):QZ sV 270 [.bool p,.bool q] w λr w'=>r=.bool (p && !q)/\w'=w:=by
 refine Zt func270 ?_;refine Qc<|Qb<|Qc ?_;cases p
 .refine Qa<|Qa<|Z6<|QB U<|Qb<|Qi ⟨[.bool false],Lb,U,U⟩
 refine Qa<|Qa<|Qa<|x (Zr U)<|QB U<|Qb<|Qi ⟨[.bool (!q)],Lb,U,U⟩
theorem Qet {L L':LN}{a b:LI}(E:QG L ↑w va a)(H:QG L' ↑w vb b)(I:a.length+b.length<=1099511627776):
  QZ sV 75 [va,vb] w λr w'=>sW w w'/\Qp 3 ↑w w' r (mrg (· || ·) a b):=by
 refine Zt func75 ?_;refine Qc<|Qb<|Qj<|Qa<|Qx<|(Qdu QsA E H I).S ?_;rintro r1 S ⟨J,O⟩;refine Qb<|Qi ⟨[r1],Lb,J,O⟩
theorem QmB {L L':LN}{a b:LI}(E:QG L ↑w va a)(H:QG L' ↑w vb b)(I:a.length+b.length<=1099511627776):
  QZ sV 215 [va,vb] w λr w'=>sW w w'/\Qp 3 ↑w w' r (mrg (λp q=>p && !q) a b):=by
 refine Zt func215 ?_;refine Qc<|Qb<|Qj<|Qa<|Qx<|(Qdu Qkt E H I).S ?_;rintro r1 S ⟨J,O⟩;refine Qb<|Qi ⟨[r1],Lb,J,O⟩
theorem QiW {L L':LN}{a b:LI}(E:QG L ↑w va a)(H:QG L' ↑w vb b)(I:a.length+b.length<=1099511627776):
  QZ sV 135 [va,vb] w λr w'=>sW w w'/\r=.bool (decide (mrg (λp q=>p && !q) a b=[])):=by
 refine Zt func135 ?_;refine Qc<|Qb<|Qj<|Qa<|Qx<|(QmB E H I).S ?_;rintro r1 S ⟨J,O⟩;have T:=QbW (λp q=>p && !q) a b;refine QE (Qp.ints (L:=[]) O oa oe) rfl<|x (QW rfl rfl)<|Qb<|Qi ⟨[.bool (decide (((mrg (λp q=>p && !q) a b).length:Int)=0))],⟨rfl,La⟩,J,?_⟩;simp[tup]
theorem Qmg [Fu sV g fn](hk:∀(e:Ed) (s:Int) (w:O8),0<=e.1->e.1<=1099511627776->0<=s->s<=1099511627776->QZ sV g [sT (Qz e),sS s] w λr w'=>r=sS (e.1 - s)/\sW w w')
  {L:LN}  {v:O9} {es:List Ed} (h:zW L ↑w v es) (hi:es.Pairwise (λa b=>a.1<=b.1)) (hb:∀e∈es,0<=e.1/\e.1<=1099511627776) (s:Int) (V:0<=s) (Y:s<=1099511627776):
  QZ sV 243 [v,sS s,.func (.func g) #[] #[]] w λr w'=>sW w w'/\∃(i:Nat) (b:Bool),r=.tuple #[sS i,.bool b]/\i<=es.length /\
   (∀m (E:m<es.length),m<i->es[m].1<s)/\(∀m (E:m<es.length),i<=m->s<=es[m].1):=by
 have h4:=h.le;have Z:∀{i j:Nat} (H:j<es.length) (J:i<j),es[i].1<=es[j].1:=λ{i j} H J=>Mq.1 hi i j oa H J;have ha:∀m (E:m<es.length),0<=es[m].1/\es[m].1<=1099511627776:=λm E=>hb _ (Lm E);refine Zt func243 ?_;refine Qc<|x Qh<|Qb<|Qj<|QE h U<|Qb<|Qj<|x Qh<|Qb<|Qd<|Q2 (α:=Nat×Nat) [(9,11),(15,34)] (λz=>[(9,sS z.1),(10,sS z.2)])
  (λz w'=>sW w w'/\z.1<=z.2/\z.2<=es.length/\(∀m (E:m<es.length),m<z.1->es[m].1<s)/\(∀m (E:m<es.length),z.2<=m->s<=es[m].1)) (λz=>z.2 - z.1) (0,es.length) oB
  ⟨xj.Y _ _,Lp _,Lu _,λm _ O=>O3 O (Nat.not_lt_zero m),λm h1 O=>O3 h1 (by simp only[]at O;omega)⟩ ?_
 rintro⟨i,j⟩ g1 w1 ⟨I,J,H,hc,he⟩;refine Qd<|Qj<|Qa<|Ye U U<|xe<|ZI rfl (λho=>?_) (λho=>?_)
 .have e:i=j:=oa
  subst e;refine Qt<|QX (α:=Bool) [(6,7),(35,48)] (λz=>[(6,sS i),(7,.bool z)]) (λz w'=>sW w1 w') om ?_ ?_
  .refine Qq<|Qa<|Qa<|Qa<|xb (YA U U) (λhp=>?_) (λhp=>?_)
   .have hg:i<es.length:=oa
    have S:=ha i hg;refine Qa<|Qa<|Qa<|Qa<|xie (h.J I) U U hg λh5 hr=>x (Qu hr U U)<|Qa<|Qo<|xc (first:=[]) (capt:=[]) U<|(hk es[i] s _ S.1 S.2 V Y).S ?_;rintro r2 w2 ⟨rfl,hs⟩;refine x (QW U U)<|QB U<|x Qh<|Qb<|⟨_,oB,hs⟩
   refine Qa<|Zm<|Zm<|Z6<|QB U<|x Qh<|Qb<|⟨false,oB,xj.Y _ _⟩
  rintro z g3 w3 ht;exact Qi ⟨[sS i,.bool z],oB,I.I ht,i,z,U,H,hc,he⟩
 refine Qe<|Qn<|Qj<|Qa<|QH U U<|x (Z8 U (by exact⟨oa,oa⟩))<|x (Qdg (n:=1) U U oh)<|x (Z8 U (by exact⟨oa,oa⟩))<|Qb ?_;have hh:(((i:Int)+(j:Int)) / 2 ^ 1)=(((i+j) / 2:Nat):Int):=oa
 rw[hh];generalize S:(i+j) / 2=q;have hv:i<=q:=oa
 have hw:q<j:=oa
 have T:q<es.length:=oa
 have hl:=ha q T;refine Qj<|Qa<|Qa<|xie (h.J I) U U T λh6 hy=>x (Qu hy U U)<|Qa<|Qo<|xc (first:=[]) (capt:=[]) U<|(hk es[q] s _ hl.1 hl.2 V Y).S ?_;rintro r4 w4 ⟨rfl,hn⟩;refine Ye rfl U<|xe<|ZI rfl (λhz=>?_) (λhz=>?_)
 .refine Qq<|Qa<|Qb<|⟨(i,q),og,oB,I.I hn,hv,oa,hc,λm E h2=>?_⟩;by_cases e:q=m
  .subst e;omega
  have:=Z E (show q<m by simp only[]at h2;omega);omega
 refine Qq<|Qa<|QH U U<|Qb<|⟨(q+1,j),og,oB,I.I hn,hw,H,λm E h3=>?_,he⟩;by_cases e:m=q
 .subst e;omega
 have:=Z T (show m<q by simp only[]at h3;omega);omega
theorem QnK (e:Ed)(s:Int)(w:O8)(I:0<=e.1)(J:e.1<=1099511627776)(O:0<=s)(S:s<=1099511627776):
  QZ sV 244 [sT (Qz e),sS s] w λr w'=>r=sS (e.1 - s)/\sW w w':=by
 refine Zt func244 ?_;refine Qc<|Zg (Qz e) λb2 T E V H=>Qb<|Qc<|Qm U H U U<|Qa<|x (X1 U U ⟨oa,oa⟩)<|Qb<|Qi ⟨[sS (e.1 - s)],Lb,U,E⟩
theorem QnJ (e:Ed)(s:Int)(w:O8)(I:0<=e.1)(J:e.1<=1099511627776)(O:0<=s)(S:s<=1099511627776):
  QZ sV 245 [sT (Qz e),sS s] w λr w'=>r=sS (e.1 - s)/\sW w w':=by
 refine Zt func245 ?_;refine Qc<|Zg (Qz e) λb2 T E V H=>Qb<|Qc<|Qm U H U U<|Qa<|x (X1 U U ⟨oa,oa⟩)<|Qb<|Qi ⟨[sS (e.1 - s)],Lb,U,E⟩
theorem QbN {L:LN}{st:Int}{es:List Ed}(h:zW L ↑w ve es)(hi:es.Pairwise (λa b=>a.1<=b.1))(T:∀e∈es,0<=e.1/\e.1<=1099511627776)(s:Int)(hg:0<=s)(hr:s<1099511627776):
  QZ sV 169 [.agg #[va,sS st,vm,ve],sS s] w λr w'=>sW w w'/\zW L ↑w' r (Z2 es s):=by
 refine Zt func169 ?_;refine Qc<|Zg [va,sS st,vm,ve] λb2 w1 V hs E=>Qb ?_
 replace h:=h.J V;refine Qc<|Qm U E U U<|Qa<|Qx<|(Qmg QnK h hi T s hg oa).S ?_;rintro r2 w2 ⟨O,lo,b,rfl,ht,Y,hh⟩
 replace h:=h.J O
 replace E:=E.J O;refine Qa<|QS U U<|QS U U<|x Qh<|Qb<|Qc<|Qm U E U U<|Qa<|QH U U<|Qx<|(Qmg QnJ h hi T (s+1) oa oa).S ?_;rintro r3 w3 ⟨S,H,b',rfl,Z,hj,ha⟩
 replace h:=h.J S
 replace E:=E.J S;refine Qa<|QS U U<|QS U U<|x Qh<|Qb ?_;have he:lo<=H:=by
  rcases OO H lo with hl|hge
  .have J:=Y H oa hl;have h2:=ha H oa (Lu _);omega
  exact hge
 refine Qc<|Qm U E U U<|Qa<|Qa<|QtE h U U U he Z λv' hn=>Qb<|Qi ⟨[v'],Lb,(V.I O).I S,?_⟩;have hc:=QfC (λe:Ed=>decide (e.1=s)) es lo H he Z (λm I ho=>by have:=Y m I ho;simp;omega) (λm I J h2=>by have:=hh m I J;have:=hj m I h2;simp;omega) (λm I J=>by have:=ha m I J;simp;omega);have hp:(Z2 es s).length=H - lo:=by unfold Z2;rw[<-hc,LB,L5];omega
 show Zk L ↑w3 v' (Z2 es s).length 3 _;rw[hp];have e1:(Z2 es s).flatMap Qz=((es.flatMap Qz).drop (lo*3)).take ((H - lo)*3):=by
  unfold Z2;rw[<-hc];have key:∀(l:List Ed) (k:Nat),(l.flatMap Qz).drop (k*3)=(l.drop k).flatMap Qz:=by
   intro l;induction l with
   | nil=>intro k;simp
   | cons a l ih=>intro k;cases k with
    | zero=>simp
    | succ k=>simp only[Od,List.drop_succ_cons,Ot,Nat.one_mul];rw[Ny,<-List.drop_drop,show(Qz a++l.flatMap Qz).drop 3=l.flatMap Qz from rfl,ih]
  have hq:∀(l:List Ed) (k:Nat),(l.flatMap Qz).take (k*3)=(l.take k).flatMap Qz:=by
   intro l;induction l with
   | nil=>intro k;simp
   | cons a l ih=>intro k;cases k with
    | zero=>simp
    | succ k =>
     simp only[Od,List.take_succ_cons,Ot,Nat.one_mul];rw[OR,Ks,<-ih,Lt (by simp[Ks])];simp
  rw[key,hq]
 rw[e1];exact hn
structure Zo (a:QU):Prop where
 al:∀e∈a.al,0<=e/\e<32
 ali:Yp a.al
 st0:0<=a.st
 st1:a.st<=4096
 mr:∀s∈a.mr,0<=s/\s<a.st
 mri:Yp a.mr
 ed:∀e∈a.ed,0<=e.1/\e.1<a.st/\e.2.1∈a.al/\0<=e.2.2/\e.2.2<a.st
 edi:a.ed.Pairwise λx y=>x.1<y.1\/(x.1=y.1/\x.2.1<y.2.1)
theorem YW (n:Int):∀(l:LI) (pr:Option Int),Kv n pr l=0↔(∀x∈l,0<=x/\x<n)/\Yp l/\∀y,pr=some y->∀x∈l,y<x
 | [],pr=>by simp[Kv]
 | a::l,pr=>by
  rw[Kv];by_cases S:a<0\/n<=a
  .rw[O1 S];simp only[Ou];constructor
   .intro h;cases h
   rintro⟨⟨h,_⟩,_⟩;omega
  rw[O0 S];by_cases E:j0 pr a=true
  .rw[O1 E];constructor
   .intro h;cases h
   rintro⟨_,_,h⟩;cases pr with
   | none=>simp[j0]at E
   | some y=>simp[j0]at E;have:=h y U a Lr;omega
  rw[O0 E,(YW n l (some a))];simp only[Ou,List.pairwise_cons];constructor
  .rintro⟨I,J,H⟩;refine⟨⟨oa,I⟩,⟨λb T=>H a U b T,J⟩,?_⟩;rintro y rfl;simp[j0]at E;exact⟨E,λz O=>ov (H a U z O)⟩
  rintro⟨⟨_,I⟩,⟨J,H⟩,_⟩;exact⟨I,H,λy V z O=>by cases V;exact J z O⟩
theorem Qec (al:LI)(st:Int):∀(l:List Ed) (pr:Option Ed),ckE al st pr l=0↔(∀e∈l,0<=e.1/\e.1<st/\e.2.1∈al/\0<=e.2.2/\e.2.2<st)/\(l.Pairwise λx y=>x.1<y.1\/(x.1=y.1/\x.2.1<y.2.1)) /\
  ∀y,pr=some y->∀e∈l,y.1<e.1\/(y.1=e.1/\y.2.1<e.2.1)
 | [],pr=>by simp[ckE]
 | a::l,pr=>by
  rw[ckE];by_cases T:a.1<0\/st<=a.1\/a.2.2<0\/st<=a.2.2
  .rw[O1 T];simp only[Ou];constructor
   .intro h;cases h
   rintro⟨⟨h,_⟩,_⟩;omega
  rw[O0 T];by_cases H:a.2.1∉al
  .rw[O1 H];constructor
   .intro h;cases h
   rintro⟨h,_⟩;exact O3 (h a Lr).2.2.1 H
  rw[O0 H];by_cases E:edO pr a=true
  .rw[O1 E];constructor
   .intro h;cases h
   rintro⟨_,_,h⟩;cases pr with
   | none=>simp[edO]at E
   | some y=>simp[edO]at E;have:=h y U a Lr;omega
  rw[O0 E,(Qec al st l (some a))];simp only[Ou,List.pairwise_cons];have V:a.2.1∈al:=Lq.1 H;constructor
  .rintro⟨J,O,I⟩;refine⟨⟨⟨oa,oa,V,oa,oa⟩,J⟩,⟨λb Y=>I a U b Y,O⟩,?_⟩;rintro y rfl;simp[edO]at E;have Z:y.1<a.1\/y.1=a.1/\y.2.1<a.2.1:=oa
   exact⟨Z,λz S=>ov (I a U z S)⟩
  rintro⟨⟨_,J⟩,⟨O,I⟩,_⟩;exact⟨J,I,λy hy z S=>by cases hy;exact O z S⟩
theorem Z0 (a:QU):Jt a=0↔Zo a:=by
 unfold Jt;by_cases E:Kv 32 none a.al≠0
 .rw[O1 E];exact⟨λh=>O3 h E,λh=>O3 ((YW 32 a.al none).2 ⟨h.al,h.ali,λ_ h=>by cases h⟩) E⟩
 rw[O0 E];have I:=(YW 32 a.al none).1 (Lq.1 E);by_cases J:a.st<0
 .rw[O1 J];exact⟨λh=>(by cases h),λh=>(ov h.st0)⟩
 rw[O0 J];by_cases O:4096<a.st
 .rw[O1 O];exact⟨λh=>(by cases h),λh=>(ov h.st1)⟩
 rw[O0 O];by_cases H:Kv a.st none a.mr≠0
 .rw[O1 H];exact⟨λh=>O3 h H,λh=>O3 ((YW a.st a.mr none).2 ⟨h.mr,h.mri,λ_ h=>by cases h⟩) H⟩
 rw[O0 H,Qec];have S:=(YW a.st a.mr none).1 (Lq.1 H);exact⟨λh=>⟨I.1,I.2.1,oa,oa,S.1,S.2.1,h.1,h.2.1⟩,λh=>⟨h.ed,h.edi,λ_ h=>by cases h⟩⟩
theorem Ja:∀(l:LI) (a n:Int),Yp l->(∀x∈l,a<=x/\x<n)->(l.length:Int)<=max 0 (n - a)
 | [],a,n,_,_=>by simp;omega
 | x::l,a,n,E,H=>by
  simp only[List.pairwise_cons,Ou]at E H;have:=Ja l (x+1) n E.2 (λy I=>⟨ov (E.1 y I),(H.2 y I).2⟩);simp only[oV];omega
theorem Zo.al_le {a:QU}(h:Zo a):a.al.length<=32:=by have:=Ja a.al 0 32 h.ali h.al;omega
theorem Zo.mr_le {a:QU}(h:Zo a):a.mr.length<=4096:=by have:=Ja a.mr 0 a.st h.mri h.mr;have:=h.st1;omega
theorem Zo.eds {a:QU}(h:Zo a):a.ed.Pairwise λx y=>x.1<=y.1:=h.edi.imp λh=>oa
structure Cs where
 ord:LI
 num:LI
 mk':LI
 ed:List Ed
def Yb (l:LI)(k:Int):Int:=l.getD k.toNat 0
def ZB (i:Nat)(c:Cs)(e:Ed):Cs :=
 if Yb c.num e.2.2<0 then⟨c.ord++[e.2.2],c.num.set e.2.2.toNat c.ord.length,c.mk',c.ed++[((i:Int),e.2.1,(c.ord.length:Int))]⟩
 else⟨c.ord,c.num,c.mk',c.ed++[((i:Int),e.2.1,Yb c.num e.2.2)]⟩
def Ym (a:QU)(i:Nat)(c:Cs):Cs:=if Yb c.ord i∈a.mr then⟨c.ord,c.num,c.mk'++[(i:Int)],c.ed⟩else c
def zM (a:QU)(i:Nat)(c:Cs):Cs:=(Z2 a.ed (Yb c.ord i)).foldl (ZB i) (Ym a i c)
def Jd (a:QU):Nat->Nat->Cs->Cs
 | 0,_,c=>c
 | f+1,i,c=>if i<c.ord.length then Jd a f (i+1) (zM a i c)else c
def YX (a:QU):Cs:=⟨[0],(oK a.st.toNat (-1)).set 0 0,[],[]⟩
def Yg (a:QU):QU:=if a.st=0 then⟨a.al,0,[],[]⟩else
 let c:=Jd a a.st.toNat 0 (YX a);⟨a.al,c.ord.length,c.mk',c.ed⟩
def neg (l:LI):Nat:=(l.filter (·<0)).length
theorem UY:∀(l:LI) (k:Nat) (v:Int) (h:k<l.length),l[k]<0->0<=v->neg (l.set k v)+1=neg l
 | a::l,0,v,_,E,H=>by
  have I:a<0:=E;simp[neg,I,show ¬v<0 by omega]
 | a::l,k+1,v,h,E,H=>by
  have ih:=UY l k v (oA h) E H;unfold neg at *;simp only[List.set_cons_succ,List.filter_cons];split
  .simp only[oV];omega
  exact ih
structure UI (st:Int)(c:Cs):Prop where
 nl:c.num.length=st.toNat
 sum:c.ord.length+neg c.num=st.toNat
 ord:∀s∈c.ord,0<=s/\s<st
 num:∀v∈c.num,v<c.ord.length
 el:c.ed.length<=1000000000
theorem UI.le {st:Int}{c:Cs}(h:UI st c):c.ord.length<=st.toNat:=by have:=h.sum;omega
theorem U6 {l:LI}{k:Int}(h:k.toNat<l.length):Yb l k=l[k.toNat]:=by unfold Yb;simp[oQ,h]
theorem QcW {st:Int}{c:Cs}{e:Ed}(h:UI st c)(O:0<=e.2.2)(S:e.2.2<st)(I:c.ed.length+1<=1000000000):UI st (ZB i c e):=by
 have hk:e.2.2.toNat<c.num.length:=by rw[h.nl];omega
 unfold ZB;split
 .rename_i J;rw[U6 hk]at J;refine⟨by simp[h.nl],?_,?_,?_,oA I⟩
  .have:=UY c.num e.2.2.toNat c.ord.length hk J oa;have:=h.sum;simp only[oN,oP];omega
  .intro s E;simp only[oU,oJ]at E;rcases E with E|rfl
   .exact h.ord s E
   exact⟨O,S⟩
  intro v H;simp only[oN,oP];rcases M1 H with H|rfl
  .have:=h.num v H;omega
  omega
 exact⟨h.nl,h.sum,h.ord,h.num,oA I⟩
theorem QcY (i:Nat)(c:Cs)(e:Ed):(ZB i c e).ed.length=c.ed.length+1:=by unfold ZB;split <;> simp
theorem Qkv {a:QU}{st:Int}{c:Cs}(h:UI st c):UI st (Ym a i c):=by
 unfold Ym;split
 .exact⟨h.nl,h.sum,h.ord,h.num,h.el⟩
 exact h
theorem ZY {es:List Ed}{e:Ed}(h:e∈Z2 es s):e∈es/\e.1=s:=by unfold Z2 at h;simpa using h
theorem Qhu {a:QU}(S:0<a.st):UI a.st (YX a):=by
 have I:0<a.st.toNat:=oa
 refine⟨by simp[YX],?_,?_,?_,by simp[YX]⟩
 .have J:0<(oK a.st.toNat (-1:Int)).length:=by simpa using I
  have T:=UY (oK a.st.toNat (-1)) 0 0 J oe (Ng _);have V:neg (oK a.st.toNat (-1))=a.st.toNat:=by
   unfold neg;rw[NJ.2 (by intro b O;have:=NG O;subst this;rfl)];simp
  simp only[YX,oP];omega
 .intro s H;simp[YX]at H;subst H;omega
 intro v E;simp only[YX,oP]at *;rcases M1 E with E|rfl
 .have:=NG E;omega
 omega
theorem Qbb {a:QU}{f:Nat}{c:Cs}(h:¬i<c.ord.length):Jd a f i c=c:=by
 cases f with
 | zero=>rfl
 | succ f=>rw[Jd,O0 h]
theorem Zo.ed_le {a:QU}(h:Zo a):a.ed.length<=131072:=by
 have I:Yp (a.ed.map λe=>e.1*32+e.2.1):=by
  refine MC.2 (List.Pairwise.imp_of_mem ?_ h.edi);intro x y hx J T;have E:=h.al _ (h.ed x hx).2.2.1;have H:=h.al _ (h.ed y J).2.2.1;omega
 have E:=Ja _ 0 131072 I (by
  intro v O;obtain⟨e,S,rfl⟩:=Ly.1 O;have H:=h.ed e S;have V:=h.al _ H.2.2.1;have:=h.st1;omega)
 simp only[o6]at E;omega
theorem VE (es:List Ed)(s:Int):(Z2 es s).length<=es.length:=Mt _ _
structure Vm (b3 b22:Nat)(r3:O9)(wS:O8)(c:Cs)(vo vk ve:O9)(w:O8):Prop where
 st:xj [b3,b22] wS w
 B3:QP ↑w b3 66 [r3,sS 0,vk,ve]
 B22:QP ↑w b22 3 (c.num.map (Value.int .i64))
 o:Qp 3 ↑wS w vo c.ord
 k:Qp 3 ↑wS w vk c.mk'
 e:YR 159 ↑wS w ve c.ed
 d1:Dj vo vk
 d2:Dj vo ve
 d3:Dj vk ve
theorem Vm.J {b3 b22:Nat}{r3:O9}{wS:O8}{c:Cs}{vo vk ve:O9}{w w':O8}(h:Vm b3 b22 r3 wS c vo vk ve w)(E:sW w w'):Vm b3 b22 r3 wS c vo vk ve w' :=
 ⟨h.st.I E,h.B3.J E,h.B22.J E,Ql h.o E,Ql h.k E,Ql h.e E,h.d1,h.d2,h.d3⟩
section
variable {b3 b22:Nat}{r3:O9}{wS:O8}{c:Cs}{vo:O9}{w'':O8}
theorem Vm.setK (h:Vm b3 b22 r3 wS c vo vk ve w)(Y:b3<wS.heap.size)(T:b22<wS.heap.size)(ne:b3≠b22){I:O9}{m:LI}(J:xj (ob vk) w w')(O:Qp 3 ↑wS w' I m)
  (S:∀b∈ob I,b∈ob vk\/↑w<=b) (H:xj [b3] w' w'') (V:QP ↑w'' b3 66 [r3,sS 0,I,ve]):Vm b3 b22 r3 wS ⟨c.ord,c.num,m,c.ed⟩ vo I ve w'':=by
 refine⟨(h.st.G J (λb E=>.inr ((Qg h.k) b E).1)).G H (λb E=>.inl (by simp at E;simp[E])),V,(h.B22.O J (QR h.k T)).O H (by simp;omega),
  Qf (Qf h.o J h.d1) H (λb E=>by have:=(Qg h.o b E).1;simp;omega),Qf O H (λb E=>by have:=(Qg O b E).1;simp;omega),
  Qf (Qf h.e J h.d3.symm) H (λb E=>by have:=(Qg h.e b E).1;simp;omega),h.d1.grow S (Q3 h.o),h.d2,(h.d3.symm.grow S (Q3 h.e)).symm⟩
theorem Vm.setE (h:Vm b3 b22 r3 wS c vo vk ve w)(Y:b3<wS.heap.size)(T:b22<wS.heap.size)(ne:b3≠b22){I:O9}{m:List Ed}(J:xj (ob ve) w w')(O:YR 159 ↑wS w' I m)
  (S:∀b∈ob I,b∈ob ve\/↑w<=b) (H:xj [b3] w' w'') (V:QP ↑w'' b3 66 [r3,sS 0,vk,I]):Vm b3 b22 r3 wS ⟨c.ord,c.num,c.mk',m⟩ vo vk I w'':=by
 refine⟨(h.st.G J (λb E=>.inr ((Qg h.e) b E).1)).G H (λb E=>.inl (by simp at E;simp[E])),V,(h.B22.O J (QR h.e T)).O H (by simp;omega),
  Qf (Qf h.o J h.d2) H (λb E=>by have:=(Qg h.o b E).1;simp;omega),Qf (Qf h.k J h.d3) H (λb E=>by have:=(Qg h.k b E).1;simp;omega),
  Qf O H (λb E=>by have:=(Qg O b E).1;simp;omega),h.d1,h.d2.grow S (Q3 h.o),h.d3.grow S (Q3 h.k)⟩
theorem Vm.setN (h:Vm b3 b22 r3 wS c vo vk ve w)(J:b22<wS.heap.size)(ne:b3≠b22){m:LI}(H:xj [b22] w w')(I:QP ↑w' b22 3 (m.map (Value.int .i64))):Vm b3 b22 r3 wS ⟨c.ord,m,c.mk',c.ed⟩ vo vk ve w' :=
 ⟨h.st.G H (λb E=>.inl (by simp at E;simp[E])),h.B3.O H (by simp;omega),I,Qf h.o H (λb E=>by have:=(Qg h.o b E).1;simp;omega),
  Qf h.k H (λb E=>by have:=(Qg h.k b E).1;simp;omega),Qf h.e H (λb E=>by have:=(Qg h.e b E).1;simp;omega),h.d1,h.d2,h.d3⟩
theorem Vm.setO (h:Vm b3 b22 r3 wS c vo vk ve w)(J:b3<wS.heap.size)(O:b22<wS.heap.size){H:O9}{m:LI}(E:xj (ob vo) w w')(S:Qp 3 ↑wS w' H m)
  (I:∀b∈ob H,b∈ob vo\/↑w<=b):Vm b3 b22 r3 wS ⟨m,c.num,c.mk',c.ed⟩ H vk ve w' :=
 ⟨h.st.G E (λb T=>.inr (Qg h.o b T).1),h.B3.O E (QR h.o J),h.B22.O E (QR h.o O),S,Qf h.k E h.d1.symm,Qf h.e E h.d2.symm,
  (h.d1.symm.grow I (Q3 h.k)).symm,(h.d2.symm.grow I (Q3 h.e)).symm,h.d3⟩
end
def YB (c:Cs)(e:Ed):Cs:=if Yb c.num e.2.2<0 then⟨c.ord++[e.2.2],c.num.set e.2.2.toNat c.ord.length,c.mk',c.ed⟩else c
theorem QnQ (c:Cs)(e:Ed):(YB c e).num.length=c.num.length:=by unfold YB;split <;> simp
theorem yy {c:Cs}{e:Ed}(h:e.2.2.toNat<c.num.length):ZB i c e=⟨(YB c e).ord,(YB c e).num,(YB c e).mk',(YB c e).ed++[((i:Int),e.2.1,Yb (YB c e).num e.2.2)]⟩:=by
 unfold ZB YB;split
 .simp[Yb,oQ,h]
 rfl
theorem JJ {L:LN}{a:QU}(h:ZE L ↑w va vm ve a)(Z:Zo a):
  QZ sV 99 [.agg #[va,sS a.st,vm,ve]] w λr w'=>sW w w'/\Xi ↑w ↑w' r (Yg a):=by
 have hst0:=Z.st0;have hst1:=Z.st1;refine Zt func99 ?_;refine Qc<|Zg [va,sS a.st,vm,ve] λb1 w1 gn hb1 hp=>QL [nS,sS 0,nS,nS] λb2 w2 hj hb2 hr=>xe ?_;have hl1:=hp.lt;have hl2:=hr.lt;refine Qc<|Qm U (hp.J hj) U U<|Qx<|(ZU ((h.al.J gn).J hj)).S ?_;rintro r3 w3 ⟨ha,S⟩;have hz3:=ha.size;refine x (Qv ⟨(Qp.ints (L:=[]) S h.al.le oe).cells,La⟩)<|QL [nS,sS 0,nS,nS] λb3 w4 ko kq ht =>
  QJ [r3,sS 0,nS,nS] ht ⟨(Qp.ints (L:=[]) S h.al.le oe).one,rfl,rfl,rfl,La⟩ λw5 kr ht=>xe ?_
 have O:sW w3 w5:=ko.Q kr kq;have hl3:=ht.lt;have go:sW w w5:=((gn.I hj).I ha).I O;refine Qd<|Qc<|QN U<|x (Qk (((hp.J hj).J ha).J O) U U)<|x (QW U U)<|xe<|QY rfl (λhL=>?_) (λhL=>?_)
 .refine Qc<|QV ht U U<|QJ [r3,sS 0,nS,nS] ((hr.J ha).J O) ⟨(Qp.ints (L:=[]) S h.al.le oe).one,rfl,rfl,rfl,La⟩ λw6 gp hr=>xe ?_;refine Qi ⟨[.agg #[r3,sS 0,nS,nS]],⟨YO hr,La⟩,go.Q gp oa,?_⟩;have kt:=Qf (Ql S O) gp (λb E=>by have:=(Qg S b E).1;simp;omega);unfold Yg;rw[O1 hL];exact⟨r3,_,_,U,λL' hv=>⟨Qp.ints kt h.al.le (λb E=>ov (hv b E)),Zk.nil _ _ _,Zk.nil _ _ _⟩⟩
 have ku:0<a.st:=oa
 obtain⟨n,hn⟩:∃n:Nat,a.st=n:=⟨a.st.toNat,oa⟩;have kv:a.st.toNat=n:=oa
 refine Qe<|Qc<|QN U<|x (Qk (((hp.J hj).J ha).J O) U U)<|Qo<|KC (n:=n) (O2 sS hn) (O2 sS hn) oa λb22 w7 hw hb22 hM=>Qb ?_;have hl22:=hM.lt;have kw:=go.I hw;rw[show(oK n (sS 0).cells.toList).flatten=((oK n 0).map (Value.int .i64)) by rw[show(sS 0).cells.toList=[sS 0] from rfl,Qdd,List.map_replicate]]at hM;have kx:sW w3 w7:=O.I hw;refine Qd<|Qj<|x (Un U)<|Qa<|xe<|Q2 (α:=Nat) [(5,5),(25,31)] (λk=>[(25,sS k)]) (λk w'=>xj [b22] w7 w'/\k<=n/\QP ↑w' b22 3 ((oK k (-1)++oK (n - k) 0).map (Value.int .i64))) (λk=>n - k) 0 Lb
  ⟨xj.Y _ _,Lp _,oA hM⟩ ?_
 rintro k g w8 ⟨hN,hk,hO⟩;refine Zi rfl U (λkz=>?_) (λkz=>?_)
 rotate_left
 .have V:k<n:=oa
  refine Qe<|Qd<|Qn<|Qj<|Qb<|Qq<|Qa<|Qa<|x (QO U U V)<|Qo<|KN hO U U (by simp;omega) λw9 h7 gq=>xe ?_;refine Qq<|QH U U<|Qa<|xe<|⟨k+1,oa,Lb,hN.V h7,oa,?_⟩;have e:(oK k (-1:Int)++oK (n - k) 0).set k (-1)=oK (k+1) (-1)++oK (n - (k+1)) 0:=by
   rw[List.set_append_right _ _ oe];obtain⟨m,hm⟩:∃m,n - k=m+1:=⟨n - k - 1,oa⟩;rw[hm,show n - (k+1)=m by omega,List.replicate_succ,List.replicate_succ' (n:=k)];simp
  rw[e]at gq;exact gq
 have k0:n=k:=oa
 subst k0;simp only[OW,List.replicate_zero,Ol]at hO;refine Qt<|Qj<|x (QO (i:=0) U U oa)<|Qo<|KN (i:=0) hO U U (by simp;omega) λwS h7 k4=>xe ?_;have hzS:w8.heap.size<=wS.heap.size:=h7.size;have hz8:=hN.size;have hy:xj [b22] w7 wS:=hN.V h7;have hP:sW w wS:=kw.Q hy oa;have hA:ZE [b3,b22] ↑wS va vm ve a:=(h.up (λb E=>.inr (by simp at E;omega))).J hP;have gr:QP ↑wS b1 66 [va,sS a.st,vm,ve]:=((((hp.J hj).J ha).J O).J hw).O hy (by simp;omega);have k5:QP ↑wS b2 66 [nS,sS 0,nS,nS]:=(((hr.J ha).J O).J hw).O hy (by simp;omega);have k6:QP ↑wS b3 66 [r3,sS 0,nS,nS]:=(ht.J hw).O hy (by simp;omega);have k7:Qp 3 ↑w2 wS r3 a.al:=Qf (Ql S kx) hy (λb E=>by have:=Q3 S b E;simp;omega);have k8:∀b∈ob r3,b<w3.heap.size:=Q3 S;have hz:b3<wS.heap.size:=oa
 have h0:b22<wS.heap.size:=oa
 have hQ:b3≠b22:=oa
 refine Qc<|Qo<|Zb [[sS 0]] λgs k9 hR hb34 ma=>Qb ?_;have mf:Qp 3 ↑wS k9 (sL gs 1 1) [0]:=ma.own (n:=1) (sz:=1) U oa oa;refine Qd<|Qc<|Qb ?_;have hedle:=Z.ed_le;have mg:∀e∈a.ed,0<=e.1/\e.1<=1099511627776:=λe he=>ov (Z.ed e he)
 refine Q2 (α:=Nat×Cs×O9×O9×O9) [(6,9),(11,11),(35,100)] (λz=>[(6,z.2.2.1),(7,sS z.1)])
  (λz w'=>Vm b3 b22 r3 wS z.2.1 z.2.2.1 z.2.2.2.1 z.2.2.2.2 w'/\z.1<=z.2.1.ord.length/\UI a.st z.2.1/\z.2.1.mk'.length<=z.1/\z.2.1.ed.length<=z.1*131072/\Jd a (a.st.toNat - z.1) z.1 z.2.1=Jd a a.st.toNat 0 (YX a))
  (λz=>a.st.toNat - z.1) (0,YX a,sL gs 1 1,nS,nS) oB
  ⟨⟨hR.any,k6.J hR,by show QP _ _ _ (List.map _ ((oK a.st.toNat (-1)).set 0 0));rw[kv];exact k4.J hR,mf,QI _ _ _ _,QI _ _ _ _,Dj.nil' _,Dj.nil' _,Dj.nil' _⟩,Lp _,Qhu ku,Lp _,Lp _,U⟩ ?_
 rintro⟨i,c,vo,vk,T⟩ g2 mh ⟨I,hi,H,mj,mo,hS⟩;simp only[]at I hi H mj mo hS;have hcle:=H.le;have hT:=Qp.ints (L:=[]) I.o oa oe;have mq:=hA.st I.st;have ms:=gr.O I.st (by simp;omega);refine Qd<|Qj<|Qa<|QE hT U<|Ye U U<|xe<|ZI rfl (λmt=>?_) (λmt=>?_)
 .have mu:c=Jd a a.st.toNat 0 (YX a):=by rw[<-hS,Qbb oa]
  refine Qt<|Qj<|QE hT U<|QN U<|Qo<|Qw I.B3 U U oe rfl λmv h8 mw=>xe ?_;refine Qc ?_;have my:=Qp.ints (L:=[]) I.k oa oe;have mz:=YR.eds (L:=[]) I.e (ov H.el) oe;have m2:=Qp.ints (L:=[]) S h.al.le oe;refine QV mw U U<|QJ [r3,sS c.ord.length,vk,T] (((k5.O I.st (by simp;omega))).O h8 (by simp;omega)) ⟨m2.one,U,my.one,mz.one,La⟩ λm3 h9 m4=>xe ?_;have hE1:xj [b3,b22] wS mv:=I.st.G h8 (λb E=>.inl (by simp at E;simp[E]));have m5:sW w m3:=(hP.G hE1 (λb E=>.inr (by simp at E;omega))).Q h9 oa;refine Qi ⟨[.agg #[r3,sS c.ord.length,vk,T]],⟨YO m4,La⟩,m5,?_⟩;unfold Yg;rw[O0 hL];simp only[];rw[<-mu];have k1:=Qf (Qf I.k h8 (λb E=>by have:=(Qg I.k b E).1;simp;omega)) h9 (λb E=>by have:=(Qg I.k b E).1;simp;omega);have k2:=Qf (Qf I.e h8 (λb E=>by have:=(Qg I.e b E).1;simp;omega)) h9 (λb E=>by have:=(Qg I.e b E).1;simp;omega);have k3:=Qf (Qf k7 hE1 (λb E=>by have:=k8 b E;simp;omega)) h9 (λb E=>by have:=(Qg S b E).1;simp;omega);exact⟨r3,vk,T,U,λL' hv=>⟨Qp.ints k3 h.al.le (λb E=>ov (hv b E)),Qp.ints k1 (by show c.mk'.length<=_;omega) (λb E=>ov (hv b E)),YR.eds k2 (by show c.ed.length<=_;have:=H.el;omega) (λb E=>ov (hv b E))⟩⟩
 have V:i<c.ord.length:=oa
 refine Qe<|Qd<|Qn<|QX (α:=O9) [(8,9),(41,57)] (λz=>[]) (λz w'=>Vm b3 b22 r3 wS (Ym a i c) vo z T w') om ?_ ?_
 .refine Qd<|ZH [] (Xf 0 12 [6])<|p (QF U)<|pq (λ_ H=>Qk (ms.J H) U U)<|p QA<|p QA<|pii U hT U U V λa46 m6 =>
   pq (λ_ H=>Qy (m6.J H) U)<|pk<|xg<|(jA (mq.mr.J (xj.X _ _)) Z.mri _).S ?_
  rintro r14 w14 ⟨rfl,j14,rfl⟩;refine⟨xj.X _ _,?_⟩;refine p QA<|p (λ_=>Zw U U)<|p (λ_=>Zw U U)<|p ZL<|p ZL<|pe ?_;have hU:=I.J (xj.X [] mh);refine Qj<|xe ?_;have hB:Yb c.ord i=c.ord[i]:=U6 (oA V);refine ZI U (λhV=>?_) (λhV=>?_)
  .refine Qe<|⟨vk,La,?_⟩;unfold Ym;rw[hB,O0 hV];exact hU
  refine Qq<|Qm U hU.B3 U U<|Qa<|Qo<|Zb [[sS i]] λb55 w15 m7 hb55 m8=>?_;have h2:=hU.J m7;refine Qo<|Q9 (news:=[sS i]) (L:=[]) h2.k U U U (m8.at oe) oq oa h2.st.size λv16 m9 pa gt pc=>?_;have gu:Qp 3 ↑wS m9 v16 (c.mk'++[(i:Int)]):=Qp.snoc pa;refine QN U<|Qo<|Qw (h2.B3.O gt (QR h2.k hz)) U U oe (Qp.ints (L:=[]) gu (by simp;omega) oe).one λw17 pd pf=>xe ?_;refine⟨v16,La,?_⟩;unfold Ym;rw[hB,O1 hV];exact h2.setK hz h0 hQ gt gu pc pd pf
 rintro hW g3 h3 hl;have pg:UI a.st (Ym a i c):=Qkv H;have hX:(Ym a i c).ord=c.ord:=by unfold Ym;split <;> rfl
 have ph:(Ym a i c).ed=c.ed:=by unfold Ym;split <;> rfl
 have pj:(Ym a i c).mk'.length<=i+1:=by
  unfold Ym;split
  .simp only[oN,oP];omega
  omega
 have gv:QG [] ↑h3 vo (Ym a i c).ord:=Qp.ints (L:=[]) hl.o (by rw[hX];omega) oe;rw[hX]at gv;have pm:sW w h3:=hP.G hl.st (λb E=>.inr (by simp at E;omega));have pn:ZE (b3::b22::(ob vo++ob T)) ↑h3 va vm ve a:=(h.up (λb E=>.inr (by
  simp only[oM,oU]at E;rcases E with rfl|rfl|E|E
  .omega
  .omega
  .have:=(Qg hl.o b E).1;omega
  have:=(Qg hl.e b E).1;omega))).J pm
 have po:=gr.O hl.st (by simp;omega);have hs:=H.ord c.ord[i] (Lm V);refine Qd<|ZH [] [oE 0,oE 1,oE 2,oE 3,oE 4,oE 7,oF 5,oE 6]<|pq (λ_ H=>ZN (po.J H) U U)<|p QA<|p QA<|pii U gv U U V λa61 pp =>
  pq (λ_ H=>Qy (pp.J H) U)<|p QA<|pk<|xg<|(QbN (pn.ed.J (xj.X _ _)) Z.eds mg c.ord[i] hs.1 oa).S ?_
 rintro r19 ho ⟨pu,gw⟩;have gx:sW h3 ho:=(xj.X [] h3).I pu;refine⟨gx,?_⟩;refine p (λ_=>Xr gw U)<|pe ?_;have pw:=hl.J gx;have hB:Yb c.ord i=c.ord[i]:=U6 (oA V);have hol:=VE a.ed c.ord[i];have pz:zM a i c=(Z2 a.ed c.ord[i]).foldl (ZB i) (Ym a i c):=by unfold zM;rw[hB]
 generalize p0:Z2 a.ed c.ord[i]=os at *;have p1:∀e∈os,0<=e.2.2/\e.2.2<a.st:=λe he=>by rw[<-p0]at he;have:=Z.ed e (ZY he).1;omega
 refine Q2 (α:=Nat×Cs×O9×O9) [(6,6),(11,11),(65,100)] (λz=>[(6,z.2.2.1),(65,sS z.1)])
  (λz w'=>Vm b3 b22 r3 wS z.2.1 z.2.2.1 hW z.2.2.2 w'/\xj (b3::b22::(ob vo++ob T)) ho w'/\(∀b∈ob z.2.2.1,b∈ob vo\/↑ho<=b)/\(∀b∈ob z.2.2.2,b∈ob T\/↑ho<=b)/\z.1<=os.length/\UI a.st z.2.1/\z.2.1.mk'=(Ym a i c).mk'/\z.2.1.ed.length=c.ed.length+z.1/\c.ord.length<=z.2.1.ord.length/\(os.drop z.1).foldl (ZB i) z.2.1=zM a i c)
  (λz=>os.length - z.1) (0,Ym a i c,vo,T) oB
  ⟨pw,xj.Y _ _,λ_ E=>.inl E,λ_ E=>.inl E,Lp _,pg,U,by simp[ph],by simp[hX],by rw[pz];rfl⟩ ?_
 rintro⟨k,d,gy,hC⟩ g4 p2 ⟨hg,hD,hE,hY,p3,Y,hZ,ga,p4,h4⟩;simp only[]at hg hD hE hY p3 Y hZ ga p4 h4;refine Zi rfl U (λp5=>?_) (λp5=>?_)
 .rw[Lx oa,NL]at h4;subst h4;refine Qt<|Qq<|Qa<|QH U U<|Qb ?_;have p6:=Y.le;refine⟨(i+1,zM a i c,gy,hW,hC),og,oB,hg,og,Y,by simp only[];rw[hZ];exact pj,og,?_⟩;simp only[];rw[<-hS];obtain⟨m,hm⟩:∃m,a.st.toNat - i=m+1:=⟨a.st.toNat - i - 1,oa⟩;rw[hm,Jd,O1 V,show a.st.toNat - (i+1)=m by omega]
 have gb:k<os.length:=oa
 have p7:=Zz gb;rw[p7,LZ]at h4;have gz:=p1 os[k] (Lm gb);have p8:=gw.st hD;have p6:=Y.le;have hzS4:=hD.size;have hI4z:=hg.st.size;have p9:=Qp.ints (L:=[]) hg.o oa oe;obtain⟨q,hq⟩:∃q:Nat,os[k].2.2=q:=⟨os[k].2.2.toNat,oa⟩;have gc:os[k].2.2.toNat=q:=oa
 have gg:q<n:=oa
 have gh:q<d.num.length:=by rw[Y.nl];omega
 have g0:Yb d.num os[k].2.2=d.num[q]:=by rw[U6 oa];simp only[gc]
 have qc:=Q3 hg.e;have qf:=Q3 hg.o;refine Qe<|Qd<|Qn<|Qc<|xie p8 U U gb λa67 ql=>x (Qu ql U U)<|QL [sS 0,sS 0,sS 0] λg6 w21 qo qr hh=>QJ (Qz os[k]) hh oC λq0 q1 hh=>xe ?_;have g7:sW p2 q0:=qo.Q q1 qr;have hF:=hg.J g7;have hl11:=hh.lt;have O:=hD.I g7;refine QX (α:=O9) [(6,6),(69,85)] (λz=>[(6,z)]) (λz w'=>Vm b3 b22 r3 wS (YB d os[k]) z hW hC w'/\xj (b3::b22::(ob vo++ob T)) ho w'/\(∀b∈ob z,b∈ob vo\/↑ho<=b)/\QP ↑w' g6 159 (Qz os[k])) om ?_ ?_
 .refine Qj<|Qm U hh U U<|x (QO U (O2 sS hq) gg)<|x (z8 hF.B22 U gh)<|Ye U U<|xe<|ZI U (λgi=>?_) (λgi=>?_)
  .refine Qe<|⟨gy,Lb,?_,O,hE,hh⟩;unfold YB;rw[g0,O0 gi];exact hF
  refine Qj<|Qm U hh U U<|Qa<|QE p9 U<|x (QO U (O2 sS hq) gg)<|Qo<|KN hF.B22 U U gh λw23 hG q2=>xe ?_;have q3:=hF.setN h0 hQ hG q2;have g8:=hh.O hG (by simp;omega);refine Qq<|Qa<|Qm U g8 U U<|Qo<|XQ (us:=[[sS os[k].2.2]]) U U oh oe ⟨rfl,rfl,La⟩ λb84 w24 hH hb84 q4=>?_;have gj:=q3.J hH;refine Qo<|Q9 (news:=[sS os[k].2.2]) (L:=[]) gj.o U U U (q4.at oe) oq (by show d.ord.length+1<=_;omega) gj.st.size λg9 q5 za gk ka=>Qb ?_;have zb:Qp 3 ↑wS q5 g9 (d.ord++[os[k].2.2]):=Qp.snoc za;have hz23:=hG.size;have hz24:=hH.size;refine⟨g9,Lb,?_,?_,?_,(g8.J hH).O gk (λE=>ov (qf _ E))⟩
  .unfold YB;rw[g0,O1 gi,gc];exact gj.setO hz h0 gk zb ka
  .refine((O.G hG (λb E=>.inl ?_)).I hH).G gk (λb E=>?_)
   .simp at E;simp[E]
   rcases hE b E with J|J
   .exact .inl (by simp[J])
   exact .inr J
  intro b E;rcases ka b E with J|J
  .exact hE b J
  exact .inr oa
 rintro zv g5 kb ⟨h5,kc,z1,ke⟩;have gl:ZB i d os[k]=⟨(YB d os[k]).ord,(YB d os[k]).num,(YB d os[k]).mk',(YB d os[k]).ed++[((i:Int),os[k].2.1,Yb (YB d os[k]).num os[k].2.2)]⟩:=yy oa;have z2:q<(YB d os[k]).num.length:=by rw[QnQ];exact gh
 have z3:Yb (YB d os[k]).num os[k].2.2=(YB d os[k]).num[q]:=by rw[U6 oa];simp only[gc]
 have kf:=QR h5.e hz;have z5:=QR h5.e h0;have kg:g6∉ob hC:=λE=>ov (qc _ E)
 have kh:(YB d os[k]).ed=d.ed:=by unfold YB;split <;> rfl
 have hc5:UI a.st (ZB i d os[k]):=QcW Y gz.1 gz.2 (by rw[ga];omega);refine ZH (ob hC) (Xf 0 15 [11,12,14])<|p (QF U)<|pq (λ_ H=>Qk (h5.B3.O H kf) U U)<|p QA<|p (QF U)<|pq (λ_ H=>Qk (ke.O H kg) U U) <|
  p QA<|p (QF U)<|pq (λ_ H=>Qk (ke.O H kg) U U)<|p (λ_=>QO U (O2 sS hq) gg) <|
  pq (λ_ H=>z8 (h5.B22.O H z5) U z2)<|p (λ_=>Qv ⟨U,U,U,La⟩)<|pk<|Zb [Qz ((i:Int),os[k].2.1,(YB d os[k]).num[q])] λb97 w27 hs27 hb97 hB97=>?_
 have h6:sW kb w27:=(xj.X [] kb).I hs27;refine⟨h6.any,?_⟩;have hJ:=h5.J h6;refine pk<|Q9 (news:=Qz ((i:Int),os[k].2.1,(YB d os[k]).num[q])) (L:=[]) hJ.e U U U (hB97.at oe) (λu hu=>by simp only[Qz,oM,oL,or_false]at hu;rcases hu with rfl|rfl|rfl <;> rfl) (by rw[kh];have:=Y.el;omega) hJ.st.size λki w28 ho28 hK kj=>?_
 refine⟨h6.any.V hK,?_⟩;have kk:YR 159 ↑wS w28 ki ((YB d os[k]).ed++[((i:Int),os[k].2.1,(YB d os[k]).num[q])]):=YR.snoc ho28;refine p (QF U)<|pkk<|Qw (hJ.B3.O hK kf) U U oe (YR.eds (L:=[]) kk (by simp[kh];have:=Y.el;omega) oe).one λw29 kn hB29=>pe ?_;have gm:=hJ.setE hz h0 hQ hK kk kj kn hB29;rw[<-z3]at gm;rw[<-gl]at gm;refine Qq<|QH U U<|Qa<|xe ?_;have hz26:=kc.size;have hz27:=h6.size;refine⟨(k+1,ZB i d os[k],zv,ki),og,oB,gm,?_,z1,?_,og,hc5,?_,?_,?_,h4⟩
 .refine(((kc.I h6)).G hK (λb E=>?_)).G kn (λb E=>.inl (by simp at E;simp[E]));rcases hY b E with J|J
  .exact .inl (by simp[J])
  exact .inr J
 .intro b E;rcases kj b E with J|J
  .exact hY b J
  exact .inr oa
 .simp only[];rw[<-hZ,gl];simp only[];unfold YB;split <;> rfl
 .simp only[];rw[QcY,ga];omega
 simp only[];rw[gl];simp only[];unfold YB;split
 .simp only[oN];omega
 omega
end Go.Lg
namespace Go.Proofs
open Go.Proofs.Tryz
open Go.Shelf
def Tryz.lays169_ren:Go.Shelf.Ren:=⟨λ|169=>181|n=>n,λ|70=>330|9=>9|0=>0|72=>332|37=>178|127=>398|3=>3|5=>5|n=>n,λ|n=>n⟩
theorem Tryz.lays169:Go.Proofs.Lays.n169 sV Tryz.lays169_ren:=lyS
theorem Tryz.Builder_Extra_169:Builder.Extra sV Tryz.lays169_ren:=lyS
open Go.RowKit in
open Go.RowKit in
open Go.RowKit in
theorem Tryz.Builder_String_any (B b:Nat)(l:List UInt8)(w:O8)(h:Lib.IsBuilder 332 5 B b (Lib.byteCells l) w)(E:B<=↑w):
  Calls sV 181 #[sP b] w λe w'=>e=.returned (.string ⟨l.toArray⟩)/\Below B w w':=Any.Builder_String_any Tryz.lays169 Tryz.Builder_Extra_169 B b l w h E
def Tryz.laysM171_ren:Go.Shelf.Ren:=⟨λ|171=>180|243=>250|246=>292|283=>326|284=>327|285=>328|286=>329|129=>209|317=>342|318=>343|319=>344|320=>345|337=>348|338=>349|n=>n,λ|3=>3|9=>9|2=>2|4=>4|171=>461|0=>0|53=>364|37=>178|5=>5|173=>463|212=>476|51=>362|20=>20|213=>477|46=>269|232=>480|233=>481|n=>n,λ|17=>0|18=>1|19=>2|n=>n⟩
theorem Tryz.laysM171:Go.Proofs.LaysM.n171 sV Tryz.laysM171_ren:=lyS
open Go.RowKit Go.Sort Go.Lib in
theorem Tryz.strconv_Itoa (n:Int)(E:-9223372036854775808<=n)(H:n<=9223372036854775807)(w:O8)(I:Lib.TabIs sV w "internal/strconv.uint64pow10" .u64 Lib.pow10Tab):
  Calls sV 180 #[sS n] w λe w'=>e=.returned (.string ⟨(Lib.itoa n).toArray⟩)/\∃k os,w'=grow (w.drewN k) os:=Any.strconv_Itoa Tryz.laysM171 n E H w I
def Tryz.lays171_ren:Go.Shelf.Ren:=⟨λ|171=>180|243=>250|246=>292|283=>326|284=>327|285=>328|286=>329|129=>209|317=>342|318=>343|319=>344|320=>345|337=>348|338=>349|n=>n,λ|3=>3|9=>9|2=>2|4=>4|171=>461|0=>0|53=>364|37=>178|5=>5|173=>463|212=>476|51=>362|20=>20|213=>477|46=>269|232=>480|233=>481|n=>n,λ|17=>0|18=>1|19=>2|n=>n⟩
theorem Tryz.lays171:Go.Proofs.Lays.n171 sV Tryz.lays171_ren:=lyS
open Go.RowKit Go.Sort Go.Lib in
theorem Tryz.strconv_Itoa_small (i:Nat)(hi:i<100)(w:O8):
  Calls sV 180 #[sS i] w λe w'=>e=.returned (.string ⟨(Lib.decDigits i).toArray⟩)/\w'=w:=Any.strconv_Itoa_small Tryz.lays171 i hi w
end Go.Proofs
namespace Go.Lg
open Go.RowKit
section
variable {K:Fr->O8->Prop}{f:Fr}{pS:String}
theorem Y8 {te:Nat}(H:P.underlying t=some (.pointer te)){x:xd}{a:Option Addr}(hx:ev f x=.pointer a)(I:ev f y=.pointer none):
  sR P f w d (.binOp .eql t x y E) ty pS af gd (.bool a.isNone):=by
 unfold sR
 have J:(eqGuard .eql t x y (.pointer a) (.pointer none)).run P w=.ok () w:=by simp[eqGuard]
 have key:∀m,(Op.equalIn (m+1) t (.pointer a) (.pointer none)).run P w=.ok a.isNone w:=by
  intro m;unfold Op.equalIn;cases a <;> simp[run_underlying H]
 have O:(Op.equal t (.pointer a) (.pointer none)).run P w=.ok a.isNone w:=key 9999;simp only[execOp,hx,I,Sem.run_bind,J,Result.andThen_ok,binOp,O,Sem.run_pure]
theorem QhZ {te:Nat}{j:TypeInfo}(H:P.underlying t=some (.pointer te))(I:P.info? te=some j){x:xd}{a:Addr}(hx:ev f x=.pointer (some a))(J:ev f y=.pointer (some a)):
  sR P f w d (.binOp .neq t x y E) ty pS af gd (.bool false):=by
 unfold sR
 have O:(eqGuard .neq t x y (.pointer (some a)) (.pointer (some a))).run P w=.ok () w:=by simp[eqGuard]
 simp only[execOp,hx,J,Sem.run_bind,O,Result.andThen_ok,Lib.run_neq_ptr_same w a H I,Sem.run_pure]
theorem ya {x:xd}{v:O9}(hx:ev f x=v)(h:(convert t E v).run P w=.ok v' w):
  sR P f w d (.convert t E x) ty pS af gd v':=by
 simp[sR,execOp,hx,h]
theorem Qj3 {e:Array O9->Sem O9}{x:xd}{v:O9}{ts:Array Nat}(hf:P.funcs[g]?=some fn)(H:(fn.name == "runtime.NumGoroutine")=false)
  (I:fn.body.isNone=true) (J:Extern.findNext fn=none) (O:Extern.find fn=some e) (h:(e #[ev f x]).run P w=.ok v w):
  sR P f w d (.call ⟨.value (.func g),#[x],ts⟩) ty pS af gd v:=by
 unfold sR
 have E:=run_callFunc_extern hf H I J O #[ev f x] w;rw[h]at E;have S:ev f (.func g)=.func (.func g) #[] #[]:=rfl;simp[execOp,resolve,S,Deferred.ofValue,invoke,E,Result.andThen]
theorem QqH {e u:Nat}[h:Sl P t e 1 1 (.int .u8 0)](hu:P.underlying u=some .string){s:xd}{base:Nat}{v:O9}{cs:LV}(E:w.ownsRow base e 1 v n cs)(H:ev f s=v)
  {b:ByteArray} (I:ev f y=.string b) (hb:n+b.size<=1099511627776) (J:base<=↑w)
  (hK:∀v' w',w'.ownsRow base e 1 v' (n+b.size) (cs++Lib.strCells b)->xj (ob v) w w'->K (QT f d v') w'):
  XO P ⟨d,.call ⟨.builtin .append,#[s,y],#[t,u]⟩,ty,pS,af,gd⟩ f w K:=by
 obtain⟨i,hi,O,S,T⟩:=Sl.info h;obtain⟨v',w',V,Y,Z,_⟩:=Lib.run_append_own_string (P:=P) w base t u ty e i h.u hu hi O S T v n cs E b (by simp only[maxLen];omega) oa J;have ha:(execOp (ev f) ⟨d,.call ⟨.builtin .append,#[s,y],#[t,u]⟩,ty,pS,af,gd⟩).run P w=.ok (.value v') w':=by
  simp[execOp,resolve,invoke,builtin,H,I,V]
 exact xv ha (hK v' w' Y (by rw[yT];exact xj.of_grown Z))
theorem Qj0 {x:xd}{u:Nat}(hu:P.underlying u=some .string){b:ByteArray}(hx:ev f x=.string b):
  sR P f w d (.call ⟨.builtin .len,#[x],#[u]⟩) ty pS af gd (sS b.size):=by
 simp[sR,execOp,resolve,invoke,builtin,Builtin.len_,hx,run_underlying hu,goInt]
end
def Bl (p:O9)(b:Nat)(E:List UInt8)(w:O8):Prop:=∃v,QP ↑w b 332 [p,v]/\w.ownsRow (b+1) 5 1 v E.length (Lib.byteCells E)
def me (b:Nat):O9:=sP b
theorem Qor (h:(P.info? t).map (·.size)=some n):∃j,P.info? t=some j/\j.size=n:=by
 simpa using h
theorem Qbe {cs:LV}(h:QP ↑w b T cs):w.shape? b=some (T,cs.length):=by
 unfold QP at h;simp[World.shape?,h]
theorem qh {H:O8}{O:List UInt8}{p:O9}(S:sW H w)(V:↑H<=b)(Y:p=.pointer none\/p=me b)(h:Bl p b O w):
  QZ sV 249 [me b] w λr w'=>r=.tuple #[]/\sW H w'/\Bl (me b) b O w':=by
 obtain⟨v,E,I⟩:=h;obtain⟨j,J,Z⟩:=Qor (P:=sV) (t:=332) (n:=2) od;refine Zt func249 ?_;refine Qc ?_;rcases Y with rfl|rfl
 .refine Qa<|Z7 U<|Qm U E U U<|x (Y8 underlying330 U U)<|xe<|jE U ?_;refine Qq<|Qa<|Qa<|x (ya (v':=me b) U (Lib.run_to_unsafe w ⟨b,0,none⟩ underlying330 underlying438 J (by rw[Z];decide) (Qbe E) oe)) <|
   x (Qj3 (v:=me b) func291 od od od (e:=Extern.AbiNoEscape.same) od U) <|
   x (ya (v':=me b) U (Lib.run_from_unsafe w ⟨b,0,none⟩ underlying438 underlying330 J (Qbe E) od))<|x (Uw U) <|
   QN rfl<|Qo<|Qw E U U oe rfl λw2 T ha=>xe ?_
  exact⟨[],La,U,S.Q T V,v,ha,Qf I T (λc hc=>by have:=(Qg I c hc).1;simp;omega)⟩
 refine Qa<|Z7 U<|Qm U E U U<|x (Y8 underlying330 U U)<|xe<|Zl U<|Qj<|Z7 U<|Qm U E U U<|Qa<|x (QhZ underlying330 J U U)<|xe<|Zl U<|Qe ?_;exact⟨[],La,U,S,v,E,I⟩
theorem Qbp {J:O8}{E:List UInt8}{p:O9}(h0:sW J w)(V:↑J<=b)(hp:p=.pointer none\/p=me b)(h:Bl p b E w)(c:UInt8)(hl:E.length+1<=1000000000):
  QZ sV 247 [me b,.int .u8 c.toNat] w λ_ w'=>sW J w'/\Bl (me b) b (E++[c]) w':=by
 refine Zt func247 ?_;refine Qc<|Qb<|Qj<|Qx<|(qh h0 V hp h).S ?_;rintro r1 w1 ⟨rfl,ha,v,O,S⟩;refine xe ?_;have hi:=O.lt;refine Qj<|Qa<|Z7 U<|Qm U O U U<|Qa<|Qo<|Zb [[.int .u8 c.toNat]] λb13 w2 I hj he=>?_;have hm:=I.size;refine Qo<|Q9 (news:=[.int .u8 c.toNat]) (L:=[]) (Ql S I) U U U (he.at oe) oq oa oa λv3 w3 hg Y hn=>?_;have T:w3.ownsRow (b+1) 5 1 v3 (E++[c]).length (Lib.byteCells (E++[c])):=by simpa[Lib.byteCells]using hg
 refine Z7 rfl<|QN U<|Qo<|Qw ((O.J I).O Y (λH=>ov (Qg S b H).1)) U U oe (QC (L:=[]) T (by simp;omega) oe).one λw4 Z hh=>xe ?_;refine Qc<|Qb<|Qi ⟨[.nilIface],Lb,(((ha.I I).G Y (λc H=>.inr ?_)).Q Z V),v3,hh,Qf T Z (λc H=>by have:=(Qg T c H).1;simp;omega)⟩;have:=(Qg S c H).1;omega
theorem Vy {I:O8}{E:List UInt8}{p:O9}(h0:sW I w)(T:↑I<=b)(hp:p=.pointer none\/p=me b)(h:Bl p b E w)(s:ByteArray)(hl:E.length+s.size<=1000000000):
  QZ sV 179 [me b,.string s] w λ_ w'=>sW I w'/\Bl (me b) b (E++s.data.toList) w':=by
 refine Zt func179 ?_;refine Qc<|x Qh<|Qb<|Qj<|Qx<|(qh h0 T hp h).S ?_;rintro r1 w1 ⟨rfl,ha,v,J,O⟩;refine xe ?_;have hh:=J.lt;refine Qj<|Qa<|Z7 U<|Qm U J U U<|Qa<|Qo<|QqH underlying9 O U U oa oa λv3 w3 he V=>?_;have Y:s.size=s.data.toList.length:=rfl;have S:w3.ownsRow (b+1) 5 1 v3 (E++s.data.toList).length (Lib.byteCells (E++s.data.toList)):=by
  rw[Ln,<-Y,show Lib.byteCells (E++s.data.toList)=Lib.byteCells E++Lib.strCells s by simp[Lib.byteCells,Lib.strCells_eq]];exact he
 refine Z7 rfl<|QN U<|Qo<|Qw (J.O V (λH=>ov (Qg O b H).1)) U U oe (QC (L:=[]) S (by rw[Ln,<-Y];omega) oe).one λw4 Z hg=>xe ?_;refine Qj<|x (Qj0 underlying9 U)<|x Qh<|Qb<|Qi ⟨[sS s.size,.nilIface],oB,((ha.G V (λc H=>.inr ?_)).Q Z T),v3,hg,Qf S Z (λc H=>by have:=(Qg S c H).1;simp;omega)⟩;have:=(Qg O c H).1;omega
theorem Qam {J:O8}{I:List UInt8}{p:O9}(E:sW J w)(Z:↑J<=b)(V:p=.pointer none\/p=me b)(h:Bl p b I w):
  QZ sV 181 [me b] w λr w'=>r=.string ⟨I.toArray⟩/\sW J w':=by
 obtain⟨v,O,S⟩:=h;have ha:=O.lt;have T:Lib.BuilderAt 332 5 b b p (Lib.byteCells I) w:=⟨Lu _,v,O,by rw[Lib.byteCells_length];exact Zv S oa,λe=>by
  have:b∈ob v:=by rw[yT,e];simp
  have:=(Qg S b this).1;omega⟩
 unfold QZ;refine Calls.mono (Tryz.Builder_String_any b b I w (by rcases V with rfl|rfl;exact .inl T;exact .inr T) oa) ?_
 rintro e w' ⟨rfl,H⟩;exact⟨U,⟨H.os.I E.os,H.tape.I E.tape,H.output.I E.output,LJ E.size H.size,λk hk Y=>(H.block k oa).I (E.block k hk Y)⟩⟩
def Tb (w:O8):Prop:=Lib.TabIs sV w "internal/strconv.uint64pow10" .u64 Lib.pow10Tab
theorem Qjk {name:String}{v:Array O9}(h:w.var? P name=some v)(I:sW w w'):w'.var? P name=some v:=by
 unfold World.var? at *;rw[MZ]at *;obtain⟨g,J,E⟩:=h;refine⟨g,J,?_⟩;cases H:w.heap[g]? with
 | none=>rw[H]at E;cases E
 | some o =>
  have O:g<w.heap.size:=(LP.1 H).1;rw[I.block g O oe];exact E
theorem Tb.J (h:Tb w)(E:sW w w'):Tb w':=Qjk h E
def Kb (w:O8)(m:Int):Prop:=m<=100\/(m<=1000000/\Tb w)
theorem Kb.J {w w':O8}{m:Int}(h:Kb w m)(E:sW w w'):Kb w' m:=h.imp id λh=>⟨h.1,h.2.J E⟩
theorem Kb.le {m:Int}(h:Kb w m):m<=1000000:=by rcases h with h|h <;> omega
theorem QeM {k:Nat}{os:xI}:sW w (Sort.grow (w.drewN k) os):=by
 refine⟨U,U,U,?_,λi hi _=>?_⟩
 .show ↑w<=(w.heap++os).size;simp
 show(w.heap++os)[i]?=w.heap[i]?;rw[Array.getElem?_append_left hi]
theorem QgR {m:Int}(i:Nat)(hi:(i:Int)<m)(w:O8)(hk:Kb w m):QZ sV 180 [sS i] w λr w'=>r=.string ⟨(Lib.decDigits i).toArray⟩/\sW w w':=by
 unfold QZ;rcases hk with hk|hk
 .refine Calls.mono (Tryz.strconv_Itoa_small i oa w) ?_;rintro e w' ⟨rfl,rfl⟩;exact⟨U,xj.Y _ _⟩
 refine Calls.mono (Tryz.strconv_Itoa i oa oa w hk.2) ?_;rintro e w' ⟨rfl,k,os,rfl⟩;refine⟨?_,QeM⟩;unfold Lib.itoa;rw[O0 oa,MK]
def Kg (l:LI):List UInt8:=l.flatMap λn=>Lib.decDigits n.toNat++[32]
theorem zc:∀(k u:Nat),u<10 ^ k->(Lib.decDigits u).length<=max 1 k
 | 0,u,h=>by
  unfold Lib.decDigits;rw[dif_pos (by simp at h;omega)];simp
 | k+1,u,h=>by
  unfold Lib.decDigits;split
  .simp
  rename_i hu;have ih:=zc k (u / 10) (by rw[Nat.pow_succ]at h;omega);rw[Ln];simp only[oP];have E:k≠0:=λe=>by subst e;simp at h;omega
  omega
theorem Bl.J {w w':O8}{p:O9}{b:Nat}{E:List UInt8}(h:Bl p b E w)(H:sW w w'):Bl p b E w':=by
 obtain⟨v,I,J⟩:=h;exact⟨v,I.J H,Ql J H⟩
theorem Qb5 {L:LN}{v:O9}{l:LI}{m:Int}(h:QG L ↑w v l)(T:Kb w m)(Z:∀n∈l,0<=n/\n<m)(hl:l.length<=1000000):
  QZ sV 173 [v] w λr w'=>r=.string ⟨(Kg l).toArray⟩/\sW w w':=by
 refine Zt func173 ?_;refine Qc<|Qb<|Qc<|QL [.pointer none,nS] λI w1 ha J hc=>xe ?_;refine Qd<|Qj<|QE h U<|Qa<|xe<|Q2 (α:=Nat×O9) [(5,5),(8,16)] (λz=>[(8,sS z.1)]) (λz w'=>z.1<=l.length/\sW w w'/\(z.2=.pointer none\/z.2=me I)/\Bl z.2 I (Kg (l.take z.1)) w'/\(Kg (l.take z.1)).length<=8*z.1) (λz=>l.length - z.1) (0,.pointer none) Lb
  ⟨Lp _,ha,.inl U,⟨_,hc,QI _ _ _ _⟩,Lu _⟩ ?_
 rintro⟨k,p⟩ g w2 ⟨hk,E,O,H,he⟩;simp only[]at hk O H he;refine Zi rfl U (λh9=>?_) (λh9=>?_)
 .refine Qt<|Qc ?_;rw[Lt oa]at H;refine Qbo<|(Qam E J O H).S ?_;rintro r3 w3 ⟨rfl,hg⟩;refine Qb<|Qi ⟨[.string ⟨(Kg l).toArray⟩],Lb,U,hg⟩
 have S:k<l.length:=oa
 have hr:=Z l[k] (Lm S);obtain⟨q,hq⟩:∃q:Nat,l[k]=q:=⟨l[k].toNat,oa⟩;have hh:l[k].toNat=q:=oa
 have hs:=zc 7 q (ov T.le);have V:Kg (l.take (k+1))=Kg (l.take k)++Lib.decDigits q++[32]:=by
  rw[Lo S];unfold Kg;rw[LC,List.flatMap_singleton,hh,LD]
 refine Qe<|Qd<|Qn<|Qc<|xii (h.J E) U U S λht hi=>x (Qy hi U)<|Qb<|Qj<|Qo<|xf ?_;refine(show QZ _ _ [sS l[k]] _ _ by rw[hq];exact(QgR q oa w2 (T.J E))).S ?_;rintro r4 w4 ⟨rfl,Y⟩;refine Qbo<|(Vy (E.I Y) J O (H.J Y) ⟨(Lib.decDigits q).toArray⟩ (by show _+(Lib.decDigits q).toArray.size<=_;simp;omega)).S ?_;rintro r5 w5 ⟨hj,hm⟩;refine xe<|Qq<|Qbo<|(Qbp hj J (.inr U) hm 32 (by simp;omega)).S ?_;rintro r6 w6 ⟨hn,ho⟩;refine xe<|Qq<|QH U U<|Qa<|xe<|⟨(k+1,me I),og,Lb,og,hn,.inr U,?_,?_⟩
 .simp only[];rw[V];simpa using ho
 simp only[];rw[V];simp;omega
def ckL:List QU->Int
 | []=>0
 | a::l=>if Jt a≠0 then Jt a else ckL l
def UK (l:List QU):Int:=if 12<l.length then 3 else ckL l
theorem Qd9:∀(l:List QU),ckL l=0↔∀a∈l,Zo a
 | []=>by simp[ckL]
 | a::l=>by
  rw[ckL];by_cases h:Jt a=0
  .rw[O0 (oA h),Qd9 l];simp[(Z0 a).1 h]
  rw[O1 h];simp only[Ou];exact⟨λe=>O3 e h,λe=>O3 ((Z0 a).2 e.1) h⟩
def evs (l:List QU):LI:=l.foldl (λacc a=>mrg (· || ·) acc a.al) []
def zu (m:List ((Int×Int)×O9))(es:List Ed):List ((Int×Int)×O9):=es.foldl (λm e=>xu m (e.1,e.2.1) (sS e.2.2)) m
def xx:List Ed->Int->Int->Option Int
 | [],_,_=>none
 | e::l,s,v=>if e.1=s/\e.2.1=v then some e.2.2 else xx l s v
theorem QaY {l:List Ed}{v:Int}(h:∀e∈l,¬(e.1=s/\e.2.1=v)):xx l s v=none:=by
 induction l with
 | nil=>rfl
 | cons e l ih =>
  rw[xx,O0 (h e Lr)];exact ih λe E=>h e (Ll _ E)
theorem QaZ:∀(es:List Ed) (m:List ((Int×Int)×O9)) (s v:Int),(es.Pairwise λx y=>x.1<y.1\/(x.1=y.1/\x.2.1<y.2.1)) ->
  xt (zu m es) (s,v)=match xx es s v with|some t=>some (sS t)|none=>xt m (s,v)
 | [],m,s,v,_=>rfl
 | e::es,m,s,v,h=>by
  simp only[List.pairwise_cons]at h;have ih:=QaZ es (xu m (e.1,e.2.1) (sS e.2.2)) s v h.2;unfold zu at *;rw[LZ,ih,xx];by_cases hk:e.1=s/\e.2.1=v
  .rw[O1 hk,QaY (λx hx H=>ov (h.1 x hx))];simp only[Xy];rw[O1 (by rw[hk.1,hk.2])]
  rw[O0 hk];cases xx es s v with
  | some t=>rfl
  | none =>
   simp only[Xy];rw[O0 (λE=>hk (oA E))]
def Y2 (ev:Int):List QU->LI->Option (LI)
 | a::bs,t::ts=>if ev∉a.al then(Y2 ev bs ts).map (t::·)else match xx a.ed t ev with|none=>none|some u=>(Y2 ev bs ts).map (u::·)
 | _,_=>some []
def J0:List QU->LI->Bool
 | a::bs,t::ts=>decide (t∈a.mr) && J0 bs ts
 | _,_=>true
structure Sy where
 tup:List (LI)
 mk':LI
 ed:List Ed
def syE (aa:List QU)(i:Nat)(t:LI)(s:Sy)(v:Int):Option Sy :=
 match Y2 v aa t with
 | none=>some s
 | some u=>if u∈s.tup then some ⟨s.tup,s.mk',s.ed++[((i:Int),v,(s.tup.idxOf u:Int))]⟩
  else if s.tup.length=4096 then none else some ⟨s.tup++[u],s.mk',s.ed++[((i:Int),v,(s.tup.length:Int))]⟩
def yx (aa:List QU)(i:Nat)(t:LI):LI->Sy->Option Sy
 | [],s=>some s
 | v::vs,s=>(syE aa i t s v).bind (yx aa i t vs)
def Yi (aa:List QU)(i:Nat)(t:LI)(s:Sy):Sy:=if J0 aa t=true then⟨s.tup,s.mk'++[(i:Int)],s.ed⟩else s
def syT (s:Sy)(i:Nat):LI:=s.tup.getD i []
def syL (aa:List QU):Nat->Nat->Sy->Option Sy
 | 0,_,s=>some s
 | f+1,i,s=>if i<s.tup.length then(yx aa i (syT s i) (evs aa) (Yi aa i (syT s i) s)).bind (syL aa f (i+1))else some s
def sy0 (aa:List QU):Sy:=⟨[oK aa.length 0],[],[]⟩
def xz (aa:List QU):Option (QU×List (LI)):=
 if ∃a∈aa,a.st=0 then some (⟨evs aa,0,[],[]⟩,[])else(syL aa 4096 0 (sy0 aa)).map λs=>(⟨evs aa,s.tup.length,s.mk',s.ed⟩,s.tup)
theorem Qjs {aa:List QU}{f:Nat}{s:Sy}(h:¬i<s.tup.length):syL aa f i s=some s:=by
 cases f with
 | zero=>rfl
 | succ f=>rw[syL,O0 h]
def Vt (aa:List QU)(t:LI):Prop:=t.length=aa.length/\∀i (h:i<t.length) (E:i<aa.length),0<=t[i]/\t[i]<aa[i].st
theorem Vt.cons {a:QU}{aa:List QU}{u:Int}{t:LI}(E:0<=u)(H:u<a.st)(h:Vt aa t):Vt (a::aa) (u::t):=by
 refine⟨by simp[h.1],λi I J=>?_⟩;cases i with
 | zero=>exact⟨E,H⟩
 | succ i=>exact h.2 i (oA I) (oA J)
theorem QdR {l:List Ed}{v u:Int}(h:xx l s v=some u):(s,v,u)∈l:=by
 induction l with
 | nil=>cases h
 | cons e l ih =>
  rw[xx]at h;split at h
  .rename_i E;obtain⟨e1,e2⟩:=E;cases h
   obtain⟨a,b,c⟩:=e;subst e1 e2;exact Lr
  exact Ll _ (ih h)
theorem Km {v:Int}:∀{aa:List QU}{t u:LI},(∀a∈aa,Zo a)->Vt aa t->Y2 v aa t=some u->Vt aa u
 | [],t,u,_,h,E=>by
  cases t with
  | nil=>simp[Y2]at E;subst E;exact h
  | cons x t=>have:=h.1;simp at this
 | a::aa,[],u,_,h,E=>by have:=h.1;simp at this
 | a::aa,x::t,u,I,h,E=>by
  have hx:=h.2 0 oe oe;have J:Vt aa t:=⟨by have:=h.1;simpa using this,λi S T=>h.2 (i+1) (oA S) (oA T)⟩;have O:∀a∈aa,Zo a:=λa V=>I a (Ll _ V);rw[Y2]at E;split at E
  .obtain⟨Y,H,rfl⟩:=MH.1 E;exact Vt.cons hx.1 hx.2 (Km O J H)
  split at E
  .cases E
  rename_i q Z;obtain⟨Y,H,rfl⟩:=MH.1 E;have:=(I a Lr).ed _ (QdR Z);exact Vt.cons this.2.2.2.1 this.2.2.2.2 (Km O J H)
structure zj (aa:List QU)(s:Sy):Prop where
 v:∀t∈s.tup,Vt aa t
 le:s.tup.length<=4096
theorem Qaj {aa:List QU}{t:LI}{s:Sy}(h:zj aa s):zj aa (Yi aa i t s):=by
 unfold Yi;split
 .exact⟨h.v,h.le⟩
 exact h
theorem Qjv {aa:List QU}{t:LI}{s I:Sy}{v:Int}(J:∀a∈aa,Zo a)(h:zj aa s)(H:Vt aa t)(E:syE aa i t s v=some I):zj aa I:=by
 unfold syE at E;split at E
 .cases E;exact h
 rename_i u hu;split at E
 .cases E;exact⟨h.v,h.le⟩
 split at E
 .cases E
 cases E
 have:=h.le;refine⟨λt H=>?_,by simp;omega⟩;simp only[oU,oJ]at H;rcases H with H|rfl
 .exact h.v t H
 exact(Km J H hu)
theorem zh (p:AV):(Zq p).length=4:=rfl
theorem Uu (p:TV):(YT p).length=1:=rfl
theorem JL.le {L:LN}{H:xI}{v:O9}{ps:List AV}(h:JL L H v ps):ps.length<=1099511627776:=h.arr.le
theorem Ql0 {l:List QU}{k:Nat}(h:k<l.length):ckL (l.drop k)=if Jt l[k]≠0 then Jt l[k]else ckL (l.drop (k+1)):=by
 rw[LH h,ckL]
theorem Qh4 {L:LN}{v:O9}{ps:List AV}(h:JL L ↑w v ps):
  QZ sV 170 [v] w λr w'=>r=sS (UK (ps.map (·.a)))/\sW w w':=by
 have hj:=JL.le h;refine Zt func170 ?_;refine Qc<|Qb<|Qd<|Qj<|QE h.arr U<|x (ZX U U)<|xe<|QY rfl (λV=>?_) (λV=>?_)
 .refine Qc<|Qb<|Qi ⟨[sS 3],Lb,?_,xj.Y _ _⟩;unfold UK;rw[O1 (by simp;omega)];rfl
 refine Qe ?_;have Y:UK (ps.map (·.a))=ckL (ps.map (·.a)):=by unfold UK;rw[O0 (by simp;omega)]
 rw[Y];refine Qd<|Qj<|QE h.arr U<|Qa<|xe<|Q2 (α:=Nat) [(2,2),(4,5),(11,20)] (λz=>[(11,sS z)]) (λz w'=>z<=ps.length/\sW w w'/\ckL (ps.map (·.a))=ckL ((ps.map (·.a)).drop z)) (λz=>ps.length - z) 0 Lb
  ⟨Lp _,xj.Y _ _,U⟩ ?_
 rintro k g Z ⟨hk,E,H⟩;refine Zi rfl U (λha=>?_) (λha=>?_)
 .refine Qt<|Qc<|Qb<|Qi ⟨[sS 0],Lb,?_,E⟩;rw[H,Lx (by simp;omega)];rfl
 have I:k<ps.length:=oa
 have hb:k<(ps.map (·.a)).length:=by simpa using I
 rw[Ql0 hb,LW]at H;refine Qe<|Qd<|Qn<|Qc<|xp zh (h.J E).arr U U I λhl hc=>x (Qu hc U U)<|QL [nS,sS 0,nS,nS] λb4 w2 he hg J=>?_;have hA:=h.each ps[k] (Lm I);refine QJ (Zq ps[k]) J ⟨hA.al.one,U,hA.mr.one,hA.ed.one,La⟩ λw3 hh J=>xe ?_;have S:sW Z w3:=he.Q hh hg;refine Qc<|QV J U U<|Qx<|(XS ((hA.J E).J S)).S ?_;rintro r4 w4 ⟨rfl,hi⟩;refine Qb ?_;have T:=(E.I S).I hi;refine Qj<|Zu U U<|xe<|QY rfl (λO=>?_) (λO=>?_)
 .refine Qj<|Qb<|Qi ⟨[sS (Jt ps[k].a)],Lb,?_,T⟩;rw[H,O1 O];rfl
 refine Qe<|Qq<|QH U U<|Qa<|xe<|⟨k+1,oa,Lb,I,T,?_⟩;rw[H,O0 O]
theorem Qls {l:List QU}{k:Nat}(h:k<l.length):evs (l.take (k+1))=mrg (· || ·) (evs (l.take k)) l[k].al:=by
 unfold evs;rw[Lo h,Mk];rfl
theorem Qci (l:List QU)(h:∀a∈l,a.al.length<=32):(evs l).length<=32*l.length:=by
 have key:∀(l:List QU) (acc:LI),(∀a∈l,a.al.length<=32)->(l.foldl (λacc a=>mrg (· || ·) acc a.al) acc).length<=acc.length+32*l.length:=by
  intro l;induction l with
  | nil=>intro acc _;simp
  | cons a l ih =>
   intro acc h;have H:=ih (mrg (· || ·) acc a.al) (λa E=>h a (Ll _ E));have I:=QbW (· || ·) acc a.al;have J:=h a Lr;simp only[List.foldl_cons,oV];omega
 have:=key l [] h;unfold evs;simpa using this
theorem Qit {L:LN}{v:O9}{ps:List AV}(h:JL L ↑w v ps)(hn:ps.length<=12)(S:∀p∈ps,p.a.al.length<=32):
  QZ sV 246 [v] w λr w'=>sW w w'/\Qp 3 ↑w w' r (evs (ps.map (·.a))):=by
 refine Zt func246 ?_;refine Qc<|Qb<|Qc<|Qb<|Qd<|Qj<|QE h.arr U<|Qa<|xe<|Q2 (α:=Nat×O9) [(3,3),(5,5),(8,16)] (λz=>[(3,z.2),(8,sS z.1)]) (λz w'=>z.1<=ps.length/\sW w w'/\Qp 3 ↑w w' z.2 (evs ((ps.map (·.a)).take z.1))) (λz=>ps.length - z.1) (0,nS) oB
  ⟨Lp _,xj.Y _ _,QI _ _ _ _⟩ ?_
 rintro⟨k,vo⟩ g V ⟨hk,I,H⟩;simp only[]at hk H;have hj:=Qci ((ps.map (·.a)).take k) (λa Y=>by obtain⟨p,Z,rfl⟩:=Ly.1 (L8 Y);exact S p Z);have hl:((ps.map (·.a)).take k).length<=12:=by simp;omega
 refine Zi rfl U (λh9=>?_) (λh9=>?_)
 .refine Qt<|Qj<|Qb<|Qi ⟨[vo],Lb,I,?_⟩;rw[Lt (by simp;omega)]at H;exact H
 have E:k<ps.length:=oa
 refine Qe<|Qd<|Qn<|Qc<|xp zh (h.J I).arr U U E λhm hb=>x (Qu hb U U)<|QL [nS,sS 0,nS,nS] λb5 w2 hc he J=>?_;have hA:=h.each ps[k] (Lm E);have hq:=S ps[k] (Lm E);refine QJ (Zq ps[k]) J ⟨hA.al.one,U,hA.mr.one,hA.ed.one,La⟩ λw3 hg J=>xe ?_;have T:sW V w3:=hc.Q hg he;have O:=I.I T;refine Qq<|Qa<|Qm U J U U<|Qx<|(Qet (Qp.ints (L:=[]) (Ql H T) oa oe) (hA.al.J O) oa).S ?_;rintro r4 w4 ⟨hh,hi⟩;refine Qb<|Qq<|QH U U<|Qa<|xe<|⟨(k+1,r4),og,oB,E,O.I hh,?_⟩;simp only[];rw[Qls (oA E),LW];exact Zv hi O.size
abbrev QgH (b:Nat):LV:=[.map (some b)]
structure VS (L:LN)(H:xI)(vl ve vs:O9)(ps:List AV)(ms:LN):Prop where
 al:JL L H vl ps
 ev:QG L H ve (evs (ps.map (·.a)))
 ml:ms.length=ps.length
 sl:Zk L H vs ms.length 1 (ms.flatMap QgH)
 mp:∀i (h:i<ms.length) (h':i<ps.length),Yh Ju H ms[i] (zu [] ps[i].a.ed)/\ms[i]∉L
theorem VS.J {L:LN}{w w':O8}{vl ve vs:O9}{ps:List AV}{H:LN}(h:VS L ↑w vl ve vs ps H)(E:sW w w'):VS L ↑w' vl ve vs ps H :=
 ⟨h.al.J E,h.ev.J E,h.ml,h.sl.J E,λi I J=>⟨(h.mp i I J).1.J E,(h.mp i I J).2⟩⟩
theorem VS.st {L:LN}{w w':O8}{vl ve vs:O9}{ps:List AV}{J:LN}(h:VS L ↑w vl ve vs ps J)(E:xj L w w'):VS L ↑w' vl ve vs ps J :=
 ⟨h.al.st E,h.ev.st E,h.ml,h.sl.st E,λi H I=>⟨(h.mp i H I).1.O E (h.mp i H I).2,(h.mp i H I).2⟩⟩
theorem VS.up {L L':LN}{H:xI}{vl ve vs:O9}{ps:List AV}{O:LN}(h:VS L H vl ve vs ps O)(E:∀b∈L',b∈L\/H.size<=b):VS L' H vl ve vs ps O :=
 ⟨h.al.up E,h.ev.up E,h.ml,h.sl.up E,λi I J=>⟨(h.mp i I J).1,λT=>by rcases E _ T with S|S;exact(h.mp i I J).2 S;have:=(h.mp i I J).1.lt;omega⟩⟩
theorem Qfz {m:List ((Int×Int)×O9)}{es:List Ed}{k:Nat}(h:k<es.length):zu m (es.take (k+1))=xu (zu m (es.take k)) (es[k].1,es[k].2.1) (sS es[k].2.2):=by
 unfold zu;rw[Lo h,Mk];rfl
theorem QnM {L:LN}{ps:List AV}(h:JL L ↑w vl ps)(hn:ps.length<=12)(hE:∀p∈ps,p.a.al.length<=32)(hL:∀b∈L,b<↑w):
  QZ sV 171 [vl] w λr w'=>sW w w'/\∃ve vs H,r=.agg #[vl,ve,vs]/\VS L ↑w' vl ve vs ps H/\Qp 3 ↑w w' ve (evs (ps.map (·.a))):=by
 refine Zt func171 ?_;refine Qc<|QL [nS,nS,nS] λb2 w1 hv hQ hw=>xe ?_;refine Qj<|Qa<|Qx<|(Qit (h.J hv) hn hE).S ?_;rintro ve w2 ⟨Y,Z⟩;have hR:=Qci (ps.map (·.a)) (λa ha=>by obtain⟨p,hp,rfl⟩:=Ly.1 ha;exact hE p hp);have ka:(evs (ps.map (·.a))).length<=1000:=by simp at hR;omega
 have hy:=Qp.ints (L:=[]) Z oa oe;refine x (Qv ⟨h.arr.cells,hy.cells,La⟩)<|QL [nS,nS,nS] λb3 w3 hS hT hc =>
  QJ [vl,ve,nS] hc ⟨h.arr.one,hy.one,U,La⟩ λI hU hc=>xe ?_
 have hV:=hv.size;have kb:=Y.size;have he:sW w2 I:=hS.Q hU hT;have kc:=hw.lt;have ke:=hc.lt;have hW:sW w I:=(hv.I Y).I he;have hX:=Ql Z he;refine Qd<|Qj<|QE h.arr U<|Qa<|xe ?_;have hY:=Q3 Z;refine Q2 (α:=Nat×LN×O9) [(5,6),(8,8),(15,42)] (λz=>[(15,sS z.1)])
  (λz w'=>z.1<=ps.length/\z.2.1.length=z.1/\xj [b3] I w'/\QP ↑w' b3 322 [vl,ve,z.2.2]/\w'.ownsRow ↑I 395 1 z.2.2 z.2.1.length (z.2.1.flatMap QgH) /\
   (∀i (h:i<z.2.1.length) (h':i<ps.length),Yh Ju ↑w' z.2.1[i] (zu [] ps[i].a.ed)/\↑I<=z.2.1[i]/\z.2.1[i]∉ob z.2.2)) (λz=>ps.length - z.1) (0,[],nS) Lb
  ⟨Lp _,U,xj.Y _ _,hc,QI _ _ _ _,λi h=>by simp at h⟩ ?_
 rintro⟨k,H,vs⟩ g w5 ⟨hk,hg,J,hz,O,hh⟩;simp only[]at hk hg J hz O hh;have hl:sW w w5:=hW.Q J oa;have kf:=J.size;have ho:=Qg O;refine Zi rfl U (λhZ=>?_) (λhZ=>?_)
 .have ga:k=ps.length:=oa
  subst ga;refine Qt<|Qc ?_;have gb:=QC (L:=[]) O oa oe;refine QV hz U U<|QJ [vl,ve,vs] (((hw.J Y).J he).O J (by simp;omega)) ⟨h.arr.one,hy.one,gb.one,La⟩ λw6 hr gc=>xe ?_;have hF:=hl.Q hr hQ;have hG:Qp 3 ↑w1 w6 ve _:=Qf (Qf hX J (λb E=>by have:=hY b E;simp;omega)) hr (λb E=>by have:=(Qg Z b E).1;simp;omega);have hH:=Qf O hr (λb E=>by have:=(ho b E).1;simp;omega);refine Qi ⟨[.agg #[vl,ve,vs]],⟨YO gc,La⟩,hF,ve,vs,H,U,⟨h.J hF,Qp.ints hG oa (λb E=>ov (hL b E)),hg,QC hH oa (λb E hbL=>oy (hL b hbL) (Qg hH b E).1),λi h1 h2=>⟨?_,λhbL=>oy (hL _ hbL) (hh i h1 h2).2.1⟩⟩,Zv hG hV⟩;obtain⟨m1,m2,_⟩:=hh i h1 h2;exact m1.O hr (λE=>by
   simp only[oJ]at E;have h7:=(((hw.J Y).J he).O J (by simp;omega));rw[E]at m1;obtain⟨es,c,m4,_⟩:=m1;unfold QP at h7;rw[h7]at m4;cases m4)
 have h0:k<ps.length:=oa
 have hA:=h.each ps[k] (Lm h0);refine Qe<|Qd<|Qn<|Qc<|xp zh (h.J hl).arr U U h0 λkg gg=>x (Qu gg U U)<|QL [nS,sS 0,nS,nS] λb5 w7 gh gi gj =>
  QJ (Zq ps[k]) gj ⟨hA.al.one,U,hA.mr.one,hA.ed.one,La⟩ λw8 gk hI=>xe ?_
 have gl:sW w5 w8:=gh.Q gk gi;have kh:=hI.lt;refine Qc<|Qo<|YZ Ju λbm w9 hJ ki hK=>Qb ?_;have kj:=hK.lt;have hM:=gl.I hJ;have gm:=hl.I hM;refine Qd<|Qc<|Qm U (hI.J hJ) U U<|QE hA.ed U<|Qa<|xe ?_;have gn:=(hA.ed.up (L':=[bm]) (λb E=>.inr (by simp at E;have:=hl.size;omega))).J gm;have kk:=hA.ed.le;refine Q2 (α:=Nat) [(8,8),(23,35)] (λz=>[(23,sS z)]) (λz w'=>z<=ps[k].a.ed.length/\xj [bm] w9 w'/\Yh Ju ↑w' bm (zu [] (ps[k].a.ed.take z))) (λz=>ps[k].a.ed.length - z) 0 Lb
  ⟨Lp _,xj.Y _ _,hK⟩ ?_
 rintro j g2 S ⟨hj,hs,h3⟩;have kn:=hs.size;refine Zi rfl U (λgo=>?_) (λgo=>?_)
 .refine Qt ?_;rw[Lt oa]at h3;have h4:sW w5 S:=hM.Q hs oa;have hN:QP ↑S b3 322 [vl,ve,vs]:=hz.J h4;refine Qq<|Qm U hN U U<|Qa<|Qo<|Zb [[.map (some bm)]] λko gp ht kq gq=>?_;have h6:=h4.I ht;have gr:=Ql O h6;have kr:=h6.size;refine Qo<|Q9 (news:=[.map (some bm)]) (L:=[]) gr U U U (gq.at oe) oq oa oa λh8 gs gt h9 hO=>?_;have hB:gs.ownsRow ↑I 395 1 h8 (H++[bm]).length ((H++[bm]).flatMap QgH):=by
   rw[Ln,LC];simpa using gt
  have gu:=(hN.J ht).O h9 (QR O oa);refine QN U<|Qo<|Qw gu U U oe (QC (L:=[]) hB (by simp;omega) oe).one λgv hC gw=>xe ?_;refine Qq<|QH U U<|Qa<|xe ?_;have gx:∀b∈ob h8,↑I<=b:=λb E=>(Qg hB b E).1;have kt:S.heap.size<=gp.heap.size:=ht.size;refine⟨(k+1,H++[bm],h8),og,Lb,h0,by simp[hg],?_,gw,Qf hB hC (λb E=>by have:=gx b E;simp;omega),?_⟩
  .exact((J.I h6).G h9 (λb E=>.inr (ho b E).1)).V hC
  intro i h1 h2;simp only[oN,oP]at h1;have keep:∀(c:Nat) (m:List ((Int×Int)×O9)),Yh Ju ↑S c m->c≠b3->c∉ob vs->Yh Ju ↑gv c m:=λc m hm gy gz =>
   ((hm.J ht).O h9 gz).O hC (oA gy)
  by_cases hi:i<H.length
  .obtain⟨m1,m2,m3⟩:=hh i hi h2;simp only[List.getElem_append_left hi];refine⟨keep _ _ (m1.J h4) oa m3,m2,λE=>?_⟩;have ku:=m1.lt;rcases hO _ E with T|T
   .exact m3 T
   omega
  have g0:i=H.length:=oa
  subst g0;simp only[List.getElem_append_right (OX _),OW,List.getElem_singleton];have hq:H.length=k:=hg;have e2:ps[H.length]=ps[k]:=by simp only[hq]
  rw[e2];refine⟨keep _ _ h3 oa (λE=>ov (ho _ E).2),oa,λE=>?_⟩;rcases hO _ E with T|T
  .have:=(ho _ T).2;omega
  omega
 have hD:j<ps[k].a.ed.length:=oa
 refine Qe<|Qd<|Qn<|Qc<|xie (gn.st hs) U U hD λkv g3=>x (Qu g3 U U)<|QL [sS 0,sS 0,sS 0] λb8 kw g4 g5 V=>QJ (Qz ps[k].a.ed[j]) V oC λg6 g7 V=>xe ?_;have hP:sW S g6:=g4.Q g7 g5;refine Qq<|Qa<|Qm U V U U<|Qm U V U U<|x (Qv ⟨U,U,La⟩)<|x (VD U) <|
  Xe V rfl U<|Qo<|XN (k:=(ps[k].a.ed[j].1,ps[k].a.ed[j].2.1)) (h3.J hP) U U λkx g8 g9=>xe ?_
 refine Qq<|QH U U<|Qa<|xe<|⟨j+1,oa,Lb,hD,(hs.I hP).V g8,?_⟩;rw[Qfz hD];exact g9
theorem Qfr {L:LN}{ps:List AV}{Z:LN}(h:VS L ↑w vl ve vs ps Z)(hn:ps.length<=12):
  QZ sV 172 [.agg #[vl,ve,vs]] w λr w'=>sW w w' /\
   if ∃p∈ps,p.a.st=0 then r=.tuple #[nS,.bool false]else ∃v,r=.tuple #[v,.bool true]/\Qp 3 ↑w w' v (oK ps.length 0):=by
 refine Zt func172 ?_;refine Qc<|Zg [vl,ve,vs] λb1 w1 H hl S=>x Qh<|Qb<|Qd<|Qc<|Qm U S U U<|QE h.al.arr U<|Qa<|xe<|Q2 (α:=Nat) [(2,3),(5,5),(9,16)] (λz=>[(9,sS z)]) (λz w'=>z<=ps.length/\sW w1 w'/\∀i (h:i<ps.length),i<z->ps[i].a.st≠0) (λz=>ps.length - z) 0 Lb
  ⟨Lp _,xj.Y _ _,λi _ h=>oa⟩ ?_
 rintro k g w2 ⟨hk,E,T⟩;refine Zi rfl U (λha=>?_) (λha=>?_)
 .refine Qt<|Qc<|Qm U (S.J E) U U<|QE h.al.arr U<|Qo<|KC (n:=ps.length) U U oa λhb w3 hc hm V=>x Qh<|Qb ?_;rw[show(oK ps.length (sS 0).cells.toList).flatten=((oK ps.length 0).map (Value.int .i64)) by rw[show(sS 0).cells.toList=[sS 0] from rfl,Qdd,List.map_replicate]]at V;have hz:=(H.I E).size;refine Qi ⟨[sL hb ps.length ps.length,.bool true],oB,(H.I E).I hc,?_⟩;rw[O0 (by
   rintro⟨p,hp,h0⟩;obtain⟨i,hi,rfl⟩:=LM hp;exact T i hi oa h0)]
  refine⟨_,U,?_⟩;have:=V.own (n:=ps.length) (sz:=1) (base:=↑w) oe oa oa;unfold Qp;rw[ME];exact this
 have I:k<ps.length:=oa
 have hA:=h.al.each ps[k] (Lm I);refine Qe<|Qd<|Qn<|Qc<|xp zh ((h.al.J H).J E).arr U U I λho he=>x (Qu he U U)<|QL [nS,sS 0,nS,nS] λb5 w4 hg hh J =>
  QJ (Zq ps[k]) J ⟨hA.al.one,U,hA.mr.one,hA.ed.one,La⟩ λw5 hj J=>xe ?_
 have Y:sW w2 w5:=hg.Q hj hh;refine Qc<|Qm U J U U<|x (QW U U)<|xe<|QY rfl (λO=>?_) (λO=>?_)
 .refine Qc<|x Qh<|Qb<|Qi ⟨[nS,.bool false],oB,(H.I E).I Y,?_⟩;rw[O1 ⟨ps[k],Lm I,O⟩];rfl
 refine Qe<|Qq<|QH U U<|Qa<|xe<|⟨k+1,oa,Lb,I,E.I Y,λi hi hq=>?_⟩;by_cases e:i=k
 .subst e;exact O
 exact T i hi oa
theorem Qfe {aa:List QU}{ts:LI}{k:Nat}(h:k<aa.length)(E:k<ts.length):J0 (aa.drop k) (ts.drop k)=(decide (ts[k]∈aa[k].mr) && J0 (aa.drop (k+1)) (ts.drop (k+1))):=by
 rw[LH h,LH E,J0]
theorem Qib {L:LN}{ps:List AV}{ms:LN}{ts:LI}(h:VS L ↑w vl ve vs ps ms)(ht:QG L ↑w vt ts)(hl:ts.length=ps.length)(hi:∀p∈ps,Yp p.a.mr)(hn:ps.length<=12):
  QZ sV 174 [.agg #[vl,ve,vs],vt] w λr w'=>r=.bool (J0 (ps.map (·.a)) ts)/\sW w w':=by
 refine Zt func174 ?_;refine Qc<|Zg [vl,ve,vs] λb2 w1 ha hq hb=>Qb<|Qd<|Qc<|Qm U hb U U<|QE h.al.arr U<|Qa<|xe<|Q2 (α:=Nat) [(4,6),(10,23)] (λz=>[(10,sS z)]) (λz w'=>z<=ps.length/\sW w w'/\J0 (ps.map (·.a)) ts=J0 ((ps.map (·.a)).drop z) (ts.drop z)) (λz=>ps.length - z) 0 Lb
  ⟨Lp _,ha,U⟩ ?_
 rintro k g w2 ⟨hk,I,H⟩;refine Zi rfl U (λhe=>?_) (λhe=>?_)
 .refine Qt<|Qc<|Qb<|Qi ⟨[.bool true],Lb,?_,I⟩;rw[H,Lx (by simp;omega)];rfl
 have E:k<ps.length:=oa
 have V:k<ts.length:=oa
 have hA:=h.al.each ps[k] (Lm E);rw[Qfe (oA E) V,LW]at H;refine Qe<|Qd<|Qn<|Qj<|xp zh (h.al.J I).arr U U E λhr hg=>x (Qu hg U U)<|QL [nS,sS 0,nS,nS] λb6 w3 hh hj J=>x Qh <|
  QJ (Zq ps[k]) J ⟨hA.al.one,U,hA.mr.one,hA.ed.one,La⟩ λY hm J=>xe ?_
 have ho:sW w2 Y:=hh.Q hm hj;have O:=I.I ho;refine Qd<|ZH [] (Xf 0 8 [6])<|p (QF U)<|pq (λ_ S=>Qk (J.J S) U U)<|p QA<|p QA<|pii U (ht.J O) U U V λhs hp =>
  pq (λ_ S=>Qy (hp.J S) U)<|pk<|xg<|(KJ ((hA.mr.J O).J (xj.X _ _)) (hi ps[k] (Lm E)) _).S ?_
 rintro r5 w5 ⟨rfl,rfl⟩;refine⟨xj.X _ _,?_⟩;refine p (λ_=>Zr U)<|pe ?_;have Z:=O.I (xj.X [] Y);refine Q6 rfl (λT=>?_) (λT=>?_)
 .refine Qc<|Qb<|Qi ⟨[.bool false],Lb,?_,Z⟩;rw[H,show decide (ts[k]∈ps[k].a.mr)=false by simpa using T];rfl
 refine Qe<|Qq<|QH U U<|Qa<|xe<|⟨k+1,oa,Lb,E,Z,?_⟩;rw[H,show decide (ts[k]∈ps[k].a.mr)=true by simpa using T,OU]
theorem QeN {aa:List QU}{ts:LI}{k:Nat}{v:Int}(h:k<aa.length)(E:k<ts.length):Y2 v (aa.drop k) (ts.drop k) =
  if v∉aa[k].al then(Y2 v (aa.drop (k+1)) (ts.drop (k+1))).map (ts[k]::·)else match xx aa[k].ed ts[k] v with|none=>none|some u=>(Y2 v (aa.drop (k+1)) (ts.drop (k+1))).map (u::·):=by
 rw[LH h,LH E];show(if v∉aa[k].al then _ else _)=_
 split
 .rfl
 cases xx aa[k].ed ts[k] v <;> rfl
theorem Qj5 {L:LN}{ps:List AV}{Z:LN}{ts:LI}(h:VS L ↑w vl ve vs ps Z)(ht:QG L ↑w vt ts)(hl:ts.length=ps.length)(hi:∀p∈ps,Yp p.a.al)
  (h1:∀p∈ps,p.a.ed.Pairwise λx y=>x.1<y.1\/(x.1=y.1/\x.2.1<y.2.1)) (hn:ps.length<=12) (v:Int):
  QZ sV 175 [.agg #[vl,ve,vs],vt,sS v] w λr w'=>sW w w' /\
   match Y2 v (ps.map (·.a)) ts with|none=>r=.tuple #[nS,.bool false]|some u=>∃v',r=.tuple #[v',.bool true]/\Qp 3 ↑w w' v' u:=by
 refine Zt func175 ?_;refine Qc<|Zg [vl,ve,vs] λb3 w1 ha hN hg=>x Qh<|Qb<|Qj<|Qx<|(ZU (ht.J ha)).S ?_;rintro vx w2 ⟨hh,hs⟩;refine Qb ?_;have h2:=ha.size;have hO:=hg.lt;have hj:=ha.I hh;refine Qd<|Qc<|Qm U (hg.J hh) U U<|QE h.al.arr U<|Qa<|xe ?_;have hge:=Qg hs;have h3:VS (ob vx) ↑w2 vl ve vs ps Z:=((h.up (L':=ob vx) (λb H=>.inr (ov (hge b H).1))).J hj);have h4:QG (ob vx) ↑w2 vt ts:=((ht.up (L':=ob vx) (λb H=>.inr (ov (hge b H).1))).J hj);refine Q2 (α:=Nat×LI) [(6,7),(9,12),(18,49)] (λz=>[(18,sS z.1)])
  (λz w'=>z.1<=ps.length/\z.2.length=z.1/\xj (ob vx) w2 w'/\Qp 3 ↑w1 w' vx (z.2++ts.drop z.1)/\Y2 v (ps.map (·.a)) ts=(Y2 v ((ps.map (·.a)).drop z.1) (ts.drop z.1)).map (z.2++·)) (λz=>ps.length - z.1) (0,[]) Lb
  ⟨Lp _,U,xj.Y _ _,hs,oe⟩ ?_
 rintro⟨k,pre⟩ g w3 ⟨hk,V,S,T,E⟩;simp only[]at hk V T E;have hm:sW w w3:=hj.G S (λb H=>.inr (ov (hge b H).1));refine Zi rfl U (λh5=>?_) (λh5=>?_)
 .refine Qt<|Qj<|x Qh<|Qb<|Qi ⟨[vx,.bool true],oB,hm,?_⟩;rw[Lx (by simp;omega),Lx oa]at E;rw[Lx oa]at T;rw[E];simp only[Y2,Oz];exact⟨vx,U,Zv T h2⟩
 have I:k<ps.length:=oa
 have ho:k<ts.length:=oa
 have hv:k<Z.length:=by rw[h.ml];exact I
 have hA:=h.al.each ps[k] (Lm I);rw[QeN (oA I) ho,LW]at E;have hw:=h3.st S;have h6:=h4.st S;refine Qe<|Qd<|Qn<|Qj<|xp zh hw.al.arr U U I λhP h7=>x (Qu h7 U U)<|QL [nS,sS 0,nS,nS] λhQ w4 h8 h9 hp=>x Qh <|
  QJ (Zq ps[k]) hp ⟨hA.al.one,U,hA.mr.one,hA.ed.one,La⟩ λw5 hB hp=>xe ?_
 have J:sW w3 w5:=h8.Q hB h9;have hC:=hm.I J;refine Qd<|Qc<|Qm U hp U U<|Qa<|Qx<|(KJ (hA.al.J hC) (hi ps[k] (Lm I)) v).S ?_;rintro r6 w6 ⟨rfl,rfl⟩;refine x (Zr U)<|xe ?_;have hy:=Zz ho;refine Q6 rfl (λhq=>?_) (λhq=>?_)
 .have hD:v∉ps[k].a.al:=by simpa using hq
  refine Qt<|Qq<|QH U U<|Qa<|xe<|⟨(k+1,pre++[ts[k]]),og,Lb,I,by simp[V],S.I J,?_,?_⟩
  .simp only[oY,Ox];rw[<-hy];exact Ql T J
  simp only[];rw[E,O1 hD,Option.map_map];congr 1;funext l;simp
 have hE:¬(v∉ps[k].a.al):=by simpa using hq
 rw[O0 hE]at E;refine Qe ?_;have hF:=(hg.J hh).O S (λH=>ov (hge b3 H).1);have hz:=hw.J J;obtain⟨hG,hR⟩:=hz.mp k hv I;refine Qd<|ZH [] (Xf 0 17 [])<|p (QF U)<|pq (λ_ O=>Qk ((hF.J J).J O) U U)<|p QA<|pig U (g:=QgH) (λ_=>U) hz.sl U U hv λhS hH =>
  pq (λ_ O=>Qy (hH.J O) U)<|p QA<|p QA<|pii U (h6.J J) U U ho λhT hI=>pq (λ_ O=>Qy (hI.J O) U) <|
  p QA<|p (λ_=>Qv ⟨U,U,La⟩)<|pq (λ_ O=>VC (k:=(ts[k],v)) (hG.J O) U U)<|?_
 rw[QaZ ps[k].a.ed [] ts[k] v (h1 ps[k] (Lm I))];have hr:sW w3 { w6 with drawn:=w6.drawn+1 }:=J.I (xj.X [] w6)
 cases he:xx ps[k].a.ed ts[k] v with
 | none =>
  rw[he]at E;refine p QA<|p (λ_=>Zw U U)<|p (λ_=>Zw U U)<|p ZL<|p ZL<|pe ?_;refine Qd<|Qj<|x (Zr U)<|xe<|jE U ?_;refine Qc<|x Qh<|Qb<|Qi ⟨[nS,.bool false],oB,hm.I hr,?_⟩;rw[E];rfl
 | some u =>
  rw[he]at E;refine p QA<|p (λ_=>Zw U U)<|p (λ_=>Zw U U)<|p ZL<|p ZL<|pe ?_;refine Qd<|Qj<|x (Zr U)<|xe<|Zl U<|Qe ?_;have h0:=Ql T hr;have hU:(pre++ts.drop k).length=ts.length:=by simp;omega
  obtain⟨gx,cx,Y⟩:=X7 T oa;have hJ:ob vx=[gx]:=by rw[Y];rfl
  refine Qq<|Qa<|Qa<|Qa<|x (QO Y U oa)<|Qo<|Qkf (u:=sS u) (by rw[Y]at h0;exact h0) U U oa U λw7 hK hL=>xe ?_;refine Qq<|QH U U<|Qa<|xe ?_;have hM:(pre++ts.drop k).set k u=(pre++[u])++ts.drop (k+1):=by
   rw[hy,List.set_append_right _ _ oa,V,OW,List.set_cons_zero,LD];rfl
  refine⟨(k+1,pre++[u]),og,Lb,I,by simp[V],(S.I hr).G hK (λb H=>.inl (by rw[hJ];exact H)),?_,?_⟩
  .simp only[];rw[<-hM];unfold Qp;rw[L9,NT,Y];exact hL
  simp only[];rw[E,Option.map_map];congr 1;funext l;simp
theorem UN (h:n<256):(UInt8.ofNat n).toNat=n:=by
 simp[Nat.mod_eq_of_lt h]
theorem QdZ (u:Nat):(32:UInt8)∉Lib.decDigits u:=by
 induction u using Nat.strongRecOn with
 | _ u ih =>
  unfold Lib.decDigits;split
  .intro h;simp only[oJ]at h;have:=O2 UInt8.toNat h;rw[UN oa]at this;have E:(32:UInt8).toNat=32:=rfl;omega
  intro h;rcases Lh.1 h with h|h
  .exact ih _ oa h
  simp only[oJ]at h;have:=O2 UInt8.toNat h;rw[UN oa]at this;have E:(32:UInt8).toNat=32:=rfl;omega
def dval (l:List UInt8):Nat:=l.foldl (λa b=>a*10+(b.toNat - 48)) 0
theorem QdV (u:Nat):dval (Lib.decDigits u)=u:=by
 induction u using Nat.strongRecOn with
 | _ u ih =>
  unfold Lib.decDigits;split
  .simp only[dval,List.foldl_cons,List.foldl_nil];rw[UN oa];omega
  have:=ih (u / 10) oa;unfold dval at *;rw[Mk,this];simp only[List.foldl_cons,List.foldl_nil];rw[UN oa];omega
theorem Qgc:∀{a b r I:List UInt8},(32:UInt8)∉a->(32:UInt8)∉b->a++32::r=b++32::I->a=b/\r=I
 | [],[],_,_,_,_,h=>oA h
 | [],y::b,_,_,_,E,h=>by simp at h;exact O3 h.1 (by intro e;exact E (by simp[e]))
 | x::a,[],_,_,H,_,h=>by simp at h;exact O3 h.1 (by intro e;exact H (by simp[e]))
 | x::a,y::b,_,_,H,E,h=>by
  simp only[On,List.cons.injEq]at h;have:=Qgc (λe=>H (Ll _ e)) (λe=>E (Ll _ e)) h.2;exact⟨by rw[h.1,this.1],this.2⟩
theorem QdC:∀{l l':LI},(∀n∈l,0<=n)->(∀n∈l',0<=n)->Kg l=Kg l'->l=l'
 | [],[],_,_,_=>rfl
 | [],y::b,_,_,h=>by simp[Kg]at h
 | x::a,[],_,_,h=>by simp[Kg]at h
 | x::a,y::b,H,I,h=>by
  have J:Lib.decDigits x.toNat++32::Kg a=Lib.decDigits y.toNat++32::Kg b:=by simpa[Kg]using h
  obtain⟨O,S⟩:=Qgc (QdZ _) (QdZ _) J;have T:x.toNat=y.toNat:=by rw[<-QdV x.toNat,<-QdV y.toNat,O]
  have V:=H x Lr;have Y:=I y Lr;rw[(QdC (λn E=>H n (Ll _ E)) (λn E=>I n (Ll _ E)) S),show x=y by omega]
def Vp (l:LI):ByteArray:=⟨(Kg l).toArray⟩
theorem QkI {l l':LI}(E:∀n∈l,0<=n)(H:∀n∈l',0<=n)(h:Vp l=Vp l'):l=l':=by
 refine QdC E H ?_;have:=O2 (λb:ByteArray=>b.data.toList) h;simpa[Vp]using this
def zm (n:Nat)(m:List (ByteArray×O9))(tup:List (LI)):Prop :=
 ∀u:LI,u.length=n->(∀x∈u,0<=x)->xt m (Vp u)=if u∈tup then some (sS (tup.idxOf u:Int))else none
theorem zm.add {m:List (ByteArray×O9)}{tup:List (LI)}(h:zm n m tup){u:LI}(hu:u∉tup)(I:∀x∈u,0<=x):zm n (xu m (Vp u) (sS (tup.length:Int))) (tup++[u]):=by
 intro v J H;rw[Xy];by_cases e:u=v
 .subst e;rw[O1 rfl,O1 oe,MJ,O0 hu];simp
 rw[O0 (λhk=>e (QkI I H hk)),h v J H];by_cases E:v∈tup
 .rw[O1 E,O1 (by simp[E]),MJ,O1 E]
 rw[O0 E,O0 (by simp[E,Ne.symm e])]
structure SyI (N b2 b38 b37:Nat)(ve:O9)(wS:O8)(s:Sy)(m:List (ByteArray×O9))(qs:List TV)(vt vk vd:O9)(w:O8):Prop where
 st:xj [b2,b38,b37] wS w
 A:QP ↑w b2 66 [ve,sS 0,vk,vd]
 M:Yh J2 ↑w b38 m
 t:j8 63 N w vt qs
 tb:∀b∈ob vt,b=b37\/↑wS<=b
 k:Qp 3 ↑wS w vk s.mk'
 e:YR 159 ↑wS w vd s.ed
 q:qs.map (·.2)=s.tup
 el:∀p∈qs,Qp 3 N w p.1 p.2
 sep:∀p∈qs,∀b∈ob p.1,b≠b38/\b∉ob vt/\b∉ob vk/\b∉ob vd
 d1:Dj vt vk
 d2:Dj vt vd
 d3:Dj vk vd
section
variable {b38 b37:Nat}{wS:O8}{s:Sy}{m:List (ByteArray×O9)}{qs:List TV}{vd:O9}{w'':O8}
theorem SyI.J (h:SyI N b2 b38 b37 ve wS s m qs vt vk vd w)(E:sW w w'):SyI N b2 b38 b37 ve wS s m qs vt vk vd w' :=
 ⟨h.st.I E,h.A.J E,h.M.J E,Ql h.t E,h.tb,Ql h.k E,Ql h.e E,h.q,λp H=>Ql (h.el p H) E,h.sep,h.d1,h.d2,h.d3⟩
structure SyN (N b2 b38 b37:Nat)(wS:O8):Prop where
 l2:b2<N
 l38:b38<wS.heap.size
 l37:b37<wS.heap.size
 n37:N<=b37
 n38:b37<b38
 nS:N<=↑wS
theorem SyI.setK (h:SyI N b2 b38 b37 ve wS s m qs vt vk vd w)(n:SyN N b2 b38 b37 wS){O:O9}{l:LI}(J:xj (ob vk) w w')(T:Qp 3 ↑wS w' O l)
  (S:∀b∈ob O,b∈ob vk\/↑w<=b) (I:xj [b2] w' w'') (Y:QP ↑w'' b2 66 [ve,sS 0,O,vd]):SyI N b2 b38 b37 ve wS ⟨s.tup,l,s.ed⟩ m qs vt O vd w'':=by
 have l2:=n.l2;have l38:=n.l38;have n37:=n.n37;have n38:=n.n38;have nS:=n.nS;refine⟨(h.st.G J (λb E=>.inr ((Qg h.k) b E).1)).G I (λb E=>.inl (by simp at E;simp[E])),Y,(h.M.O J (QR h.k oa)).O I (by simp;omega),
  Qf (Qf h.t J h.d1) I (λb E=>by have:=(Qg h.t b E).1;simp;omega),h.tb,Qf T I (λb E=>by have:=(Qg T b E).1;simp;omega),
  Qf (Qf h.e J h.d3.symm) I (λb E=>by have:=(Qg h.e b E).1;simp;omega),h.q,
  λp H=>Qf (Qf (h.el p H) J (λb E=>(h.sep p H b E).2.2.1)) I (λb E=>by have:=(Qg (h.el p H) b E).1;simp;omega),
  λp H b E=>⟨(h.sep p H b E).1,(h.sep p H b E).2.1,λZ=>?_,(h.sep p H b E).2.2.2⟩,h.d1.grow S (Q3 h.t),h.d2,(h.d3.symm.grow S (Q3 h.e)).symm⟩
 rcases S b Z with V|V
 .exact(h.sep p H b E).2.2.1 V
 have:=Q3 (h.el p H) b E;omega
theorem SyI.setE (h:SyI N b2 b38 b37 ve wS s m qs vt vk vd w)(n:SyN N b2 b38 b37 wS){O:O9}{l:List Ed}(J:xj (ob vd) w w')(T:YR 159 ↑wS w' O l)
  (S:∀b∈ob O,b∈ob vd\/↑w<=b) (I:xj [b2] w' w'') (Y:QP ↑w'' b2 66 [ve,sS 0,vk,O]):SyI N b2 b38 b37 ve wS ⟨s.tup,s.mk',l⟩ m qs vt vk O w'':=by
 have l2:=n.l2;have l38:=n.l38;have n37:=n.n37;have n38:=n.n38;have nS:=n.nS;refine⟨(h.st.G J (λb E=>.inr ((Qg h.e) b E).1)).G I (λb E=>.inl (by simp at E;simp[E])),Y,(h.M.O J (QR h.e oa)).O I (by simp;omega),
  Qf (Qf h.t J h.d2) I (λb E=>by have:=(Qg h.t b E).1;simp;omega),h.tb,Qf (Qf h.k J h.d3) I (λb E=>by have:=(Qg h.k b E).1;simp;omega),
  Qf T I (λb E=>by have:=(Qg T b E).1;simp;omega),h.q,
  λp H=>Qf (Qf (h.el p H) J (λb E=>(h.sep p H b E).2.2.2)) I (λb E=>by have:=(Qg (h.el p H) b E).1;simp;omega),
  λp H b E=>⟨(h.sep p H b E).1,(h.sep p H b E).2.1,(h.sep p H b E).2.2.1,λZ=>?_⟩,h.d1,h.d2.grow S (Q3 h.t),h.d3.grow S (Q3 h.k)⟩
 rcases S b Z with V|V
 .exact(h.sep p H b E).2.2.2 V
 have:=Q3 (h.el p H) b E;omega
theorem SyI.setM (h:SyI N b2 b38 b37 ve wS s m qs vt vk vd w)(n:SyN N b2 b38 b37 wS){I:List (ByteArray×O9)}(H:xj [b38] w w')(O:Yh J2 ↑w' b38 I):SyI N b2 b38 b37 ve wS s I qs vt vk vd w':=by
 have l2:=n.l2;have l38:=n.l38;have n37:=n.n37;have n38:=n.n38;have nS:=n.nS;exact⟨h.st.G H (λb E=>.inl (by simp at E;simp[E])),h.A.O H (by simp;omega),O,Qf h.t H (λb E=>by have:=h.tb b E;simp;omega),h.tb,
  Qf h.k H (λb E=>by have:=(Qg h.k b E).1;simp;omega),Qf h.e H (λb E=>by have:=(Qg h.e b E).1;simp;omega),h.q,
  λp J=>Qf (h.el p J) H (λb E=>by have:=(h.sep p J b E).1;simpa using this),h.sep,h.d1,h.d2,h.d3⟩
theorem SyI.setT (h:SyI N b2 b38 b37 ve wS s m qs vt vk vd w)(n:SyN N b2 b38 b37 wS){O:O9}{u:LI}(hx:Qp 3 ↑wS w vx u)(T:∀b∈ob vx,b∉ob vt/\b∉ob vk/\b∉ob vd)(I:xj (ob vt) w w')
  (Y:j8 63 N w' O (qs++[(vx,u)])) (S:∀b∈ob O,b∈ob vt\/↑w<=b):SyI N b2 b38 b37 ve wS ⟨s.tup++[u],s.mk',s.ed⟩ m (qs++[(vx,u)]) O vk vd w':=by
 have l2:=n.l2;have l38:=n.l38;have n37:=n.n37;have n38:=n.n38;have nS:=n.nS;have he:=h.st.size;have nott:∀c,c<↑w->c∉ob vt->c∉ob O:=λc hc Z ha=>by
  rcases S c ha with J|J
  .exact Z J
  omega
 refine⟨h.st.G I (λb E=>by have:=h.tb b E;simp;omega),h.A.O I (λE=>ov (h.tb b2 E)),h.M.O I (λE=>ov (h.tb b38 E)),Y,
  λb E=>?_,Qf h.k I h.d1.symm,Qf h.e I h.d2.symm,by rw[Ls,h.q];rfl,λp H=>?_,λp H b E=>?_,(h.d1.symm.grow S (Q3 h.k)).symm,(h.d2.symm.grow S (Q3 h.e)).symm,h.d3⟩
 .rcases S b E with J|J
  .exact h.tb b J
  exact .inr oa
 .rcases Lh.1 H with H|H
  .exact Qf (h.el p H) I (λb E=>(h.sep p H b E).2.1)
  simp only[oJ]at H;subst H;exact Zv (Qf hx I (λb E=>(T b E).1)) nS
 rcases Lh.1 H with H|H
 .have:=h.sep p H b E;exact⟨this.1,nott b (Q3 (h.el p H) b E) this.2.1,this.2.2⟩
 simp only[oJ]at H;subst H;have J:=(Qg hx b E);have V:=T b E;exact⟨oa,nott b J.2 V.1,V.2⟩
end
theorem QtW (o:Option α):o=none\/∃t,o=some t:=by cases o;exact .inl U;exact .inr ⟨_,U⟩
def zA:O9:=.agg #[nS,sS 0,nS,nS]
def ZD:O9:=nS
def YY (N:Nat)(H:xI)(aa:List QU)(va vt:O9)(c:Int):Prop :=
 if UK aa≠0 then c=UK aa/\va=zA/\vt=ZD else match xz aa with
  | none=>c=3/\va=zA/\vt=ZD
  | some z=>c=0/\Xi N H va z.1/\QfS N H vt z.2
def Y5 (s:Sy)(u:LI):Sy:=if u∈s.tup then s else⟨s.tup++[u],s.mk',s.ed⟩
theorem Qjx (s:Sy)(u:LI):(Y5 s u).mk'=s.mk':=by unfold Y5;split <;> rfl
theorem Qjy (s:Sy)(u:LI):(Y5 s u).ed=s.ed:=by unfold Y5;split <;> rfl
theorem Qne {aa:List QU}{t u:LI}{s:Sy}{v:Int}(h:Y2 v aa t=some u)(H:u∈s.tup\/s.tup.length≠4096):
  syE aa i t s v=some ⟨(Y5 s u).tup,(Y5 s u).mk',(Y5 s u).ed++[((i:Int),v,((Y5 s u).tup.idxOf u:Int))]⟩:=by
 unfold syE Y5;rw[h];simp only[];by_cases hu:u∈s.tup
 .simp only[O1 hu]
 simp only[O0 hu];rw[O0 (by rcases H with E|E;exact O3 E hu;exact E),MJ,O0 hu];simp
theorem Qjw {aa:List QU}{t u:LI}{s:Sy}{v:Int}(h:Y2 v aa t=some u)(hu:u∉s.tup)(E:s.tup.length=4096):syE aa i t s v=none:=by
 unfold syE;rw[h];simp only[];rw[O0 hu,O1 E]
theorem Qju {aa:List QU}{t:LI}{s:Sy}{v:Int}(h:Y2 v aa t=none):syE aa i t s v=some s:=by
 unfold syE;rw[h]
theorem Qsn {s:Sy}{qs:List TV}(E:qs.map (·.2)=s.tup)(h:i<qs.length):syT s i=qs[i].2:=by
 unfold syT;rw[<-E];simp[oQ,h]
theorem Vt.bd {aa:List QU}{t:LI}(h:Vt aa t){m:Int}(H:∀a∈aa,a.st<=m):∀x∈t,0<=x/\x<m:=by
 intro x hx;obtain⟨i,hi,rfl⟩:=LM hx;have E:i<aa.length:=by rw[<-h.1];exact hi
 have:=h.2 i hi E;have:=H aa[i] (Lm E);omega
theorem jF {L:LN}{ps:List AV}{km:Int}(h:JL L ↑w vl ps)(gn:Kb w km)(kf:0<km)(m8:∀p∈ps,p.a.st<=km):
  QZ sV 102 [vl] w λr w'=>sW w w'/\∃va vt c,r=.tuple #[va,vt,sS c]/\YY ↑w ↑w' (ps.map (·.a)) va vt c:=by
 refine Zt func102 ?_;generalize S:ps.map (·.a)=aa;refine Qc<|QL [nS,sS 0,nS,nS] λb2 w1 hQ hB go=>x Qh<|Qb ?_;have hl2:=go.lt;refine Qd<|Qj<|Qx<|(Qh4 (h.J hQ)).S ?_;rintro r2 w2 ⟨rfl,hq⟩;refine Qb ?_;rw[S];refine Qj<|Zu U U<|xe<|QY rfl (λh5=>?_) (λh5=>?_)
 .refine Qc<|x (Qv La)<|Qa<|QJ [nS,sS 0,nS,nS] (go.J hq) oD λw3 m9 pa=>x Qh<|Qb<|Qi ⟨[zA,ZD,sS (UK aa)],⟨YO pa,U,U,La⟩,(hQ.I hq).Q m9 hB,zA,ZD,UK aa,U,?_⟩;unfold YY;rw[O1 h5];exact⟨U,U,U⟩
 have hr:UK aa=0:=Lq.1 h5;have hn:ps.length<=12:=by
  unfold UK at hr;split at hr
  .cases hr
  rename_i h1;rw[<-S]at h1;simp at h1;exact h1
 have hC:∀a∈aa,Zo a:=by
  unfold UK at hr;split at hr
  .cases hr
  exact(Qd9 aa).1 hr
 have hR:∀p∈ps,Zo p.a:=λp H=>hC p.a (by rw[<-S];exact LK H);have pc:∀p∈ps,p.a.al.length<=32:=λp H=>(hR p H).al_le;have pd:∀a∈aa,a.st<=km:=λa ha=>by rw[<-S]at ha;obtain⟨p,H,rfl⟩:=Ly.1 ha;exact m8 p H
 have hD:aa.length=ps.length:=by rw[<-S];simp
 refine Qe<|Qj<|Qx<|(QnM (L:=[b2]) (((h.up (λb E=>.inr (by simp at E;omega))).J hQ).J hq) hn pc (λb E=>by simp at E;have:=hq.size;omega)).S ?_;rintro r4 w4 ⟨gp,ve,vs,ms,rfl,kg,hm⟩;rw[S]at hm;have hel:=Qci aa (λa ha=>(hC a ha).al_le);have hevl:(evs aa).length<=1000:=oa
 have hS:=Qp.ints (L:=[]) hm oa oe;refine QL [nS,nS,nS] λb6 w5 pf pg hE=>QJ [vl,ve,vs] hE ⟨h.arr.one,hS.one,kg.sl.one,La⟩ λw6 ph hE=>xe ?_;have hU:sW w4 w6:=pf.Q ph pg;have hz2:=hq.size;have hz4:=gp.size;have hl6:=hE.lt;refine Qc<|Qm U hE U U<|QN U<|Qo<|Qw (((go.J hq).J gp).J hU) U U oe hS.one λw7 hF pj=>xe ?_;have hz7:=hF.size;have gq:sW w w7:=((((hQ.I hq).I gp).I hU).Q hF hB);have kh:VS [b2] ↑w7 vl ve vs ps ms:=(kg.J hU).st hF;have ki:Qp 3 ↑w2 w7 ve (evs aa):=Qf (Ql hm hU) hF (λb E=>by have:=(Qg hm b E).1;simp;omega);have kj:=hE.O hF (by simp;omega);refine Qc<|QV kj U U<|Qx<|(Qfr kh hn).S ?_;rintro r8 w8 ⟨hh,hV⟩;have hz8:=hh.size;have gr:=pj.J hh;have hW:(∃p∈ps,p.a.st=0)↔(∃a∈aa,a.st=0):=by
  rw[<-S];constructor
  .rintro⟨p,H,h0⟩;exact⟨p.a,LK H,h0⟩
  rintro⟨a,ha,h0⟩;obtain⟨p,H,rfl⟩:=Ly.1 ha;exact⟨p,H,h0⟩
 by_cases hz:∃p∈ps,p.a.st=0
 .rw[O1 hz]at hV;subst hV;refine Qa<|QS U U<|QS U U<|x Qh<|Qb<|Qd<|Qj<|x (Zr U)<|xe<|jE U ?_;refine Qc<|QV gr U U<|QJ [ve,sS 0,nS,nS] gr ⟨hS.one,U,U,U,La⟩ λw9 kk pm=>x Qh<|Qb<|Qi ⟨[.agg #[ve,sS 0,nS,nS],ZD,sS 0],⟨YO pm,U,U,La⟩,(gq.I hh).Q kk hB,_,ZD,0,U,?_⟩;unfold YY;rw[O0 h5];unfold xz;rw[O1 (hW.1 hz)];refine⟨U,⟨ve,_,_,U,λL' hl=>⟨Qp.ints (Qf (Ql ki hh) kk (λb E=>by have:=(Qg hm b E).1;simp;omega)) (by show(evs aa).length<=_;omega) (λb E=>ov (hl b E)),Zk.nil _ _ _,Zk.nil _ _ _⟩⟩,[],U,λL' hl=>⟨Zk.nil _ _ _,λp H=>by cases H⟩⟩
 rw[O0 hz]at hV;obtain⟨vf,rfl,gs⟩:=hV;have kn:=Qp.ints (L:=[]) gs (by simp;omega) oe;refine Qa<|QS U U<|QS U U<|x Qh<|Qb<|Qd<|Qj<|x (Zr U)<|xe<|Zl rfl<|Qe<|Qj<|Qo<|XQ (us:=[[vf]]) U U oh oe ⟨kn.cells,rfl,La⟩ λV w10 gt hb37 ko=>Qb ?_;have hl37:=ko.lt;refine Qc<|Qo<|YZ J2 λhe w11 hX hb38 kq=>?_;have hl38:=kq.lt;refine Qa<|Qx<|(Qb5 ((kn.J gt).J hX) (gn.J ((gq.I hh).I (gt.I hX))) (λn hn=>ov (NG hn)) (by simp;omega)).S ?_;rintro r12 pn ⟨rfl,hY⟩;have hz12:=hY.size;refine Qo<|Jl (k:=Vp (oK ps.length 0)) (kq.J hY) U U λwS gu po=>Qa<|Qb ?_;have hzS:=gu.size;have pp:sW w8 pn:=(gt.I hX).I hY;have h6:sW w8 wS:=pp.Q gu oa;have hZ:sW w wS:=(gq.I hh).I h6;have pu:∀b∈[b2,he,V],b∈[b2]\/↑w8<=b:=λb E=>by
  simp only[oM,oL,or_false]at E;rcases E with rfl|rfl|rfl
  .exact .inl oe
  .exact .inr oa
  exact .inr oa
 have gv:VS [b2,he,V] ↑wS vl ve vs ps ms:=((kh.J hh).up pu).J h6;have gw:QP ↑wS b6 322 [vl,ve,vs]:=(kj.J hh).J h6;have pw:Qp 3 ↑w2 wS ve (evs aa):=Ql (Ql ki hh) h6;have hG:SyN ↑w1 b2 he V wS:=⟨oa,oa,oa,oa,oa,oa⟩;have pz:SyI ↑w1 b2 he V ve wS (sy0 aa) (xu [] (Vp (oK ps.length 0)) (sS 0)) [(vf,oK ps.length 0)] (sL V 1 1) ZD ZD wS:=by
  refine⟨xj.Y _ _,gr.J h6,po,?_,λb E=>by simp[ob]at E;exact .inl E,QI _ _ _ _,QI _ _ _ _,by simp[sy0,hD],λp H=>?_,λp H b E=>?_,Dj.nil' _,Dj.nil' _,Dj.nil' _⟩
  .exact(((ko.J hX).J hY).O gu (by simp;omega)).own (n:=1) (sz:=1) U oa oa
  .simp only[oJ]at H;subst H;exact Zv (Ql gs h6) oa
  simp only[oJ]at H;subst H;have:=(Qg gs) b E;refine⟨oa,?_,by simp[ob,ZD],by simp[ob,ZD]⟩;simp[ob];omega
 have p0:zm ps.length (xu [] (Vp (oK ps.length 0)) (sS 0)) (sy0 aa).tup:=by
  have kf:zm ps.length [] []:=λu _ _=>U;have:=kf.add (u:=oK ps.length 0) oe (λx hx=>ov (NG hx));simpa[sy0,hD]using this
 have p1:zj aa (sy0 aa):=by
  refine⟨λt ht=>?_,by simp[sy0]⟩;simp only[sy0,oJ]at ht;subst ht;refine⟨oe,λi h1 h2=>?_⟩;have h3:=(hC aa[i] (Lm h2)).st0;have h4:aa[i].st≠0:=λe=>hz (hW.2 ⟨aa[i],Lm h2,e⟩);simp only[List.getElem_replicate];omega
 generalize hT:syL aa 4096 0 (sy0 aa)=T;have p2:∀s,T=some s->xz aa=some (⟨evs aa,s.tup.length,s.mk',s.ed⟩,s.tup):=λs hs=>by
  unfold xz;rw[O0 (λe=>hz (hW.2 e)),hT,hs];rfl
 have p3:T=none->xz aa=none:=λhs=>by unfold xz;rw[O0 (λe=>hz (hW.2 e)),hT,hs];rfl
 refine Qd<|Qc<|Qb ?_;have gx:b6∉[b2,he,V]:=by simp;omega
 refine Q2 (α:=Nat×Sy×List (ByteArray×O9)×List TV×O9×O9×O9) [(3,4),(10,10),(12,16),(42,111)] (λz=>[(3,z.2.2.2.2.1),(10,sS z.1)])
  (λz w'=>SyI ↑w1 b2 he V ve wS z.2.1 z.2.2.1 z.2.2.2.1 z.2.2.2.2.1 z.2.2.2.2.2.1 z.2.2.2.2.2.2 w'/\zj aa z.2.1/\zm ps.length z.2.2.1 z.2.1.tup/\z.1<=z.2.1.tup.length/\z.2.1.mk'.length<=z.1/\z.2.1.ed.length<=z.1*1000/\syL aa (4096 - z.1) z.1 z.2.1=T)
  (λz=>4096 - z.1) (0,sy0 aa,_,_,_,ZD,ZD) oB ⟨pz,p1,p0,Lp _,Lp _,Lp _,hT⟩ ?_
 rintro⟨i,s,m,qs,vt,vk,vd⟩ g ga ⟨J,gb,kr,hi,p4,kt,gy⟩;simp only[]at J gb kr hi p4 kt gy;have hle:=gb.le;have p5:qs.length=s.tup.length:=by rw[<-J.q];simp
 have ku:∀p∈qs,Vt aa p.2:=λp H=>gb.v p.2 (by rw[<-J.q];exact LK H);have kv:∀p∈qs,p.2.length<=12:=λp H=>ov (ku p H).1
 have gz:=QC (L:=[]) J.t oa oe;refine Qd<|Qj<|Qa<|QE gz U<|Ye U U<|xe<|ZI rfl (λp6=>?_) (λp6=>?_)
 .have p7:T=some s:=by rw[<-gy,Qjs oa]
  refine Qt<|Qj<|QE gz U<|QN U<|Qo<|Qw J.A U U oe rfl λw15 p8 kw=>xe ?_;refine Qc<|QV kw U U<|Qa<|QJ [ve,sS qs.length,vk,vd] kw ⟨hS.one,U,(Qp.ints (L:=[]) J.k oa oe).one,(YR.eds (L:=[]) J.e oa oe).one,La⟩ λg0 p9 qc=>x Qh<|Qb ?_;have h7:xj [b2] ga g0:=p8.V p9;have qf:sW w g0:=(hZ.G J.st (λb E=>.inr (by simp at E;omega))).Q h7 hB;refine Qi ⟨[.agg #[ve,sS qs.length,vk,vd],vt,sS 0],⟨YO qc,U,U,La⟩,qf,_,vt,0,U,?_⟩;unfold YY;rw[O0 h5,p2 s p7];have e1:(qs.length:Int)=s.tup.length:=by rw[p5]
  have k0:Qp 3 ↑w2 g0 ve (evs aa):=Qf (Qf pw J.st (λb E=>by have:=(Qg hm b E).1;have:=(Q3 hm) b E;simp;omega)) h7 (λb E=>by have:=(Qg hm b E).1;simp;omega);have k1:=Qf J.k h7 (λb E=>by have:=(Qg J.k b E).1;simp;omega);have k2:=Qf J.e h7 (λb E=>by have:=(Qg J.e b E).1;simp;omega);have k3:=Qf J.t h7 (λb E=>by have:=(Qg J.t b E).1;simp;omega);refine⟨U,⟨ve,vk,vd,by rw[e1],λL' hl=>⟨Qp.ints k0 (by show(evs aa).length<=_;omega) (λb E=>ov (hl b E)),Qp.ints k1 (by show s.mk'.length<=_;omega) (λb E=>ov (hl b E)),YR.eds k2 (by show s.ed.length<=_;omega) (λb E=>ov (hl b E))⟩⟩,qs,J.q,λL' hl=>⟨?_,λp H=>?_⟩⟩
  .exact QC k3 oa (λb E hbL=>oy (Qg J.t b E).1 (hl b hbL))
  exact Qp.ints (Qf (J.el p H) h7 (λb E=>by have:=(Qg (J.el p H) b E).1;simp;omega)) (ov (kv p H)) (λb E=>ov (hl b E))
 have ql:i<s.tup.length:=oa
 have Y:i<qs.length:=oa
 have kx:=Qsn J.q Y;have h8:=ku (qs[i]'Y) (Lm Y);obtain⟨t,g2⟩:∃t,(qs[i]'Y).2=t:=⟨_,U⟩;rw[g2]at kx h8;refine Qe ?_;have qo:(yx aa i t (evs aa) (Yi aa i t s)).bind (syL aa (4096 - (i+1)) (i+1))=T:=by
  rw[<-gy];obtain⟨f,hf⟩:∃f,4096 - i=f+1:=⟨4096 - i - 1,oa⟩;rw[hf,syL,O1 ql,kx,show 4096 - (i+1)=f by omega]
 have qr:=gv.st J.st;have q0:VS [] ↑ga vl ve vs ps ms:=qr.up (λ_ E=>by cases E);have q1:=gw.O J.st gx;have q2:QG [] ↑ga (qs[i]'Y).1 t:=by rw[<-g2];exact Qp.ints (J.el (qs[i]'Y) (Lm Y)) (ov (kv (qs[i]'Y) (Lm Y))) oe
 refine Qd<|Qn<|QX (α:=O9) [(48,59)] (λz=>[]) (λz w'=>SyI ↑w1 b2 he V ve wS (Yi aa i t s) m qs vt z vd w') om ?_ ?_
 .refine Qd<|ZH [] (Xf 0 6 [5])<|pq (λ_ hc=>ZN (q1.J hc) U U)<|p QA<|p QA<|pig U Uu gz U U Y λa51 q3 =>
   pq (λ_ hc=>Qy (q3.J hc) U)<|pk<|xg<|(Qib (q0.J (xj.X _ _)) (q2.J (xj.X _ _)) (by rw[h8.1,hD]) (λp H=>(hR p H).mri) hn).S ?_
  rintro r17 w17 ⟨rfl,q4⟩;have kz:=(xj.X [] ga).I q4;refine⟨kz,?_⟩;refine pe ?_;have g5:=J.J kz;refine Q6 U (λhH=>?_) (λhH=>?_)
  rotate_left
  .refine Qe<|⟨vk,La,?_⟩;rw[S]at hH;unfold Yi;rw[O0 (by rw[hH];simp)];exact g5
  refine Qq<|Qm U g5.A U U<|Qa<|Qo<|Zb [[sS i]] λb57 w18 q5 hb57 za=>?_;have hJ:=g5.J q5;refine Qo<|Q9 (news:=[sS i]) (L:=[]) hJ.k U U U (za.at oe) oq oa hJ.st.size λk4 zb zv k5 z1=>?_;have k6:Qp 3 ↑wS zb k4 (s.mk'++[(i:Int)]):=Qp.snoc zv;refine QN U<|Qo<|Qw (hJ.A.O k5 (QR hJ.k oa)) U U oe (Qp.ints (L:=[]) k6 (by simp;omega) oe).one λw20 z2 z3=>xe ?_;refine⟨k4,La,?_⟩;rw[S]at hH;unfold Yi;rw[O1 hH];exact hJ.setK hG k5 k6 z1 z2 z3
 rintro gc g3 w21 k7;have z5:zj aa (Yi aa i t s):=Qaj gb;have htup2:(Yi aa i t s).tup=s.tup:=by unfold Yi;split <;> rfl
 have hed2:(Yi aa i t s).ed=s.ed:=by unfold Yi;split <;> rfl
 have hmk2:(Yi aa i t s).mk'.length<=i+1:=by
  unfold Yi;split
  .simp only[oN,oP];omega
  omega
 have k8:QG [b2,he,V] ↑wS ve (evs aa):=by have:=gv.ev;rw[S]at this;exact this
 refine Qc<|Qm U (gw.O k7.st gx) U U<|QE k8 U<|Qa<|xe<|Q2 (α:=Nat×Sy×List (ByteArray×O9)×List TV×O9×O9) [(3,4),(12,16),(63,111)] (λz=>[(3,z.2.2.2.2.1),(63,sS z.1)])
  (λz w'=>SyI ↑w1 b2 he V ve wS z.2.1 z.2.2.1 z.2.2.2.1 z.2.2.2.2.1 gc z.2.2.2.2.2 w'/\zj aa z.2.1/\zm ps.length z.2.2.1 z.2.1.tup/\z.1<=(evs aa).length/\z.2.1.mk'=(Yi aa i t s).mk'/\z.2.1.ed.length<=i*1000+z.1 /\
   (∃h:i<z.2.2.2.1.length,(z.2.2.2.1[i]'h).2=t)/\(yx aa i t ((evs aa).drop z.1) z.2.1).bind (syL aa (4096 - (i+1)) (i+1))=T)
  (λz=>(evs aa).length - z.1) (0,Yi aa i t s,m,qs,vt,vd) oB
  ⟨k7,z5,by rw[htup2];exact kr,Lp _,U,by rw[hed2];simpa using kt,⟨Y,g2⟩,qo⟩ ?_
 rintro⟨j,I,m4,hg,gg,gh⟩ g4 hK ⟨O,hL,hv,hj,gi,k9,⟨ho,h9⟩,Z⟩;simp only[]at O hL hv hj gi k9 Z ho h9;have ma:hg.length=I.tup.length:=by rw[<-O.q];simp
 have hle4:=hL.le;refine Zi rfl U (λh64=>?_) (λh64=>?_)
 .rw[Lx oa,yx]at Z;refine Qt<|Qq<|Qa<|QH U U<|Qb<|⟨(i+1,I,m4,hg,gg,gc,gh),og,oB,O,hL,hv,og,by simp only[];rw[gi];exact hmk2,og,Z⟩
 have gj:j<(evs aa).length:=oa
 rw[Zz gj,yx]at Z;obtain⟨v,mf⟩:∃v,(evs aa)[j]=v:=⟨_,U⟩;rw[mf]at Z;refine Qe<|Qd<|Qn<|Qc<|xii (k8.st O.st) U U gj λa65 mg=>?_;rw[mf]at mg;refine x (Qy mg U)<|Qb ?_;have hB622:=gw.O O.st gx;have htA4:=QC (L:=[]) O.t oa oe;have htI4:QG [] ↑hK (hg[i]'ho).1 t:=by rw[<-h9];exact Qp.ints (O.el (hg[i]'ho) (Lm ho)) (by rw[h9,h8.1];omega) oe
 refine Qd<|ZH [] (Xf 0 12 [6])<|pq (λ_ hc=>ZN (hB622.J hc) U U)<|p QA<|p QA<|pig U Uu htA4 U U ho λa71 h71 =>
  pq (λ_ hc=>Qy (h71.J hc) U)<|p QA<|pk<|xg<|(Qj5 (((gv.st O.st).up (L':=[]) (λ_ E=>by cases E)).J (xj.X _ _)) (htI4.J (xj.X _ _)) (by rw[h8.1,hD]) (λp H=>(hR p H).ali) (λp H=>(hR p H).edi) hn _).S ?_
 rintro r23 w23 ⟨hs23,hM⟩;rw[S]at hM;have mh:=(xj.X [] hK).I hs23;refine⟨mh,?_⟩;have hN:=O.J mh;have hz22:=O.st.size;rcases QtW (Y2 v aa t)with hw|⟨u,hw⟩
 .rw[hw]at hM;subst hM;rw[Qju hw]at Z;refine p QA<|p (λ_=>Zw U U)<|p (λ_=>Zw U U)<|p ZL<|p ZL<|pe ?_;refine Qd<|Qj<|x (Zr U)<|xe<|jE U ?_;refine Qt<|Qq<|QH U U<|Qa<|xe ?_;exact⟨(j+1,I,m4,hg,gg,gh),og,oB,hN,hL,hv,gj,gi,og,⟨ho,h9⟩,Z⟩
 rw[hw]at hM;obtain⟨vx,rfl,g8⟩:=hM;have mj:=Km hC h8 hw;have mo:u.length=ps.length:=by rw[mj.1,hD]
 have g9:=mj.bd pd;have ka:∀x∈u,0<=x:=λx hx=>(g9 x hx).1;refine p QA<|p (λ_=>Zw U U)<|p (λ_=>Zw U U)<|p ZL<|p ZL<|pe ?_;refine Qd<|Qj<|x (Zr U)<|xe<|Zl U<|Qe ?_;have gk:=Qp.ints (L:=[]) g8 oa oe;have mq:=Qg g8;refine QX (α:=Unit) [(15,16),(79,85)] (λz=>[(15,sS (if u∈I.tup then(I.tup.idxOf u:Int)else 0)),(16,.bool (decide (u∈I.tup)))]) (λz w'=>sW w23 w') om ?_ ?_
 .refine Qq<|Qa<|Qa<|Qx<|(Qb5 gk (gn.J (hZ.G hN.st (λb E=>.inr (by simp at E;omega)))) g9 oa).S ?_;rintro r24 w24 ⟨rfl,gl⟩;by_cases hu:u∈I.tup
  .refine x (Qax (k:=Vp u) ((hN.J gl).M) U U (by rw[hv u mo ka,O1 hu]))<|Qa<|QS rfl rfl<|QS rfl rfl<|x Qh<|Qb<|⟨(),⟨O2 sS (O1 hu).symm,O2 Value.bool (O4 hu).symm,La⟩,gl⟩
  refine x (Qh0 (k:=Vp u) ((hN.J gl).M) U U (by rw[hv u mo ka,O0 hu]))<|Qa<|QS rfl rfl<|QS rfl rfl<|x Qh<|Qb<|⟨(),⟨O2 sS (O0 hu).symm,O2 Value.bool (O6 hu).symm,La⟩,gl⟩
 rintro _ g6 w25 kb;have hA:=hN.J kb;have hxA25:=gk.J kb;have hadd:∀b∈ob vx,b∉ob gg/\b∉ob gc/\b∉ob gh:=λb E=>by
  have h1:=(mq b E).1;have h1':↑hK<=b:=h1;exact⟨λhO=>ov (Q3 O.t b hO),λhO=>ov (Q3 O.k b hO),λhO=>ov (Q3 O.e b hO)⟩
 refine QX (α:=List (ByteArray×O9)×List TV×O9) [(3,4),(15,15),(86,101)] (λz=>[(3,z.2.2),(15,sS ((Y5 I u).tup.idxOf u:Int))])
  (λz w'=>SyI ↑w1 b2 he V ve wS (Y5 I u) z.1 z.2.1 z.2.2 gc gh w'/\(u∈I.tup\/I.tup.length≠4096)/\zm ps.length z.1 (Y5 I u).tup/\∃h:i<z.2.1.length,(z.2.1[i]'h).2=t) om ?_ ?_
 .refine Qj<|x (Zr U)<|xe<|Q6 U (λkc=>?_) (λkc=>?_)
  rotate_left
  .have hu:u∈I.tup:=by simpa using kc
   refine Qe ?_;have e1:Y5 I u=I:=by unfold Y5;rw[O1 hu]
   have e2:(if u∈I.tup then(I.tup.idxOf u:Int)else 0)=((Y5 I u).tup.idxOf u:Int):=by rw[e1,O1 hu]
   refine⟨(m4,hg,gg),⟨U,O2 sS e2,La⟩,?_,.inl hu,?_,ho,h9⟩
   .rw[e1];exact hA
   rw[e1];exact hv
  have hu:u∉I.tup:=by simpa using kc
  have mt:=QC (L:=[]) hA.t oa oe;refine Qd<|Qj<|QE mt U<|x (QW U U)<|xe<|QY U (λh90=>?_) (λh90=>?_)
  .refine Qc<|x (Qv La)<|QJ [nS,sS 0,nS,nS] hA.A oD λw26 gm hB26=>x Qh<|Qb<|Qi ⟨[zA,ZD,sS 3],⟨YO hB26,U,U,La⟩,(hZ.G hA.st (λb E=>.inr (by simp at E;omega))).Q gm hB,zA,ZD,3,U,?_⟩;unfold YY;rw[Qjw hw hu oa]at Z;rw[O0 h5,p3 Z.symm];exact⟨rfl,U,U⟩
  have hl4:I.tup.length≠4096:=oa
  refine Qe<|Qj<|QE mt U<|Qb<|Qj<|Qa<|Qx<|(Qb5 hxA25 (gn.J (hZ.G hA.st (λb E=>.inr (by simp at E;omega)))) g9 oa).S ?_;rintro r26 w26 ⟨rfl,gm⟩;have mu:=hA.J gm;refine Qa<|Qo<|XN (k:=Vp u) mu.M U U λw27 mv hm27=>xe ?_;have hx27:=Qf (Ql (Ql g8 kb) gm) mv (λb E=>by have:=(mq b E).1;have h1':↑hK<=b:=this;simp;omega);refine Qq<|Qa<|Qa<|Qo<|XQ (us:=[[vx]]) U U oh oe ⟨gk.cells,rfl,La⟩ λb100 w28 mw hb100 hB100=>?_;have ke:=(mu.setM hG mv hm27).J mw;refine Qo<|Q9 (news:=[vx]) (L:=[]) ke.t U U U (hB100.at oe) (λy hy=>by simp only[oJ]at hy;subst hy;exact gk.one) oa (oy ke.st.size hG.nS) λmy w29 ho29 hs29 hn29=>Qb ?_;have hk29:j8 63 ↑w1 w29 my (hg++[(vx,u)]):=j8.snoc ho29;have hIA:=ke.setT hG (u:=u) (Zv (Ql hx27 mw) (by show wS.heap.size<=↑hK;omega)) hadd hs29 hk29 hn29;have e1:Y5 I u=⟨I.tup++[u],I.mk',I.ed⟩:=by unfold Y5;rw[O0 hu]
  have e2:(hg.length:Int)=((Y5 I u).tup.idxOf u:Int):=by
   rw[e1];simp only[];rw[MJ,O0 hu,<-ma];simp
  refine⟨(xu m4 (Vp u) (sS (hg.length:Int)),hg++[(vx,u)],my),⟨U,O2 sS e2,La⟩,?_,.inr hl4,?_,by simp;omega,?_⟩
  .rw[e1];exact hIA
  .rw[e1];simp only[];rw[ma];exact hv.add hu ka
  simp only[];rw[Ml ho];exact h9
 rintro⟨m5,qs5,vt5⟩ g7 w30 ⟨mz,hlim,hkn5,hlt5,ht5⟩;have hed5:(Y5 I u).ed.length<=i*1000+j:=by rw[Qjy];exact k9
 have m2:=Qne (aa:=aa) (i:=i) (s:=I) hw hlim;rw[m2]at Z;refine Qq<|Qm U mz.A U U<|Qa<|Qa<|Qa<|x (Qv ⟨U,U,U,La⟩)<|Qo<|Zb [Qz ((i:Int),v,((Y5 I u).tup.idxOf u:Int))] λb108 w31 hs31 hb108 hB108=>?_;have hP:=mz.J hs31;refine Qo<|Q9 (news:=Qz ((i:Int),v,((Y5 I u).tup.idxOf u:Int))) (L:=[]) hP.e U U U (hB108.at oe) (λy hy=>by simp only[Qz,oM,oL,or_false]at hy;rcases hy with rfl|rfl|rfl <;> rfl) oa hP.st.size λm3 w32 ho32 m6 hn32=>?_
 have m7:YR 159 ↑wS w32 m3 ((Y5 I u).ed++[((i:Int),v,((Y5 I u).tup.idxOf u:Int))]):=YR.snoc ho32;refine QN U<|Qo<|Qw (hP.A.O m6 (QR hP.e oa)) U U oe (YR.eds (L:=[]) m7 (by simp;omega) oe).one λw33 hs33 hB33=>xe ?_;refine Qq<|QH U U<|Qa<|xe<|⟨(j+1,_,m5,qs5,vt5,m3),og,oB,(hP.setE hG m6 m7 hn32 hs33 hB33),(Qjv hC hL h8 m2),hkn5,gj,?_,?_,⟨hlt5,ht5⟩,Z⟩
 .simp only[];rw[Qjx];exact gi
 simp only[oN,oP];omega
structure UL where
 en:LI
 dis:LI
 mk':Bool
 ps:Bool
def Qry:UL:=⟨[],[],false,false⟩
def Qqg (l:LI)(v:Int):LI:=mrg (· || ·) l [v]
def Qub (p s:QU)(x y:Int)(c:UL)(v:Int):UL :=
 match xx p.ed x v with
 | none=>c
 | some _=>match xx s.ed y v with
  | some _=>⟨Qqg c.en v,c.dis,c.mk',c.ps⟩
  | none=>⟨c.en,Qqg c.dis v,c.mk',c.ps⟩
def Quc (p s:QU)(x y:Int)(c:UL):UL:=⟨c.en,c.dis,decide (y∈s.mr),c.ps || decide (x∈p.mr)⟩
def Qua (p s:QU)(x y:Int)(c:UL):UL:=s.al.foldl (Qub p s x y) (Quc p s x y c)
def px (q:LI):Int:=q.getD 0 0
def py (q:LI):Int:=q.getD 1 0
def Qt9 (p s:QU)(l:List UL)(q:LI):List UL:=l.set (py q).toNat (Qua p s (px q) (py q) (l.getD (py q).toNat Qry))
def ctls (p s:QU)(pairs:List (LI)):List UL:=pairs.foldl (Qt9 p s) (oK s.st.toNat Qry)
def occs (n:Nat)(pairs:List (LI)):List Bool:=pairs.foldl (λo q=>o.set (py q).toNat true) (oK n false)
def meets (a b:LI):LI:=mrg (· && ·) a b
def QsZ (a b:UL):Bool:=decide ((meets a.en b.dis).length+(meets b.en a.dis).length=0) && (!a.ps || !b.ps || a.mk' == b.mk')
def xo (l:LI)(i:Nat):Int:=l.getD i 0
def Qku (cl:LI)(x y:Nat):LI:=cl.map λc=>if c=xo cl y then xo cl x else c
def lget (l:List UL)(i:Nat):UL:=l.getD i Qry
def to0 (s:QU)(x:Nat)(v:Int):Int:=match xx s.ed x v with|some u=>u|none=>0
def clE (s:QU)(x y:Nat)(z:LI×Bool)(v:Int):LI×Bool :=
 if xo z.1 (to0 s x v).toNat≠xo z.1 (to0 s y v).toNat then(Qku z.1 (to0 s x v).toNat (to0 s y v).toNat,true)else z
def clY (s:QU)(l:List UL)(x:Nat)(z:LI×Bool)(y:Nat):LI×Bool :=
 if xo z.1 x<0\/xo z.1 x≠xo z.1 y then z else(meets (lget l x).en (lget l y).en).foldl (clE s x y) z
def clX (s:QU)(l:List UL)(n:Nat)(z:LI×Bool)(x:Nat):LI×Bool:=(oS (x+1) (n - (x+1))).foldl (clY s l x) z
def pass (s:QU)(l:List UL)(cl:LI):LI×Bool:=(oS 0 cl.length).foldl (clX s l cl.length) (cl,false)
def QlT (s:QU)(l:List UL):Nat->LI->LI
 | 0,cl=>cl
 | f+1,cl=>if(pass s l cl).2=true then QlT s l f (pass s l cl).1 else(pass s l cl).1
def Qo9 (l:List UL)(cl:LI):Bool :=
 (oS 0 cl.length).all λx=>(oS 0 x).all λy=>!(decide (0<=xo cl x/\xo cl x=xo cl y) && !QsZ (lget l x) (lget l y))
def QtI (s:QU)(l:List UL)(cl:LI)(x y:Nat):LI :=
 if xo cl x<0\/xo cl y<0\/xo cl x=xo cl y then cl else
  let d:=QlT s l (cl.length*cl.length+1) (Qku cl x y)
  if Qo9 l d=true then d else cl
def QtH (s:QU)(l:List UL)(n:Nat)(cl:LI)(x:Nat):LI:=(oS (x+1) (n - (x+1))).foldl (λc y=>QtI s l c x y) cl
def Que (o:List Bool):LI:=(oS 0 o.length).map λi=>if o.getD i false=true then(i:Int)else -1
def Qud (s:QU)(l:List UL)(cl:LI):LI:=(oS 0 cl.length).foldl (QtH s l cl.length) cl
def QtZ (z:LI×LI)(c:Int):LI×LI :=
 if c∈z.1 then(z.1,z.2++[(z.1.idxOf c:Int) - 1])else(z.1++[c],z.2++[(z.1.length:Int) - 1])
def nums (cl:LI):LI:=(cl.foldl QtZ ([-1],[])).2
def Qs7 (p s:QU)(pairs:List (LI)):LI:=nums (Qud s (ctls p s pairs) (Que (occs s.st.toNat pairs)))
theorem xP {α:Type}(g:α->LV)(sz:Nat)(H:∀x,(g x).length=sz):∀(l:List α) (i j:Nat) (h:i<l.length) (y:α) (u:O9),j<sz->g y=(g l[i]).set j u ->
  (l.flatMap g).set (i*sz+j) u=(l.set i y).flatMap g
 | x::l,0,j,h,y,u,I,E=>by
  simp only[List.getElem_cons_zero]at E;simp only[OV,oZ,Od,List.set_cons_zero];rw[List.set_append_left _ _ (by rw[H];exact I),E]
 | x::l,i+1,j,h,y,u,I,E=>by
  simp only[List.getElem_cons_succ]at E;simp only[Od,List.set_cons_succ];rw[List.set_append_right _ _ (by rw[H,MB];omega),H,show(i+1)*sz+j - sz=i*sz+j by rw[MB];omega,xP g sz H l i j (oA h) y u I E]
section
variable {f:Fr}{all:xK}{C:xH}{K:Fr->O8->Prop}
end
theorem Zx {l:LI}(h:i<l.length):l[i]=xo l i:=by simp[xo,oQ,h]
section
variable {l:xK}{K:Fr->O8->Prop}{f:Fr}{pS:String}{C:xH}{pl:xD}{i0:Nat}
theorem xic {x:xd}{e bys:Nat}[Sl P t e 1 bys z]{L:LN}{li:LI}{v:O9}{k:IntKind}
  (h:QG L ↑w v li) (E:ev f x=v) (H:ev f y=.int k i) (hi:i<li.length)
  (hK:∀a,At L ↑w a [sS (xo li i)]->XL P ops K l (QT f d (.pointer (some a))) w) (I:Z4 ops f ⟨d,.indexAddr t x y,ty,pS,af,gd⟩=true:=by rfl):
  XL P ops K (⟨d,.indexAddr t x y,ty,pS,af,gd⟩::l) f w :=
 xii h E H hi (λa J=>hK a (by rw[<-Zx hi];exact J)) I
theorem pic {x:xd}{e bys:Nat}[Sl P t e 1 bys z]{L:LN}{li:LI}{v:O9}{H:xI}{k:IntKind}
  (E:Za ops i0=⟨d,.indexAddr t x y,ty,pS,af,gd⟩) (h:QG L H v li) (I:ev f x=v) (J:ev f y=.int k i) (hi:i<li.length)
  (hK:∀a,At L H a [sS (xo li i)]->XP P ops C K pl (QT f d (.pointer (some a))) w) (O:Z4 ops f (Za ops i0)=true:=by rfl):XP P ops C K ((i0,true)::pl) f w :=
 pii E h I J hi (λa S=>hK a (by rw[<-Zx hi];exact S)) O
end
theorem QjU {a:Nat}(h:a<n):oS a (n - a)=a::oS (a+1) (n - (a+1)):=by
 rw[show n - a=(n - (a+1))+1 by omega,Nn]
theorem Qnw {a:Nat}(h:n<=a):oS a (n - a)=[]:=by rw[show n - a=0 by omega];rfl
section
variable {f:Fr}{pS:String}{κ:Type}[DecidableEq κ]
end
theorem Qf9 {aa:List QU}{i:Nat}{t:LI}(H:∀a∈aa,Zo a)(I:Vt aa t):∀(vs:LI) (s E:Sy),zj aa s->yx aa i t vs s=some E->zj aa E
 | [],s,E,h,e=>by cases e;exact h
 | v::vs,s,E,h,e=>by
  rw[yx]at e;obtain⟨J,O,S⟩:=MZ.1 e;exact Qf9 H I vs J E (Qjv H h I O) S
theorem Qjr {aa:List QU}(H:∀a∈aa,Zo a):∀(f i:Nat) (s E:Sy),zj aa s->syL aa f i s=some E->zj aa E
 | 0,i,s,E,h,e=>by cases e;exact h
 | f+1,i,s,E,h,e=>by
  rw[syL]at e;split at e
  .rename_i hi;obtain⟨I,J,O⟩:=MZ.1 e;have S:Vt aa (syT s i):=h.v _ (by unfold syT;simp[oQ,hi]);exact Qjr H f _ I E (Qf9 H S _ _ _ (Qaj h) J) O
  cases e;exact h
theorem Qqj {aa:List QU}(I:∀a∈aa,Zo a)(J:¬∃a∈aa,a.st=0):zj aa (sy0 aa):=by
 refine⟨λt E=>?_,by simp[sy0]⟩;simp only[sy0,oJ]at E;subst E;refine⟨oe,λi O H=>?_⟩;have S:=(I aa[i] (Lm H)).st0;have T:aa[i].st≠0:=λe=>J ⟨aa[i],Lm H,e⟩;simp only[List.getElem_replicate];omega
theorem zZ {aa:List QU}(E:∀a∈aa,Zo a){z:QU×List (LI)}(h:xz aa=some z):(∀t∈z.2,Vt aa t)/\z.2.length<=4096:=by
 unfold xz at h;split at h
 .cases h;simp
 rename_i H;obtain⟨s,I,rfl⟩:=MH.1 h;have:=Qjr E _ _ _ _ (Qqj E H) I;exact⟨this.v,this.le⟩
def opC (p s:QU):Int:=if Jt p≠0 then Jt p else if Jt s≠0 then Jt s else if mrg (λp q=>p && !q) s.al p.al=[]then 0 else 9
def opE (p s:QU):Int:=if opC p s≠0 then opC p s else match xz [p,s]with|none=>3|some _=>0
def opQ (p s:QU):List (LI):=match xz [p,s]with|none=>[]|some z=>z.2
def QsF (l:LI):Int:=(l.drop 1).foldl max (xo l 0)
theorem XY {v:O9}{a:QU}(h:Xi N ↑w v a)(H:b<N)(I:xj [b] w w'):Xi N ↑w' v a:=by
 obtain⟨va,vm,ve,J,O⟩:=h;refine⟨va,vm,ve,J,λL S=>?_⟩;exact((O (b::L) (λc E=>by rcases Lk.1 E with rfl|E;exact H;exact S c E)).st (I.S oe)).up (λc E=>.inl (Ll _ E))
theorem Qms {v:O9}{l:List (LI)}(h:QfS N ↑w v l)(H:b<N)(I:xj [b] w w'):QfS N ↑w' v l:=by
 obtain⟨ps,J,O⟩:=h;refine⟨ps,J,λL S=>?_⟩;exact((O (b::L) (λc E=>by rcases Lk.1 E with rfl|E;exact H;exact S c E)).st (I.S oe)).up (λc E=>.inl (Ll _ E))
theorem Xw {H:xI}{v:O9}{a:QU}(h:Xi N H v a):∃us,v=sT us/\us.length=4/\Zj us:=by
 obtain⟨va,vm,ve,E,I⟩:=h;have:=I [] oe;exact⟨[va,sS a.st,vm,ve],E,U,this.al.one,U,this.mr.one,this.ed.one,La⟩
theorem QcD {L:LN}{a:QU}(h:ZE L ↑w va vm ve a):
  QZ sV 192 [.agg #[va,sS a.st,vm,ve]] w λr w'=>sW w w'/\∃v,r=.tuple #[v,sS (Jt a)]/\(Jt a≠0->v=zA)/\(Jt a=0->Xi ↑w ↑w' v (Yg a)):=by
 refine Zt func192 ?_;refine Qc<|Zg [va,sS a.st,vm,ve] λb1 w1 V hl Y=>QL [nS,sS 0,nS,nS] λb2 w2 H hm I=>Qb ?_;have J:=V.I H;refine Qd<|Qc<|QV (Y.J H) U U<|Qx<|(XS (h.J J)).S ?_;rintro r3 w3 ⟨rfl,E⟩;refine Qb ?_;have hn:=V.size;refine Qj<|Zu U U<|xe<|QY rfl (λO=>?_) (λO=>?_)
 .refine Qc<|x (Qv La)<|Qa<|QJ [nS,sS 0,nS,nS] (I.J E) oD λw4 hg hh=>Qb<|Qi ⟨[zA,sS (Jt a)],⟨YO hh,U,La⟩,(J.I E).Q hg oa,zA,U,λ_=>U,λe=>O3 e O⟩
 have S:Jt a=0:=Lq.1 O;have ho:=I.lt;have T:=J.I E;refine Qe<|Qc<|QV ((Y.J H).J E) U U<|Qx<|(JJ (h.J T) ((Z0 a).1 S)).S ?_;rintro v w5 ⟨Z,hF⟩;obtain⟨us,ha,hb,hi⟩:=Xw hF;have hp:=E.size;refine Qo<|ZA (us:=us) ((I.J E).J Z) U ha hb U hi λw6 he hj =>
  Qb<|Qi ⟨[sT us,sS 0],⟨⟨_,U,ZR hb (hj.at (L:=[]) oe).cells⟩,rfl,La⟩,(T.I Z).Q he oa,v,by rw[S,ha];rfl,λe=>O3 S e,λ_=>?_⟩
 exact(XY hF oa he).S T.size
end Go.Lg
namespace Go.Lg
abbrev xG:=Fr->xH
end Go.Lg
