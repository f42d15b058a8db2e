/- Merged out of 44 texts. -/
import Derived.Orders
import Derived.Below
import Derived.WalkKit
import Derived.Laws.AppendOwn
import Derived.Laws.Rows
import Derived.Laws.Tables
import Derived.Great.BuildSlice
import Derived.Deep.OwnRows
import Derived.MapKept
import Derived.Test.YtpfnhheoeaiomaaGreatDoorProg
import Derived.Shelf.SlBodiesH
import Derived.Shelf.SlBodiesN
import Derived.Shelf.SlGeneric
import Derived.Laws.StructEq
import Derived.Shelf.Strings.Builder1
import Derived.Shelf.Small.Bits
import Derived.Shelf.Strings.BuilderF
import Derived.Shelf.Strings.BuilderK
import Derived.Shelf.Strconv.Itoa0
import Derived.Shelf.Strconv.Itoa1
import Derived.Shelf.LaysM
import Derived.Shelf.Strconv.Itoa2
import Derived.Shelf.Strconv.Itoa3
import Derived.Shelf.Strings.BuilderCap
import Derived.Lib.Builder
import Derived.Laws.Externs
set_option maxHeartbeats 40000000
set_option maxRecDepth 100000
set_option linter.all false
abbrev Eq.D:=@Eq.trans
abbrev Iff.D:=@Iff.trans
abbrev List.Perm.D:=@List.Perm.trans
namespace Go
abbrev sL (b n c:Nat):Value:=.slice (some ⟨b,0,none⟩) n c
abbrev sP (b:Nat):Value:=.pointer (some ⟨b,0,none⟩)
instance:CoeOut World Nat:=⟨λw=>w.heap.size⟩
instance:CoeOut World (Array Obj):=⟨λw=>w.heap⟩
abbrev sS (n:Int):Value:=.int .i64 n
abbrev sT (l:List Value):Value:=.agg l.toArray
abbrev xq:=Option (Nat×Bool)
abbrev xt:=List (Nat×Bool)
abbrev xu:=List (Nat×Nat)
abbrev xw:=List (Int×Int)
abbrev xz:=World→Prop
abbrev xA:=Array Obj
abbrev xC:=Array Edge
abbrev xD:=List Oper
abbrev xE:=Option Nat
theorem oo{p q:Prop}(a:q)(h:q→p:=by intro _;omega):p:=h a
theorem oq{p q r:Prop}(a:q)(b:r)(h:q→r→p:=by intro _ _;omega):p:=h a b
theorem ot{p q r s:Prop}(a:q)(b:r)(c:s)(h:q→r→s→p:=by intro _ _ _;omega):p:=h a b c
theorem ou{p q:Prop}(a:q)(h:q→p:=by intro h;simpa using h):p:=h a
theorem oa{p:Prop}(h:p:=by omega):p:=h
theorem oc{p:Prop}(h:p:=by kernel_rfl):p:=h
theorem od{p:Prop}(h:p:=by simp):p:=h
theorem oe{p:Prop}(h:p:=by simp only[];omega):p:=h
theorem og{p:Prop}(h:p:=by decide):p:=h
theorem oh{p:Prop}(h:p:=by rfl):p:=h
theorem ol{p:Prop}(h:p:=by simp only[List.mem_singleton];omega):p:=h
theorem om{p:Prop}(h:p:=by simp[Value.oneCell']):p:=h
abbrev oz(j:Nat):Nat×Bool:=(j,true)
abbrev oA(j:Nat):Nat×Bool:=(j,false)
abbrev OT:=@if_neg
abbrev OU:=@if_pos
abbrev OV:=@congrArg
abbrev OW:=@absurd
abbrev OX:=@decide_eq_true
abbrev OY:=@of_decide_eq_true
abbrev OZ:=@decide_eq_false
abbrev O0:=@of_decide_eq_false
end Go
open Go
open Go.Value renaming int->oB
open Go.IntKind renaming i64->oC
open _root_.List renaming mem_singleton->oF,replicate->oG,not_mem_nil->oH,range->oJ,mem_cons->oK,length_singleton->oL,length_append->oM,range'->oN,getD->oO,length_cons->oQ,getElem?_toArray->oR,map_cons->oS,flatMap_cons->oT,getElem?_eq_getElem->oV,mem_append->oW,cons_append->oZ,all_cons->Ob,size_toArray->Od,append_assoc->Of,all_eq_true->Oj,forall_mem_cons->Om,nil_append->On,append_nil->Oo,getElem_replicate->Oq,getElem_cons_zero->Ot,singleton_append->Ov,length_map->Ow,range'_succ->Oz,filter_cons->OA,pairwise_cons->OB,length_drop->OF,length_take->OG,map->OS
open _root_.Bool renaming and_eq_true->oI,or_eq_false_iff->oY,not_eq_true'->Oe,true_and->OK
open _root_.Array renaming replicate->oP
open _root_.Nat renaming zero_add->oX,add_mul->Ou,add_zero->Ox,le_refl->OE,pow_succ->OH,one_mul->OL,lt_or_ge->OM,sub_zero->ON,mul_one->OQ,beq->OR
open _root_.Int renaming toNat_natCast->Oy
open _root_.Option renaming map_some->OD
open Go renaming World->O1,Value->O2,Operand->O3,Program->O4
open Go.Proofs Go.Proofs.Tryz
open Go.Proofs.Tryz renaming prog->sV
variable {w w':O1}{n t i sz base T j N E m g id B kt ty G lo et gp off M:Nat}{α β:Type}{y:O3}{va ve vm z vt vl vs v' vk vx vb vo:O2}{P:O4}{fn:Func}{s:Int}{d:xE}{pS:String}{af:xC}{gd:xq}{k':IntKind}{at_:Array Nat}{ops:xD}
namespace Go
abbrev nS:O2:=.slice none 0 0
abbrev LI:=List Int
abbrev LN:=List Nat
abbrev LV:=List O2
theorem O.{u}{α:Sort u}{a:α}:a=a:=rfl
theorem Z:True:=trivial
theorem La.{u}{α:Sort u}{a:α}:a=a/\True:=⟨rfl,trivial⟩
abbrev Lb:=@List.mem_singleton
abbrev Lc:=@List.length_append
abbrev Le:=@List.getElem_mem
abbrev Lh:=@List.mem_append
abbrev Lj:=@List.take_succ_eq_append_getElem
abbrev Lk:=@List.mem_cons_of_mem
abbrev Ll:=@List.length_map
abbrev Lm:=@List.mem_cons_self
abbrev Ln:=@List.mem_cons
abbrev Lo:=@Nat.zero_le
abbrev Lp:=@Nat.le_refl
abbrev Lq:=@List.take_of_length_le
abbrev Lr:=@List.drop_of_length_le
abbrev Ls:=@Decidable.not_not
abbrev Lt:=@List.eq_nil_of_length_eq_zero
abbrev Lu:=@List.length_singleton
abbrev Lv:=@List.map_append
abbrev Lx:=@Nat.le_trans
abbrev Ly:=@List.mem_map
abbrev Lz:=@List.not_mem_nil
abbrev LA:=@List.append_assoc
abbrev LB:=@Bool.and_eq_true
abbrev LC:=@List.length_take
abbrev LD:=@List.flatMap_append
abbrev LE:=@List.getElem?_eq_getElem
abbrev LF:=@List.append_nil
abbrev LG:=@List.mem_map_of_mem
abbrev LH:=@Array.getElem?_eq_some_iff
abbrev LJ:=@List.length_filter_le
abbrev LK:=@List.flatMap_cons
abbrev LL:=@List.length_cons
abbrev LM:=@List.mem_append_left
abbrev LO:=@List.foldl_cons
abbrev LP:=@List.getElem_of_mem
abbrev LQ:=@List.mem_filter
abbrev LR:=@Nat.lt_of_lt_of_le
abbrev LS:=@List.map_cons
abbrev LT:=@List.filter_append
abbrev LU:=@Nat.zero_add
abbrev LW:=@List.size_toArray
abbrev LX:=@List.ext_getElem
abbrev LY:=@List.getElem?_append_left
abbrev LZ:=@List.drop_eq_getElem_cons
abbrev L2:=@List.getElem?_take
abbrev L3:=@List.mem_of_mem_take
abbrev L4:=@Nat.le_of_ble_eq_true
abbrev L5:=@List.filter_cons
abbrev L6:=@List.pairwise_cons
abbrev L7:=@List.idxOf_append
abbrev L8:=@List.mem_range'_1
abbrev L9:=@List.length_range
abbrev Ma:=@List.pairwise_map
abbrev Mb:=@List.nodup_append
abbrev Mc:=@List.all_eq_true
abbrev Md:=@List.mem_flatMap
abbrev Me:=@List.idxOf_lt_length_of_mem
abbrev Mf:=@List.getElem?_toArray
abbrev Mg:=@List.pairwise_append
abbrev Mh:=@List.getElem?_eq_some_iff
abbrev Mi:=@List.pairwise_iff_getElem
abbrev Mj:=@List.foldl_append
abbrev Mk:=@List.filterMap_cons
abbrev Ml:=@List.mem_of_getElem?
abbrev Mm:=@List.range'_1_concat
abbrev Mn:=@List.getElem?_append_right
abbrev Mo:=@List.length_drop
abbrev Mq:=@List.getElem?_eq_none
abbrev Mr:=@List.getElem_range
abbrev Ms:=@List.nodup_nil
abbrev Mt:=@List.getElem_append_left
abbrev Mu:=@List.cons_append
abbrev Mv:=@List.nil_append
abbrev Mw:=@List.map_map
abbrev Mx:=@Int.le_refl
abbrev My:=@Nat.add_mul
abbrev Mz:=@Array.getElem?_append
abbrev MA:=@List.take_append_drop
abbrev MB:=@List.mem_range
abbrev MC:=@List.getElem?_map
abbrev MD:=@Array.size_modify
abbrev ME:=@List.all_cons
abbrev MF:=@Array.getElem?_eq_getElem
abbrev MG:=@List.getElem?_drop
abbrev MH:=@List.filter_eq_nil_iff
abbrev MI:=@Bool.false_ne_true
abbrev MJ:=@List.filter_nil
abbrev MK:=@List.getElem_map
abbrev ML:=@List.filter_sublist
abbrev MM:=@Array.getElem?_toList
abbrev MN:=@List.mem_append_right
abbrev MO:=@Int.toNat_natCast
abbrev MP:=@Option.bind_eq_some_iff
abbrev MQ:=@Nat.mul_le_mul_right
abbrev MR:=@List.mem_filterMap
abbrev MS:=@List.mem_of_mem_drop
abbrev MT:=@List.getElem?_set_ne
abbrev MU:=@Bool.or_eq_false_iff
abbrev MV:=@Nat.add_comm
abbrev MW:=@Array.getElem?_modify
abbrev MX:=@List.length_set
abbrev MY:=@Nat.add_zero
abbrev MZ:=@Nat.min_eq_left
abbrev M0:=@List.headD_cons
abbrev M1:=@Nat.add_sub_cancel_left
abbrev M2:=@List.getElem_set
abbrev M4:=@List.pairwise_singleton
abbrev M5:=@List.pairwise_lt_range'
abbrev M6:=@List.getElem_take
abbrev M7:=@List.flatMap_singleton
abbrev M8:=@Bool.not_eq_true'
abbrev M9:=@Nat.mul_le_mul
abbrev Na:=@List.tail_cons
abbrev Nb:=@Option.map_eq_some_iff
abbrev Nc:=@List.mergeSort_perm
abbrev Nd:=@List.take_succ_cons
abbrev Nf:=@List.range_succ
abbrev Ng:=@List.getElem_append_right
abbrev Nh:=@Bool.false_eq_true
abbrev Ni:=@List.any_eq_true
abbrev Nj:=@List.map_nil
abbrev Nk:=@Nat.pow_le_pow_right
abbrev Nl:=@Nat.exists_eq_succ_of_ne_zero
abbrev Nm:=@List.forall_mem_cons
abbrev Nn:=@List.ext_getElem?
abbrev Np:=@List.getElem_replicate
abbrev Nq:=@List.getElem_cons_zero
abbrev Nr:=@Array.getD_eq_getD_getElem?
abbrev Ns:=@List.range'_succ
abbrev Nt:=@List.map_singleton
abbrev Nu:=@List.singleton_append
abbrev Nv:=@List.mem_or_eq_of_mem_set
abbrev Nw:=@Array.size_append
abbrev Nx:=@List.filter_congr
abbrev Ny:=@List.map_set
abbrev Nz:=@List.eq_of_mem_replicate
abbrev NA:=@List.filter_eq_self
abbrev NB:=@List.take_zero
abbrev NC:=@List.take_append
abbrev ND:=@List.zipIdx_cons
abbrev NE:=@List.foldl_nil
abbrev NF:=@List.drop_zero
abbrev NG:=@Nat.mod_eq_of_lt
abbrev NH:=@Nat.one_mul
abbrev NI:=@Option.map_some
abbrev NJ:=@Nat.not_lt_zero
theorem ov.{u,v}{α:Sort u}{β:Sort v}{a:α}{b:β}:a=a/\b=b/\True:=⟨rfl,rfl,trivial⟩
theorem ox.{u,v,w}{α:Sort u}{β:Sort v}{γ:Sort w}{a:α}{b:β}{c:γ}:a=a/\b=b/\c=c/\True:=⟨rfl,rfl,rfl,trivial⟩
theorem oy.{u,v,w,x}{α:Sort u}{β:Sort v}{γ:Sort w}{δ:Sort x}{a:α}{b:β}{c:γ}{d:δ}:a=a/\b=b/\c=c/\d=d/\True:=⟨rfl,rfl,rfl,rfl,trivial⟩
end Go
namespace Go.Lg
open Go.RowKit
abbrev Fr:=Nat->O2
def upd (f:Fr)(d:Nat)(v:O2):Fr:=λt=>bif OR t d then v else f t
def ev (f:Fr):O3->O2
 | .tmp t=>f t
 | .const v=>v
 | .global g=>.pointer (some ⟨g,0,none⟩)
 | .func g=>.func (.func g) #[] #[]
def QP (f:Fr):xE->O2->Fr
 | some d,v=>upd f d v
 | none,_=>f
structure Rel (n:Nat)(a:Act)(f:Fr):Prop where
 size:a.tmps.size=n
 defers:a.defers=[]
 get:∀t,a.tmps.getD t undef=f t
theorem XY (f:Fr)(d:Nat)(v:O2):upd f d v d=v:=by simp[upd]
theorem JY (f:Fr){d:Nat}(v:O2)(h:t≠d):upd f d v t=f t:=by
 have:OR t d=false:=by
  cases e:OR t d with
  | false=>rfl
  | true=>exact OW (Nat.eq_of_beq_eq_true e) h
 simp[upd,this]
theorem Rel.eval {n:Nat}{a:Act}{f:Fr}(h:Rel n a f):a.eval=ev f:=by
 funext x;cases x with
 | tmp t=>exact h.get t
 | _=>rfl
theorem Rel.put {n:Nat}{a:Act}{f:Fr}(h:Rel n a f){dst:xE}(hd:∀d,dst=some d->d<n)(v:O2):Rel n (a.put dst v) (QP f dst v):=by
 cases dst with
 | none=>exact h
 | some d =>
  have E:d<a.tmps.size:=by rw[h.size];exact hd d O
  refine⟨by simp[Act.put,h.size],h.defers,λt=>?_⟩;by_cases e:t=d
  ·subst e;rw[QP,XY];simp[Act.put,E]
  rw[QP,JY _ _ e,<-h.get t];simp[Act.put,Array.getElem?_setIfInBounds_ne (Ne.symm e)]
def Yn (l:xD)(t:Nat):Bool:=l.any λo=>match o.dst with|some d=>OR d t|none=>false
def wrs:Code->Nat->Bool
 | .region _ ops _,t=>Yn ops.toList t
 | .seq a b,t=>wrs a t || wrs b t
 | .cond _ a b,t=>wrs a t || wrs b t
 | .block _ a,t=>wrs a t
 | .loop a,t=>wrs a t
 | .skip,_| .exit _,_| .label _,_| .goto _,_| .ret,_=>false
 | _,_=>true
def J0 (D:xu)(t:Nat):Bool:=match D with
 | []=>false
 | (lo,hi)::D=>bif (Nat.ble lo t && Nat.ble t hi) then true else J0 D t
def inD (D:xu)(d:xE):Bool:=match d with|none=>true|some d=>J0 D d
def QeM (D:xu)(l:xD):Bool:=l.all λo=>inD D o.dst
def wr (D:xu):Code->Bool
 | .region _ ops _=>QeM D ops.toList
 | .seq a b=>wr D a && wr D b
 | .cond _ a b=>wr D a && wr D b
 | .block _ a=>wr D a
 | .loop a=>wr D a
 | .skip| .exit _| .label _| .goto _| .ret=>true
 | _=>false
theorem jk {D:xu}{l:xD}(h:QeM D l=true)(G:J0 D t=false):Yn l t=false:=by
 unfold QeM at h;unfold Yn;rw[List.any_eq_false];intro o I;have E:=Mc.1 h o I;cases hd:o.dst with
 | none=>simp
 | some d =>
  rw[hd]at E;simp only[inD]at E;intro e;have:=Nat.eq_of_beq_eq_true e;subst this;rw[E]at G;cases G
theorem KT {D:xu}{t:Nat}(E:J0 D t=false):∀c:Code,wr D c=true->wrs c t=false
 | .region _ ops _,h=>jk h E
 | .seq a b,h=>by simp only[wr,oI]at h;simp[wrs,KT E a h.1,KT E b h.2]
 | .cond _ a b,h=>by simp only[wr,oI]at h;simp[wrs,KT E a h.1,KT E b h.2]
 | .block _ a,h=>KT E a (by simpa[wr]using h)
 | .loop a,h=>KT E a (by simpa[wr]using h)
 | .skip,_=>rfl
 | .exit _,_=>rfl
 | .label _,_=>rfl
 | .goto _,_=>rfl
 | .ret,_=>rfl
 | .rangeFunc ..,h=>by simp[wr]at h
 | .scope _,h=>by simp[wr]at h
 | .refuse _,h=>by simp[wr]at h
def mix (D:xu)(f g:Fr):Fr:=λt=>bif J0 D t then g t else f t
theorem K5 {D:xu}{f g:Fr}(h:∀t,J0 D t=false->g t=f t):mix D f g=g:=by
 funext t;unfold mix;cases e:J0 D t with
 | false=>exact(h t e).symm
 | true=>rfl
def VJ (S:List (Nat×O2))(f:Fr):Fr:=match S with
 | []=>f
 | (t,v)::S=>upd (VJ S f) t v
def Y7 (f:Fr):List (Nat×O2)->Prop
 | []=>True
 | (t,v)::S=>f t=v/\Y7 f S
theorem XD {f:Fr}:∀{S:List (Nat×O2)},Y7 f S->VJ S f=f
 | [],_=>rfl
 | (t,v)::S,h=>by
  funext s;simp only[VJ,XD h.2];by_cases e:s=t
  ·subst e;rw[XY];exact h.1.symm
  exact JY _ _ e
def W (P:O4)(n:Nat)(c:Code)(Q:Exit->Fr->O1->Prop)(f:Fr)(w:O1):Prop :=
 ∀a,Rel n a f->c.wp P (λe E w'=>∃f',Rel n E f'/\(∀t,wrs c t=false->f' t=f t)/\Q e f' w') a w
def thn (K:Fr->O1->Prop)(Q:Exit->Fr->O1->Prop):Exit->Fr->O1->Prop
 | .normal,f,w=>K f w
 | e,f,w=>Q e f w
def blk (id:Nat)(Q:Exit->Fr->O1->Prop):Exit->Fr->O1->Prop
 | .exit i,f,w=>bif OR i id then Q .normal f w else Q (.exit i) f w
 | e,f,w=>Q e f w
section
variable {Q:Exit->Fr->O1->Prop}{f:Fr}
theorem W.S {c:Code}{Q':Exit->Fr->O1->Prop}(h:W P n c Q f w)(E:∀e f w,Q e f w->Q' e f w):W P n c Q' f w :=
 λa G=>wp_mono (h a G) λ_ _ _ ⟨I,J,S,T⟩=>⟨I,J,S,E _ _ _ T⟩
theorem W.keeps {c:Code}(h:W P n c Q f w):W P n c (λe E w'=>(∀t,wrs c t=false->E t=f t)/\Q e E w') f w :=
 λa I=>wp_mono (h a I) λ_ _ _ ⟨E,J,G,S⟩=>⟨E,J,G,G,S⟩
theorem Qf (h:Q .normal f w):W P n .skip Q f w:=λ_ E=>wp_skip ⟨f,E,λ_ _=>O,h⟩
theorem Qt (h:Q (.exit i) f w):W P n (.exit i) Q f w:=λ_ E=>wp_exit ⟨f,E,λ_ _=>O,h⟩
theorem Qh (h:Q .ret f w):W P n .ret Q f w:=λ_ E=>wp_ret ⟨f,E,λ_ _=>O,h⟩
theorem Qd {x y:Code}(h:W P n x (thn (λf w=>W P n y Q f w) Q) f w):W P n (.seq x y) Q f w:=by
 intro a S;refine wp_seq (wp_mono (h a S) ?_);rintro e T w' ⟨E,G,U,I⟩;have k1:∀t,wrs (.seq x y) t=false->E t=f t:=λt J=>U t (by simp only[wrs,oY]at J;exact J.1);cases e with
 | normal =>
  refine wp_mono (I T G) λ_ _ _ ⟨V,g1,Y,g3⟩=>⟨V,g1,λt J=>(Y t ?_).D (k1 t J),g3⟩;simp only[wrs,oY]at J;exact J.2
 | exit id=>exact⟨E,G,k1,I⟩
 | goto l=>exact⟨E,G,k1,I⟩
 | ret=>exact⟨E,G,k1,I⟩
 | panic ch=>exact⟨E,G,k1,I⟩
 | outgrown=>exact⟨E,G,k1,I⟩
theorem QX {x y:Code}(D:xu)(S:α->List (Nat×O2))(I:α->O1->Prop)(hD:wr D x=true)
  (T:W P n x (thn (λG w'=>∃z,Y7 G (S z)/\I z w') Q) f w)
  (U:∀z g w',I z w'->W P n y Q (VJ (S z) (mix D f g)) w'):W P n (.seq x y) Q f w:=by
 refine Qd (T.keeps.S ?_);rintro e G w' ⟨V,E⟩;cases e with
 | normal =>
  obtain⟨z,Y,hi⟩:=E;have J:=U z G w' hi;rw[K5 (λt ht=>V t (KT ht x hD)),XD Y]at J;exact J
 | exit id=>exact E
 | goto l=>exact E
 | ret=>exact E
 | panic ch=>exact E
 | outgrown=>exact E
theorem Q6 {c:O3}{x y:Code}{t:Bool}(I:ev f c=.bool t)(E:t=true->W P n x Q f w)(J:t=false->W P n y Q f w):
  W P n (.cond c x y) Q f w:=by
 intro a G;have S:a.eval c=.bool t:=by rw[G.eval];exact I
 refine wp_cond_split S (λe=>wp_mono (E e a G) ?_) (λe=>wp_mono (J e a G) ?_) <;>
  (rintro e a' w' ⟨T,U,V,Y⟩
   refine⟨T,U,λt E=>V t ?_,Y⟩;simp only[wrs,oY]at E
   first|exact E.1|exact E.2)
theorem Zi {c:O3}{x y:Code}{p:Prop}[Decidable p](E:ev f c=.bool (decide p))(G:p->W P n x Q f w)(I:¬p->W P n y Q f w):
  W P n (.cond c x y) Q f w :=
 Q6 E (λe=>G (OY e)) (λe=>I (O0 e))
theorem Zr {c:O3}{x y:Code}{p:Prop}[Decidable p](E:ev f c=.bool (decide p))(G:¬p->W P n y Q f w)(I:p->W P n x Q f w):
  W P n (.cond c x y) Q f w:=Zi E I G
theorem yJ {c:O3}{x y:Code}(E:ev f c=.bool true)(h:W P n x Q f w):W P n (.cond c x y) Q f w:=Q6 E (λ_=>h) (λe=>by cases e)
theorem ZD {c:O3}{x y:Code}(E:ev f c=.bool false)(h:W P n y Q f w):W P n (.cond c x y) Q f w:=Q6 E (λe=>by cases e) (λ_=>h)
theorem Qn {c:Code}(h:W P n c (blk id Q) f w):W P n (.block id c) Q f w:=by
 intro a J;refine wp_block (wp_mono (h a J) ?_);rintro e U w' ⟨G,I,S,E⟩;have k1:∀t,wrs (.block id c) t=false->G t=f t:=λt T=>S t (by simpa[wrs]using T);cases e with
 | exit i =>
  simp only[Exit.inBlock];simp only[blk]at E;by_cases hi:i=id
  ·subst hi;simp only[Nat.beq_refl,cond_true]at E;simp only[if_true];exact⟨G,I,k1,E⟩
  have hb:OR i id=false:=by
   cases e:OR i id with
   | false=>rfl
   | true=>exact OW (Nat.eq_of_beq_eq_true e) hi
  rw[hb]at E;rw[OT hi];exact⟨G,I,k1,E⟩
 | normal=>exact⟨G,I,k1,E⟩
 | goto l=>exact⟨G,I,k1,E⟩
 | ret=>exact⟨G,I,k1,E⟩
 | panic ch=>exact⟨G,I,k1,E⟩
 | outgrown=>exact⟨G,I,k1,E⟩
theorem QpE {c:Code}(D:xu)(S:α->List (Nat×O2))(I:α->O1->Prop)(m:α->Nat)(hD:wr D c=true)(z:α)
  (h0:Y7 f (S z)) (hI:I z w)
  (round:∀x g w',I x w'->W P n c (thn (λG Y=>∃U,m U<m x/\Y7 G (S U)/\I U Y) Q) (VJ (S x) (mix D f g)) w'):W P n (.loop c) Q f w:=by
 intro a ha;refine wp_loop_ghost (λ(x:α) V w'=>∃G,Rel n V G/\(∀t,wrs c t=false->G t=f t)/\Y7 G (S x)/\I x w') m z ⟨f,ha,λ_ _=>O,h0,hI⟩ ?_;rintro x V w' ⟨G,h1,h2,h3,h4⟩;have h5:=round x G w' h4;rw[K5 (λt J=>h2 t (KT J c hD)),XD h3]at h5;refine wp_mono (h5 V h1) ?_;rintro e hc Y ⟨E,g1,g2,T⟩;have k1:∀t,wrs c t=false->E t=f t:=λt J=>(g2 t J).D (h2 t J);have k2:∀t,wrs (.loop c) t=false->E t=f t:=λt J=>k1 t (by simpa[wrs]using J);cases e with
 | normal=>obtain⟨U,hm,hs,hi⟩:=T;exact⟨U,hm,E,g1,k1,hs,hi⟩
 | exit id=>exact⟨E,g1,k2,T⟩
 | goto l=>exact⟨E,g1,k2,T⟩
 | ret=>exact⟨E,g1,k2,T⟩
 | panic ch=>exact⟨E,g1,k2,T⟩
 | outgrown=>exact⟨E,g1,k2,T⟩
 where
 wp_loop_ghost {α:Type} {P:O4} {c:Code} {Q:Exit->Act->O1->Prop} {a:Act} {w:O1} (J:α->Act->O1->Prop) (m:α->Nat) (z:α) (h₀:J z a w)
   (round:∀x a w,J x a w->c.wp P (Exit.then (λa' w'=>∃x',m x'<m x/\J x' a' w') Q) a w):(Code.loop c).wp P Q a w:=by
  intro b k cs
  have key:∀i x a w,m x=i->J x a w ->
    ∃e a' w',Q e a' w'/\Arrives P (lone (b.at a (.code c::.inLoop c::k)) cs w) b k cs e a' w':=by
   intro i
   induction i using Nat.strongRecOn with
   | _ i ih =>
    intro x a w hx hJ
    obtain⟨e,a₁,w₁,hq,harr⟩:=round x a w hJ b (.inLoop c::k) cs
    cases e with
    | normal =>
     obtain⟨x',hlt,hJ'⟩:=hq
     obtain⟨e₂,a₂,w₂,hq₂,harr₂⟩:=ih (m x') (hx ▸ hlt) x' a₁ w₁ rfl hJ'
     exact⟨e₂,a₂,w₂,hq₂,.of_steps (Steps.trans harr (.one step_inLoop)) harr₂⟩
    | exit id=>exact⟨_,a₁,w₁,hq,.pass (x:=.inLoop c) rfl (λ_ _=>.inl od) harr⟩
    | goto l=>exact⟨_,a₁,w₁,hq,.pass (x:=.inLoop c) rfl (λ_ _=>.inl od) harr⟩
    | ret=>exact⟨_,a₁,w₁,hq,.pass (x:=.inLoop c) rfl (λ_ _=>.inl od) harr⟩
    | panic ch=>exact⟨_,a₁,w₁,hq,.pass (x:=.inLoop c) rfl (λ_ _=>.inl od) harr⟩
    | outgrown=>exact⟨_,a₁,w₁,hq,.pass (x:=.inLoop c) rfl (λ_ _=>.inl od) harr⟩
  obtain⟨e,a',w',hq,harr⟩:=key _ z a w rfl h₀
  exact⟨e,a',w',hq,.of_steps (.one step_loop) harr⟩
end
def upF (P:O4)(dst:xE)(f:Fr)(K:Fr->O1->Prop):Result Next->Prop
 | .ok (.value v) w'=>K (QP f dst v) w'
 | .ok .skip w'=>K (QP f dst undef) w'
 | .ok (.enter g args) w'=>Calls P g args w' λe E=>match e with| .returned v=>K (QP f dst v) E|_=>False
 | _=>False
def XO (P:O4)(o:Oper)(f:Fr)(w:O1)(K:Fr->O1->Prop):Prop:=upF P o.dst f K ((execOp (ev f) o).run P w)
def Z8 (ops:xD)(f:Fr)(o:Oper):Bool:=match o.guard with
 | none=>true
 | some (j,want)=>match (ops[j]?).bind (·.dst) with
  | some d=>(match f d with| .bool b=>bif want then b else !b|_=>false)
  | none=>false
def XL (P:O4)(ops:xD)(K:Fr->O1->Prop):xD->Fr->O1->Prop
 | [],f,w=>K f w
 | o::l,f,w=>bif Z8 ops f o then XO P o f w (XL P ops K l) else XL P ops K l (QP f o.dst undef) w
theorem UQ {l:xD}{a:Act}{f:Fr}(h:Rel n a f)(I:∀o∈l,∀d,o.dst=some d->d<n)(o:Oper):Region.wanted o (yielded l.toArray a.tmps)=Z8 l f o:=by
 unfold Region.wanted Z8;cases o.guard with
 | none=>rfl
 | some p =>
  obtain⟨j,want⟩:=p;simp only[yielded,oR];cases J:(l[j]?) with
  | none=>simp
  | some o' =>
   cases hd:o'.dst with
   | none=>simp[hd]
   | some d =>
    have E:d<a.tmps.size:=by rw[h.size];exact I o' (Ml J) d hd
    have G:=h.get d;simp only[Option.bind_some,hd,Array.getElem?_eq_getElem E];simp[E]at G;rw[G];cases f d <;> simp
    cases want <;> simp
theorem QnP {o:Oper}{a:Act}{f:Fr}{K:Fr->O1->Prop}{K':Act->O1->Prop}{Q:Exit->Act->O1->Prop}(h:Rel n a f)
  (hK:∀v w',K (QP f o.dst v) w'->K' (a.put o.dst v) w') (hx:XO P o f w K):o.wp P a w K' Q:=by
 unfold XO at hx;unfold Oper.wp;rw[h.eval];generalize (execOp (ev f) o).run P w=r at hx;cases r with
 | ok nx w' =>
  cases nx <;> simp only[upF]at hx <;> simp only[Oper.upon]
  case value v=>exact hK v w' hx
  case skip=>exact hK _ w' hx
  case enter g args =>
   refine Calls.mono hx λe G E=>?_;cases e with
   | returned v=>exact hK v G E
   | panicked c=>exact E.elim
   | outgrown=>exact E.elim
 | halt x w'=>exact hx.elim
theorem XO.S {P:O4}{o:Oper}{f:Fr}{w:O1}{K K':Fr->O1->Prop}(hK:∀v w',K (QP f o.dst v) w'->K' (QP f o.dst v) w')(hx:XO P o f w K):XO P o f w K':=by
 unfold XO at *;generalize (execOp (ev f) o).run P w=r at *;cases r with
 | ok nx w' =>
  cases nx <;> simp only[upF]at hx ⊢
  case value v=>exact hK v w' hx
  case skip=>exact hK _ w' hx
  case enter g args =>
   refine Calls.mono hx λe G E=>?_;cases e with
   | returned v=>exact hK v G E
   | panicked c=>exact E.elim
   | outgrown=>exact E.elim
 | halt x w'=>exact hx.elim
def Xu (n:Nat)(l:xD):Bool:=l.all λo=>match o.dst with|some d=>Nat.blt d n|none=>true
theorem XJ {l:xD}(h:Xu n l=true):∀o∈l,∀d,o.dst=some d->d<n:=by
 intro o E d hd;have:=Mc.1 h o E;simp only[hd,Nat.blt_eq]at this;exact this
theorem Jn {l:xD}{o:Oper}(E:o∈l)(h:Yn l t=false):o.dst≠some t:=by
 intro e;have:=List.any_eq_false.1 h o E;simp[e]at this
theorem Xa {f:Fr}{dst:xE}(h:dst≠some t)(v:O2):QP f dst v t=f t:=by
 cases dst with
 | none=>rfl
 | some d=>exact JY _ _ (λe=>h (by rw[e]))
section
variable {Q:Exit->Fr->O1->Prop}{f:Fr}
theorem QnQ {all:xD}(G:∀o∈all,∀d,o.dst=some d->d<n)(f0:Fr):
  ∀(l:xD) (k:Nat) (a:Act) (f:Fr) (w:O1),(∀j,l[j]?=all[k+j]?)->Rel n a f->(∀t,Yn all t=false->f t=f0 t) ->
   XL P all (λf w=>Q .normal f w) l f w ->
   wpOps P all.toArray (λe V w'=>∃f',Rel n V f'/\(∀t,Yn all t=false->f' t=f0 t)/\Q e f' w') (oN k l.length) a w
 | [],_,a,f,w,_,E,I,h=>⟨f,E,I,h⟩
 | o::l,k,a,f,w,hl,E,I,h=>by
  have S:all[k]?=some o:=by simpa using(hl 0).symm
  have J:o∈all:=Ml S;have ih:=λa f w=>QnQ G f0 l (k+1) a f w (λj=>by have:=hl (j+1);simpa[Nat.add_assoc,Nat.add_comm 1 j]using this);have next:∀v,(∀t,Yn all t=false->QP f o.dst v t=f0 t):=λv t T=>(Xa (Jn J T) v).D (I t T);simp only[oQ,Oz,wpOps,oR,S];rw[UQ E G o];simp only[XL]at h;cases U:Z8 all f o with
  | false =>
   rw[U]at h;exact ih _ _ _ (E.put (G o J) _) (next _) h
  | true =>
   rw[U]at h;exact .inl (QnP E (λv w' hx=>ih _ _ _ (E.put (G o J) v) (next v) hx) h)
theorem Qc5 {l:xD}(E:Xu n l=true)(h:XL P l (λf w=>Q .normal f w) l f w):W P n (.region id l.toArray false) Q f w:=by
 intro a G;refine wp_region ?_;have:=QnQ (XJ E) f l 0 a f w od G (λ_ _=>rfl) h;simpa[List.range_eq_range',wrs]using this
end
def y9 (o:Oper):Bool:=match o.op with
 | .move _| .assign _| .pick .. | .alloc _| .box .. | .build .. | .buildSlice .. | .store .. | .nilCheck _| .binOp .. | .unOp .. | .makeFunc .. | .makeMap .. | .makeSlice .. | .fieldAddr .. | .field .. | .indexAddr .. | .index .. | .extract .. | .insert .. | .mapUpdate ..=>false
 | .slice ..=>false
 | .call ⟨.builtin .append,_,_⟩=>false
 | .call ⟨.builtin .min,_,_⟩=>false
 | .call ⟨.builtin .max,_,_⟩=>false
 | .call ⟨.builtin .len,_,_⟩=>false
 | .call ⟨.value _,_,_⟩=>false
 | _=>true
def K9 (all:xD)(j:Nat):Bool:=match all[j]? with
 | none=>false
 | some o=>(oJ all.length).all λi=>match all[i]? with
  | none=>true
  | some oi=>!y9 oi || i == j || o.after.any λe=>Region.binds .any e && e.on == i
def XA (P:O4)(all:xD)(C:xz)(K:Fr->O1->Prop):Nat->Array Bool->Fr->O1->Prop
 | 0,ls,f,w=>Region.ready .any all.toArray ls=[]/\K f w
 | k+1,ls,f,w=>(Region.ready .any all.toArray ls=[]->K f w) /\
  ∀i∈Region.ready .any all.toArray ls,∀o,all[i]?=some o ->
   bif Z8 all f o then XO P o f w (λE w'=>(K9 all i=true\/w'=w\/C w')/\XA P all C K k (ls.setIfInBounds i true) E w') else XA P all C K k (ls.setIfInBounds i true) (QP f o.dst undef) w
section
variable {f:Fr}{all:xD}{C:xz}{K:Fr->O1->Prop}
theorem QfZ {Q:Exit->Act->O1->Prop}(G:∀o∈all,∀d,o.dst=some d->d<n)(f0:Fr)
  (I:∀a f w,Rel n a f->(∀t,Yn all t=false->f t=f0 t)->K f w->Q .normal a w):
  ∀(k:Nat) (ls:Array Bool) (a:Act) (f:Fr) (w:O1),Rel n a f->(∀t,Yn all t=false->f t=f0 t)->XA P all C K k ls f w->wpAny P .any all.toArray Q k ls a w
 | 0,_,a,f,w,E,J,h=>⟨h.1,I a f w E J h.2⟩
 | k+1,ls,a,f,w,E,J,h=>by
  refine⟨λh0=>I a f w E J (h.1 h0),λi hi=>?_⟩;unfold wpOp;simp only[oR];cases T:all[i]? with
  | none =>
   exfalso;obtain⟨_,o,ha,_⟩:=mem_ready.1 hi;simp[T]at ha
  | some o =>
   have U:o∈all:=Ml T;have S:=h.2 i hi o T;have next:∀v,(∀t,Yn all t=false->QP f o.dst v t=f0 t):=λv t V=>(Xa (Jn U V) v).D (J t V);simp only[];rw[UQ E G o];cases Y:Z8 all f o with
   | false =>
    rw[Y]at S;exact QfZ G f0 I k _ _ _ _ (E.put (G o U) _) (next _) S
   | true =>
    rw[Y]at S;exact .inl (QnP E (λv w' hx=>QfZ G f0 I k _ _ _ _ (E.put (G o U) v) (next v) hx.2) S)
theorem U5 (f:Fr){x y:xE}(v u:O2)(h:∀d,x=some d->y≠some d):QP (QP f x v) y u=QP (QP f y u) x v:=by
 cases x with
 | none=>rfl
 | some d =>
  cases y with
  | none=>rfl
  | some e =>
   have I:d≠e:=λJ=>h d O (J ▸ O);funext t;simp only[QP];by_cases E:t=d
   ·subst E;rw[JY _ _ I,XY,XY]
   by_cases G:t=e
   ·subst G;rw[XY,JY _ _ E,XY]
   rw[JY _ _ G,JY _ _ E,JY _ _ E,JY _ _ G]
theorem QmR {f:Fr}{dst:xE}{v:O2}{x:O3}(h:∀d,dst=some d->x≠.tmp d):ev (QP f dst v) x=ev f x:=by
 cases dst with
 | none=>rfl
 | some d =>
  cases x with
  | tmp t=>exact JY _ _ (λe=>h d O (by rw[e]))
  | _=>rfl
theorem JP {o:Oper}(E:∀cs b,o.op≠.select cs b)(f:Fr)(dst:xE)(v:O2)(h:∀d,dst=some d->d∉o.looksAt all.toArray):
  execOp (ev (QP f dst v)) o=execOp (ev f) o :=
 execOp_congr o E λx hx=>QmR λd hd G=>h d hd (by
  subst G;exact LM _ (MR.2 ⟨.tmp d,ou hx,rfl⟩))
theorem Uv (o:Oper)(f:Fr)(dst:xE)(v:O2)(h:∀d,dst=some d->d∉o.looksAt all.toArray):Z8 all (QP f dst v) o=Z8 all f o:=by
 unfold Z8;cases E:o.guard with
 | none=>rfl
 | some gw =>
  obtain⟨g,want⟩:=gw;simp only[];cases G:(all[g]?).bind (·.dst) with
  | none=>rfl
  | some t =>
   have I:dst≠some t:=λe=>h t e (by simp[Oper.looksAt,E,G]);simp only[];rw[Xa I]
def Qf2 (P:O4)(all:xD)(D:xz)(o:Oper)(v:O2)(f:Fr):Prop :=
 (Z8 all f o=true/\∀w,D w->(execOp (ev f) o).run P w=.ok (.value v) w)\/(Z8 all f o=false/\v=undef)
theorem Qmh {oi oj:Oper}(hi:all[i]?=some oi)(G:all[j]?=some oj)(I:y9 oi=true)(J:j≠i)(hl:K9 all j=true)(S:∀e∈oj.after,Region.binds .any e=true->e.on≠i):False:=by
 simp only[K9,G,Oj,List.mem_range]at hl;have T:i<all.length:=(Mh.1 hi).1;have E:=hl i T;simp only[hi,I,Bool.not_true,Bool.false_or,Bool.or_eq_true,beq_iff_eq,Array.any_eq_true',oI]at E;rcases E with E|⟨e,U,hb,V⟩
 ·exact J E.symm
 exact S e U hb V
theorem Ko {oi:Oper}{v:O2}{D:xz}(hi:all[i]?=some oi)(hD:∀w,(y9 oi=true->C w)->D w)(ha:∀(j:Nat) (o:Oper) cs b,all[j]?=some o->o.op≠.select cs b):
  ∀(fuel:Nat) (ls:Array Bool) (f:Fr) (w:O1),(y9 oi=true->C w) ->
   (∀j oj,all[j]?=some oj->j≠i->ls.getD j true=false->(∀e∈oj.after,Region.binds .any e=true->e.on≠i)->oi.apart all.toArray oj=true) ->
   i∈Region.ready .any all.toArray ls->Qf2 P all D oi v f ->
   XA P all C K fuel (ls.setIfInBounds i true) (QP f oi.dst v) w->XA P all C K (fuel+1) ls f w:=by
 have hc:∀(fuel:Nat) (ls:Array Bool) (f:Fr) (w:O1),(y9 oi=true->C w)->Qf2 P all D oi v f->XA P all C K fuel (ls.setIfInBounds i true) (QP f oi.dst v) w->∀o,all[i]?=some o ->
   bif Z8 all f o then XO P o f w (λf' w'=>(K9 all i=true\/w'=w\/C w')/\XA P all C K fuel (ls.setIfInBounds i true) f' w') else XA P all C K fuel (ls.setIfInBounds i true) (QP f o.dst undef) w:=by
  intro fuel ls f w hC T H o ho;rw[hi]at ho;cases ho
  rcases T with⟨U,hv⟩|⟨U,rfl⟩
  ·rw[U];simp only[cond_true,XO,hv w (hD w hC),upF];exact⟨.inr (.inl Z),H⟩
  rw[U];exact H
 intro fuel;induction fuel with
 | zero =>
  intro ls f w hC _ J T H;refine⟨λh=>(by rw[h]at J;cases J),λj Y=>?_⟩;by_cases I:j=i
  ·subst I;exact hc _ _ _ _ hC T H
  have:=ready_mono Y I;rw[H.1]at this;cases this
 | succ fuel ih =>
  intro ls f w hC hf J T H;refine⟨λh=>(by rw[h]at J;cases J),λj Y=>?_⟩;by_cases I:j=i
  ·subst I;exact hc _ _ _ _ hC T H
  intro oj V;have E:=H.2 j (ready_mono Y I) oj V;obtain⟨hh,G,hm,ht⟩:=mem_ready.1 Y;have hu:G=oj:=by rw[Mf,V]at hm;exact(Option.some.inj hm).symm
  subst hu;have hn:∀e∈G.after,Region.binds .any e=true->e.on≠i:=λe S hb hw=>by
   have E:=ht e S hb;have h0:=(mem_ready.1 J).1;rw[hw]at E;rcases OM i ls.size with h'|h'
   ·simp[h']at h0 E;rw[h0]at E;cases E
   simp[Array.getElem?_eq_none h']at E
  obtain⟨a1,a2,a3⟩:=Oper.apart_spec (hf j G V I hh hn);have hz:∀k ok,all[k]?=some ok->k≠i->(ls.setIfInBounds j true).getD k true=false ->
    (∀e∈ok.after,Region.binds .any e=true->e.on≠i)->oi.apart all.toArray ok=true:=λk ok hk h2 hp h3=>by
   refine hf k ok hk h2 ?_ h3;by_cases hq:j=k
   ·subst hq;exact hh
   rw[getD_set_ne true hq]at hp;exact hp
  have keep:∀u,Qf2 P all D oi v (QP f G.dst u):=λu=>by
   unfold Qf2 at *;rw[Uv oi f G.dst u a3,JP (all:=all) (ha i oi · · hi) f G.dst u a3];exact T
  have dOf:∀w',(K9 all j=true\/w'=w\/C w')->(y9 oi=true->C w'):=λw' hl hs=>by
   rcases hl with hl|rfl|hl
   ·exact(Qmh hi V hs I hl hn).elim
   ·exact hC hs
   exact hl
  have go:∀u w',(y9 oi=true->C w')->XA P all C K fuel ((ls.setIfInBounds i true).setIfInBounds j true) (QP (QP f oi.dst v) G.dst u) w' ->
    XA P all C K (fuel+1) (ls.setIfInBounds j true) (QP f G.dst u) w':=λu w' h4 hx=>by
   refine ih _ _ _ h4 hz (ready_mono J (Ne.symm I)) (keep u) ?_;rw[Array.setIfInBounds_comm _ _ I,<-U5 f v u a2];exact hx
  rw[Uv G f oi.dst v a1]at E;cases U:Z8 all f G with
  | false=>rw[U]at E;exact go _ _ hC E
  | true =>
   rw[U]at E;simp only[cond_true]at E ⊢;unfold XO at *;rw[JP (all:=all) (ha j G · · V) f oi.dst v a1]at E;generalize (execOp (ev f) G).run P w=r at *;cases r with
   | ok nx w' =>
    cases nx <;> simp only[upF]at E ⊢
    case value u=>exact⟨E.1,go _ _ (dOf _ E.1) E.2⟩
    case skip=>exact⟨E.1,go _ _ (dOf _ E.1) E.2⟩
    case enter g args =>
     refine Calls.mono E λe h5 S=>?_;cases e with
     | returned u=>exact⟨S.1,go _ _ (dOf _ S.1) S.2⟩
     | panicked c=>exact S.elim
     | outgrown=>exact S.elim
   | halt x w'=>exact E.elim
def Xk (all:Array Oper):xt->Array Bool->Bool
 | [],ls=>(Region.ready .any all ls).isEmpty
 | (i,true)::pl,ls=>(Region.ready .any all ls).contains i && Region.free .any all ls i && Xk all pl (ls.setIfInBounds i true)
 | (i,false)::pl,ls=>Region.ready .any all ls == [i] && Xk all pl (ls.setIfInBounds i true)
def zR (all:xD)(pl:xt):Bool:=Region.noSelect all.toArray && pl.length == all.length && Xk all.toArray pl (oP all.length false)
def QT:xD->Nat->Oper
 | [],_=>default
 | o::_,0=>o
 | _::l,i+1=>QT l i
theorem ZJ {l:xD}{o:Oper}(h:l[i]?=some o):QT l i=o:=by
 induction l generalizing i with
 | nil=>simp at h
 | cons a l ih=>cases i with
  | zero=>simp at h;subst h;rfl
  | succ i=>exact ih (ou h)
def XP (P:O4)(all:xD)(C:xz)(K:Fr->O1->Prop):xt->Fr->O1->Prop
 | [],f,w=>K f w
 | (i,q)::pl,f,w=>bif Z8 all f (QT all i) then
    (bif q then ∃v,(∀w',(y9 (QT all i)=true->C w')->(execOp (ev f) (QT all i)).run P w'=.ok (.value v) w')/\XP P all C K pl (QP f (QT all i).dst v) w
     else XO P (QT all i) f w λE w'=>(K9 all i=true\/w'=w\/C w')/\XP P all C K pl E w')
   else XP P all C K pl (QP f (QT all i).dst undef) w
def Qc2 (all:xD)(ls:Array Bool):Prop:=∀i o,all[i]?=some o->y9 o=true->ls.getD i false=true
theorem Qc2.set {ls:Array Bool}(h:Qc2 all ls)(i:Nat):Qc2 all (ls.setIfInBounds i true):=λj o E G=>getD_set_true (h j o E G)
theorem Yq (U:Region.noSelect all.toArray=true):∀(pl:xt) (ls:Array Bool) (f:Fr) (w:O1),ls.size=all.length->(C w\/Qc2 all ls)->Xk all.toArray pl ls=true->XP P all C K pl f w ->
  XA P all C K pl.length ls f w
 | [],ls,f,w,_,_,I,h=>⟨by simpa[Xk]using I,h⟩
 | (i,true)::pl,ls,f,w,V,hC,I,h=>by
  simp only[Xk,oI]at I;obtain⟨⟨S,hf⟩,Y⟩:=I;simp only[XP]at h;have T:i∈Region.ready .any all.toArray ls:=by simpa using S
  cases E:all[i]? with
  | none =>
   exfalso;obtain⟨_,o,h3,_⟩:=mem_ready.1 T;simp[E]at h3
  | some o =>
   rw[ZJ E]at h;have hq:∀(j:Nat) (o:Oper) cs b,all[j]?=some o->o.op≠.select cs b:=λj o cs b hj=>Region.noSelect_spec U j o cs b (ou hj);have ht:=λj oj hj=>Region.free_spec (ops:=all.toArray) (md:=.any) (i:=i) (oi:=o) (listed:=ls) (ou E) hf j oj (ou hj);have hu:=(mem_ready.1 T).1;have hw:y9 o=true->C w:=λhh=>hC.resolve_right (λhm=>by
    have G:=hm i o E hh;have hn:i<ls.size:=by rw[V];exact(Mh.1 E).1
    simp[hn]at hu G;rw[hu]at G;cases G)
   have hy:C w\/Qc2 all (ls.setIfInBounds i true):=hC.imp id (λh=>h.set i);have ha:(ls.setIfInBounds i true).size=all.length:=by simpa using V
   cases J:Z8 all f o with
   | false =>
    rw[J]at h;exact Ko (v:=undef) (D:=λw=>y9 o=true->C w) E (λ_ h=>h) hq pl.length ls f w hw ht T (.inr ⟨J,O⟩) (Yq U pl _ _ _ ha hy Y h)
   | true =>
    rw[J]at h;simp only[cond_true]at h;obtain⟨v,hv,hx⟩:=h;exact Ko (v:=v) (D:=λw=>y9 o=true->C w) E (λ_ h=>h) hq pl.length ls f w hw ht T (.inl ⟨J,hv⟩) (Yq U pl _ _ _ ha hy Y hx)
 | (i,false)::pl,ls,f,w,V,hC,I,h=>by
  simp only[Xk,oI,beq_iff_eq]at I;obtain⟨S,Y⟩:=I;refine⟨λh0=>(by rw[h0]at S;cases S),?_⟩;have T:i∈Region.ready .any all.toArray ls:=by rw[S];simp
  rw[S];intro j hj o E;have:j=i:=by simpa using hj
  subst this;have ha:(ls.setIfInBounds j true).size=all.length:=by simpa using V
  simp only[XP,ZJ E]at h;cases J:Z8 all f o with
  | false=>rw[J]at h;exact Yq U pl _ _ _ ha (hC.imp id (λh=>h.set j)) Y h
  | true =>
   rw[J]at h;simp only[cond_true,cond_false]at h ⊢;refine h.S λv w' hx=>⟨hx.1,Yq U pl _ _ _ ha ?_ Y hx.2⟩;rcases hx.1 with hl|rfl|hc
   ·right;intro k ok hk hh;by_cases hz:k=j
    ·subst hz;have hn:k<ls.size:=by rw[V];exact(Mh.1 hk).1
     simp[hn]
    simp only[K9,E,Oj,List.mem_range]at hl;have G:=hl k (Mh.1 hk).1;simp only[hk,hh,Bool.not_true,Bool.false_or,Bool.or_eq_true,beq_iff_eq,Array.any_eq_true',oI]at G;rcases G with G|⟨e,he,hb,h4⟩
    ·exact OW G hz
    obtain⟨_,o',h2,hm⟩:=mem_ready.1 T;have:o'=o:=by rw[Mf,E]at h2;exact(Option.some.inj h2).symm
    subst this;have:=hm e he hb;rw[h4]at this;exact getD_set_true this
   ·exact hC.imp id (λh=>h.set j)
   exact .inl hc
theorem V3 {Q:Exit->Fr->O1->Prop}(C:xz)(pl:xt)(J:P.follows .mixedOrders=true)(S:Xu n all=true)(G:zR all pl=true)
  (hC:C { w with drawn:=w.drawn+1 }) (h:XP P all C (λf w=>Q .normal f w) pl f { w with drawn:=w.drawn+1 }):W P n (.region id all.toArray true) Q f w:=by
 intro a T;simp only[zR,oI,beq_iff_eq]at G;obtain⟨⟨U,hl⟩,G⟩:=G;refine wp_region_any J ?_;have I:=Yq U pl _ _ _ od (.inl hC) G h;rw[hl]at I;have V:=QfZ (n:=n) (Q:=λe Y w'=>∃E,Rel n Y E/\(∀t,Yn all t=false->E t=f t)/\Q e E w') (XJ S) f
  (λa E w hr hk hq=>⟨E,hr,hk,hq⟩) _ _ a f _ T (λ_ _=>O) I
 simpa[wrs]using V
theorem JB {Q:Exit->Fr->O1->Prop}(C:xz)(G:P.follows .mixedOrders=true)(I:Xu n all=true)
  (h:XA P all C (λf w=>Q .normal f w) all.length (oP all.length false) f { w with drawn:=w.drawn+1 }):W P n (.region id all.toArray true) Q f w:=by
 intro a J;refine wp_region_any G ?_;have S:=QfZ (n:=n) (Q:=λe T w'=>∃E,Rel n T E/\(∀t,Yn all t=false->E t=f t)/\Q e E w') (XJ I) f
  (λa E w U V Y=>⟨E,U,V,Y⟩) _ _ a f _ J (λ_ _=>O) h
 simpa[wrs]using S
end
theorem JU {all:xD}{C:xz}{K:Fr->O1->Prop}{k:Nat}{ls:Array Bool}{f:Fr}(E:Region.ready .any all.toArray ls=[]->K f w)
  (h:∀i∈Region.ready .any all.toArray ls,∀o,all[i]?=some o ->
   bif Z8 all f o then XO P o f w (λG w'=>(K9 all i=true\/w'=w\/C w')/\XA P all C K k (ls.setIfInBounds i true) G w') else XA P all C K k (ls.setIfInBounds i true) (QP f o.dst undef) w):XA P all C K (k+1) ls f w:=⟨E,h⟩
attribute [irreducible] W XL XP XO XA
theorem sX {α:Type}{x:Option α}{f:α->Bool}(h:x.map f=some true):∃d,x=some d/\f d=true:=by cases x with |none=>cases h |some d=>exact⟨d,rfl,Option.some.inj h⟩
class Sl (P:O4)(t:Nat)(e sz bys:outParam Nat)(z:outParam O2):Prop where
 u:P.underlying t=some (.slice e):=by first|kernel_rfl|decide|rfl|exact sX (by kernel_rfl)
 i:(P.info? e).map (λi=>(i.zero,i.size,i.bytes))=some (some z,sz,bys):=by first|kernel_rfl|decide|rfl|exact sX (by kernel_rfl)
 zs:z.cells.size=sz:=by first|kernel_rfl|decide|rfl|exact sX (by kernel_rfl)
 pos:0<sz:=by first|kernel_rfl|decide|rfl|exact sX (by kernel_rfl)
def QqO (P:O4)(t j:Nat):xE:=match P.underlying t with
 | some (.struct fs)=>match fs[j]? with
  | some fd=>match P.info? fd.type with
   | some i=>if i.size=0 then none else some fd.offset
   | none=>none
  | none=>none
 | _=>none
class Zh (P:O4)(t j:Nat)(off:outParam Nat):Prop where
 h:QqO P t j=some off:=by first|kernel_rfl|decide|rfl|exact sX (by kernel_rfl)
class XN (P:O4)(t:Nat):Prop where
 u:∃d,P.underlying t=some d/\(match d with| .struct _| .array ..=>false|_=>true)=true:=by first|kernel_rfl|decide|rfl|exact sX (by kernel_rfl)
 i:(P.info? t).map (·.size)=some 1:=by first|kernel_rfl|decide|rfl|exact sX (by kernel_rfl)
class Ag (P:O4)(t:Nat)(sz:outParam Nat):Prop where
 u:∃d,P.underlying t=some d/\(match d with| .struct _| .array ..=>true|_=>false)=true:=by first|kernel_rfl|decide|rfl|exact sX (by kernel_rfl)
 i:(P.info? t).map (·.size)=some sz:=by first|kernel_rfl|decide|rfl|exact sX (by kernel_rfl)
class Ze (P:O4)(t:Nat)(z:outParam O2):Prop where
 i:(P.info? t).map (·.zero)=some (some z):=by first|kernel_rfl|decide|rfl|exact sX (by kernel_rfl)
class Fu (P:O4)(g:Nat)(fn:outParam Func):Prop where
 f:P.funcs[g]?=some fn
 b:fn.body.isNone=false
 nm:(fn.name == "runtime.NumGoroutine")=false
section
variable {K:Fr->O1->Prop}{f:Fr}
theorem xe (h:K f w):XL P ops K [] f w:=by simp only[XL];exact h
theorem xl {o:Oper}{l:xD}(E:Z8 ops f o=true)(h:XO P o f w (XL P ops K l)):XL P ops K (o::l) f w:=by
 simp only[XL,E,cond_true];exact h
theorem xs {o:Oper}{l:xD}(E:Z8 ops f o=false)(h:XL P ops K l (QP f o.dst undef) w):XL P ops K (o::l) f w:=by
 simp only[XL,E,cond_false];exact h
theorem xv {o:Oper}{v:O2}(E:(execOp (ev f) o).run P w=.ok (.value v) w')(h:K (QP f o.dst v) w'):XO P o f w K:=by
 simp only[XO,E,upF];exact h
theorem xk {o:Oper}(E:(execOp (ev f) o).run P w=.ok .skip w')(h:K (QP f o.dst undef) w'):XO P o f w K:=by
 simp only[XO,E,upF];exact h
theorem x {o:Oper}{l:xD}{v:O2}(E:(execOp (ev f) o).run P w=.ok (.value v) w)(h:XL P ops K l (QP f o.dst v) w)(G:Z8 ops f o=true:=by rfl):XL P ops K (o::l) f w :=
 xl G (xv E h)
theorem xb {o:Oper}{l:xD}{q:Prop}[Decidable q](E:(execOp (ev f) o).run P w=.ok (.value (.bool (decide q))) w)(I:q->XL P ops K l (QP f o.dst (.bool true)) w)(J:¬q->XL P ops K l (QP f o.dst (.bool false)) w)
  (G:Z8 ops f o=true:=by rfl):XL P ops K (o::l) f w:=by
 by_cases h:q
 ·rw[OX h]at E;exact x E (I h) G
 rw[OZ h]at E;exact x E (J h) G
variable {C:xz}
theorem pe (h:K f w):XP P ops C K [] f w:=by simp only[XP];exact h
theorem pq {pl:xt}{v:O2}(E:∀w',C w'->(execOp (ev f) (QT ops i)).run P w'=.ok (.value v) w')(h:XP P ops C K pl (QP f (QT ops i).dst v) w)
  (hd:y9 (QT ops i)=true:=by rfl) (G:Z8 ops f (QT ops i)=true:=by rfl):XP P ops C K ((i,true)::pl) f w:=by
 simp only[XP,G,cond_true];exact⟨v,λw' I=>E w' (I hd),h⟩
theorem p {pl:xt}{v:O2}(E:∀w',(execOp (ev f) (QT ops i)).run P w'=.ok (.value v) w')(h:XP P ops C K pl (QP f (QT ops i).dst v) w)
  (G:Z8 ops f (QT ops i)=true:=by rfl):XP P ops C K ((i,true)::pl) f w:=by
 simp only[XP,G,cond_true];exact⟨v,λw' _=>E w',h⟩
theorem ps {q:Bool}{pl:xt}(h:XP P ops C K pl (QP f (QT ops i).dst undef) w)
  (E:Z8 ops f (QT ops i)=false:=by rfl):XP P ops C K ((i,q)::pl) f w:=by
 simp only[XP,E,cond_false];exact h
theorem pb {pl:xt}{q:Prop}[Decidable q](E:∀w',(execOp (ev f) (QT ops i)).run P w'=.ok (.value (.bool (decide q))) w')(I:q->XP P ops C K pl (QP f (QT ops i).dst (.bool true)) w)(J:¬q->XP P ops C K pl (QP f (QT ops i).dst (.bool false)) w)
  (G:Z8 ops f (QT ops i)=true:=by rfl):XP P ops C K ((i,true)::pl) f w:=by
 by_cases h:q
 ·rw[OX h]at E;exact p E (I h) G
 rw[OZ h]at E;exact p E (J h) G
theorem pk {pl:xt}(h:XO P (QT ops i) f w λE w'=>C w'/\XP P ops C K pl E w')
  (G:Z8 ops f (QT ops i)=true:=by rfl):XP P ops C K ((i,false)::pl) f w:=by
 simp only[XP,G,cond_true,cond_false];exact h.S λ_ _ hx=>⟨.inr (.inr hx.1),hx.2⟩
theorem pkl {pl:xt}(h:XO P (QT ops i) f w λE w'=>XP P ops C K pl E w')
  (hl:K9 ops i=true:=by rfl) (G:Z8 ops f (QT ops i)=true:=by rfl):XP P ops C K ((i,false)::pl) f w:=by
 simp only[XP,G,cond_true,cond_false];exact h.S λ_ _ hx=>⟨.inl hl,hx⟩
end
section
variable {f:Fr}
theorem Jr {x:O3}:(execOp (ev f) ⟨d,.move x,ty,pS,af,gd⟩).run P w=.ok (.value (ev f x)) w:=by simp[execOp]
theorem Qe {x:O3}:(execOp (ev f) ⟨d,.assign x,ty,pS,af,gd⟩).run P w=.ok (.value (ev f x)) w:=by simp[execOp]
theorem VM {c a b:O3}{t:Bool}(h:ev f c=.bool t):(execOp (ev f) ⟨d,.pick c a b,ty,pS,af,gd⟩).run P w=.ok (.value (bif t then ev f a else ev f b)) w:=by
 cases t <;> simp[execOp,h,asBool]
theorem Q3 {x:O3}{vs:LV}{v:O2}(h:ev f x=.tuple vs.toArray)(E:vs[j]?=some v):(execOp (ev f) ⟨d,.extract x j,ty,pS,af,gd⟩).run P w=.ok (.value v) w:=by
 simp[execOp,h,Instr.extract,E]
theorem QcA {op:BinOp}{t:TypeId}{x:O3}{k:IntKind}{a b:Int}:(eqGuard op t x y (.int k a) (.int k' b)).run P w=.ok () w:=by
 simp only[eqGuard];split <;> simp
theorem J7 {op:BinOp}{x:O3}{k:IntKind}{a b:Int}{v:O2}(hx:ev f x=.int k a)(G:ev f y=.int k' b)
  (h:(binOp op t (.int k a) (.int k' b)).run P w=.ok v w):(execOp (ev f) ⟨d,.binOp op t x y E,ty,pS,af,gd⟩).run P w=.ok (.value v) w:=by
 simp[execOp,hx,G,QcA,h]
def inK (k:IntKind)(n:Int):Prop:=match k with
 | .i64=>-9223372036854775808<=n/\n<=9223372036854775807
 | .u8=>0<=n/\n<=255
 | .u16=>0<=n/\n<=65535
 | .u32=>0<=n/\n<=4294967295
 | .u64=>0<=n/\n<=18446744073709551615
 | .i32=>-2147483648<=n/\n<=2147483647
 | _=>False
theorem XQ {k:IntKind}{n:Int}(h:inK k n):k.wrap n=n:=by
 cases k <;> simp only[inK]at h <;> simp only[IntKind.wrap,IntKind.bits,IntKind.signed] <;> first|exact h.elim|(simp;omega)
theorem Xp {x:O3}{k:IntKind}{a b:Int}(hx:ev f x=.int k a)(G:ev f y=.int k b)(h:inK k (a+b)):
  (execOp (ev f) ⟨d,.binOp .add t x y E,ty,pS,af,gd⟩).run P w=.ok (.value (.int k (a+b))) w:=J7 hx G (by simp[binOp,Op.intArith,XQ h])
theorem Jq {x:O3}{k:IntKind}{a b:Int}(hx:ev f x=.int k a)(G:ev f y=.int k b)(h:inK k (a - b)):
  (execOp (ev f) ⟨d,.binOp .sub t x y E,ty,pS,af,gd⟩).run P w=.ok (.value (.int k (a - b))) w:=J7 hx G (by simp[binOp,Op.intArith,XQ h])
theorem Qe4 {x:O3}{k:IntKind}{a b:Int}(hx:ev f x=.int k a)(G:ev f y=.int k b)(h:inK k (a*b)):
  (execOp (ev f) ⟨d,.binOp .mul t x y E,ty,pS,af,gd⟩).run P w=.ok (.value (.int k (a*b))) w:=J7 hx G (by simp[binOp,Op.intArith,XQ h])
theorem YC {x:O3}{k:IntKind}{a b:Int}(hx:ev f x=.int k a)(G:ev f y=.int k b):
  (execOp (ev f) ⟨d,.binOp .lss t x y E,ty,pS,af,gd⟩).run P w=.ok (.value (.bool (decide (a<b)))) w:=J7 hx G (by simp[binOp,Op.intCmp])
theorem X6 {x:O3}{k:IntKind}{a b:Int}(hx:ev f x=.int k a)(G:ev f y=.int k b):
  (execOp (ev f) ⟨d,.binOp .leq t x y E,ty,pS,af,gd⟩).run P w=.ok (.value (.bool (decide (a<=b)))) w:=J7 hx G (by simp[binOp,Op.intCmp])
theorem Ya {x:O3}{k:IntKind}{a b:Int}(hx:ev f x=.int k a)(G:ev f y=.int k b):
  (execOp (ev f) ⟨d,.binOp .gtr t x y E,ty,pS,af,gd⟩).run P w=.ok (.value (.bool (decide (b<a)))) w:=J7 hx G (by simp[binOp,Op.intCmp])
theorem Yl {x:O3}{k:IntKind}{a b:Int}(hx:ev f x=.int k a)(G:ev f y=.int k b):
  (execOp (ev f) ⟨d,.binOp .geq t x y E,ty,pS,af,gd⟩).run P w=.ok (.value (.bool (decide (b<=a)))) w:=J7 hx G (by simp[binOp,Op.intCmp])
theorem Zd {x:O3}{k:IntKind}{a b:Int}(hx:ev f x=.int k a)(G:ev f y=.int k b):
  (execOp (ev f) ⟨d,.binOp .eql t x y E,ty,pS,af,gd⟩).run P w=.ok (.value (.bool (decide (a=b)))) w :=
 J7 hx G (by simp[binOp,Op.intCmp];by_cases h:a=b <;> simp[h])
theorem JN {x:O3}{k:IntKind}{a b:Int}(hx:ev f x=.int k a)(G:ev f y=.int k b):
  (execOp (ev f) ⟨d,.binOp .neq t x y E,ty,pS,af,gd⟩).run P w=.ok (.value (.bool (decide (¬a=b)))) w :=
 J7 hx G (by simp[binOp,Op.intCmp];by_cases h:a=b <;> simp[h])
theorem Zl {x:O3}{b:Bool}(hx:ev f x=.bool b):(execOp (ev f) ⟨d,.unOp .not t x,ty,pS,af,gd⟩).run P w=.ok (.value (.bool (!b))) w:=by
 simp[execOp,hx,Op.unary]
theorem jA {x:O3}{e bys:Nat}[h:Sl P t e sz bys z]{a:Option Addr}{c:Nat}(hx:ev f x=.slice a n c):
  (execOp (ev f) ⟨d,.call ⟨.builtin .len,#[x],#[t]⟩,ty,pS,af,gd⟩).run P w=.ok (.value (sS n)) w:=by
 simp[execOp,resolve,invoke,builtin,Builtin.len_,hx,run_underlying h.u,goInt]
theorem Sl.info {e bys:Nat}(h:Sl P t e sz bys z):∃i,P.info? e=some i/\i.zero=some z/\i.size=sz/\i.bytes=bys:=by
 have:=h.i;cases hi:P.info? e with
 | none=>simp[hi]at this
 | some i=>simp[hi]at this;exact⟨i,O,this.1,this.2.1,this.2.2⟩
theorem XS {x:O3}{e bys:Nat}[h:Sl P t e sz bys z]{a:Addr}{c:Nat}{k:IntKind}{i:Int}(hx:ev f x=.slice (some a) n c)(E:ev f y=.int k i)(G:0<=i)(I:i<n):
  (execOp (ev f) ⟨d,.indexAddr t x y,ty,pS,af,gd⟩).run P w=.ok (.value (.pointer (some (a.add (i.toNat*sz))))) w:=by
 obtain⟨ii,hi,_,J,_⟩:=Sl.info h;simp[execOp,hx,E,Instr.indexAt,asIntOf,run_underlying h.u,G,I,sizeOf,typeInfo,hi,J]
theorem jR [h:XN P t]:(isAgg t).run P w=.ok false w:=by
 obtain⟨d,E,hd⟩:=h.u;unfold isAgg;cases d <;> simp at hd <;> simp[run_underlying E]
theorem Qjs [h:Ag P t sz]:(isAgg t).run P w=.ok true w:=by
 obtain⟨d,E,hd⟩:=h.u;unfold isAgg;cases d <;> simp at hd <;> simp[run_underlying E]
theorem Xj [h:XN P t]{a:Addr}{v:O2}(E:w.cell? a=some v):(loadVar t a).run P w=.ok v w:=by
 simp[loadVar,jR,E]
theorem zH [h:XN P t]:(sizeOf t).run P w=.ok 1 w:=by
 have:=h.i;cases hi:P.info? t with
 | none=>simp[hi]at this
 | some i=>simp[hi]at this;simp[sizeOf,typeInfo,hi,this]
theorem UW [h:Ag P t sz]:(sizeOf t).run P w=.ok sz w:=by
 have:=h.i;cases hi:P.info? t with
 | none=>simp[hi]at this
 | some i=>simp[hi]at this;simp[sizeOf,typeInfo,hi,this]
theorem JM {a:Addr}:∀(vs:LV) (i:Nat) (acc:Array O2),(∀j v,vs[j]?=some v->w.cell? (a.add (i+j))=some v)->(loadCellsFrom a i vs.length acc).run P w=.ok (acc++vs.toArray) w
 | [],_,acc,_=>by simp[loadCellsFrom]
 | v::vs,i,acc,h=>by
  have E:=h 0 v O;simp only[Ox]at E;simp[loadCellsFrom,E,(JM vs (i+1) (acc.push v) (λj u G=>by have:=h (j+1) u (ou G);simpa[Nat.add_assoc,Nat.add_comm 1 j]using this))]
theorem ZF [h:Ag P t sz]{a:Addr}{vs:LV}(hl:vs.length=sz)(E:∀j v,vs[j]?=some v->w.cell? (a.add j)=some v):(loadVar t a).run P w=.ok (sT vs) w:=by
 have:=JM (P:=P) (w:=w) (a:=a) vs 0 #[] (ou E);subst hl;simp[loadVar,Qjs,UW (sz:=vs.length),loadCells,this]
theorem Qif [h:XN P t]{x:O3}{a:Addr}{v:O2}(hx:ev f x=.pointer (some a))(E:w.cell? a=some v):
  (execOp (ev f) ⟨d,.load t x,ty,pS,af,gd⟩).run P w=.ok (.value v) w:=by
 simp[execOp,hx,Instr.loadAt,Instr.sureAddr,Xj E]
theorem zg [h:Ag P t sz]{x:O3}{a:Addr}{vs:LV}(hx:ev f x=.pointer (some a))(hl:vs.length=sz)(E:∀j v,vs[j]?=some v->w.cell? (a.add j)=some v):
  (execOp (ev f) ⟨d,.load t x,ty,pS,af,gd⟩).run P w=.ok (.value (sT vs)) w:=by
 simp[execOp,hx,Instr.loadAt,Instr.sureAddr,ZF hl E]
theorem ZI [h:Zh P t j off]{x:O3}{a:Addr}(hx:ev f x=.pointer (some a)):
  (execOp (ev f) ⟨d,.fieldAddr t x j,ty,pS,af,gd⟩).run P w=.ok (.value (.pointer (some (a.add off)))) w:=by
 have E:=h.h;unfold QqO at E;cases I:P.underlying t with
 | none=>simp[I]at E
 | some dd =>
  cases dd <;> simp[I]at E
  rename_i fs;cases G:fs[j]? with
  | none=>simp[G]at E
  | some fd =>
   cases hi:P.info? fd.type with
   | none=>simp[G,hi]at E
   | some i =>
    simp[G,hi]at E;simp[execOp,hx,Instr.fieldAt,run_underlying I,G,Instr.sureAddr,fieldPlace,sizeOf,typeInfo,hi,E]
theorem VN {x:O3}{a:Addr}(hx:ev f x=.pointer (some a)):(execOp (ev f) ⟨d,.nilCheck x,ty,pS,af,gd⟩).run P w=.ok (.value (.pointer (some a))) w:=by
 simp[execOp,hx]
theorem Zn {fn:Fn}{l l':List O3}:(execOp (ev f) ⟨d,.makeFunc fn l.toArray l'.toArray,ty,pS,af,gd⟩).run P w=.ok (.value (.func fn (l.map (ev f)).toArray (l'.map (ev f)).toArray)) w:=by
 simp[execOp,Instr.makeFunc]
end
def QR (P:O4)(g:Nat)(args:LV)(w:O1)(R:O2->O1->Prop):Prop :=
 Calls P g args.toArray w λe w'=>match e with| .returned v=>R v w'|_=>False
theorem QR.S {P:O4}{g:Nat}{args:LV}{w:O1}{R R':O2->O1->Prop}(h:QR P g args w R)(G:∀v w',R v w'->R' v w'):QR P g args w R' :=
 Calls.mono h λe w' E=>by cases e <;> first|exact G _ _ E|exact E
theorem xc {f:Fr}{K:Fr->O1->Prop}{x:O3}{l:List O3}
    {first capt:LV} [hF:Fu P g fn] (hx:ev f x=.func (.func g) first.toArray capt.toArray) (h:QR P g (first++l.map (ev f)++capt) w λv w'=>K (QP f d v) w'):
  XO P ⟨d,.call ⟨.value x,l.toArray,at_⟩,ty,pS,af,gd⟩ f w K:=by
 have E:(execOp (ev f) ⟨d,.call ⟨.value x,l.toArray,at_⟩,ty,pS,af,gd⟩).run P w=.ok (.enter g (first++l.map (ev f)++capt).toArray) w:=by
  have G:¬fn.name = "runtime.NumGoroutine" := by simpa using hF.nm
  have I:¬fn.body=none:=by have:=hF.b;intro e;rw[e]at this;cases this
  simp[execOp,resolve,hx,Deferred.ofValue,invoke,callFunc,hF.f,G,I]
 simp only[XO,E,upF];exact h
theorem xf {f:Fr}{K:Fr->O1->Prop}{l:List O3}
    [hF:Fu P g fn] (h:QR P g (l.map (ev f)) w λv w'=>K (QP f d v) w'):
  XO P ⟨d,.call ⟨.value (.func g),l.toArray,at_⟩,ty,pS,af,gd⟩ f w K :=
 xc (first:=[]) (capt:=[]) (g:=g) (fn:=fn) O (ou h)
def ent:LV->Fr
 | [],_=>undef
 | v::_,0=>v
 | _::l,t+1=>ent l t
def UN (P:O4)(f:Fr)(w:O1):List ResultVar->LV->Prop
 | [],[]=>True
 | .tmp t::rs,v::vs=>f t=v/\UN P f w rs vs
 | .cell a t::rs,v::vs=>(∃ad,f a=.pointer (some ad)/\(loadVar t ad).run P w=.ok v w)/\UN P f w rs vs
 | _,_=>False
def tup:LV->O2
 | [v]=>v
 | vs=>.tuple vs.toArray
def rq (P:O4)(rs:List ResultVar)(R:O2->O1->Prop):Exit->Fr->O1->Prop
 | .ret,f,w=>∃vs,UN P f w rs vs/\R (tup vs) w
 | .normal,f,w=>∃vs,UN P f w rs vs/\R (tup vs) w
 | _,_,_=>False
theorem JL {P:O4}{n:Nat}{a:Act}{f:Fr}{w:O1}(G:Rel n a f)(g:ResultVar->Sem O2)(g1:∀t,g (.tmp t)=pure (a.tmps.getD t undef))
  (I:∀ad t,g (.cell ad t)=(do loadVar t (<-asAddr (a.tmps.getD ad undef)))):∀(rs:List ResultVar) (vs:LV),UN P f w rs vs->(rs.mapM g).run P w=.ok vs w
 | [],[],_=>od
 | [],_::_,h=>h.elim
 | .tmp t::rs,[],h=>h.elim
 | .cell _ _::rs,[],h=>h.elim
 | .tmp t::rs,v::vs,h=>by
  have ih:=JL G g g1 I rs vs h.2;have E:=G.get t;rw[h.1]at E;simp only[List.mapM_cons,Sem.run_bind,Sem.run_pure,Result.andThen_ok,ih,E,g1]
 | .cell ad t::rs,v::vs,h=>by
  have ih:=JL G g g1 I rs vs h.2;obtain⟨⟨J,S,T⟩,_⟩:=h;have E:=G.get ad;rw[S]at E;have U:(asAddr (.pointer (some J))).run P w=.ok J w:=rfl;simp only[List.mapM_cons,Sem.run_bind,I,E,U,Sem.run_pure,Result.andThen_ok,T,ih]
theorem QR.of_W {c:Code}{args:LV}{R:O2->O1->Prop}{rs:List ResultVar}
  (S:P.funcs[g]?=some fn) (hb:fn.body=some c) (T:fn.ntmps=n) (U:fn.results=rs.toArray) (hl:args.length<=n)
  (h:W P n c (rq P rs R) (ent args) w):QR P g args w R:=by
 unfold W at h;refine calls_of_wp S hb (wp_mono (h _ ?_) ?_)
 ·refine⟨by simp[T];omega,O,λt=>?_⟩;have key:∀(l:LV) (t:Nat),l[t]?.getD undef=ent l t:=by
   intro l;induction l with
   | nil=>intro t;rfl
   | cons v l ih=>intro t;cases t with|zero=>rfl|succ t=>simpa[ent]using ih t
  rw[<-key];simp only[Array.getD_eq_getD_getElem?,Array.getElem?_append,Od,oR];by_cases G:t<args.length
  ·simp[G]
  simp[G,Array.getElem?_replicate];split <;> rfl
 rintro e I w' ⟨V,J,_,E⟩;have fin:(∃vs,UN P V w' rs vs/\R (tup vs) w')->I.defers=[]/\∃v,(results fn I.tmps).run P w'=.ok v w'/\R v w':=by
  rintro⟨vs,Y,hR⟩;refine⟨J.defers,tup vs,?_,hR⟩;simp only[results,U,List.mapM_toArray,Sem.run_bind,Sem.run_map];rw[JL J _ (λ_=>rfl) (λ_ _=>rfl) rs vs Y];cases vs with
  | nil=>rfl
  | cons v vs=>cases vs with|nil=>rfl|cons u us=>rfl
 cases e with
 | normal=>exact fin E
 | ret=>exact fin E
 | exit id=>exact E.elim
 | goto l=>exact E.elim
 | panic c=>exact E.elim
 | outgrown=>exact E.elim
attribute [irreducible] QR
theorem XW (f:P.funcs[g]?=some fn)(b:fn.body.isNone=false:=by kernel_rfl)(nm:(fn.name == "runtime.NumGoroutine")=false:=by kernel_rfl):Fu P g fn:=⟨f,b,nm⟩
theorem Qc {f:Fr}{Q:Exit->Fr->O1->Prop}{l:xD}{y:Code}(h:XL P l (λf w=>thn (λf w=>W P n y Q f w) Q .normal f w) l f w)(E:Xu n l=true:=by rfl):W P n (.seq (.region id l.toArray false) y) Q f w:=Qd (Qc5 E h)
theorem Qs {f:Fr}{Q:Exit->Fr->O1->Prop}{l:xD}(h:XL P l (λf w=>Q .normal f w) l f w)(E:Xu n l=true:=by rfl):W P n (.region id l.toArray false) Q f w:=Qc5 E h
section
variable {K:Fr->O1->Prop}{f:Fr}{l:xD}
theorem Qa (h:XL P ops K l (QP f d (ev f y)) w)(E:Z8 ops f ⟨d,.move y,ty,pS,af,gd⟩=true:=by rfl):XL P ops K (⟨d,.move y,ty,pS,af,gd⟩::l) f w:=x Jr h E
theorem QD {I:Nat}{E G:O3}{k:IntKind}{a b:Int}(hx:ev f E=.int k a)(J:ev f G=.int k b)(h:XL P ops K l (QP f d (.int k (a+b))) w)(S:inK k (a+b):=by exact⟨oa,oa⟩)
  (T:Z8 ops f ⟨d,.binOp .add t E G I,ty,pS,af,gd⟩=true:=by rfl):XL P ops K (⟨d,.binOp .add t E G I,ty,pS,af,gd⟩::l) f w:=x (Xp hx J S) h T
theorem Qb (h:K (QP f d (ev f y)) w)(E:Z8 ops f ⟨d,.assign y,ty,pS,af,gd⟩=true:=by rfl):XL P ops K [⟨d,.assign y,ty,pS,af,gd⟩] f w:=x Qe (xe h) E
end
section
variable {C:xz}{K:Fr->O1->Prop}{f:Fr}{l:xD}
theorem Qo {o:Oper}(h:XO P o f w (XL P ops K l))(E:Z8 ops f o=true:=by rfl):XL P ops K (o::l) f w:=xl E h
theorem Kt {o:Oper}(h:XL P ops K l (QP f o.dst undef) w)(E:Z8 ops f o=false:=by rfl):XL P ops K (o::l) f w:=xs E h
theorem QJ {E:O3}{vs:LV}{v:O2}(G:ev f E=.tuple vs.toArray)(I:vs[j]?=some v)(h:XL P ops K l (QP f d v) w)(J:Z8 ops f ⟨d,.extract E j,ty,pS,af,gd⟩=true:=by rfl):XL P ops K (⟨d,.extract E j,ty,pS,af,gd⟩::l) f w:=x (Q3 G I) h J
theorem QB {c a b:O3}{t:Bool}(E:ev f c=.bool t)(h:XL P ops K l (QP f d (bif t then ev f a else ev f b)) w)(G:Z8 ops f ⟨d,.pick c a b,ty,pS,af,gd⟩=true:=by rfl):XL P ops K (⟨d,.pick c a b,ty,pS,af,gd⟩::l) f w:=x (VM E) h G
theorem ZM {I:Nat}{E G:O3}{k:IntKind}{a b:Int}(hx:ev f E=.int k a)(J:ev f G=.int k b)(h:XL P ops K l (QP f d (.bool (decide (¬a=b)))) w)(S:Z8 ops f ⟨d,.binOp .neq t E G I,ty,pS,af,gd⟩=true:=by rfl):XL P ops K (⟨d,.binOp .neq t E G I,ty,pS,af,gd⟩::l) f w:=x (JN hx J) h S
theorem ZX {I:Nat}{E G:O3}{k:IntKind}{a b:Int}(hx:ev f E=.int k a)(J:ev f G=.int k b)(h:XL P ops K l (QP f d (.bool (decide (a<b)))) w)(S:Z8 ops f ⟨d,.binOp .lss t E G I,ty,pS,af,gd⟩=true:=by rfl):XL P ops K (⟨d,.binOp .lss t E G I,ty,pS,af,gd⟩::l) f w:=x (YC hx J) h S
theorem Z6 {E:O3}{a:Addr}(hx:ev f E=.pointer (some a))(h:XL P ops K l (QP f d (.pointer (some a))) w)(G:Z8 ops f ⟨d,.nilCheck E,ty,pS,af,gd⟩=true:=by rfl):XL P ops K (⟨d,.nilCheck E,ty,pS,af,gd⟩::l) f w:=x (VN hx) h G
theorem Zm {c:Code}{args:LV}{R:O2->O1->Prop}{rs:List ResultVar}(E:P.funcs[g]?=some fn)(h:W P n c (rq P rs R) (ent args) w)(hb:fn.body=some c:=by rfl)(G:fn.ntmps=n:=by rfl)(I:fn.results=rs.toArray:=by rfl)(hl:Nat.ble args.length n=true:=by rfl):QR P g args w R:=QR.of_W E hb G I (L4 hl) h
def Xg:Nat->Nat->LN->List (Nat×Bool)
 | _,0,_=>[]
 | i,n+1,fs=>(i,!fs.contains i)::Xg (i+1) n fs
def fuB (P:O4)(g:Nat):Bool:=match P.funcs[g]? with|some fn=>!fn.body.isNone && !(fn.name == "runtime.NumGoroutine")|none=>false
theorem fuE (h:fuB P g=true):∃fn,Fu P g fn:=by
 unfold fuB at h;split at h
 ·next fn E=>simp only[oI,Oe]at h;exact⟨fn,E,h.1,h.2⟩
 cases h
theorem xg {f:Fr}{K:Fr->O1->Prop}{l:List O3}(h:QR P g (l.map (ev f)) w λv w'=>K (QP f d v) w')(E:fuB P g=true:=by kernel_rfl):XO P ⟨d,.call ⟨.value (.func g),l.toArray,at_⟩,ty,pS,af,gd⟩ f w K:=(fuE E).elim λ_ _=>xf h
theorem Qv {l':List O3}(h:QR P g (l'.map (ev f)) w λv w'=>XL P ops K l (QP f d v) w')(E:fuB P g=true:=by kernel_rfl)(G:Z8 ops f ⟨d,.call ⟨.value (.func g),l'.toArray,at_⟩,ty,pS,af,gd⟩=true:=by rfl):XL P ops K (⟨d,.call ⟨.value (.func g),l'.toArray,at_⟩,ty,pS,af,gd⟩::l) f w:=xl G (xg h E)
theorem KS {l':List O3}[Fu P g fn](h:QR P g (l'.map (ev f)) w λv w'=>XL P ops K l (QP f d v) w')(E:Z8 ops f ⟨d,.call ⟨.value (.func g),l'.toArray,at_⟩,ty,pS,af,gd⟩=true:=by rfl):XL P ops K (⟨d,.call ⟨.value (.func g),l'.toArray,at_⟩,ty,pS,af,gd⟩::l) f w:=xl E (xf h)
theorem Qx {E:O3}:∀w',(execOp (ev f) ⟨d,.move E,ty,pS,af,gd⟩).run P w'=.ok (.value (ev f E)) w':=λ_=>Jr
theorem ZN {E:O3}:∀w',(execOp (ev f) ⟨d,.assign E,ty,pS,af,gd⟩).run P w'=.ok (.value (ev f E)) w':=λ_=>Qe
theorem Ys {c a b:O3}{t:Bool}(h:ev f c=.bool t):∀w',(execOp (ev f) ⟨d,.pick c a b,ty,pS,af,gd⟩).run P w'=.ok (.value (bif t then ev f a else ev f b)) w':=λ_=>VM h
theorem YL {E:O3}{a:Addr}(hx:ev f E=.pointer (some a)):∀w',(execOp (ev f) ⟨d,.nilCheck E,ty,pS,af,gd⟩).run P w'=.ok (.value (.pointer (some a))) w':=λ_=>VN hx
theorem Qk {Q:Exit->Fr->O1->Prop}{c:Code}(h:XL P (⟨d,.move y,ty,pS,af,gd⟩::l) (λf w=>thn (λf w=>W P n c Q f w) Q .normal f w) l (QP f d (ev f y)) w)(E:Z8 (⟨d,.move y,ty,pS,af,gd⟩::l) f ⟨d,.move y,ty,pS,af,gd⟩=true:=by rfl)(G:Xu n (⟨d,.move y,ty,pS,af,gd⟩::l)=true:=by rfl):W P n (.seq (.region id (⟨d,.move y,ty,pS,af,gd⟩::l).toArray false) c) Q f w:=Qc (Qa h E) G
theorem Zk {Q:Exit->Fr->O1->Prop}{I:Nat}{E G:O3}{k:IntKind}{a b:Int}{J S c3:Code}(hx:ev f E=.int k a)(T:ev f G=.int k b)(U:¬a<b->W P n S (thn (λf w=>W P n c3 Q f w) Q) (QP f (some j) (.bool (decide (a<b)))) w)(V:a<b->W P n J (thn (λf w=>W P n c3 Q f w) Q) (QP f (some j) (.bool (decide (a<b)))) w)(Y:Z8 [⟨some j,.binOp .lss t E G I,ty,pS,af,gd⟩] f ⟨some j,.binOp .lss t E G I,ty,pS,af,gd⟩=true:=by rfl)(hn:Xu n [⟨some j,.binOp .lss t E G I,ty,pS,af,gd⟩]=true:=by rfl):W P n (.seq (.region id #[⟨some j,.binOp .lss t E G I,ty,pS,af,gd⟩] false) (.seq (.cond (.tmp j) J S) c3)) Q f w:=Qc (ZX hx T (xe (Qd (Zr (by simp[ev,QP,upd]) U V))) Y) hn
theorem Yf {o o2:Oper}(h:XL P ops K l (QP (QP f o.dst undef) o2.dst undef) w)(E:Z8 ops (QP f o.dst undef) o2=false:=by rfl)(G:Z8 ops f o=false:=by rfl):XL P ops K (o::o2::l) f w:=Kt (Kt h E) G
theorem Zq {o o2 o3:Oper}(h:XL P ops K l (QP (QP (QP f o.dst undef) o2.dst undef) o3.dst undef) w)(E:Z8 ops (QP (QP f o.dst undef) o2.dst undef) o3=false:=by rfl)(G:Z8 ops (QP f o.dst undef) o2=false:=by rfl)(I:Z8 ops f o=false:=by rfl):XL P ops K (o::o2::o3::l) f w:=Kt (Yf h E G) I
theorem pkk {pl:xt}(h:XO P (QT ops i) f w λE w'=>XP P ops C K pl E w')(hl:K9 ops i=true:=by kernel_rfl)(G:Z8 ops f (QT ops i)=true:=by rfl):XP P ops C K ((i,false)::pl) f w:=pkl h hl G
theorem QW {Q:Exit->Fr->O1->Prop}{c:Code}(D:xu)(S:α->List (Nat×O2))(I:α->O1->Prop)(m:α->Nat)(z:α)(E:Y7 f (S z))(hI:I z w)(round:∀x g w',I x w'->W P n c (thn (λG J=>∃x',m x'<m x/\Y7 G (S x')/\I x' J) (blk id Q)) (VJ (S x) (mix D f g)) w')(hD:wr D c=true:=by rfl):W P n (.block id (.loop c)) Q f w:=Qn (QpE D S I m hD z E hI round)
end
structure O5 (L:LN)(w w':O1):Prop where
 os:w'.os=w.os
 tape:w'.tape=w.tape
 output:w'.output=w.output
 size:w.heap.size<=↑w'
 block:∀k,k<↑w->k∉L->w'.heap[k]?=w.heap[k]?
abbrev sW (w w':World):Prop:=O5 [] w w'
theorem O5.Y (L:LN)(w:O1):O5 L w w:=⟨rfl,rfl,rfl,Lp _,λ_ _ _=>rfl⟩
theorem O5.X (L:LN)(w:O1):O5 L w { w with drawn:=w.drawn+1 }:=⟨rfl,rfl,rfl,Lp _,λ_ _ _=>rfl⟩
theorem O5.S {L L':LN}(h:O5 L w w')(E:∀b∈L,b∈L'):O5 L' w w' :=
 ⟨h.os,h.tape,h.output,h.size,λk G I=>h.block k G (λJ=>I (E k J))⟩
theorem O5.any {L:LN}(h:sW w w'):O5 L w w':=h.S (λ_ hb=>by cases hb)
theorem O5.O {L L':LN}{E:O1}(h:O5 L E w)(k:O5 L' w w')(J:∀b∈L',b∈L\/↑E<=b):O5 L E w' :=
 ⟨k.os.D h.os,k.tape.D h.tape,k.output.D h.output,Lx h.size k.size,λi hi G =>
  (k.block i (LR hi h.size) (λS=>by rcases J i S with I|I;exact G I;omega)).D (h.block i hi G)⟩
theorem O5.D {L:LN}{E:O1}(h:O5 L E w)(k:sW w w'):O5 L E w':=h.O k (λ_ hb=>by cases hb)
theorem O5.V {L:LN}{E:O1}(h:O5 L E w)(k:O5 L w w'):O5 L E w':=h.O k (λ_ hb=>.inl hb)
theorem O5.below (h:sW w w'):Below ↑w w w':=⟨h.os,h.tape,h.output,h.size,λk E=>h.block k E od⟩
theorem O5.of_below (h:Below ↑w w w'):sW w w':=⟨h.os,h.tape,h.output,h.size,λk E _=>h.block k E⟩
theorem O5.of_grown {row:xE}(h:w.grownBy w' row):O5 row.toList w w' :=
 ⟨h.os,h.tape,h.output,h.size,λk E G=>h.block k E (λe=>G (by simp[<-e]))⟩
theorem Qbn (w:O1)(o:Obj)(k:Nat)(h:k<↑w):(w.alloc o).heap[k]?=w.heap[k]?:=by
 show(w.heap.push o)[k]?=_;rw[Array.getElem?_push,OT oa]
theorem Vg (w:O1)(o:Obj):(w.alloc o).heap[w.heap.size]?=some o:=by
 show(w.heap.push o)[w.heap.size]?=_;simp
theorem zx (w:O1)(o:Obj):(w.alloc o).heap.size=w.heap.size+1:=by show(w.heap.push o).size=_;simp
theorem O5.alloc (w:O1)(o:Obj):sW w (w.alloc o):=⟨rfl,rfl,rfl,by rw[zx];omega,λk E _=>Qbn w o k E⟩
theorem O5.setRow (w:O1)(g:Nat)(cs:Array O2):O5 [g] w (w.setRow g cs):=
 ⟨rfl,rfl,rfl,by simp[World.setRow],λk _ E=>setRow_other w g k cs (λe=>E (by simp[e]))⟩
def cel (H:xA)(a:Addr):Option O2:=match H[a.block]? with
 | some (.cells c _ _)=>if a.spot.isSome then none else c[a.off]?
 | _=>none
theorem Kl (w:O1)(a:Addr):w.cell? a=cel ↑w a:=rfl
structure At (L:LN)(H:xA)(a:Addr)(us:LV):Prop where
 out:∀u∈us,a.block∉L
 lt:∀u∈us,a.block<H.size
 cell:∀j u,us[j]?=some u->cel H (a.add j)=some u
theorem YE (a:Addr)(j:Nat):(a.add j).block=a.block:=by unfold Addr.add;split <;> rfl
theorem Qkt {L:LN}(h:O5 L w w'){a:Addr}(E:a.block∉L)(hl:a.block<↑w):cel ↑w' a=cel ↑w a:=by
 unfold cel;rw[h.block _ hl E]
theorem At.J {L X:LN}{a:Addr}{us:LV}(h:At L ↑w a us)(G:O5 X w w')(hX:∀b∈X,b∈L):At L ↑w' a us :=
 ⟨h.out,λu E=>LR (h.lt u E) G.size,λj u E=>by
  have I:=Ml E;rw[Qkt (L:=X) G (by rw[YE];exact λhx=>h.out u I (hX _ hx)) (by rw[YE];exact h.lt u I)];exact h.cell j u E⟩
theorem At.I {L:LN}{a:Addr}{us:LV}(h:At L ↑w a us)(E:sW w w'):At L ↑w' a us:=h.J E (λ_ hb=>by cases hb)
theorem At.st {L:LN}{a:Addr}{us:LV}(h:At L ↑w a us)(E:O5 L w w'):At L ↑w' a us:=h.J E (λ_ hb=>hb)
theorem At.one {L:LN}{a:Addr}{u:O2}(h:At L ↑w a [u]):w.cell? a=some u:=by
 have:=h.cell 0 u O;simp only[Addr.add,if_true]at this;exact this
theorem At.cells {L:LN}{a:Addr}{us:LV}(h:At L ↑w a us):∀j v,us[j]?=some v->w.cell? (a.add j)=some v:=h.cell
theorem Addr.add_add (a:Addr)(i j:Nat):(a.add i).add j=a.add (i+j):=by
 unfold Addr.add;by_cases hi:i=0
 ·subst hi;simp
 by_cases E:j=0
 ·subst E;simp
 simp[hi,E,Nat.add_assoc]
theorem At.fld {L:LN}{H:xA}{a:Addr}{us:LV}(h:At L H a us)(j:Nat)(u:O2)(E:us[j]?=some u):At L H (a.add j) [u]:=
 ⟨λ_ _=>by rw[YE];exact h.out u (Ml E),λ_ _=>by rw[YE];exact h.lt u (Ml E),λi v G=>by
  cases i with
  | zero=>simp at G;subst G;rw[Addr.add_add,MY];exact h.cell j u E
  | succ i=>simp at G⟩
theorem At.up {L L':LN}{H:xA}{a:Addr}{us:LV}(h:At L H a us)(I:∀b∈L',b∈L\/H.size<=b):At L' H a us :=
 ⟨λu E J=>by rcases I _ J with G|G;exact h.out u E G;have:=h.lt u E;omega,h.lt,h.cell⟩
def Zt (L:LN)(H:xA)(v:O2)(n sz:Nat)(cs:LV):Prop :=
 cs.length=n*sz/\n<=1099511627776/\((v=nS/\n=0)\/∃a cap,v=.slice (some a) n cap/\n<=cap/\At L H a cs)
theorem Zt.J {L X:LN}{w w':O1}{v:O2}{n sz:Nat}{cs:LV}(h:Zt L ↑w v n sz cs)(E:O5 X w w')(hX:∀b∈X,b∈L):Zt L ↑w' v n sz cs :=
 ⟨h.1,h.2.1,h.2.2.imp id λ⟨a,cap,G,I,J⟩=>⟨a,cap,G,I,J.J E hX⟩⟩
theorem Zt.I {L:LN}{v:O2}{cs:LV}(h:Zt L ↑w v n sz cs)(E:sW w w'):Zt L ↑w' v n sz cs:=h.J E (λ_ hb=>by cases hb)
theorem Zt.st {L:LN}{v:O2}{cs:LV}(h:Zt L ↑w v n sz cs)(E:O5 L w w'):Zt L ↑w' v n sz cs:=h.J E (λ_ hb=>hb)
theorem Zt.up {L L':LN}{H:xA}{v:O2}{n sz:Nat}{cs:LV}(h:Zt L H v n sz cs)(E:∀b∈L',b∈L\/H.size<=b):Zt L' H v n sz cs :=
 ⟨h.1,h.2.1,h.2.2.imp id λ⟨a,cap,G,I,J⟩=>⟨a,cap,G,I,J.up E⟩⟩
theorem Zt.nil (L:LN)(H:xA)(sz:Nat):Zt L H (nS) 0 sz []:=⟨od,oa,.inl ⟨rfl,rfl⟩⟩
theorem Zt.shape {L:LN}{H:xA}{v:O2}{cs:LV}(h:Zt L H v n sz cs):∃a cap,v=.slice a n cap:=by
 rcases h.2.2 with⟨E,G⟩|⟨a,cap,E,_⟩
 ·exact⟨none,0,by rw[E,G]⟩
 exact⟨some a,cap,E⟩
theorem Zt.one {L:LN}{H:xA}{v:O2}{cs:LV}(h:Zt L H v n sz cs):v.oneCell'=true:=by obtain⟨a,cap,rfl⟩:=h.shape;rfl
theorem Zt.cells {L:LN}{H:xA}{v:O2}{n sz:Nat}{cs:LV}(h:Zt L H v n sz cs):v.cells=#[v]:=by obtain⟨a,cap,rfl⟩:=h.shape;rfl
theorem Zt.le {L:LN}{H:xA}{v:O2}{cs:LV}(h:Zt L H v n sz cs):n<=1099511627776:=h.2.1
theorem Zt.at {L:LN}{H:xA}{v:O2}{n sz:Nat}{cs:LV}(h:Zt L H v n sz cs){i:Nat}(hi:i<n):
  ∃a cap,v=.slice (some a) n cap/\At L H (a.add (i*sz)) ((cs.drop (i*sz)).take sz):=by
 rcases h.2.2 with⟨_,J⟩|⟨a,cap,I,_,G⟩
 ·omega
 refine⟨a,cap,I,λu E=>by rw[YE];exact G.out u (MS (L3 E)),λu E=>by rw[YE];exact G.lt u (MS (L3 E)),λj u E=>?_⟩;rw[Addr.add_add];refine G.cell _ u ?_;rw[L2]at E;split at E
 ·simpa using E
 cases E
abbrev Qu (L:LN)(H:xA)(v:O2)(l:LI):Prop:=Zt L H v l.length 1 (l.map (.int .i64))
theorem Qu.at {L:LN}{H:xA}{v:O2}{l:LI}(h:Qu L H v l){i:Nat}(hi:i<l.length):
  ∃a cap,v=.slice (some a) l.length cap/\At L H (a.add (i*1)) [sS l[i]]:=by
 obtain⟨a,cap,G,E⟩:=Zt.at h hi;refine⟨a,cap,G,?_⟩;have:((l.map (Value.int .i64)).drop (i*1)).take 1=[sS l[i]]:=by
  rw[OQ,LZ (ou hi)];simp
 rw[this]at E;exact E
def QL (H:xA)(b T:Nat)(cs:LV):Prop:=H[b]?=some (.cells cs.toArray T (0,0))
theorem QL.lt {H:xA}{b:Nat}{cs:LV}(h:QL H b T cs):b<H.size:=(LH.1 h).1
theorem QL.J {X:LN}{b:Nat}{cs:LV}(h:QL ↑w b T cs)(E:O5 X w w')(hb:b∉X):QL ↑w' b T cs:=by
 unfold QL;rw[E.block b h.lt hb];exact h
theorem QL.I {b:Nat}{cs:LV}(h:QL ↑w b T cs)(E:sW w w'):QL ↑w' b T cs:=h.J E od
theorem QL.cell {H:xA}{b:Nat}{cs:LV}(h:QL H b T cs)(j:Nat):cel H ⟨b,j,none⟩=cs[j]?:=by
 unfold QL at h;simp[cel,h]
theorem Qfm (b j:Nat):(⟨b,0,none⟩:Addr).add j=⟨b,j,none⟩:=by unfold Addr.add;split <;> simp_all
theorem X0 (b i j:Nat):(⟨b,i,none⟩:Addr).add j=⟨b,i+j,none⟩:=by unfold Addr.add;split <;> simp_all
theorem QL.at {L:LN}{H:xA}{b:Nat}{cs:LV}(h:QL H b T cs)(hb:b∉L):At L H ⟨b,0,none⟩ cs :=
 ⟨λ_ _=>hb,λ_ _=>h.lt,λj u E=>by rw[Qfm,h.cell];exact E⟩
theorem QL.arr {L:LN}{H:xA}{b:Nat}{cs:LV}(h:QL H b T cs)(hb:b∉L){cap:Nat}(hl:cs.length=n*sz)(E:n<=1099511627776)(G:n<=cap):
  Zt L H (sL b n cap) n sz cs:=⟨hl,E,.inr ⟨_,_,O,G,h.at hb⟩⟩
def ob:O2->LN
 | .slice (some a) _ _=>[a.block]
 | _=>[]
theorem QaJ (v:O2):ob v=v.ownBlock.toList:=by
 cases v <;> try rfl
 rename_i a _ _;cases a <;> rfl
theorem Qg {X:LN}{e:Nat}{v:O2}{cs:LV}(h:w.ownsRow base e sz v n cs)(I:O5 X w w')(hX:∀b∈ob v,b∉X):w'.ownsRow base e sz v n cs:=by
 refine⟨h.1,h.2.imp id λ⟨g,cap,cur,E,J,G,S⟩=>⟨g,cap,cur,E,J,?_,S⟩⟩;rw[I.block g (LH.1 G).1 (hX g (by rw[E];simp[ob]))];exact G
theorem Qm {e:Nat}{v:O2}{cs:LV}(h:w.ownsRow base e sz v n cs)(E:sW w w'):w'.ownsRow base e sz v n cs:=Qg h E (λ_ _=>od)
theorem Qj {e:Nat}{v:O2}{cs:LV}(h:w.ownsRow base e sz v n cs):∀b∈ob v,base<=b/\b<w.heap.size:=by
 intro b hb;rcases h.2 with⟨E,_⟩|⟨g,cap,cur,E,G,I,_⟩
 ·subst E;simp[ob]at hb
 subst E;simp[ob]at hb;subst hb;exact⟨G,(LH.1 I).1⟩
theorem Zf {base' e:Nat}{v:O2}{cs:LV}(h:w.ownsRow base e sz v n cs)(hb:base'<=base):w.ownsRow base' e sz v n cs :=
 ⟨h.1,h.2.imp id λ⟨g,cap,cur,E,G,I⟩=>⟨g,cap,cur,E,Lx hb G,I⟩⟩
theorem QO {L:LN}{e:Nat}{v:O2}{cs:LV}(h:w.ownsRow base e sz v n cs)(J:n<=1099511627776)(S:∀b∈ob v,b∉L):Zt L ↑w v n sz cs:=by
 refine⟨h.1,J,?_⟩;rcases h.2 with E|⟨g,cap,cur,E,V,I,T,Y,h6,U⟩
 ·exact .inl E
 refine .inr ⟨_,_,E,T,λ_ _=>S g (by rw[E];simp[ob]),λ_ _=>(LH.1 I).1,λj u G=>?_⟩;rw[Qfm];unfold cel;simp only[I];rw[<-U,L2]at G;split at G
 ·simpa using G
 cases G
theorem QM (w:O1)(base e sz:Nat):w.ownsRow base e sz (nS) 0 []:=World.ownsRow_nil w base e sz
theorem QL.own {b:Nat}{cs:LV}(h:QL ↑w b T cs)(hl:cs.length=n*sz)(E:n<=1099511627776)(hb:base<=b):w.ownsRow base T sz (sL b n n) n cs :=
 ⟨hl,.inr ⟨b,n,cs.toArray,O,hb,h,Lp _,by simp only[maxLen];omega,by simp[hl],by simp[<-hl]⟩⟩
section
variable {K:Fr->O1->Prop}{f:Fr}{l:xD}
theorem YY {x:O3}{e bys:Nat}[Sl P t e E bys z]{L:LN}{cs:LV}{v:O2}{H:xA}(h:Zt L H v n sz cs)(G:ev f x=v):
  (execOp (ev f) ⟨d,.call ⟨.builtin .len,#[x],#[t]⟩,ty,pS,af,gd⟩).run P w=.ok (.value (sS n)) w:=by
 obtain⟨a,cap,I⟩:=h.shape;exact jA (G.D I)
theorem xi {x:O3}{e bys:Nat}[Sl P t e sz bys z]{L:LN}{cs:LV}{v:O2}{k:IntKind}
  (h:Zt L ↑w v n sz cs) (E:ev f x=v) (G:ev f y=.int k i) (hi:i<n)
  (hK:∀a,At L ↑w a ((cs.drop (i*sz)).take sz)->XL P ops K l (QP f d (.pointer (some a))) w) (I:Z8 ops f ⟨d,.indexAddr t x y,ty,pS,af,gd⟩=true:=by rfl):
  XL P ops K (⟨d,.indexAddr t x y,ty,pS,af,gd⟩::l) f w:=by
 obtain⟨a,cap,J,S⟩:=h.at hi;refine xl I (xv (XS (E.D J) G oa oa) (hK _ ?_));simpa using S
theorem xii {x:O3}{e bys:Nat}[Sl P t e 1 bys z]{L:LN}{li:LI}{v:O2}{k:IntKind}
  (h:Qu L ↑w v li) (E:ev f x=v) (G:ev f y=.int k i) (hi:i<li.length)
  (hK:∀a,At L ↑w a [sS li[i]]->XL P ops K l (QP f d (.pointer (some a))) w) (I:Z8 ops f ⟨d,.indexAddr t x y,ty,pS,af,gd⟩=true:=by rfl):
  XL P ops K (⟨d,.indexAddr t x y,ty,pS,af,gd⟩::l) f w:=by
 obtain⟨a,cap,J,S⟩:=Qu.at h hi;refine xl I (xv (XS (E.D J) G oa oa) (hK _ ?_));simpa using S
theorem Qr [XN P t]{x:O3}{a:Addr}{L:LN}{u:O2}(h:At L ↑w a [u])(hx:ev f x=.pointer (some a)):
  (execOp (ev f) ⟨d,.load t x,ty,pS,af,gd⟩).run P w=.ok (.value u) w:=Qif hx h.one
theorem QA [Ag P t sz]{x:O3}{a:Addr}{L:LN}{us:LV}(h:At L ↑w a us)(hx:ev f x=.pointer (some a))(hl:us.length=sz):
  (execOp (ev f) ⟨d,.load t x,ty,pS,af,gd⟩).run P w=.ok (.value (sT us)) w:=zg hx hl h.cells
theorem Ql [XN P t]{x:O3}{b:Nat}{cs:LV}{u:O2}(h:QL ↑w b T cs)(hx:ev f x=.pointer (some ⟨b,j,none⟩))(E:cs[j]?=some u):
  (execOp (ev f) ⟨d,.load t x,ty,pS,af,gd⟩).run P w=.ok (.value u) w:=Qif hx (by rw[Kl,h.cell];exact E)
theorem Q7 [Ag P t sz]{x:O3}{b:Nat}{cs:LV}(h:QL ↑w b T cs)(hx:ev f x=sP b)(hl:cs.length=sz):
  (execOp (ev f) ⟨d,.load t x,ty,pS,af,gd⟩).run P w=.ok (.value (sT cs)) w:=zg hx hl (h.at (L:=[]) od).cells
theorem Uh [Zh P t j off]{x:O3}{b o:Nat}(hx:ev f x=.pointer (some ⟨b,o,none⟩)):
  (execOp (ev f) ⟨d,.fieldAddr t x j,ty,pS,af,gd⟩).run P w=.ok (.value (.pointer (some ⟨b,o+off,none⟩))) w:=by
 rw[<-X0];exact ZI hx
end
section
variable {K:Fr->O1->Prop}{f:Fr}
theorem qD {x:O3}{us:LV}(hx:(ev f x).cells=us.toArray)
  (hK:∀b w',sW w w'->↑w<=b->QL ↑w' b t us->K (QP f d (sP b)) w'):XO P ⟨d,.box t x,ty,pS,af,gd⟩ f w K:=by
 have E:(execOp (ev f) ⟨d,.box t x,ty,pS,af,gd⟩).run P w=.ok (.value (.pointer (some ⟨↑w,0,none⟩))) (w.alloc (.cells us.toArray t)):=by
  simp[execOp,Instr.box,newVar,newRow,hx]
 exact xv E (hK _ _ (O5.alloc w _) (Lp _) (Vg w _))
theorem YU [h:Ze P t z]{us:LV}(G:z.cells=us.toArray)
  (hK:∀b w',sW w w'->↑w<=b->QL ↑w' b t us->K (QP f d (sP b)) w'):XO P ⟨d,.alloc t,ty,pS,af,gd⟩ f w K:=by
 have I:(execOp (ev f) ⟨d,.alloc t,ty,pS,af,gd⟩).run P w=.ok (.value (.pointer (some ⟨↑w,0,none⟩))) (w.alloc (.cells us.toArray t)):=by
  have hi:=h.i;cases E:P.info? t with
  | none=>simp[E]at hi
  | some i =>
   simp[E]at hi;simp[execOp,Instr.alloc,newVar,newRow,zeroValue,typeInfo,E,hi,G]
 exact xv I (hK _ _ (O5.alloc w _) (Lp _) (Vg w _))
def zy (sz:Nat):LV->List (LV)->Prop
 | [],[]=>True
 | v::vs,u::us=>v.cells=u.toArray/\u.length=sz/\zy sz vs us
 | _,_=>False
theorem yp {sz:Nat}:∀(vs:LV) (us:List (LV)) (E:Nat) (pre rest:LV),zy sz vs us->pre.length=E*sz->rest.length=vs.length*sz ->
  Instr.fill (λi=>some (i*sz,sz)) (pre++rest).toArray ((vs.zipIdx E).map λx=>(x.2,x.1))=some (pre++us.flatten).toArray
 | [],[],E,pre,rest,_,_,G=>by
  have:rest=[]:=Lt (ou G);subst this;simp[Instr.fill]
 | [],_::_,_,_,_,h,_,_=>h.elim
 | _::_,[],_,_,_,h,_,_=>h.elim
 | v::vs,u::us,E,pre,rest,h,I,G=>by
  obtain⟨J,S,V⟩:=h;have ha:sz<=rest.length:=by rw[G];simp[Ou]
  have ih:=yp vs us (E+1) (pre++u) (rest.drop sz) V (by simp[I,S,Ou]) (by simp only[OF,G,oQ,Ou,OL];omega);simp only[List.zipIdx_cons,oS];unfold Instr.fill;have Y:v.cells.size=sz:=by rw[J];simp[S]
  simp only[Y];rw[OT (by simp;omega)];have key:v.cells.zipIdx.foldl (λcs (x:O2×Nat)=>cs.setIfInBounds (E*sz+x.2) x.1) (pre++rest).toArray=(pre++u++rest.drop sz).toArray:=by
   rw[<-Array.foldl_toList,Array.toList_zipIdx,J];obtain⟨g1,g2⟩:=Great.foldl_set (E*sz) u 0 (pre++rest).toArray;apply Array.ext';apply Nn;intro k;simp only[Array.getElem?_toList];rw[(g2 k)];simp only[Ox,Od,oM,oR];split
   ·rename_i T;rw[LA,Mn oa,LY oa,<-I]
   rename_i T;by_cases U:k<pre.length
   ·rw[LA,LY U,LY U]
   rw[LA,Mn oa,Mn oa];by_cases he:k<pre.length+sz
   ·exfalso;apply T;omega
   rw[Mn oa,MG];congr 1;omega
  have hf:=ih;rw[LA pre u]at key;rw[show(v.cells.zipIdx.foldl (λcs (x:O2×Nat)=>cs.setIfInBounds (E*sz+x.2) x.1) (pre++rest).toArray)=(pre++u++rest.drop sz).toArray by rw[key,LA]];rw[ih];simp
theorem jj (f:Fr):∀(ps:List (Nat×O3)) (i:Nat),ps.map (·.1)=oN i ps.length->(ps.map λx=>(x.1,ev f x.2))=((ps.map λx=>ev f x.2).zipIdx i).map λx=>(x.2,x.1)
 | [],_,_=>rfl
 | p::ps,i,h=>by
  simp only[oS,oQ,Oz,List.cons.injEq]at h;simp only[oS,List.zipIdx_cons];rw[jj f ps (i+1) h.2,h.1]
theorem Yi {e bys:Nat}[h:Sl P t e sz bys z]{parts:List (Nat×O3)}{us:List (LV)}(G:parts.map (·.1)=oN 0 n)(I:parts.length=n)(J:0<n)(hs:n*sz<=1000000)
  (S:zy sz (parts.map λx=>ev f x.2) us)
  (hK:∀b w',sW w w'->↑w<=b->QL ↑w' b e us.flatten->K (QP f d (sL b n n)) w'):XO P ⟨d,.buildSlice t n parts.toArray,ty,pS,af,gd⟩ f w K:=by
 obtain⟨ie,T,U,E,_⟩:=Sl.info h;subst I;have hm:0<parts.length*sz:=Nat.mul_pos J h.pos;have V:Instr.fill (λi=>some (i*ie.size,ie.size)) ((Array.range (parts.length*ie.size)).map (z.cells[· % z.cells.size]!)) (parts.toArray.map λ(i,x)=>(i,ev f x)).toList=some us.flatten.toArray:=by
  rw[E];have:=yp (parts.map λx=>ev f x.2) us 0 [] ((Array.range (parts.length*sz)).map (z.cells[· % z.cells.size]!)).toList S od od;simp only[On,Array.toArray_toList]at this;rw[<-this,<-jj f parts 0 G];simp
 have Y:(execOp (ev f) ⟨d,.buildSlice t parts.length parts.toArray,ty,pS,af,gd⟩).run P w=.ok (.value (.slice (some ⟨↑w,0,none⟩) parts.length parts.length)) (w.alloc (.cells us.flatten.toArray e)):=by
  have:=run_buildSlice (P:=P) w t e parts.length (parts.toArray.map λ(i,x)=>(i,ev f x)) us.flatten.toArray ie z h.u T U (by rw[E];omega) (by rw[E];omega) V;simp only[execOp,Sem.run_bind,this,Result.andThen_ok,Sem.run_pure]
 exact xv Y (hK _ _ (O5.alloc w _) (Lp _) (Vg w _))
theorem y8 {e:Nat}{bys:Nat}[h:Sl P t e sz bys z]{v:O2}{cs:LV}(G:w.ownsRow base e sz v n cs)
  {a:Addr} {c:Nat} {news:LV} (hl:news.length=m*sz) (U:∀j u,news[j]?=some u->w.cell? (a.add j)=some u) (h1:∀u∈news,u.oneCell'=true)
  (hb:n+m<=1099511627776) (hs:bys<=128) (he:base<=↑w):
  ∃v' w',(Builtin.append_ #[t,t] ty #[v,.slice (some a) m c]).run P w=.ok v' w'/\w'.ownsRow base e sz v' (n+m) (cs++news)/\O5 (ob v) w w'/\(∀b∈ob v',b∈ob v\/↑w<=b):=by
 obtain⟨i,hi,Y,J,ha⟩:=Sl.info h;have hc:(n+m)*bys<=140737488355328:=Lx (M9 hb hs) oa;have hf:n+m<=maxLen:=by simp only[maxLen];omega
 by_cases hg:∃g cap cur,v=sL g n cap/\w.heap[g]?=some (.cells cur e (0,0))/\n+m<=cap
 ·obtain⟨v',w',T,ho,ht,_⟩:=run_append_own (P:=P) w base t ty e i z sz bys h.u hi Y J ha h.zs h.pos v n cs G a m c news hl U h1 hf hc he;refine⟨v',w',T,ho,by rw[QaJ];exact O5.of_grown ht,?_⟩;obtain⟨g,cap,cur,rfl,hh,S⟩:=hg;rcases G.2 with⟨h2,_⟩|⟨g2,cap2,hj,h2,h3,h4,h5,h6,h7,h8⟩
  ·cases h2
  cases h2
  have hu:n*i.size+news.length<=hj.size:=by rw[hl,h7,J,<-My];exact MQ _ S
  rw[(run_append_room (P:=P) w t ty e i h.u hi g n cap hj h4 a m c news (by rw[J];exact hl) U h1 S hu)]at T;cases T
  intro b E;exact .inl E
 have new:∀(old:Nat),old<n+m->∀I,I=(Obj.cells (cs.toArray++news.toArray++Builtin.zeroCells z.cells (grownCap w (n+m) old e - (n+m))) e) ->
   (w.drew.alloc I).ownsRow base e sz (.slice (some ⟨↑w,0,none⟩) (n+m) (grownCap w (n+m) old e)) (n+m) (cs++news):=by
  intro old ho I hv;subst hv;have hge:=grownCap_ge w (n+m) old e;have hp:grownCap w (n+m) old e<=maxLen:=grownCap_le_maxLen w (n+m) old e hf;have hq:(cs++news).length=(n+m)*sz:=by rw[Lc,G.1,hl,My]
  refine⟨hq,.inr ⟨↑w,_,_,O,he,Vg w.drew _,hge,hp,?_,?_⟩⟩
  ·simp only[Array.size_append,Od,size_zeroCells,h.zs,G.1,hl,<-Ou];congr 1;omega
  simp only[Array.toList_append,Of];rw[<-LA,<-hq];exact List.take_left
 have stp:∀I,O5 (ob v) w (w.drew.alloc I):=λI=>⟨O,O,O,by rw[zx];exact Nat.le_succ _,λk hk _=>Qbn w.drew I k hk⟩;have fin:∀(b:Nat),b∈ob (.slice (some ⟨↑w,0,none⟩) (n+m) 0)->b∈ob v\/↑w<=b:=λb E=>by simp[ob]at E;omega
 rcases G.2 with⟨rfl,rfl⟩|⟨g,cap,cur,rfl,h9,hh,hA,hp,hB,hC⟩
 ·have hx:cs=[]:=Lt (ou G.1);subst hx;by_cases hm:m=0
  ·subst hm;have V:news=[]:=Lt (ou hl);subst V;refine⟨nS,w,?_,QM _ _ _ _,O5.Y _ _,λb E=>by simp[ob]at E⟩;simp[Builtin.append_,run_underlying h.u,sizeOf,typeInfo,hi,Builtin.lenOf,Builtin.firstCells,loadCells,loadCellsFrom]
  have T:=run_append_nil (P:=P) w t ty e i z h.u hi Y a m c news (by rw[J];exact hl) U oa oa (by rw[ha];have hw:=hc;simp only[oX]at hw;omega);have V:=new 0 oa _ O;simp only[oX,On,Array.empty_append]at V ⊢;exact⟨_,_,T,V,stp _,λb E=>fin b E⟩
 have S:cap<n+m:=by
  rcases OM cap (n+m) with hy|hge
  ·exact hy
  exact OW ⟨g,cap,cur,O,hh,hge⟩ hg
 have h0:∀j u,cs[j]?=some u->w.cell? ((⟨g,0,none⟩:Addr).add j)=some u:=G.cells (g:=g) O;exact⟨_,_,(run_append_grow (P:=P) w t ty e i z h.u hi Y ⟨g,0,none⟩ n cap cs (by rw[J];exact G.1) h0 a m c news (by rw[J];exact hl) U S oa (growslice_fits S (by rw[ha];exact hc))),new cap S _ O,stp _,λb E=>fin b E⟩
theorem Q8 {e bys:Nat}[h:Sl P t e sz bys z]{s:O3}{v:O2}{cs:LV}(E:w.ownsRow base e sz v n cs)(G:ev f s=v)
  {a:Addr} {c:Nat} {news:LV} (I:ev f y=.slice (some a) m c) (hl:news.length=m*sz) {L:LN} (J:At L ↑w a news) (S:∀u∈news,u.oneCell'=true)
  (hb:n+m<=1099511627776) (T:base<=↑w)
  (hK:∀v' w',w'.ownsRow base e sz v' (n+m) (cs++news)->O5 (ob v) w w'->(∀b∈ob v',b∈ob v\/↑w<=b)->K (QP f d v') w') (U:bys<=128:=by decide):
  XO P ⟨d,.call ⟨.builtin .append,#[s,y],#[t,t]⟩,ty,pS,af,gd⟩ f w K:=by
 obtain⟨v',w',V,Y,h3,h4⟩:=y8 (P:=P) (t:=t) (ty:=ty) E hl J.cells S hb U T (c:=c);have ha:(execOp (ev f) ⟨d,.call ⟨.builtin .append,#[s,y],#[t,t]⟩,ty,pS,af,gd⟩).run P w=.ok (.value v') w':=by
  simp[execOp,resolve,invoke,builtin,G,I,V]
 exact xv ha (hK v' w' Y h3 h4)
end
def Qpz (P:O4)(t:Nat):Option (LV×LN):=match P.info? t,P.underlying t with
 | some it,some (.struct fs)=>match it.zero,fs.toList.mapM (λf=>(P.info? f.type).bind λi=>if i.size=1 then some f.offset else none) with
  | some (.agg zs),some offs=>some (zs.toList,offs)
  | _,_=>none
 | some it,some (.array n e)=>match it.zero,P.info? e with
  | some (.agg zs),some ie=>if ie.size=1 then some (zs.toList,oJ n) else none
  | _,_=>none
 | _,_=>none
class Bs (P:O4)(t:Nat)(zs:outParam (LV))(offs:outParam (LN)):Prop where
 h:Qpz P t=some (zs,offs):=by first|kernel_rfl|decide|rfl|exact sX (by kernel_rfl)
 b:offs.all (·<zs.length)=true:=by first|kernel_rfl|decide|rfl|exact sX (by kernel_rfl)
def bld (offs:LN)(zs:LV):List (Nat×O2)->LV
 | []=>zs
 | (j,v)::ps=>bld offs (zs.set (offs.getD j 0) v) ps
def Qnt:LV->Prop
 | []=>True
 | v::vs=>v.cells=#[v]/\Qnt vs
theorem yo {place:Nat->Option (Nat×Nat)}{offs:LN}(G:∀j,j<offs.length->place j=some (offs.getD j 0,1)):∀(ps:List (Nat×O2)) (zs:LV),Qnt (ps.map (·.2))->ps.all (λp=>p.1<offs.length)=true ->
  (∀o∈offs,o<zs.length)->Instr.fill place zs.toArray ps=some (bld offs zs ps).toArray
 | [],zs,_,_,_=>rfl
 | (j,v)::ps,zs,I,E,J=>by
  simp only[Ob,oI,decide_eq_true_eq]at E;have U:offs.getD j 0<zs.length:=J _ (by simp[oO,oV E.1]);unfold Instr.fill;simp only[(G j E.1)];have S:v.cells=#[v]:=I.1;simp only[S];rw[OT (by rw[show(#[v]:Array O2).size=1 from rfl,LW];simp only[ne_eq,not_true,decide_false,Bool.false_or,decide_eq_true_eq];omega)];have:(#[v]:Array O2).zipIdx.foldl (λcs (x:O2×Nat)=>cs.setIfInBounds (offs.getD j 0+x.2) x.1) zs.toArray=(zs.set (offs.getD j 0) v).toArray:=by
   simp[Array.zipIdx]
  rw[this];exact yo G ps _ I.2 E.2 (λo T=>by rw[MX];exact J o T)
theorem Qep {zs:LV}{offs:LN}(h:Qpz P t=some (zs,offs))(hb:offs.all (·<zs.length)=true)(ps:List (Nat×O2))(U:Qnt (ps.map (·.2)))(V:ps.all (λp=>p.1<offs.length)=true):
  P.built t ps=some (bld offs zs ps).toArray:=by
 have Y:∀o∈offs,o<zs.length:=λo ho=>ou (Mc.1 hb o ho)
 unfold Qpz at h;unfold Program.built;cases hi:P.info? t with
 | none=>simp[hi]at h
 | some it =>
  cases hu:P.underlying t with
  | none=>simp[hi,hu]at h
  | some dd =>
   simp only[hi,hu]at h;cases dd <;> simp only[]at h <;> try (cases h)
   case struct fs =>
    cases E:it.zero with
    | none=>simp[E]at h
    | some z =>
     cases z <;> simp only[E]at h <;> try (cases h)
     rename_i za;cases J:fs.toList.mapM (λf=>(P.info? f.type).bind λi=>if i.size=1 then some f.offset else none) with
     | none=>simp[J]at h
     | some offs' =>
      simp only[J,Option.some.injEq,Prod.mk.injEq]at h;obtain⟨rfl,rfl⟩:=h;have key:∀(l:List Field) (offs:LN),l.mapM (λf=>(P.info? f.type).bind λi=>if i.size=1 then some f.offset else none)=some offs ->
        l.mapM (λf=>(P.info? f.type).map λi=>(f.offset,i.size))=some (offs.map λo=>(o,1)):=by
       intro l;induction l with
       | nil=>intro offs h;simp at h;subst h;rfl
       | cons f l ih =>
        intro offs h;simp only[List.mapM_cons]at h ⊢;cases S:P.info? f.type with
        | none=>simp[S]at h
        | some i =>
         by_cases G:i.size=1
         ·simp only[S,Option.bind_some,G,if_true,Option.bind_eq_bind]at h;cases hl:l.mapM (λf=>(P.info? f.type).bind λi=>if i.size=1 then some f.offset else none) with
          | none=>simp[hl]at h
          | some os =>
           simp[hl]at h;subst h;simp[ih os hl,G]
         simp[S,G]at h
      simp only[E,(key _ _ J),Value.cells];rw[<-yo (place:=λj=>((offs'.map λo=>(o,1)).toArray)[j]?) (λj I=>by simp[oV I,oO]) ps za.toList U V Y]
   case array n e =>
    cases E:it.zero with
    | none=>simp[E]at h
    | some z =>
     cases z <;> simp only[E]at h <;> try (cases h)
     rename_i za;cases T:P.info? e with
     | none=>simp[T]at h
     | some ie =>
      simp only[T]at h;split at h
      ·rename_i G;simp only[Option.some.injEq,Prod.mk.injEq]at h;obtain⟨rfl,rfl⟩:=h;simp only[E,T,Value.cells];rw[<-yo (place:=λi=>some (i*ie.size,ie.size)) (λj I=>by simp at I;simp[G,oO,I]) ps za.toList U V Y]
      cases h
theorem QE {f:Fr}{zs:LV}{offs:LN}[h:Bs P t zs offs]{parts:List (Nat×O3)}
  (E:Qnt (parts.map λx=>ev f x.2)) (G:parts.all (λp=>p.1<offs.length)=true:=by rfl):
  (execOp (ev f) ⟨d,.build t parts.toArray,ty,pS,af,gd⟩).run P w=.ok (.value (.agg (bld offs zs (parts.map λx=>(x.1,ev f x.2))).toArray)) w:=by
 simp only[execOp,Sem.run_bind,(run_build (P:=P) w t (parts.toArray.map λ(i,x)=>(i,ev f x)) _ (by simpa using(Qep h.h h.b (parts.map λx=>(x.1,ev f x.2)) (by rw[List.map_map];exact E) (by rw[List.all_map];exact G)))),Result.andThen_ok,Sem.run_pure]
section
variable {K:Fr->O1->Prop}{f:Fr}{l:xD}
theorem Zc [Zh P t j off]{E:O3}{b o:Nat}(hx:ev f E=.pointer (some ⟨b,o,none⟩))(h:XL P ops K l (QP f d (.pointer (some ⟨b,o+off,none⟩))) w)(G:Z8 ops f ⟨d,.fieldAddr t E j,ty,pS,af,gd⟩=true:=by rfl):XL P ops K (⟨d,.fieldAddr t E j,ty,pS,af,gd⟩::l) f w:=x (Uh hx) h G
theorem ZE [XN P t]{E:O3}{b:Nat}{cs:LV}{u:O2}(G:QL ↑w b T cs)(hx:ev f E=.pointer (some ⟨b,j,none⟩))(I:cs[j]?=some u)(h:XL P ops K l (QP f d u) w)(J:Z8 ops f ⟨d,.load t E,ty,pS,af,gd⟩=true:=by rfl):XL P ops K (⟨d,.load t E,ty,pS,af,gd⟩::l) f w:=x (Ql G hx I) h J
theorem QV [Ag P t sz]{E:O3}{b:Nat}{cs:LV}(G:QL ↑w b T cs)(hx:ev f E=sP b)(hl:cs.length=sz)(h:XL P ops K l (QP f d (sT cs)) w)(I:Z8 ops f ⟨d,.load t E,ty,pS,af,gd⟩=true:=by rfl):XL P ops K (⟨d,.load t E,ty,pS,af,gd⟩::l) f w:=x (Q7 G hx hl) h I
theorem QG {E:O3}{e bys:Nat}[Sl P t e G bys z]{L:LN}{cs:LV}{v:O2}{H:xA}(hA:Zt L H v n sz cs)(I:ev f E=v)(h:XL P ops K l (QP f d (sS n)) w)(J:Z8 ops f ⟨d,.call ⟨.builtin .len,#[E],#[t]⟩,ty,pS,af,gd⟩=true:=by rfl):XL P ops K (⟨d,.call ⟨.builtin .len,#[E],#[t]⟩,ty,pS,af,gd⟩::l) f w:=x (YY hA I) h J
theorem QH [Zh P t j off]{E:O3}{b o:Nat}(hx:ev f E=.pointer (some ⟨b,o,none⟩)):∀w',(execOp (ev f) ⟨d,.fieldAddr t E j,ty,pS,af,gd⟩).run P w'=.ok (.value (.pointer (some ⟨b,o+off,none⟩))) w':=λ_=>Uh hx
theorem Qq [Zh P t j off]{E:O3}{b o:Nat}[XN P G]{d2:xE}{J:Nat}{pS2:String}{S:xC}{U:xq}{I:O3}{cs:LV}{u:O2}(hx:ev f E=.pointer (some ⟨b,o,none⟩))(V:QL ↑w b T cs)(Y:ev (QP f d (.pointer (some ⟨b,o+off,none⟩))) I=.pointer (some ⟨b,i,none⟩))(hj:cs[i]?=some u)(h:XL P ops K l (QP (QP f d (.pointer (some ⟨b,o+off,none⟩))) d2 u) w)
  (hg:Z8 ops f ⟨d,.fieldAddr t E j,ty,pS,af,gd⟩=true:=by rfl) (ha:Z8 ops (QP f d (.pointer (some ⟨b,o+off,none⟩))) ⟨d2,.load G I,J,pS2,S,U⟩=true:=by rfl):XL P ops K (⟨d,.fieldAddr t E j,ty,pS,af,gd⟩::⟨d2,.load G I,J,pS2,S,U⟩::l) f w:=Zc hx (ZE V Y hj h ha) hg
theorem Q9 {e bys:Nat}[Sl P t e sz bys z]{parts:List (Nat×O3)}{K:Fr->O1->Prop}(us:List (LV))(hK:∀b w',sW w w'->↑w<=b->QL ↑w' b e us.flatten->K (QP f d (sL b n n)) w')(E:parts.map (·.1)=oN 0 n:=by rfl)(G:parts.length=n:=by rfl)(I:0<n:=by decide)(J:n*sz<=1000000:=by decide)(S:zy sz (parts.map λx=>ev f x.2) us:=by first|exact(ov)|exact(oy)):XO P ⟨d,.buildSlice t n parts.toArray,ty,pS,af,gd⟩ f w K:=Yi E G I J S hK
theorem Za {E:O3}(us:LV)(hK:∀b w',sW w w'->↑w<=b->QL ↑w' b t us->XL P ops K l (QP f d (sP b)) w')(hx:(ev f E).cells=us.toArray:=by rfl)(G:Z8 ops f ⟨d,.box t E,ty,pS,af,gd⟩=true:=by rfl):XL P ops K (⟨d,.box t E,ty,pS,af,gd⟩::l) f w:=xl G (qD hx hK)
end
section
variable {κ:Type}[DecidableEq κ]
def xd:List (κ×O2)->κ->Option O2
 | [],_=>none
 | (k',v)::m,k=>if k'=k then some v else xd m k
def xh:List (κ×O2)->κ->O2->List (κ×O2)
 | [],k,v=>[(k,v)]
 | (k',v')::m,k,v=>if k'=k then(k',v)::m else(k',v')::xh m k v
theorem Jk (m:List (κ×O2))(k k':κ)(v:O2):xd (xh m k v) k'=if k=k' then some v else xd m k':=by
 induction m with
 | nil=>simp[xd,xh]
 | cons p m ih =>
  obtain⟨q,u⟩:=p;simp only[xh];by_cases h:q=k
  ·subst h;simp[xd];by_cases E:q=k' <;> simp[E]
  simp only[h,if_false,xd,ih];by_cases E:q=k'
  ·subst E;simp[Ne.symm h]
  simp[E]
def fnd (k:κ):List κ->List MapEntry->Nat->Option (Nat×O2)
 | q::ks,e::es,i=>if k=q then some (i,e.val) else fnd k ks es (i+1)
 | _,_,_=>none
end
class Key (P:O4)(kt:Nat){κ:Type}[DecidableEq κ](enc:κ->O2):Prop where
 check:∀(w:O1) (em:Bool) (k:κ),(Instr.checkKey em 10000 kt (enc k)).run P w=.ok () w
 find:∀(w:O1) (k:κ) (ks:List κ) (es:List MapEntry),es.map (·.key)=ks.map enc->(Instr.findKey kt (enc k) es).run P w=.ok (fnd k ks es 0) w
 same:∀k,Instr.sameBits 10000 (enc k) (enc k)=true
abbrev XG (n:Int):O2:=sS n
abbrev Yp (p:Int×Int):O2:=.agg #[sS p.1,sS p.2]
abbrev Xz (s:ByteArray):O2:=.string s
theorem Qml (G:P.underlying kt=some (.int .i64)):Key P kt XG:=by
 refine⟨λw em k=>?_,λw k ks es h=>?_,λk=>by simp[Instr.sameBits]⟩
 ·have hck:∀n,(Instr.checkKey em (n+1) kt (XG k)).run P w=.ok () w:=λn=>by simp[Instr.checkKey,run_underlying G]
  exact hck 9999
 have key:∀(ks:LI) (es:List MapEntry) (i:Nat),es.map (·.key)=ks.map XG->Instr.findNow (.int .i64) (XG k) es i=some (fnd k ks es i):=by
  intro ks;induction ks with
  | nil=>intro es i h;simp at h;subst h;rfl
  | cons q ks ih =>
   intro es i h;cases es with
   | nil=>simp at h
   | cons e es =>
    simp only[oS,List.cons.injEq]at h;simp only[Instr.findNow,h.1,Instr.sameNow,XG,if_true,fnd];by_cases E:k=q
    ·subst E;simp
    have:(k == q)=false:=by simpa using E
    simp[E,this,(ih es (i+1) h.2)]
 simp[Instr.findKey,run_underlying G,key ks es 0 h]
theorem Qmk (G:P.underlying kt=some .string):Key P kt Xz:=by
 refine⟨λw em k=>?_,λw k ks es h=>?_,λk=>by simp[Instr.sameBits,(MapKept.bytes_beq k k).2 rfl]⟩
 ·have hck:∀n,(Instr.checkKey em (n+1) kt (Xz k)).run P w=.ok () w:=λn=>by simp[Instr.checkKey,run_underlying G]
  exact hck 9999
 have key:∀(ks:List ByteArray) (es:List MapEntry) (i:Nat),es.map (·.key)=ks.map Xz->Instr.findNow .string (Xz k) es i=some (fnd k ks es i):=by
  intro ks;induction ks with
  | nil=>intro es i h;simp at h;subst h;rfl
  | cons q ks ih =>
   intro es i h;cases es with
   | nil=>simp at h
   | cons e es =>
    simp only[oS,List.cons.injEq]at h;simp only[Instr.findNow,h.1,Instr.sameNow,Xz,fnd];by_cases E:k=q
    ·subst E;simp[(MapKept.bytes_beq k k).2 rfl]
    have:(k == q)=false:=by
     cases hb:(k == q) with
     | false=>rfl
     | true=>exact OW ((MapKept.bytes_beq k q).1 hb) E
    simp[E,this,(ih es (i+1) h.2)]
 simp[Instr.findKey,run_underlying G,key ks es 0 h]
theorem zJ {e:Nat}(Y:P.underlying kt=some (.array 2 e))(J:P.underlying e=some (.int .i64))(E:(P.info? e).map (·.size)=some 1)(w:O1)(p q:Int×Int):
  (Op.equal kt (Yp p) (Yp q)).run P w=.ok (decide (p=q)) w:=by
 obtain⟨a,b⟩:=p;obtain⟨c,d⟩:=q;cases hi:P.info? e with
 | none=>simp[hi]at E
 | some ie =>
  simp[hi]at E;have S:∀w,(isAgg e).run P w=.ok false w:=λw=>by simp[isAgg,run_underlying J]
  have G:∀(x y:Int) (w:O1),(part e #[sS x,sS y] 0).run P w=.ok (sS x) w:=λx y w=>by simp[part,S]
  have T:∀(x y:Int) (w:O1),(part e #[sS x,sS y] 1).run P w=.ok (sS y) w:=λx y w=>by simp[part,S]
  have I:∀(m:Nat) (x y:Int) (w:O1),(Op.equalIn (m+1) e (sS x) (sS y)).run P w=.ok (x == y) w:=λm x y w=>by simp[Op.equalIn,run_underlying J]
  simp only[Op.equal,Op.maxDepth,Yp];unfold Op.equalIn;simp only[Sem.run_bind,run_underlying Y,Result.andThen_ok,sizeOf,typeInfo,run_program,hi,Sem.run_pure,E];simp only[Std.Legacy.Range.forIn_eq_forIn_range',Std.Legacy.Range.size,ON,Nat.add_sub_cancel,Nat.div_one,Oz,List.range'_zero,List.forIn_cons,List.forIn_nil,Nat.zero_mul,OL,oX];by_cases U:a=c
  ·subst U;by_cases V:b=d
   ·subst V;simp[G,T,I]
   simp[G,T,I,V]
  simp[G,I,U]
theorem Qco {e:Nat}(E:P.underlying kt=some (.array 2 e))(I:P.underlying e=some (.int .i64))(G:(P.info? e).map (·.size)=some 1):Key P kt Yp:=by
 refine⟨λw em k=>?_,λw k ks es h=>?_,λk=>?_⟩
 ·obtain⟨a,b⟩:=k;cases hi:P.info? e with
  | none=>simp[hi]at G
  | some ie =>
   simp[hi]at G;have S:∀w,(isAgg e).run P w=.ok false w:=λw=>by simp[isAgg,run_underlying I]
   have U:∀(x y:Int) (w:O1),(part e #[sS x,sS y] 0).run P w=.ok (sS x) w:=λx y w=>by simp[part,S]
   have V:∀(x y:Int) (w:O1),(part e #[sS x,sS y] 1).run P w=.ok (sS y) w:=λx y w=>by simp[part,S]
   have hck:∀(m:Nat) (x:Int) (w:O1),(Instr.checkKey em (m+1) e (sS x)).run P w=.ok () w:=λm x w=>by simp[Instr.checkKey,run_underlying I]
   simp only[Yp];unfold Instr.checkKey;simp only[Sem.run_bind,run_underlying E,Result.andThen_ok,sizeOf,typeInfo];simp[Std.Legacy.Range.forIn_eq_forIn_range',Std.Legacy.Range.size,Oz,hi,G,U,V,hck]
 ·have Y:∀es i,es.map (·.key)=ks.map Yp->Instr.findNow (.array 2 e) (Yp k) es i=none\/es=[]:=by
   intro es i h;cases es with
   | nil=>exact .inr O
   | cons e es=>left;simp[Instr.findNow,Instr.sameNow]
  have ask:∀(ks:xw) (es:List MapEntry) (i:Nat),es.map (·.key)=ks.map Yp->(Instr.findAsking kt (Yp k) es i).run P w=.ok (fnd k ks es i) w:=by
   intro ks;induction ks with
   | nil=>intro es i h;simp at h;subst h;simp[Instr.findAsking,fnd]
   | cons q ks ih =>
    intro es i h;cases es with
    | nil=>simp at h
    | cons e es =>
     simp only[oS,List.cons.injEq]at h;simp only[Instr.findAsking,h.1,Sem.run_bind,zJ E I G,Result.andThen_ok,fnd];by_cases T:k=q
     ·subst T;simp
     simp[T,(ih es (i+1) h.2)]
  rcases Y es 0 h with J|J
  ·simp[Instr.findKey,run_underlying E,J,ask ks es 0 h]
  subst J;have:ks=[]:=by simpa using h.symm
  subst this;simp[Instr.findKey,run_underlying E,Instr.findNow,fnd]
 simp[Instr.sameBits]
class Mp (P:O4)(t:Nat)(kt et:outParam Nat)(z:outParam O2):Prop where
 u:P.underlying t=some (.map kt et):=by first|kernel_rfl|decide|rfl|exact sX (by kernel_rfl)
 z:(P.info? et).map (·.zero)=some (some z):=by first|kernel_rfl|decide|rfl|exact sX (by kernel_rfl)
def ZU {κ:Type}(enc:κ->O2)(H:xA)(b:Nat)(m:List (κ×O2)):Prop :=
 ∃es clock,H[b]?=some (.map es clock)/\es.toList.map (λe=>(e.key,e.val))=m.map (λp=>(enc p.1,p.2))
section
variable {κ:Type}{enc:κ->O2}
theorem ZU.lt {H:xA}{b:Nat}{m:List (κ×O2)}(h:ZU enc H b m):b<H.size:=by
 obtain⟨es,c,E,_⟩:=h;exact(LH.1 E).1
theorem ZU.J {X:LN}{b:Nat}{m:List (κ×O2)}(h:ZU enc ↑w b m)(E:O5 X w w')(hb:b∉X):ZU enc ↑w' b m:=by
 have hl:=h.lt;obtain⟨es,c,G,I⟩:=h;exact⟨es,c,by rw[E.block b hl hb];exact G,I⟩
theorem ZU.I {b:Nat}{m:List (κ×O2)}(h:ZU enc ↑w b m)(E:sW w w'):ZU enc ↑w' b m:=h.J E od
theorem QaU {m:List (κ×O2)}{es:List MapEntry}(h:es.map (λe=>(e.key,e.val))=m.map (λp=>(enc p.1,p.2))):es.map (·.key)=(m.map (·.1)).map enc:=by
 have:=OV (OS Prod.fst) h;simp only[List.map_map]at this ⊢;exact this
variable [DecidableEq κ]
theorem Ux {k:κ}:∀{m:List (κ×O2)}{es:List MapEntry}{i:Nat},es.map (λe=>(e.key,e.val))=m.map (λp=>(enc p.1,p.2))->xd m k=none->fnd k (m.map (·.1)) es i=none
 | [],es,i,h,_=>by simp[fnd]
 | (q,u)::m,[],i,h,_=>by simp at h
 | (q,u)::m,e::es,i,h,E=>by
  simp only[oS,List.cons.injEq]at h;simp only[xd]at E;by_cases G:q=k
  ·simp[G]at E
  simp only[G,if_false]at E;simp only[oS,fnd,Ne.symm G,if_false];exact Ux h.2 E
theorem Uw {k:κ}{u:O2}:∀{m:List (κ×O2)}{es:List MapEntry}{i:Nat},es.map (λe=>(e.key,e.val))=m.map (λp=>(enc p.1,p.2))->xd m k=some u ->
  ∃j,fnd k (m.map (·.1)) es i=some (i+j,u)/\j<es.length/\(∃e,es[j]?=some e/\e.key=enc k) /\
   ∀v,(es.modify j λe=>{ e with key:=enc k,val:=v }).map (λe=>(e.key,e.val))=(xh m k v).map (λp=>(enc p.1,p.2))
 | [],es,i,_,h=>by simp[xd]at h
 | (q,x)::m,[],i,h,_=>by simp at h
 | (q,x)::m,e::es,i,h,E=>by
  simp only[oS,List.cons.injEq,Prod.mk.injEq]at h;simp only[xd]at E;by_cases G:q=k
  ·subst G;simp at E;subst E;refine⟨0,by simp[fnd,h.1.2],od,⟨e,rfl,h.1.1⟩,λv=>?_⟩;simp[xh,h.2]
  simp only[G,if_false]at E;obtain⟨j,I,U,⟨e',J,S⟩,T⟩:=Uw (i:=i+1) h.2 E;refine⟨j+1,?_,by simp;omega,⟨e',ou J,S⟩,λv=>?_⟩
  ·simp only[oS,fnd,Ne.symm G,if_false,I];congr 2;omega
  simp only[xh,G,if_false,List.modify_succ_cons,oS,T v,h.1]
end
section
variable {K:Fr->O1->Prop}{f:Fr}{κ:Type}[DecidableEq κ]
omit [DecidableEq κ] in
theorem Z1 (enc:κ->O2)
  (hK:∀b w',sW w w'->↑w<=b->ZU enc ↑w' b []->K (QP f d (.map (some b))) w'):XO P ⟨d,.makeMap t none,ty,pS,af,gd⟩ f w K:=by
 have E:(execOp (ev f) ⟨d,.makeMap t none,ty,pS,af,gd⟩).run P w=.ok (.value (.map (some ↑w))) (w.alloc (.map #[] 0)):=by
  simp[execOp,Instr.makeMap]
 exact xv E (hK _ _ (O5.alloc w _) (Lp _) ⟨#[],0,Vg w _,O⟩)
theorem XR {b:Nat}{es:Array MapEntry}{c:Nat}(h:w.heap[b]?=some (.map es c)):(getObj b).run P w=.ok (.map es c) w:=by
 simp[getObj,Sem.run,h]
theorem VD {b:Nat}{es E:Array MapEntry}{c:Nat}(h:w.heap[b]?=some (.map es c)):(setObj b (.map E G)).run P w=.ok () { w with heap:=w.heap.setIfInBounds b (.map E G) }:=by
 simp[setObj,Sem.run,h]
theorem K3 [hm:Mp P t kt et z]{enc:κ->O2}[G:Key P kt enc]{x:O3}{b:Nat}{m:List (κ×O2)}{k:κ}(h:ZU enc ↑w b m)(hx:ev f x=.map (some b))(J:ev f y=enc k):
  (execOp (ev f) ⟨d,.lookup t x y true,ty,pS,af,gd⟩).run P w=.ok (.value (match xd m k with|some u=>.tuple #[u,.bool true]|none=>.tuple #[z,.bool false])) w:=by
 obtain⟨es,c,S,E⟩:=h;have T:(zeroValue et).run P w=.ok z w:=by
  have:=hm.z;cases hi:P.info? et with
  | none=>simp[hi]at this
  | some i=>simp[hi]at this;simp[zeroValue,typeInfo,hi,this]
 simp only[execOp,Sem.run_bind,Instr.lookup,run_underlying hm.u,Result.andThen_ok,hx,J,XR S,Sem.run_pure,G.check,(G.find w k (m.map (·.1)) es.toList (QaU E))];cases I:xd m k with
 | none=>rw[Ux E I];simp[T]
 | some u =>
  obtain⟨j,U,_⟩:=Uw (i:=0) E I;rw[U];simp
theorem Ji [hm:Mp P t kt et z]{enc:κ->O2}[G:Key P kt enc]{x:O3}{b:Nat}{m:List (κ×O2)}{k:κ}(h:ZU enc ↑w b m)(hx:ev f x=.map (some b))(J:ev f y=enc k):
  (execOp (ev f) ⟨d,.lookup t x y false,ty,pS,af,gd⟩).run P w=.ok (.value (match xd m k with|some u=>u|none=>z)) w:=by
 obtain⟨es,c,S,E⟩:=h;have T:(zeroValue et).run P w=.ok z w:=by
  have:=hm.z;cases hi:P.info? et with
  | none=>simp[hi]at this
  | some i=>simp[hi]at this;simp[zeroValue,typeInfo,hi,this]
 simp only[execOp,Sem.run_bind,Instr.lookup,run_underlying hm.u,Result.andThen_ok,hx,J,XR S,Sem.run_pure,G.check,(G.find w k (m.map (·.1)) es.toList (QaU E))];cases I:xd m k with
 | none=>rw[Ux E I];simp[T]
 | some u =>
  obtain⟨j,U,_⟩:=Uw (i:=0) E I;rw[U];simp
theorem zI [hm:Mp P t kt et z]{enc:κ->O2}[J:Key P kt enc]{b:Nat}{m:List (κ×O2)}{k:κ}{u:O2}(h:ZU enc ↑w b m):
  ∃w',(Instr.mapUpdate t (.map (some b)) (enc k) u).run P w=.ok () w'/\O5 [b] w w'/\ZU enc ↑w' b (xh m k u):=by
 have hl:=h.lt;obtain⟨es,c,S,G⟩:=h;have E:=J.find w k (m.map (·.1)) es.toList (QaU G);have stp:∀U V,O5 [b] w { w with heap:=w.heap.setIfInBounds b (.map U V) }:=λU V =>
  ⟨rfl,rfl,rfl,od,λi hi Y=>by
   have:b≠i:=λe=>Y (by simp[e]);simp[Array.getElem?_setIfInBounds_ne this]⟩
 cases I:xd m k with
 | none =>
  rw[Ux G I]at E;refine⟨_,?_,stp (es.push { key:=enc k,val:=u,born:=c }) (c+1),es.push { key:=enc k,val:=u,born:=c },c+1,?_,?_⟩
  ·simp only[Instr.mapUpdate,Sem.run_bind,run_underlying hm.u,Result.andThen_ok,XR S,J.check,E,VD S]
  ·simp[hl]
  have ha:xh m k u=m++[(k,u)]:=by
   clear G E;induction m with
   | nil=>rfl
   | cons p m ih =>
    obtain⟨q,x⟩:=p;by_cases T:q=k
    ·simp[xd,T]at I
    simp only[xd,T,if_false]at I;simp[xh,T,ih I]
  simp[ha,G]
 | some u0 =>
  obtain⟨j,hj,hr,⟨e,he,hc⟩,hh⟩:=Uw (i:=0) G I;rw[hj]at E;simp only[oX]at E;have ho:∀w,(Instr.keyThatStays (enc k) (enc k)).run P w=.ok (enc k) w:=λw=>by simp[Instr.keyThatStays,J.same]
  have hp:((es[j]?).map (·.key)).getD (enc k)=enc k:=by
   have:es[j]?=some e:=by simpa using he
   simp[this,hc]
  refine⟨_,?_,stp (es.modify j λe=>{ e with key:=enc k,val:=u }) c,es.modify j λe=>{ e with key:=enc k,val:=u },c,?_,?_⟩
  ·simp only[Instr.mapUpdate,Sem.run_bind,run_underlying hm.u,Result.andThen_ok,XR S,J.check,E,hp,ho,VD S]
  ·simp[hl]
  rw[Array.toList_modify];exact hh u
theorem YO [hm:Mp P t kt et z]{enc:κ->O2}[hk:Key P kt enc]{x v:O3}{b:Nat}{m:List (κ×O2)}{k:κ}(h:ZU enc ↑w b m)(hx:ev f x=.map (some b))(E:ev f y=enc k)
  (hK:∀w',O5 [b] w w'->ZU enc ↑w' b (xh m k (ev f v))->K (QP f d undef) w'):XO P ⟨d,.mapUpdate t x y v,ty,pS,af,gd⟩ f w K:=by
 obtain⟨w',G,I,J⟩:=zI (P:=P) (t:=t) (k:=k) (u:=ev f v) h;exact xk (w':=w') (by simp[execOp,hx,E,G]) (hK w' I J)
theorem Yv [hm:Mp P t kt et z]{enc:κ->O2}[hk:Key P kt enc]{x v:O3}{b:Nat}{m:List (κ×O2)}{k:κ}(h:ZU enc ↑w b m)(hx:ev f x=.map (some b))(E:ev f y=enc k)
  (hK:∀w',O5 [b] w w'->ZU enc ↑w' b (xh m k (ev f v))->K (QP f d undef) w'):XO P ⟨d,.insert t x y v,ty,pS,af,gd⟩ f w K:=by
 obtain⟨w',G,I,J⟩:=zI (P:=P) (t:=t) (k:=k) (u:=ev f v) h;exact xk (w':=w') (by simp[execOp,hx,E,G]) (hK w' I J)
end
section
variable {K:Fr->O1->Prop}{f:Fr}{l:xD}
theorem Jp {b:Nat}{cs E:LV}(h:QL ↑w b T cs):QL (w.setRow b E.toArray).heap b T E:=setRow_heap w b cs.toArray E.toArray T (0,0) h
theorem VC (cs:LV)(j:Nat)(u:O2)(h:j<cs.length):cs.take j++[u]++cs.drop (j+1)=cs.set j u:=by
 rw[List.set_eq_take_append_cons_drop,OU h];simp
theorem Qw [h1:XN P t]{x:O3}{b:Nat}{cs:LV}{u:O2}(E:QL ↑w b T cs)(hx:ev f x=.pointer (some ⟨b,j,none⟩))(J:ev f y=u)(S:j<cs.length)(G:u.oneCell'=true)
  (hK:∀w',O5 [b] w w'->QL ↑w' b T (cs.set j u)->K (QP f d undef) w'):XO P ⟨d,.store t x y,ty,pS,af,gd⟩ f w K:=by
 have U:u.cells=#[u]:=by cases u <;> first|rfl|cases G
 have I:=run_storeCells_at P b j T [u] 0 cs.toArray w E (by simp;omega) (by simp[G]);simp only[Ox,oL,VC cs j u S]at I;refine xk (w':=w.setRow b (cs.set j u).toArray) ?_ (hK _ (O5.setRow _ _ _) (Jp E));simp[execOp,hx,J,Instr.storeAt,Instr.sureAddr,storeVar,zH,U,I]
def Zv:LV->Prop
 | []=>True
 | u::us=>u.oneCell'=true/\Zv us
theorem Zv.all:∀{us:LV},Zv us->∀u∈us,u.oneCell'=true
 | [],_,u,E=>by cases E
 | v::us,h,u,E=>by
  rcases Ln.1 E with rfl|E
  ·exact h.1
  exact Zv.all h.2 u E
theorem Zj [h1:Ag P t sz]{x:O3}{b:Nat}{cs us:LV}(E:QL ↑w b T cs)(hx:ev f x=sP b)(I:ev f y=sT us)(hl:us.length=sz)(J:cs.length=sz)(S:Zv us)
  (hK:∀w',O5 [b] w w'->QL ↑w' b T us->K (QP f d undef) w'):XO P ⟨d,.store t x y,ty,pS,af,gd⟩ f w K:=by
 have G:=run_storeCells_at P b 0 T us 0 cs.toArray w E (by simp;omega) S.all;have e:(cs.take 0++us++cs.drop us.length)=us:=by rw[hl,<-J];simp
 simp only[Ox,oX,e]at G;refine xk (w':=w.setRow b us.toArray) ?_ (hK _ (O5.setRow _ _ _) (Jp E));subst hl;simp[execOp,hx,I,Instr.storeAt,Instr.sureAddr,storeVar,UW (sz:=us.length),Value.cells,G]
theorem QF {x:O3}{e bys:Nat}[h:Sl P t e sz bys z]{b o c:Nat}{k:IntKind}(hx:ev f x=.slice (some ⟨b,o,none⟩) n c)(E:ev f y=.int k i)(G:i<n):
  (execOp (ev f) ⟨d,.indexAddr t x y,ty,pS,af,gd⟩).run P w=.ok (.value (.pointer (some ⟨b,o+i*sz,none⟩))) w:=by
 have:=XS (P:=P) (w:=w) (d:=d) (ty:=ty) (pS:=pS) (af:=af) (gd:=gd) (t:=t) hx E oa oa;rw[X0]at this;simpa using this
theorem QlY {e bys:Nat}[h:Sl P t e sz bys z]{x:O3}{k:IntKind}(hx:ev f x=.int k n)(J:ev f y=.int k' n)(S:bys*n<=281474976710656)(hn:n<=1099511627776)
  (hK:∀b w',sW w w'->↑w<=b->QL ↑w' b e (oG n z.cells.toList).flatten->K (QP f d (sL b n n)) w'):
  XO P ⟨d,.makeSlice t x y,ty,pS,af,gd⟩ f w K:=by
 obtain⟨i,hi,T,U,V⟩:=Sl.info h;have hb:i.bytes*n<=281474976710656:=by rw[V];exact S
 have Y:(i.bytes:Int)*(n:Int)<=281474976710656:=by
  have h:((i.bytes*n:Nat):Int)<=281474976710656:=oa
  rwa [Int.natCast_mul]at h
 have G:=run_make (P:=P) w t e i z h.u hi T k k' n n oa (Mx _) Y oa;simp only[Oy]at G;have ha:madeCells z.cells (n*i.size)=(oG n z.cells.toList).flatten.toArray:=by
  have hc:z.cells.size=i.size:=by rw[h.zs,U]
  apply Array.ext';apply Nn;intro j;simp only[madeCells,<-hc,Array.toList_map,Array.toList_range,List.getElem?_map];have he:∀n,(oG n z.cells.toList).flatten.length=n*z.cells.size:=λn=>od
  have key:∀n j,j<n*z.cells.size->(oG n z.cells.toList).flatten[j]?=some z.cells[j % z.cells.size]!:=by
   intro n;induction n with
   | zero=>intro j E;omega
   | succ n ih =>
    intro j E;rw[List.replicate_succ,List.flatten_cons];by_cases I:j<z.cells.size
    ·rw[LY (ou I),NG I];simp[I]
    rw[Mn (by simp;omega)];have:=ih (j - z.cells.size) (by rw[My]at E;omega);rw[Array.length_toList,this];rw[<-Nat.mod_eq_sub_mod oa]
  by_cases E:j<n*z.cells.size
  ·rw[key n j E];simp[E]
  rw[Mq (ou (Nat.le_of_not_lt E)),List.getElem?_eq_none (by rw[he];omega)];rfl
 rw[ha]at G;refine xv (w':=w.alloc (.cells (oG n z.cells.toList).flatten.toArray e)) (v:=.slice (some ⟨↑w,0,none⟩) n n) ?_ (hK _ _ (O5.alloc w _) (Lp _) (Vg w _));simp[execOp,hx,J,G]
theorem YZ {e bys:Nat}[h:Sl P t e sz bys z]{x:O3}{k:IntKind}(hx:ev f x=.int k n)(G:ev f y=.int k' n)(E:n<=1099511627776)
  (hK:∀b w',sW w w'->↑w<=b->QL ↑w' b e (oG n z.cells.toList).flatten->K (QP f d (sL b n n)) w') (I:bys<=128:=by decide):
  XO P ⟨d,.makeSlice t x y,ty,pS,af,gd⟩ f w K:=QlY hx G (Lx (M9 I E) oa) E hK
theorem YB {k:IntKind}{y:Nat}{c:BoundsCode}(h:i<=y):(Instr.sliceBound (.int k i) y c).run P w=.ok i w:=by
 simp[Instr.sliceBound,asIntOf,h]
theorem Zt.cut {L:LN}{H:xA}{a:Addr}{cap:Nat}{cs:LV}(h:Zt L H (.slice (some a) n cap) n sz cs){hi:Nat}(T:lo<=hi)(U:hi<=n):
  Zt L H (.slice (if cap=lo then some a else some (a.add (lo*sz))) (hi - lo) (cap - lo)) (hi - lo) sz ((cs.drop (lo*sz)).take ((hi - lo)*sz)):=by
 obtain⟨J,V,S⟩:=h;rcases S with⟨G,_⟩|⟨a',cap',G,Y,I⟩
 ·cases G
 cases G
 refine⟨?_,oa,.inr ?_⟩
 ·simp only[OG,OF,J,<-Nat.sub_mul];rw[MZ];exact MQ _ oa
 split
 ·rename_i hc;have:hi - lo=0:=oa
  refine⟨a,cap - lo,by rw[this],oa,λu E=>?_,λu E=>?_,λj u E=>?_⟩
  ·simp[this]at E
  ·simp[this]at E
  simp[this]at E
 refine⟨a.add (lo*sz),cap - lo,O,oa,λu E=>by rw[YE];exact I.out u (MS (L3 E)),λu E=>by rw[YE];exact I.lt u (MS (L3 E)),λj u E=>?_⟩;rw[Addr.add_add];rw[L2]at E;split at E
 ·exact I.cell _ u (ou E)
 cases E
theorem Qe3 {e bys:Nat}[h:Sl P t e sz bys z]{x y1 y2:O3}{L:LN}{v:O2}{cs:LV}{H:xA}{k:IntKind}{hi:Nat}(hA:Zt L H v n sz cs)(hx:ev f x=v)(hl:ev f y1=.int k lo)(G:ev f y2=.int k' hi)
  (I:lo<=hi) (J:hi<=n):∃v',Zt L H v' (hi - lo) sz ((cs.drop (lo*sz)).take ((hi - lo)*sz))/\∀w,(execOp (ev f) ⟨d,.slice t x (some y1) (some y2) none,ty,pS,af,gd⟩).run P w=.ok (.value v') w:=by
 obtain⟨i,hi',_,S,_⟩:=Sl.info h;rcases hA.2.2 with⟨E,T⟩|⟨a,cap,E,U,V⟩
 ·have e1:hi=0:=oa
  have e2:lo=0:=oa
  subst e1 e2;refine⟨nS,⟨od,oa,.inl ⟨rfl,rfl⟩⟩,λw=>?_⟩;simp[execOp,hx,E,hl,G,Instr.sliceAt,Instr.slice,run_underlying h.u,Instr.sliceBounds,Instr.sliceBound,asIntOf,sizeOf,typeInfo,hi']
 subst E;refine⟨_,hA.cut I J,λw=>?_⟩;have e1:(Instr.sliceBound (.int k' hi) cap .sliceAcap).run P w=.ok hi w:=YB oa;have e2:(Instr.sliceBound (.int k lo) hi .sliceB).run P w=.ok lo w:=YB oa;simp[execOp,hx,hl,G,Instr.sliceAt,Instr.slice,run_underlying h.u,Instr.sliceBounds,e1,e2,sizeOf,typeInfo,hi',S]
theorem Qib {e bys:Nat}[h:Sl P t e sz bys z]{x y1:O3}{L:LN}{v:O2}{cs:LV}{H:xA}{k:IntKind}(hA:Zt L H v n sz cs)(hx:ev f x=v)(hl:ev f y1=.int k lo)
  (G:lo<=n):∃v',Zt L H v' (n - lo) sz (cs.drop (lo*sz))/\∀w,(execOp (ev f) ⟨d,.slice t x (some y1) none none,ty,pS,af,gd⟩).run P w=.ok (.value v') w:=by
 obtain⟨i,hi',_,J,_⟩:=Sl.info h;rcases hA.2.2 with⟨E,S⟩|⟨a,cap,E,T,U⟩
 ·have e2:lo=0:=oa
  subst e2 S;have:cs=[]:=Lt (ou hA.1);subst this;refine⟨nS,⟨od,oa,.inl ⟨rfl,rfl⟩⟩,λw=>?_⟩;simp[execOp,hx,E,hl,Instr.sliceAt,Instr.slice,run_underlying h.u,Instr.sliceBounds,Instr.sliceBound,asIntOf,sizeOf,typeInfo,hi']
 subst E;have I:=hA.cut G (Lp n);have e:(cs.drop (lo*sz)).take ((n - lo)*sz)=cs.drop (lo*sz):=Lq (by rw[Mo,hA.1,<-Nat.sub_mul];exact Lp _);rw[e]at I;refine⟨_,I,λw=>?_⟩;have e2:(Instr.sliceBound (.int k lo) n .sliceB).run P w=.ok lo w:=YB G;simp[execOp,hx,hl,Instr.sliceAt,Instr.slice,run_underlying h.u,Instr.sliceBounds,e2,sizeOf,typeInfo,hi',J]
theorem Qic {e bys:Nat}[h:Sl P t e sz bys z]{x y2:O3}{L:LN}{v:O2}{cs:LV}{H:xA}{k:IntKind}{hi:Nat}(hA:Zt L H v n sz cs)(hx:ev f x=v)(G:ev f y2=.int k hi)
  (J:hi<=n):∃v',Zt L H v' hi sz (cs.take (hi*sz))/\∀w,(execOp (ev f) ⟨d,.slice t x none (some y2) none,ty,pS,af,gd⟩).run P w=.ok (.value v') w:=by
 obtain⟨i,hi',_,S,_⟩:=Sl.info h;rcases hA.2.2 with⟨E,T⟩|⟨a,cap,E,U,V⟩
 ·have e2:hi=0:=oa
  subst e2;refine⟨nS,⟨od,oa,.inl ⟨rfl,rfl⟩⟩,λw=>?_⟩;simp[execOp,hx,E,G,Instr.sliceAt,Instr.slice,run_underlying h.u,Instr.sliceBounds,Instr.sliceBound,asIntOf,sizeOf,typeInfo,hi']
 subst E;have I:=hA.cut (Lo hi) J;simp only[Nat.zero_mul,List.drop_zero,ON]at I;refine⟨_,I,λw=>?_⟩;have e2:(Instr.sliceBound (.int k hi) cap .sliceAcap).run P w=.ok hi w:=YB oa;simp[execOp,hx,G,Instr.sliceAt,Instr.slice,run_underlying h.u,Instr.sliceBounds,e2,sizeOf,typeInfo,hi']
end
section
variable {K:Fr->O1->Prop}{C:xz}{f:Fr}{w0:O1}{pl:xt}{i0:Nat}
theorem pi {x:O3}{e bys:Nat}[Sl P t e sz bys z]{L:LN}{cs:LV}{v:O2}{H:xA}{k:IntKind}
  (E:QT ops i0=⟨d,.indexAddr t x y,ty,pS,af,gd⟩) (h:Zt L H v n sz cs) (G:ev f x=v) (I:ev f y=.int k i) (hi:i<n)
  (hK:∀a,At L H a ((cs.drop (i*sz)).take sz)->XP P ops C K pl (QP f d (.pointer (some a))) w) (J:Z8 ops f (QT ops i0)=true:=by rfl):
  XP P ops C K ((i0,true)::pl) f w:=by
 obtain⟨a,cap,S,T⟩:=h.at hi;refine Lg.p (λw'=>by rw[E];exact XS (G.D S) I oa oa) ?_ J;rw[E];refine hK _ ?_;simpa using T
theorem pii {x:O3}{e bys:Nat}[Sl P t e 1 bys z]{L:LN}{li:LI}{v:O2}{H:xA}{k:IntKind}
  (E:QT ops i0=⟨d,.indexAddr t x y,ty,pS,af,gd⟩) (h:Qu L H v li) (G:ev f x=v) (I:ev f y=.int k i) (hi:i<li.length)
  (hK:∀a,At L H a [sS li[i]]->XP P ops C K pl (QP f d (.pointer (some a))) w) (J:Z8 ops f (QT ops i0)=true:=by rfl):
  XP P ops C K ((i0,true)::pl) f w:=by
 obtain⟨a,cap,S,T⟩:=Qu.at h hi;refine Lg.p (λw'=>by rw[E];exact XS (G.D S) I oa oa) ?_ J;rw[E];refine hK _ ?_;simpa using T
end
abbrev Ed:=Int×Int×Int
def Qp (e:Ed):LV:=[sS e.1,sS e.2.1,sS e.2.2]
abbrev UP (L:LN)(H:xA)(v:O2)(es:List Ed):Prop:=Zt L H v es.length 3 (es.flatMap Qp)
theorem Jf {α:Type}(g:α->LV)(sz:Nat)(E:∀x,(g x).length=sz):∀(l:List α) (i:Nat) (h:i<l.length),((l.flatMap g).drop (i*sz)).take sz=g l[i]
 | x::l,0,_=>by simp[E]
 | x::l,i+1,h=>by
  have:=Jf g sz E l i (ou h);simp only[oT,List.getElem_cons_succ];rw[<-this,My,NH,MV,List.drop_append,E];simp[Nat.add_sub_cancel_left,List.drop_eq_nil_of_le,E]
theorem Vd (g:α->LV)(sz:Nat)(E:∀x,(g x).length=sz)(l:List α):(l.flatMap g).length=l.length*sz:=by
 induction l with
 | nil=>simp
 | cons x l ih=>simp[ih,E,Ou,Nat.add_comm]
theorem JQ (e:Ed):(Qp e).length=3:=rfl
structure Qz where
 al:LI
 st:Int
 mr:LI
 ed:List Ed
structure Zp (L:LN)(H:xA)(va vm ve:O2)(a:Qz):Prop where
 al:Qu L H va a.al
 mr:Qu L H vm a.mr
 ed:UP L H ve a.ed
def Qsk (L:LN)(H:xA)(v:O2)(a:Qz):Prop:=∃va vm ve,v=.agg #[va,sS a.st,vm,ve]/\Zp L H va vm ve a
theorem Zp.I {L:LN}{w w':O1}{va vm ve:O2}{a:Qz}(h:Zp L ↑w va vm ve a)(E:sW w w'):Zp L ↑w' va vm ve a:=⟨h.al.I E,h.mr.I E,h.ed.I E⟩
theorem Zp.st {L:LN}{w w':O1}{va vm ve:O2}{a:Qz}(h:Zp L ↑w va vm ve a)(E:O5 L w w'):Zp L ↑w' va vm ve a:=⟨h.al.st E,h.mr.st E,h.ed.st E⟩
theorem Zp.up {L L':LN}{H:xA}{va vm ve:O2}{a:Qz}(h:Zp L H va vm ve a)(E:∀b∈L',b∈L\/H.size<=b):Zp L' H va vm ve a:=⟨h.al.up E,h.mr.up E,h.ed.up E⟩
section
variable {f:Fr}
class Ik (P:O4)(t:Nat)(k:outParam IntKind):Prop where
 u:P.underlying t=some (.int k):=by first|kernel_rfl|decide|rfl|exact sX (by kernel_rfl)
theorem Yh {k:IntKind}[h:Ik P t k][h':Ik P E k']{x:O3}{n:Int}{G:IntKind}(hx:ev f x=.int G n)(I:inK k' n):
  (execOp (ev f) ⟨d,.convert t E x,ty,pS,af,gd⟩).run P w=.ok (.value (.int k' n)) w:=by
 simp[execOp,hx,convert,run_underlying h.u,run_underlying h'.u,Conv.intToInt,XQ I]
theorem Qqg {x:O3}{a b:Int}{k:IntKind}{ts:Array Nat}(hx:ev f x=.int k a)(E:ev f y=.int k b):
  (execOp (ev f) ⟨d,.call ⟨.builtin .max,#[x,y],ts⟩,ty,pS,af,gd⟩).run P w=.ok (.value (.int k (max a b))) w:=by
 simp[execOp,resolve,invoke,builtin,Builtin.max_,Builtin.max2,hx,E];split <;> omega
class Bk (P:O4)(t:Nat):Prop where
 u:P.underlying t=some .bool
class St (P:O4)(t:Nat):Prop where
 u:P.underlying t=some .string
end
theorem QY {l:List α}{k:Nat}(h:k<l.length):l.drop k=l[k]::l.drop (k+1):=LZ h
theorem UP.at {L:LN}{H:xA}{v:O2}{es:List Ed}(h:UP L H v es){i:Nat}(hi:i<es.length):
  ∃a cap,v=.slice (some a) es.length cap/\At L H (a.add (i*3)) (Qp es[i]):=by
 obtain⟨a,cap,G,E⟩:=Zt.at h hi;rw[Jf Qp 3 JQ es i hi]at E;exact⟨a,cap,G,E⟩
section
variable {K:Fr->O1->Prop}{f:Fr}{l:xD}{C:xz}{pl:xt}{i0:Nat}
theorem xie {x:O3}{e bys:Nat}[Sl P t e 3 bys z]{L:LN}{es:List Ed}{v:O2}{k:IntKind}
  (h:UP L ↑w v es) (E:ev f x=v) (G:ev f y=.int k i) (hi:i<es.length)
  (hK:∀a,At L ↑w a (Qp es[i])->XL P ops K l (QP f d (.pointer (some a))) w) (I:Z8 ops f ⟨d,.indexAddr t x y,ty,pS,af,gd⟩=true:=by rfl):
  XL P ops K (⟨d,.indexAddr t x y,ty,pS,af,gd⟩::l) f w:=by
 obtain⟨a,cap,J,S⟩:=UP.at h hi;refine xl I (xv (XS (E.D J) G oa oa) (hK _ ?_));simpa using S
theorem pie {x:O3}{e bys:Nat}[Sl P t e 3 bys z]{L:LN}{es:List Ed}{v:O2}{H:xA}{k:IntKind}
  (E:QT ops i0=⟨d,.indexAddr t x y,ty,pS,af,gd⟩) (h:UP L H v es) (G:ev f x=v) (I:ev f y=.int k i) (hi:i<es.length)
  (hK:∀a,At L H a (Qp es[i])->XP P ops C K pl (QP f d (.pointer (some a))) w) (J:Z8 ops f (QT ops i0)=true:=by rfl):
  XP P ops C K ((i0,true)::pl) f w:=by
 obtain⟨a,cap,S,T⟩:=UP.at h hi;refine Lg.p (λw'=>by rw[E];exact XS (G.D S) I oa oa) ?_ J;rw[E];refine hK _ ?_;simpa using T
end
section
variable {f:Fr}
theorem Qb0 {x:O3}{k:IntKind}{a:Int}(hx:ev f x=.int k a)(G:ev f y=.int k' n)(I:n<=k.bits):
  (execOp (ev f) ⟨d,.binOp .shr t x y E,ty,pS,af,gd⟩).run P w=.ok (.value (.int k (a / 2 ^ n))) w:=by
 refine J7 hx G ?_;have J:¬((n:Int)<0):=oa
 simp only[binOp,Op.shift,J,if_false,Oy,Nat.min_eq_left I,Sem.run_pure];rw[Int.fdiv_eq_ediv_of_nonneg _ (Int.le_of_lt (Int.pow_pos og))]
class S3 (P:O4)(t:Nat):Prop where
 u:∃f0 f1 f2,P.underlying t=some (.struct #[f0,f1,f2])/\f0.name ≠ "_" /\ f1.name ≠ "_" /\ f2.name ≠ "_" /\ f0.offset=0/\f1.offset=1/\f2.offset=2 /\
  P.underlying f0.type=some (.int .i64)/\P.underlying f1.type=some (.int .i64)/\P.underlying f2.type=some (.int .i64)
 s:P.stoodInHeld t=false
 g:P.eqGuardType P.depth t=false
end
theorem O5.Q {L:LN}{w0:O1}{b:Nat}(h:O5 L w0 w)(k:O5 [b] w w')(hb:↑w0<=b):O5 L w0 w':=h.O k (λc E=>.inr (by simp at E;omega))
section
variable {K:Fr->O1->Prop}{f:Fr}
theorem QlD {e bys:Nat}[h:Sl P t e sz bys z]{x:O3}{a:Option Addr}{c:Nat}(hx:ev f x=.slice a n c)(G:ev f y=nS):
  (execOp (ev f) ⟨d,.binOp .eql t x y E,ty,pS,af,gd⟩).run P w=.ok (.value (.bool a.isNone)) w:=by
 have I:(eqGuard .eql t x y (.slice a n c) (nS)).run P w=.ok () w:=by simp[eqGuard]
 have key:∀m,(Op.equalIn (m+1) t (.slice a n c) (nS)).run P w=.ok a.isNone w:=by
  intro m;unfold Op.equalIn;cases a <;> simp[run_underlying h.u]
 have J:(Op.equal t (.slice a n c) (nS)).run P w=.ok a.isNone w:=key 9999;simp only[execOp,hx,G,Sem.run_bind,I,Result.andThen_ok,binOp,J,Sem.run_pure]
theorem QdP {e bys:Nat}[h:Sl P t e sz bys z]
  (hK:∀b w',sW w w'->↑w<=b->QL ↑w' b e []->K (QP f d (sL b 0 0)) w'):XO P ⟨d,.buildSlice t 0 #[],ty,pS,af,gd⟩ f w K:=by
 obtain⟨ie,E,I,J,_⟩:=Sl.info h;have G:(execOp (ev f) ⟨d,.buildSlice t 0 #[],ty,pS,af,gd⟩).run P w=.ok (.value (.slice (some ⟨↑w,0,none⟩) 0 0)) (w.alloc (.cells #[] e)):=by
  simp[execOp,Instr.buildSlice,run_underlying h.u,sizeOf,typeInfo,E,Instr.fill,newRow];have e0:Array.map (λ_=>(default:O2)) (Array.range 0)=#[]:=by apply Array.ext';simp
  rw[e0]
 exact xv G (hK _ _ (O5.alloc w _) (Lp _) (Vg w _))
end
abbrev Qi (e base:Nat)(w:O1)(v:O2)(l:LI):Prop:=w.ownsRow base e 1 v l.length (l.map (.int .i64))
theorem Qi.ints {e:Nat}{v:O2}{l:LI}{L:LN}(h:Qi e base w v l)(E:l.length<=1099511627776)(G:∀b∈L,b<base):Qu L ↑w v l :=
 QO h E (λb hb I=>oq (Qj h b hb).1 (G b I))
theorem Uj (l:LI):∀u∈l.map (Value.int .i64),u.oneCell'=true:=by
 intro u E;obtain⟨n,_,rfl⟩:=Ly.1 E;rfl
section
variable {P:O4}{ops:xD}{K:Fr->O1->Prop}{f:Fr}{w:O1}{d:xE}{ty:Nat}{pS:String}{af:xC}{gd:xq}{l:xD}{C:xz}{pl:xt}{i0:Nat}
 {t e sz bys:Nat} {z:O2} {x y1 y2:O3} {L:LN} {v:O2} {n:Nat} {cs:LV} {H:xA} {k k':IntKind} {lo hi:Nat}
theorem Qok [h:Sl P t e sz bys z](E:QT ops i0=⟨d,.slice t x (some y1) none none,ty,pS,af,gd⟩)(hA:Zt L H v n sz cs)(hx:ev f x=v)(hl:ev f y1=.int k lo)(G:lo<=n)(hK:∀v',Zt L H v' (n - lo) sz (cs.drop (lo*sz))->XP P ops C K pl (QP f d v') w)
  (I:Z8 ops f (QT ops i0)=true:=by rfl):XP P ops C K ((i0,true)::pl) f w:=by
 obtain⟨v',J,S⟩:=Qib (P:=P) (d:=d) (ty:=ty) (pS:=pS) (af:=af) (gd:=gd) (t:=t) hA hx hl G;exact Lg.p (λw'=>by rw[E];exact S w') (by rw[E];exact hK v' J) I
theorem Qrz [h:Sl P t e sz bys z](hA:Zt L H v n sz cs)(hx:ev f x=v)(hl:ev f y1=.int k lo)(E:ev f y2=.int k' hi)(G:lo<=hi)(I:hi<=n)(hK:∀v',Zt L H v' (hi - lo) sz ((cs.drop (lo*sz)).take ((hi - lo)*sz))->XL P ops K l (QP f d v') w)
  (J:Z8 ops f ⟨d,.slice t x (some y1) (some y2) none,ty,pS,af,gd⟩=true:=by rfl):XL P ops K (⟨d,.slice t x (some y1) (some y2) none,ty,pS,af,gd⟩::l) f w:=by
 obtain⟨v',S,T⟩:=Qe3 (P:=P) (d:=d) (ty:=ty) (pS:=pS) (af:=af) (gd:=gd) (t:=t) hA hx hl E G I;exact xl J (xv (T w) (hK v' S))
theorem QnY [h:Sl P t e sz bys z](hA:Zt L H v n sz cs)(hx:ev f x=v)(E:ev f y2=.int k hi)(G:hi<=n)(hK:∀v',Zt L H v' hi sz (cs.take (hi*sz))->XL P ops K l (QP f d v') w)
  (I:Z8 ops f ⟨d,.slice t x none (some y2) none,ty,pS,af,gd⟩=true:=by rfl):XL P ops K (⟨d,.slice t x none (some y2) none,ty,pS,af,gd⟩::l) f w:=by
 obtain⟨v',J,S⟩:=Qic (P:=P) (d:=d) (ty:=ty) (pS:=pS) (af:=af) (gd:=gd) (t:=t) hA hx E G;exact xl I (xv (S w) (hK v' J))
end
theorem Qu.drop {L:LN}{H:xA}{v:O2}{l:LI}{lo:Nat}(h:Zt L H v (l.length - lo) 1 ((l.map (Value.int .i64)).drop (lo*1))):Qu L H v (l.drop lo):=by
 rw[OQ,<-List.map_drop]at h;have e:(l.drop lo).length=l.length - lo:=Mo;unfold Qu;rw[e];exact h
theorem Qi.snoc {e:Nat}{v:O2}{l:LI}{n:Int}(h:w.ownsRow base e 1 v (l.length+1) (l.map (Value.int .i64)++[sS n])):Qi e base w v (l++[n]):=by
 unfold Qi;rw[Lc,Lv];exact h
def Dj (u v:O2):Prop:=∀b∈ob u,b∉ob v
theorem Dj.symm {u v:O2}(h:Dj u v):Dj v u:=λb hb E=>h b E hb
theorem Dj.nil (v:O2):Dj (nS) v:=λb hb=>by simp[ob]at hb
theorem Dj.nil' (v:O2):Dj v (nS):=(Dj.nil v).symm
theorem Dj.grow {u v:O2}(h:Dj u v)(G:∀b∈ob v',b∈ob v\/N<=b)(I:∀b∈ob u,b<N):Dj u v' :=
 λb hb J=>by rcases G b J with E|E;exact h b hb E;have:=I b hb;omega
theorem QU {e:Nat}{v:O2}{cs:LV}(h:w.ownsRow base e sz v n cs):∀b∈ob v,b<w.heap.size:=λb hb=>(Qj h b hb).2
theorem QK {e:Nat}{v:O2}{cs:LV}(h:w.ownsRow base e sz v n cs){b:Nat}(hb:b<base):b∉ob v:=λE=>oo (Qj h b E).1
abbrev Yd (e base:Nat)(w:O1)(v:O2)(l:List Ed):Prop:=w.ownsRow base e 3 v l.length (l.flatMap Qp)
theorem Yd.snoc {e:Nat}{v:O2}{l:List Ed}{n:Ed}(h:w.ownsRow base e 3 v (l.length+1) (l.flatMap Qp++Qp n)):Yd e base w v (l++[n]):=by
 unfold Yd;rw[Lc,LD];simpa using h
theorem Yd.eds {e:Nat}{v:O2}{l:List Ed}{L:LN}(h:Yd e base w v l)(E:l.length<=1099511627776)(G:∀b∈L,b<base):UP L ↑w v l :=
 QO h E (λb hb I=>oq (Qj h b hb).1 (G b I))
def YT (N:Nat)(H:xA)(v:O2)(a:Qz):Prop:=∃va vm ve,v=.agg #[va,sS a.st,vm,ve]/\∀L:LN,(∀b∈L,b<N)->Zp L H va vm ve a
theorem YT.v {N:Nat}{H:xA}{v:O2}{a:Qz}(h:YT N H v a){L:LN}(E:∀b∈L,b<N):Qsk L H v a:=let⟨va,vm,ve,G,I⟩:=h;⟨va,vm,ve,G,I L E⟩
theorem YT.I {N:Nat}{w w':O1}{v:O2}{a:Qz}(h:YT N ↑w v a)(E:sW w w'):YT N ↑w' v a:=let⟨va,vm,ve,G,I⟩:=h;⟨va,vm,ve,G,λL J=>(I L J).I E⟩
theorem YT.S {H:xA}{v:O2}{a:Qz}(h:YT N H v a)(E:M<=N):YT M H v a:=let⟨va,vm,ve,G,I⟩:=h;⟨va,vm,ve,G,λL J=>I L (λb hb=>LR (J b hb) E)⟩
section
variable {K:Fr->O1->Prop}{f:Fr}
theorem zh [XN P t]{x:O3}{b:Nat}{l:LI}(h:QL ↑w b T (l.map (.int .i64)))(hx:ev f x=.pointer (some ⟨b,0+i*1,none⟩))(hi:i<l.length):
  (execOp (ev f) ⟨d,.load t x,ty,pS,af,gd⟩).run P w=.ok (.value (sS l[i])) w:=Ql h hx (by simp[hi])
theorem Ka [h1:XN P t]{x:O3}{b:Nat}{l:LI}{u:Int}(E:QL ↑w b T (l.map (.int .i64)))(hx:ev f x=.pointer (some ⟨b,0+i*1,none⟩))(G:ev f y=sS u)(hi:i<l.length)
  (hK:∀w',O5 [b] w w'->QL ↑w' b T ((l.set i u).map (.int .i64))->K (QP f d undef) w'):XO P ⟨d,.store t x y,ty,pS,af,gd⟩ f w K:=by
 refine Qw E hx G (ou hi) rfl λw' I J=>hK w' I ?_;rw[Ny];simpa using J
end
theorem QbY (n:Nat)(u:O2):(oG n [u]).flatten=oG n u:=by
 induction n with
 | zero=>rfl
 | succ n ih=>simp[List.replicate_succ,ih]
section
variable {K:Fr->O1->Prop}{f:Fr}{l:xD}
theorem Q2 [Ag P t sz]{E G:O3}{b:Nat}{cs:LV}(us:LV)(I:QL ↑w b T cs)(J:Zv us)(hK:∀w',O5 [b] w w'->QL ↑w' b T us->XL P ops K l (QP f d undef) w')(hx:ev f E=sP b:=by rfl)(S:ev f G=sT us:=by rfl)(hl:us.length=sz:=by rfl)(U:cs.length=sz:=by rfl)(V:Z8 ops f ⟨d,.store t E G,ty,pS,af,gd⟩=true:=by rfl):XL P ops K (⟨d,.store t E G,ty,pS,af,gd⟩::l) f w:=xl V (Zj I hx S hl U J hK)
theorem QN [Ze P t z](us:LV)(hK:∀b w',sW w w'->↑w<=b->QL ↑w' b t us->XL P ops K l (QP f d (sP b)) w')(E:z.cells=us.toArray:=by rfl)(G:Z8 ops f ⟨d,.alloc t,ty,pS,af,gd⟩=true:=by rfl):XL P ops K (⟨d,.alloc t,ty,pS,af,gd⟩::l) f w:=xl G (YU E hK)
theorem Jl {ad b:Nat}{us:LV}[Ag P t sz](E:QL ↑w b T us)(G:f ad=sP b:=by rfl)(I:us.length=sz:=by rfl):∃a,f ad=.pointer (some a)/\(loadVar t a).run P w=.ok (sT us) w:=⟨_,G,ZF I (E.at (L:=[]) od).cells⟩
theorem Uk {K:Fr->O1->Prop}[Ag P t sz]{E G:O3}{b:Nat}{cs:LV}(us:LV)(I:QL ↑w b T cs)(J:Zv us)(hK:∀w',O5 [b] w w'->QL ↑w' b T us->K (QP f d undef) w')(hx:ev f E=sP b:=by rfl)(S:ev f G=sT us:=by rfl)(hl:us.length=sz:=by rfl)(U:cs.length=sz:=by rfl):XO P ⟨d,.store t E G,ty,pS,af,gd⟩ f w K:=Zj I hx S hl U J hK
end
abbrev YA (l:LI):Prop:=l.Pairwise (·<·)
def z8:Option Int->Int->Bool
 | none,_=>false
 | some b,a=>decide (a<=b)
def J1 (n:Int):Option Int->LI->Int
 | _,[]=>0
 | pr,a::l=>if a<0\/n<=a then 2 else if z8 pr a=true then 5 else J1 n (some a) l
def pv {α:Type}(l:List α)(k:Nat):Option α:=if k=0 then none else l[k - 1]?
theorem Kw {l:List α}{k:Nat}(h:k<l.length):pv l (k+1)=some l[k]:=by simp[pv,h]
def edO:Option Ed->Ed->Bool
 | none,_=>false
 | some y,a=>decide (a.1<y.1\/(a.1=y.1/\a.2.1<=y.2.1))
def ckE (al:LI)(st:Int):Option Ed->List Ed->Int
 | _,[]=>0
 | pr,a::l=>if a.1<0\/st<=a.1\/a.2.2<0\/st<=a.2.2 then 2 else if a.2.1∉al then 9 else if edO pr a=true then 5 else ckE al st (some a) l
def X4 (a:Qz):Int :=
 if J1 32 none a.al≠0 then J1 32 none a.al else if a.st<0 then 2 else if 4096<a.st then 3 else if J1 a.st none a.mr≠0 then J1 a.st none a.mr else ckE a.al a.st none a.ed
def Jd:LI->LI->Bool
 | [],_=>false
 | _::_,[]=>true
 | a::_,b::_=>decide (a<=b)
def tl (c:Bool)(l:LI):LI:=bif c then l.tail else l
def hx (a b:LI):Int:=bif Jd b a then b.headD 0 else a.headD 0
def jb (keep:Bool->Bool->Bool):Nat->LI->LI->LI
 | 0,_,_=>[]
 | n+1,a,b=>if a=[]/\b=[]then[]else(bif keep (Jd a b) (Jd b a) then[hx a b]else[])++jb keep n (tl (Jd a b) a) (tl (Jd b a) b)
def mrg (keep:Bool->Bool->Bool)(a b:LI):LI:=jb keep (a.length+b.length) a b
theorem ye {a b:LI}(h:¬(a=[]/\b=[])):(tl (Jd a b) a).length+(tl (Jd b a) b).length<a.length+b.length:=by
 cases a with
 | nil=>cases b with
  | nil=>simp at h
  | cons y b=>simp[Jd,tl]
 | cons x a=>cases b with
  | nil=>simp[Jd,tl]
  | cons y b =>
   simp only[Jd,tl];by_cases E:x<=y <;> by_cases G:y<=x <;> simp[E,G] <;> omega
theorem jI (keep:Bool->Bool->Bool):∀(n:Nat) (a b:LI),a.length+b.length<=n->jb keep n a b=mrg keep a b:=by
 have key:∀(n m:Nat) (a b:LI),a.length+b.length<=n->a.length+b.length<=m->jb keep n a b=jb keep m a b:=by
  intro n;induction n with
  | zero =>
   intro m a b E _;have G:a=[]:=Lt oa;have hb:b=[]:=Lt oa;subst G hb;cases m <;> simp[jb]
  | succ n ih =>
   intro m a b E I;by_cases h:a=[]/\b=[]
   ·obtain⟨rfl,rfl⟩:=h;cases m <;> simp[jb]
   have J:=ye h;cases m with
   | zero=>omega
   | succ m=>rw[jb,jb,OT h,OT h,ih m _ _ oa oa]
 intro n a b h;exact key n _ a b h (Lp _)
theorem Kz (keep:Bool->Bool->Bool):mrg keep [] []=[]:=rfl
theorem Kg (keep:Bool->Bool->Bool){a b:LI}(h:¬(a=[]/\b=[])):
  mrg keep a b=(bif keep (Jd a b) (Jd b a) then[hx a b]else[])++mrg keep (tl (Jd a b) a) (tl (Jd b a) b):=by
 have E:=ye h;rw[<-jI keep (a.length+b.length - 1+1) a b oa,jb,OT h,jI keep _ _ _ oa]
theorem QdR (keep:Bool->Bool->Bool):∀(n:Nat) (a b:LI),a.length+b.length<=n->(mrg keep a b).length<=a.length+b.length:=by
 intro n;induction n with
 | zero =>
  intro a b h;have E:a=[]:=Lt oa;have hb:b=[]:=Lt oa;subst E hb;simp[Kz]
 | succ n ih =>
  intro a b G;by_cases h:a=[]/\b=[]
  ·obtain⟨rfl,rfl⟩:=h;simp[Kz]
  have I:=ye h;rw[Kg keep h];have:=ih (tl (Jd a b) a) (tl (Jd b a) b) oa;cases keep (Jd a b) (Jd b a) <;> simp <;> omega
theorem zl (keep:Bool->Bool->Bool)(a b:LI):(mrg keep a b).length<=a.length+b.length:=QdR keep _ a b (Lp _)
theorem yw (q:α->Bool)(es:List α)(lo hi:Nat)(S:lo<=hi)(T:hi<=es.length)(I:∀m (E:m<es.length),m<lo->q es[m]=false)(hb:∀m (E:m<es.length),lo<=m->m<hi->q es[m]=true)
  (J:∀m (E:m<es.length),hi<=m->q es[m]=false):(es.drop lo).take (hi - lo)=es.filter q:=by
 have e1:es=es.take lo++((es.drop lo).take (hi - lo)++es.drop hi):=by
  conv=>lhs;rw[<-MA lo es]
  congr 1;conv=>lhs;rw[<-MA (hi - lo) (es.drop lo)]
  rw[List.drop_drop];congr 2;omega
 have f1:(es.take lo).filter q=[]:=by
  rw[MH];intro a G;obtain⟨m,E,rfl⟩:=LP G;rw[LC]at E;rw[M6,I m oa oa];simp
 have f3:(es.drop hi).filter q=[]:=by
  rw[MH];intro a G;obtain⟨m,E,rfl⟩:=LP G;rw[Mo]at E;rw[List.getElem_drop,J (hi+m) oa oa];simp
 have f2:((es.drop lo).take (hi - lo)).filter q=(es.drop lo).take (hi - lo):=by
  rw[NA];intro a G;obtain⟨m,E,rfl⟩:=LP G;rw[LC,Mo]at E;rw[M6,List.getElem_drop];exact hb (lo+m) oa oa oa
 conv=>rhs;rw[e1]
 rw[LT,LT,f1,f2,f3];simp
def QQ (es:List Ed)(s:Int):List Ed:=es.filter λe=>decide (e.1=s)
structure Q0 (a:Qz):Prop where
 al:∀e∈a.al,0<=e/\e<32
 ali:YA a.al
 st0:0<=a.st
 st1:a.st<=4096
 mr:∀s∈a.mr,0<=s/\s<a.st
 mri:YA a.mr
 ed:∀e∈a.ed,0<=e.1/\e.1<a.st/\e.2.1∈a.al/\0<=e.2.2/\e.2.2<a.st
 edi:a.ed.Pairwise λx y=>x.1<y.1\/(x.1=y.1/\x.2.1<y.2.1)
theorem Xh (n:Int):∀(l:LI) (pr:Option Int),J1 n pr l=0↔(∀x∈l,0<=x/\x<n)/\YA l/\∀y,pr=some y->∀x∈l,y<x
 | [],pr=>by simp[J1]
 | a::l,pr=>by
  rw[J1];by_cases T:a<0\/n<=a
  ·rw[OU T];simp only[Om];constructor
   ·intro h;cases h
   rintro⟨⟨h,_⟩,_⟩;omega
  rw[OT T];by_cases E:z8 pr a=true
  ·rw[OU E];constructor
   ·intro h;cases h
   rintro⟨_,_,h⟩;cases pr with
   | none=>simp[z8]at E
   | some y=>simp[z8]at E;have:=h y O a Lm;omega
  rw[OT E,(Xh n l (some a))];simp only[Om,OB];constructor
  ·rintro⟨I,J,G⟩;refine⟨⟨oa,I⟩,⟨λb hb=>G a O b hb,J⟩,?_⟩;rintro y rfl;simp[z8]at E;exact⟨E,λz S=>oo (G a O z S)⟩
  rintro⟨⟨_,I⟩,⟨J,G⟩,_⟩;exact⟨I,G,λy U z S=>by cases U;exact J z S⟩
theorem QcP (al:LI)(st:Int):∀(l:List Ed) (pr:Option Ed),ckE al st pr l=0↔(∀e∈l,0<=e.1/\e.1<st/\e.2.1∈al/\0<=e.2.2/\e.2.2<st)/\(l.Pairwise λx y=>x.1<y.1\/(x.1=y.1/\x.2.1<y.2.1)) /\
  ∀y,pr=some y->∀e∈l,y.1<e.1\/(y.1=e.1/\y.2.1<e.2.1)
 | [],pr=>by simp[ckE]
 | a::l,pr=>by
  rw[ckE];by_cases U:a.1<0\/st<=a.1\/a.2.2<0\/st<=a.2.2
  ·rw[OU U];simp only[Om];constructor
   ·intro h;cases h
   rintro⟨⟨h,_⟩,_⟩;omega
  rw[OT U];by_cases G:a.2.1∉al
  ·rw[OU G];constructor
   ·intro h;cases h
   rintro⟨h,_⟩;exact OW (h a Lm).2.2.1 G
  rw[OT G];by_cases E:edO pr a=true
  ·rw[OU E];constructor
   ·intro h;cases h
   rintro⟨_,_,h⟩;cases pr with
   | none=>simp[edO]at E
   | some y=>simp[edO]at E;have:=h y O a Lm;omega
  rw[OT E,(QcP al st l (some a))];simp only[Om,OB];have V:a.2.1∈al:=Ls.1 G;constructor
  ·rintro⟨J,S,I⟩;refine⟨⟨⟨oa,oa,V,oa,oa⟩,J⟩,⟨λb hb=>I a O b hb,S⟩,?_⟩;rintro y rfl;simp[edO]at E;have Y:y.1<a.1\/y.1=a.1/\y.2.1<a.2.1:=oa
   exact⟨Y,λz T=>oo (I a O z T)⟩
  rintro⟨⟨_,J⟩,⟨S,I⟩,_⟩;exact⟨J,I,λy hy z T=>by cases hy;exact S z T⟩
theorem ZC (a:Qz):X4 a=0↔Q0 a:=by
 unfold X4;by_cases E:J1 32 none a.al≠0
 ·rw[OU E];exact⟨λh=>OW h E,λh=>OW ((Xh 32 a.al none).2 ⟨h.al,h.ali,λ_ h=>by cases h⟩) E⟩
 rw[OT E];have I:=(Xh 32 a.al none).1 (Ls.1 E);by_cases J:a.st<0
 ·rw[OU J];exact⟨λh=>(by cases h),λh=>(oo h.st0)⟩
 rw[OT J];by_cases S:4096<a.st
 ·rw[OU S];exact⟨λh=>(by cases h),λh=>(oo h.st1)⟩
 rw[OT S];by_cases G:J1 a.st none a.mr≠0
 ·rw[OU G];exact⟨λh=>OW h G,λh=>OW ((Xh a.st a.mr none).2 ⟨h.mr,h.mri,λ_ h=>by cases h⟩) G⟩
 rw[OT G,QcP];have T:=(Xh a.st a.mr none).1 (Ls.1 G);exact⟨λh=>⟨I.1,I.2.1,oa,oa,T.1,T.2.1,h.1,h.2.1⟩,λh=>⟨h.ed,h.edi,λ_ h=>by cases h⟩⟩
theorem XH:∀(l:LI) (a n:Int),YA l->(∀x∈l,a<=x/\x<n)->(l.length:Int)<=max 0 (n - a)
 | [],a,n,_,_=>by simp;omega
 | x::l,a,n,E,G=>by
  simp only[OB,Om]at E G;have:=XH l (x+1) n E.2 (λy I=>⟨oo (E.1 y I),(G.2 y I).2⟩);simp only[oQ];omega
theorem Q0.al_le {a:Qz}(h:Q0 a):a.al.length<=32:=by have:=XH a.al 0 32 h.ali h.al;omega
theorem Q0.mr_le {a:Qz}(h:Q0 a):a.mr.length<=4096:=by have:=XH a.mr 0 a.st h.mri h.mr;have:=h.st1;omega
theorem Q0.eds {a:Qz}(h:Q0 a):a.ed.Pairwise λx y=>x.1<=y.1:=h.edi.imp λh=>oa
structure Cs where
 ord:LI
 num:LI
 mk':LI
 ed:List Ed
def Z9 (l:LI)(k:Int):Int:=l.getD k.toNat 0
def Zx (i:Nat)(c:Cs)(e:Ed):Cs :=
 if Z9 c.num e.2.2<0 then⟨c.ord++[e.2.2],c.num.set e.2.2.toNat c.ord.length,c.mk',c.ed++[((i:Int),e.2.1,(c.ord.length:Int))]⟩
 else⟨c.ord,c.num,c.mk',c.ed++[((i:Int),e.2.1,Z9 c.num e.2.2)]⟩
def Ym (a:Qz)(i:Nat)(c:Cs):Cs:=if Z9 c.ord i∈a.mr then⟨c.ord,c.num,c.mk'++[(i:Int)],c.ed⟩else c
def qS (a:Qz)(i:Nat)(c:Cs):Cs:=(QQ a.ed (Z9 c.ord i)).foldl (Zx i) (Ym a i c)
def Xd (a:Qz):Nat->Nat->Cs->Cs
 | 0,_,c=>c
 | f+1,i,c=>if i<c.ord.length then Xd a f (i+1) (qS a i c) else c
def Z3 (a:Qz):Cs:=⟨[0],(oG a.st.toNat (-1)).set 0 0,[],[]⟩
def Xw (a:Qz):Qz:=if a.st=0 then⟨a.al,0,[],[]⟩else
 let c:=Xd a a.st.toNat 0 (Z3 a);⟨a.al,c.ord.length,c.mk',c.ed⟩
def neg (l:LI):Nat:=(l.filter (·<0)).length
theorem Un:∀(l:LI) (k:Nat) (v:Int) (h:k<l.length),l[k]<0->0<=v->neg (l.set k v)+1=neg l
 | a::l,0,v,_,E,G=>by
  have I:a<0:=E;simp[neg,I,show ¬v<0 by omega]
 | a::l,k+1,v,h,E,G=>by
  have ih:=Un l k v (ou h) E G;unfold neg at *;simp only[List.set_cons_succ,OA];split
  ·simp only[oQ];omega
  exact ih
structure V5 (st:Int)(c:Cs):Prop where
 nl:c.num.length=st.toNat
 sum:c.ord.length+neg c.num=st.toNat
 ord:∀s∈c.ord,0<=s/\s<st
 num:∀v∈c.num,v<c.ord.length
 el:c.ed.length<=1000000000
theorem V5.le {st:Int}{c:Cs}(h:V5 st c):c.ord.length<=st.toNat:=by have:=h.sum;omega
theorem Uu {l:LI}{k:Int}(h:k.toNat<l.length):Z9 l k=l[k.toNat]:=by unfold Z9;simp[oO,h]
theorem QbK {st:Int}{c:Cs}{e:Ed}(h:V5 st c)(S:0<=e.2.2)(T:e.2.2<st)(hl:c.ed.length+1<=1000000000):V5 st (Zx i c e):=by
 have I:e.2.2.toNat<c.num.length:=by rw[h.nl];omega
 unfold Zx;split
 ·rename_i J;rw[Uu I]at J;refine⟨by simp[h.nl],?_,?_,?_,ou hl⟩
  ·have:=Un c.num e.2.2.toNat c.ord.length I J oa;have:=h.sum;simp only[oM,oL];omega
  ·intro s E;simp only[oW,oF]at E;rcases E with E|rfl
   ·exact h.ord s E
   exact⟨S,T⟩
  intro v G;simp only[oM,oL];rcases Nv G with G|rfl
  ·have:=h.num v G;omega
  omega
 exact⟨h.nl,h.sum,h.ord,h.num,ou hl⟩
theorem QbM (i:Nat)(c:Cs)(e:Ed):(Zx i c e).ed.length=c.ed.length+1:=by unfold Zx;split <;> simp
theorem Qi3 {a:Qz}{st:Int}{c:Cs}(h:V5 st c):V5 st (Ym a i c):=by
 unfold Ym;split
 ·exact⟨h.nl,h.sum,h.ord,h.num,h.el⟩
 exact h
theorem ZH {es:List Ed}{e:Ed}(h:e∈QQ es s):e∈es/\e.1=s:=by unfold QQ at h;simpa using h
theorem QfT {a:Qz}(S:0<a.st):V5 a.st (Z3 a):=by
 have I:0<a.st.toNat:=oa
 refine⟨by simp[Z3],?_,?_,?_,by simp[Z3]⟩
 ·have J:0<(oG a.st.toNat (-1:Int)).length:=by simpa using I
  have T:=Un (oG a.st.toNat (-1)) 0 0 J od (Mx _);have U:neg (oG a.st.toNat (-1))=a.st.toNat:=by
   unfold neg;rw[NA.2 (by intro b hb;have:=Nz hb;subst this;rfl)];simp
  simp only[Z3,oL];omega
 ·intro s G;simp[Z3]at G;subst G;omega
 intro v E;simp only[Z3,oL]at *;rcases Nv E with E|rfl
 ·have:=Nz E;omega
 omega
theorem Qaa {a:Qz}{f:Nat}{c:Cs}(h:¬i<c.ord.length):Xd a f i c=c:=by
 cases f with
 | zero=>rfl
 | succ f=>rw[Xd,OT h]
theorem Q0.ed_le {a:Qz}(h:Q0 a):a.ed.length<=131072:=by
 have I:YA (a.ed.map λe=>e.1*32+e.2.1):=by
  refine Ma.2 (List.Pairwise.imp_of_mem ?_ h.edi);intro x y hx J U;have E:=h.al _ (h.ed x hx).2.2.1;have G:=h.al _ (h.ed y J).2.2.1;omega
 have E:=XH _ 0 131072 I (by
  intro v S;obtain⟨e,T,rfl⟩:=Ly.1 S;have G:=h.ed e T;have V:=h.al _ G.2.2.1;have:=h.st1;omega)
 simp only[Ow]at E;omega
theorem Yg (es:List Ed)(s:Int):(QQ es s).length<=es.length:=LJ _ _
section
variable {K:Fr->O1->Prop}{f:Fr}{l:xD}{C:xz}{pl:xt}{i0:Nat}
theorem O8 {g:α->LV}{x:O3}{e bys:Nat}[Sl P t e sz bys z](G:∀x,(g x).length=sz){L:LN}{es:List α}{v:O2}{k:IntKind}
  (h:Zt L ↑w v es.length sz (es.flatMap g)) (I:ev f x=v) (J:ev f y=.int k i) (hi:i<es.length)
  (hK:∀a,At L ↑w a (g es[i])->XL P ops K l (QP f d (.pointer (some a))) w) (S:Z8 ops f ⟨d,.indexAddr t x y,ty,pS,af,gd⟩=true:=by rfl):
  XL P ops K (⟨d,.indexAddr t x y,ty,pS,af,gd⟩::l) f w:=by
 obtain⟨a,cap,T,E⟩:=Zt.at h hi;rw[Jf g sz G es i hi]at E;refine xl S (xv (XS (I.D T) J oa oa) (hK _ ?_));simpa using E
theorem pig {g:α->LV}{x:O3}{e bys:Nat}[Sl P t e sz bys z](E:QT ops i0=⟨d,.indexAddr t x y,ty,pS,af,gd⟩)(I:∀x,(g x).length=sz){L:LN}{es:List α}{v:O2}{H:xA}{k:IntKind}
  (h:Zt L H v es.length sz (es.flatMap g)) (J:ev f x=v) (S:ev f y=.int k i) (hi:i<es.length)
  (hK:∀a,At L H a (g es[i])->XP P ops C K pl (QP f d (.pointer (some a))) w) (T:Z8 ops f (QT ops i0)=true:=by rfl):
  XP P ops C K ((i0,true)::pl) f w:=by
 obtain⟨a,cap,U,G⟩:=Zt.at h hi;rw[Jf g sz I es i hi]at G;refine Lg.p (λw'=>by rw[E];exact XS (J.D U) S oa oa) ?_ T;rw[E];refine hK _ ?_;simpa using G
end
theorem Zt.grow {X X' Y:LN}{v:O2}{cs:LV}(h:Zt X ↑w v n sz cs)(G:O5 Y w w')(I:∀b∈Y,b∈X)(hX:∀b∈X',b∈X\/↑w<=b):Zt X' ↑w' v n sz cs:=by
 have E:Zt (X++X') ↑w v n sz cs:=h.up (λb hb=>by
  rcases Lh.1 hb with E|E
  ·exact .inl E
  exact hX b E)
 exact(E.J G (λb hb=>Lh.2 (.inl (I b hb)))).up (λb hb=>.inl (Lh.2 (.inr hb)))
structure AV where
 va:O2
 vm:O2
 ve:O2
 a:Qz
abbrev ZB (p:AV):LV:=[p.va,sS p.a.st,p.vm,p.ve]
structure X1 (L:LN)(H:xA)(v:O2)(ps:List AV):Prop where
 arr:Zt L H v ps.length 4 (ps.flatMap ZB)
 each:∀p∈ps,Zp L H p.va p.vm p.ve p.a
theorem X1.I {L:LN}{w w':O1}{v:O2}{ps:List AV}(h:X1 L ↑w v ps)(E:sW w w'):X1 L ↑w' v ps:=⟨h.arr.I E,λp G=>(h.each p G).I E⟩
theorem X1.st {L:LN}{w w':O1}{v:O2}{ps:List AV}(h:X1 L ↑w v ps)(E:O5 L w w'):X1 L ↑w' v ps:=⟨h.arr.st E,λp G=>(h.each p G).st E⟩
theorem X1.up {L L':LN}{H:xA}{v:O2}{ps:List AV}(h:X1 L H v ps)(E:∀b∈L',b∈L\/H.size<=b):X1 L' H v ps:=⟨h.arr.up E,λp G=>(h.each p G).up E⟩
abbrev TV:=O2×LI
abbrev YI (p:TV):LV:=[p.1]
structure JI (L:LN)(H:xA)(v:O2)(ps:List TV):Prop where
 arr:Zt L H v ps.length 1 (ps.flatMap YI)
 each:∀p∈ps,Qu L H p.1 p.2
theorem JI.I {L:LN}{w w':O1}{v:O2}{ps:List TV}(h:JI L ↑w v ps)(E:sW w w'):JI L ↑w' v ps:=⟨h.arr.I E,λp G=>(h.each p G).I E⟩
theorem JI.st {L:LN}{w w':O1}{v:O2}{ps:List TV}(h:JI L ↑w v ps)(E:O5 L w w'):JI L ↑w' v ps:=⟨h.arr.st E,λp G=>(h.each p G).st E⟩
theorem JI.up {L L':LN}{H:xA}{v:O2}{ps:List TV}(h:JI L H v ps)(E:∀b∈L',b∈L\/H.size<=b):JI L' H v ps:=⟨h.arr.up E,λp G=>(h.each p G).up E⟩
def Qc7 (N:Nat)(H:xA)(v:O2)(l:List (LI)):Prop:=∃ps:List TV,ps.map (·.2)=l/\∀L:LN,(∀b∈L,b<N)->JI L H v ps
theorem Qc7.S {H:xA}{v:O2}{l:List (LI)}(h:Qc7 N H v l)(E:M<=N):Qc7 M H v l:=let⟨ps,G,I⟩:=h;⟨ps,G,λL J=>I L (λb hb=>LR (J b hb) E)⟩
abbrev q6 (e base:Nat)(w:O1)(v:O2)(ps:List TV):Prop:=w.ownsRow base e 1 v ps.length (ps.flatMap YI)
theorem q6.snoc {e:Nat}{v:O2}{ps:List TV}{p:TV}(h:w.ownsRow base e 1 v (ps.length+1) (ps.flatMap YI++[p.1])):q6 e base w v (ps++[p]):=by
 unfold q6;rw[Lc,LD];simpa using h
theorem U6 {e:Nat}{v:O2}{cs:LV}(h:w.ownsRow base e sz v n cs)(G:0<n):∃g cap,v=sL g n cap:=by
 rcases h.2 with⟨_,I⟩|⟨g,cap,cur,E,_⟩
 ·omega
 exact⟨g,cap,E⟩
section
variable {K:Fr->O1->Prop}{f:Fr}{l:xD}
theorem Qce [h1:XN P t]{x:O3}{e cap:Nat}{cs:LV}{u:O2}(h:w.ownsRow base e 1 (sL g n cap) n cs)(hx:ev f x=.pointer (some ⟨g,0+i*1,none⟩))(G:ev f y=u)(hi:i<n)(I:u.oneCell'=true)
  (hK:∀w',O5 [g] w w'->w'.ownsRow base e 1 (sL g n cap) n (cs.set i u)->K (QP f d undef) w'):XO P ⟨d,.store t x y,ty,pS,af,gd⟩ f w K:=by
 obtain⟨hl,h⟩:=h;rcases h with⟨J,_⟩|⟨g',cap',cur,e1,hb,S,T,U,E,V⟩
 ·cases J
 cases e1
 have Y:QL ↑w g e cur.toList:=by unfold QL;simpa using S
 refine Qw (j:=i) Y (by rw[hx];simp) G (by simp[E];omega) I λw' hs ha=>hK w' hs ⟨ou hl,.inr ⟨g,cap,(cur.toList.set i u).toArray,rfl,hb,ha,T,U,ou E,?_⟩⟩;rw[<-V];simp[List.take_set]
end
section
variable {f:Fr}{κ:Type}[DecidableEq κ]
theorem U1 [hm:Mp P t kt et z]{enc:κ->O2}[hk:Key P kt enc]{x:O3}{b:Nat}{m:List (κ×O2)}{k:κ}{u:O2}(h:ZU enc ↑w b m)(hx:ev f x=.map (some b))(E:ev f y=enc k)(G:xd m k=some u):
  (execOp (ev f) ⟨d,.lookup t x y true,ty,pS,af,gd⟩).run P w=.ok (.value (.tuple #[u,.bool true])) w:=by
 have:=K3 (P:=P) (t:=t) (d:=d) (ty:=ty) (pS:=pS) (af:=af) (gd:=gd) h hx E;rw[G]at this;exact this
theorem jz [hm:Mp P t kt et z]{enc:κ->O2}[hk:Key P kt enc]{x:O3}{b:Nat}{m:List (κ×O2)}{k:κ}(h:ZU enc ↑w b m)(hx:ev f x=.map (some b))(E:ev f y=enc k)(G:xd m k=none):
  (execOp (ev f) ⟨d,.lookup t x y true,ty,pS,af,gd⟩).run P w=.ok (.value (.tuple #[z,.bool false])) w:=by
 have:=K3 (P:=P) (t:=t) (d:=d) (ty:=ty) (pS:=pS) (af:=af) (gd:=gd) h hx E;rw[G]at this;exact this
end
def ckL:List Qz->Int
 | []=>0
 | a::l=>if X4 a≠0 then X4 a else ckL l
def KR (l:List Qz):Int:=if 12<l.length then 3 else ckL l
theorem UG:∀(l:List Qz),ckL l=0↔∀a∈l,Q0 a
 | []=>by simp[ckL]
 | a::l=>by
  rw[ckL];by_cases h:X4 a=0
  ·rw[OT (ou h),UG l];simp[(ZC a).1 h]
  rw[OU h];simp only[Om];exact⟨λe=>OW e h,λe=>OW ((ZC a).2 e.1) h⟩
def evs (l:List Qz):LI:=l.foldl (λacc a=>mrg (· || ·) acc a.al) []
def KM (m:List ((Int×Int)×O2))(es:List Ed):List ((Int×Int)×O2):=es.foldl (λm e=>xh m (e.1,e.2.1) (sS e.2.2)) m
def xj:List Ed->Int->Int->Option Int
 | [],_,_=>none
 | e::l,s,v=>if e.1=s/\e.2.1=v then some e.2.2 else xj l s v
theorem j0 {l:List Ed}{v:Int}(h:∀e∈l,¬(e.1=s/\e.2.1=v)):xj l s v=none:=by
 induction l with
 | nil=>rfl
 | cons e l ih =>
  rw[xj,OT (h e Lm)];exact ih λe E=>h e (Lk _ E)
theorem qn:∀(es:List Ed) (m:List ((Int×Int)×O2)) (s v:Int),(es.Pairwise λx y=>x.1<y.1\/(x.1=y.1/\x.2.1<y.2.1)) ->
  xd (KM m es) (s,v)=match xj es s v with|some t=>some (sS t)|none=>xd m (s,v)
 | [],m,s,v,_=>rfl
 | e::es,m,s,v,h=>by
  simp only[OB]at h;have ih:=qn es (xh m (e.1,e.2.1) (sS e.2.2)) s v h.2;unfold KM at *;rw[LO,ih,xj];by_cases E:e.1=s/\e.2.1=v
  ·rw[OU E,j0 (λx hx I=>oo (h.1 x hx))];simp only[Jk];rw[OU (by rw[E.1,E.2])]
  rw[OT E];cases xj es s v with
  | some t=>rfl
  | none =>
   simp only[Jk];rw[OT (λG=>E (ou G))]
def Yo (ev:Int):List Qz->LI->Option (LI)
 | a::bs,t::ts=>if ev∉a.al then(Yo ev bs ts).map (t::·) else match xj a.ed t ev with|none=>none|some u=>(Yo ev bs ts).map (u::·)
 | _,_=>some []
def Jy:List Qz->LI->Bool
 | a::bs,t::ts=>decide (t∈a.mr) && Jy bs ts
 | _,_=>true
structure Sy where
 tup:List (LI)
 mk':LI
 ed:List Ed
def syE (aa:List Qz)(i:Nat)(t:LI)(s:Sy)(v:Int):Option Sy :=
 match Yo v aa t with
 | none=>some s
 | some u=>if u∈s.tup then some ⟨s.tup,s.mk',s.ed++[((i:Int),v,(s.tup.idxOf u:Int))]⟩
  else if s.tup.length=4096 then none else some ⟨s.tup++[u],s.mk',s.ed++[((i:Int),v,(s.tup.length:Int))]⟩
def UU (aa:List Qz)(i:Nat)(t:LI):LI->Sy->Option Sy
 | [],s=>some s
 | v::vs,s=>(syE aa i t s v).bind (UU aa i t vs)
def Z7 (aa:List Qz)(i:Nat)(t:LI)(s:Sy):Sy:=if Jy aa t=true then⟨s.tup,s.mk'++[(i:Int)],s.ed⟩else s
def JF (s:Sy)(i:Nat):LI:=s.tup.getD i []
def syL (aa:List Qz):Nat->Nat->Sy->Option Sy
 | 0,_,s=>some s
 | f+1,i,s=>if i<s.tup.length then(UU aa i (JF s i) (evs aa) (Z7 aa i (JF s i) s)).bind (syL aa f (i+1)) else some s
def zD (aa:List Qz):Sy:=⟨[oG aa.length 0],[],[]⟩
def xo (aa:List Qz):Option (Qz×List (LI)):=
 if ∃a∈aa,a.st=0 then some (⟨evs aa,0,[],[]⟩,[]) else(syL aa 4096 0 (zD aa)).map λs=>(⟨evs aa,s.tup.length,s.mk',s.ed⟩,s.tup)
theorem QhO {aa:List Qz}{f:Nat}{s:Sy}(h:¬i<s.tup.length):syL aa f i s=some s:=by
 cases f with
 | zero=>rfl
 | succ f=>rw[syL,OT h]
def Vt (aa:List Qz)(t:LI):Prop:=t.length=aa.length/\∀i (h:i<t.length) (E:i<aa.length),0<=t[i]/\t[i]<aa[i].st
theorem Vt.cons {a:Qz}{aa:List Qz}{u:Int}{t:LI}(E:0<=u)(G:u<a.st)(h:Vt aa t):Vt (a::aa) (u::t):=by
 refine⟨by simp[h.1],λi I J=>?_⟩;cases i with
 | zero=>exact⟨E,G⟩
 | succ i=>exact h.2 i (ou I) (ou J)
theorem QcE {l:List Ed}{v u:Int}(h:xj l s v=some u):(s,v,u)∈l:=by
 induction l with
 | nil=>cases h
 | cons e l ih =>
  rw[xj]at h;split at h
  ·rename_i E;obtain⟨e1,e2⟩:=E;cases h
   obtain⟨a,b,c⟩:=e;subst e1 e2;exact Lm
  exact Lk _ (ih h)
theorem Xo {v:Int}:∀{aa:List Qz}{t u:LI},(∀a∈aa,Q0 a)->Vt aa t->Yo v aa t=some u->Vt aa u
 | [],t,u,_,h,E=>by
  cases t with
  | nil=>simp[Yo]at E;subst E;exact h
  | cons x t=>have:=h.1;simp at this
 | a::aa,[],u,_,h,E=>by have:=h.1;simp at this
 | a::aa,x::t,u,I,h,E=>by
  have hx:=h.2 0 od od;have J:Vt aa t:=⟨by have:=h.1;simpa using this,λi T U=>h.2 (i+1) (ou T) (ou U)⟩;have S:∀a∈aa,Q0 a:=λa V=>I a (Lk _ V);rw[Yo]at E;split at E
  ·obtain⟨Y,G,rfl⟩:=Nb.1 E;exact Vt.cons hx.1 hx.2 (Xo S J G)
  split at E
  ·cases E
  rename_i q hq;obtain⟨Y,G,rfl⟩:=Nb.1 E;have:=(I a Lm).ed _ (QcE hq);exact Vt.cons this.2.2.2.1 this.2.2.2.2 (Xo S J G)
structure qv (aa:List Qz)(s:Sy):Prop where
 v:∀t∈s.tup,Vt aa t
 le:s.tup.length<=4096
theorem jq {aa:List Qz}{t:LI}{s:Sy}(h:qv aa s):qv aa (Z7 aa i t s):=by
 unfold Z7;split
 ·exact⟨h.v,h.le⟩
 exact h
theorem QhR {aa:List Qz}{t:LI}{s I:Sy}{v:Int}(J:∀a∈aa,Q0 a)(h:qv aa s)(G:Vt aa t)(E:syE aa i t s v=some I):qv aa I:=by
 unfold syE at E;split at E
 ·cases E;exact h
 rename_i u S;split at E
 ·cases E;exact⟨h.v,h.le⟩
 split at E
 ·cases E
 cases E
 have:=h.le;refine⟨λt G=>?_,by simp;omega⟩;simp only[oW,oF]at G;rcases G with G|rfl
 ·exact h.v t G
 exact(Xo J G S)
structure V6 where
 en:LI
 dis:LI
 mk':Bool
 ps:Bool
def Qpk:V6:=⟨[],[],false,false⟩
def Qn0 (l:LI)(v:Int):LI:=mrg (· || ·) l [v]
def Qr8 (p s:Qz)(x y:Int)(c:V6)(v:Int):V6 :=
 match xj p.ed x v with
 | none=>c
 | some _=>match xj s.ed y v with
  | some _=>⟨Qn0 c.en v,c.dis,c.mk',c.ps⟩
  | none=>⟨c.en,Qn0 c.dis v,c.mk',c.ps⟩
def Qr9 (p s:Qz)(x y:Int)(c:V6):V6:=⟨c.en,c.dis,decide (y∈s.mr),c.ps || decide (x∈p.mr)⟩
def Qr7 (p s:Qz)(x y:Int)(c:V6):V6:=s.al.foldl (Qr8 p s x y) (Qr9 p s x y c)
def px (q:LI):Int:=q.getD 0 0
def py (q:LI):Int:=q.getD 1 0
def Qr6 (p s:Qz)(l:List V6)(q:LI):List V6:=l.set (py q).toNat (Qr7 p s (px q) (py q) (l.getD (py q).toNat Qpk))
def ctls (p s:Qz)(pairs:List (LI)):List V6:=pairs.foldl (Qr6 p s) (oG s.st.toNat Qpk)
def occs (n:Nat)(pairs:List (LI)):List Bool:=pairs.foldl (λo q=>o.set (py q).toNat true) (oG n false)
def meets (a b:LI):LI:=mrg (· && ·) a b
def QqR (a b:V6):Bool:=decide ((meets a.en b.dis).length+(meets b.en a.dis).length=0) && (!a.ps || !b.ps || a.mk' == b.mk')
def O6 (l:LI)(i:Nat):Int:=l.getD i 0
def Qi2 (cl:LI)(x y:Nat):LI:=cl.map λc=>if c=O6 cl y then O6 cl x else c
def lget (l:List V6)(i:Nat):V6:=l.getD i Qpk
def to0 (s:Qz)(x:Nat)(v:Int):Int:=match xj s.ed x v with|some u=>u|none=>0
def clE (s:Qz)(x y:Nat)(z:LI×Bool)(v:Int):LI×Bool :=
 if O6 z.1 (to0 s x v).toNat≠O6 z.1 (to0 s y v).toNat then(Qi2 z.1 (to0 s x v).toNat (to0 s y v).toNat,true) else z
def clY (s:Qz)(l:List V6)(x:Nat)(z:LI×Bool)(y:Nat):LI×Bool :=
 if O6 z.1 x<0\/O6 z.1 x≠O6 z.1 y then z else(meets (lget l x).en (lget l y).en).foldl (clE s x y) z
def clX (s:Qz)(l:List V6)(n:Nat)(z:LI×Bool)(x:Nat):LI×Bool:=(oN (x+1) (n - (x+1))).foldl (clY s l x) z
def pass (s:Qz)(l:List V6)(cl:LI):LI×Bool:=(oN 0 cl.length).foldl (clX s l cl.length) (cl,false)
def Qkm (s:Qz)(l:List V6):Nat->LI->LI
 | 0,cl=>cl
 | f+1,cl=>if(pass s l cl).2=true then Qkm s l f (pass s l cl).1 else(pass s l cl).1
def Qm1 (l:List V6)(cl:LI):Bool :=
 (oN 0 cl.length).all λx=>(oN 0 x).all λy=>!(decide (0<=O6 cl x/\O6 cl x=O6 cl y) && !QqR (lget l x) (lget l y))
def QrB (s:Qz)(l:List V6)(cl:LI)(x y:Nat):LI :=
 if O6 cl x<0\/O6 cl y<0\/O6 cl x=O6 cl y then cl else
  let d:=Qkm s l (cl.length*cl.length+1) (Qi2 cl x y)
  if Qm1 l d=true then d else cl
def QrA (s:Qz)(l:List V6)(n:Nat)(cl:LI)(x:Nat):LI:=(oN (x+1) (n - (x+1))).foldl (λc y=>QrB s l c x y) cl
def Qsb (o:List Bool):LI:=(oN 0 o.length).map λi=>if o.getD i false=true then(i:Int) else -1
def Qsa (s:Qz)(l:List V6)(cl:LI):LI:=(oN 0 cl.length).foldl (QrA s l cl.length) cl
def QrX (z:LI×LI)(c:Int):LI×LI :=
 if c∈z.1 then(z.1,z.2++[(z.1.idxOf c:Int) - 1]) else(z.1++[c],z.2++[(z.1.length:Int) - 1])
def nums (cl:LI):LI:=(cl.foldl QrX ([-1],[])).2
def QqW (p s:Qz)(pairs:List (LI)):LI:=nums (Qsa s (ctls p s pairs) (Qsb (occs s.st.toNat pairs)))
end Go.Lg
namespace Go.Proofs
open Go.Proofs.Tryz
open Go.Lg
instance:Sl sV 32 183 4 4 (.agg #[.int .u8 0,.int .u8 0,.int .u8 0,.int .u8 0]):={}
instance:Sl sV 41 94 5 32 (.agg #[.string ByteArray.empty,.bool false,.bool false,.bool false,sS 0]):={}
instance:Sl sV 42 81 5 96 (.agg #[.string ByteArray.empty,nS,sS 0,nS,nS]):={}
instance:Sl sV 43 186 2 40 (.agg #[.string ByteArray.empty,nS]):={}
instance:Sl sV 44 191 3 48 (.agg #[.string ByteArray.empty,nS,sS 0]):={}
instance:Sl sV 47 3 1 8 (sS 0):={}
instance:Sl sV 51 179 3 24 (.agg #[sS 0,sS 0,sS 0]):={}
instance:Sl sV 54 47 1 24 (nS):={}
instance:Sl sV 64 53 4 80 (.agg #[nS,sS 0,nS,nS]):={}
instance:Sl sV 86 5 1 1 (.int .u8 0):={}
instance:Sl sV 87 173 4 32 (.agg #[sS 0,sS 0,sS 0,sS 0]):={}
instance:Sl sV 119 123 2 24 (.agg #[.string ByteArray.empty,.nilFunc]):={}
instance:Sl sV 135 55 1 8 (sS 0):={}
instance:Sl sV 144 323 4 32 (.agg #[sS 0,sS 0,sS 0,sS 0]):={}
instance:Sl sV 184 188 2 16 (.agg #[sS 0,sS 0]):={}
instance:Sl sV 189 193 2 16 (.agg #[sS 0,sS 0]):={}
instance:Sl sV 199 51 1 24 (nS):={}
instance:Sl sV 223 249 1 8 (.map none):={}
instance:Sl sV 240 239 3 56 (.agg #[sS 0,nS,nS]):={}
instance:Sl sV 254 253 4 32 (.agg #[sS 0,sS 0,sS 0,sS 0]):={}
instance:Sl sV 270 334 1 8 (.nilFunc):={}
instance:Sl sV 301 4 1 1 (.bool false):={}
instance:Sl sV 356 355 3 24 (.agg #[sS 0,sS 0,sS 0]):={}
instance:Sl sV 362 361 3 72 (.agg #[nS,nS,nS]):={}
instance:Sl sV 383 382 2 32 (.agg #[nS,sS 0]):={}
instance:Zh sV 28 0 0:={}
instance:Zh sV 28 1 1:={}
instance:Zh sV 28 2 2:={}
instance:Zh sV 36 0 0:={}
instance:Zh sV 36 1 5:={}
instance:Zh sV 36 2 6:={}
instance:Zh sV 36 3 9:={}
instance:Zh sV 36 4 90:={}
instance:Zh sV 36 5 91:={}
instance:Zh sV 36 6 93:={}
instance:Zh sV 36 7 147:={}
instance:Zh sV 36 8 148:={}
instance:Zh sV 36 9 151:={}
instance:Zh sV 38 0 0:={}
instance:Zh sV 38 1 152:={}
instance:Zh sV 46 0 0:={}
instance:Zh sV 46 1 1:={}
instance:Zh sV 46 2 2:={}
instance:Zh sV 46 3 3:={}
instance:Zh sV 46 4 4:={}
instance:Zh sV 53 0 0:={}
instance:Zh sV 53 1 1:={}
instance:Zh sV 53 2 2:={}
instance:Zh sV 53 3 3:={}
instance:Zh sV 59 0 0:={}
instance:Zh sV 59 1 1:={}
instance:Zh sV 59 2 2:={}
instance:Zh sV 59 3 3:={}
instance:Zh sV 59 4 4:={}
instance:Zh sV 59 5 5:={}
instance:Zh sV 59 6 6:={}
instance:Zh sV 59 7 7:={}
instance:Zh sV 81 0 0:={}
instance:Zh sV 81 1 1:={}
instance:Zh sV 89 0 0:={}
instance:Zh sV 89 1 4:={}
instance:Zh sV 89 2 5:={}
instance:Zh sV 89 3 6:={}
instance:Zh sV 89 4 7:={}
instance:Zh sV 94 0 0:={}
instance:Zh sV 94 1 1:={}
instance:Zh sV 94 2 2:={}
instance:Zh sV 94 3 3:={}
instance:Zh sV 94 4 4:={}
instance:Zh sV 113 0 0:={}
instance:Zh sV 113 1 5:={}
instance:Zh sV 113 2 9:={}
instance:Zh sV 113 3 10:={}
instance:Zh sV 118 0 0:={}
instance:Zh sV 118 1 8:={}
instance:Zh sV 123 1 1:={}
instance:Zh sV 146 0 0:={}
instance:Zh sV 146 1 1:={}
instance:Zh sV 146 2 2:={}
instance:Zh sV 148 0 0:={}
instance:Zh sV 148 1 3:={}
instance:Zh sV 148 2 4:={}
instance:Zh sV 148 3 8:={}
instance:Zh sV 163 0 0:={}
instance:Zh sV 163 1 1:={}
instance:Zh sV 163 2 2:={}
instance:Zh sV 166 0 0:={}
instance:Zh sV 166 1 5:={}
instance:Zh sV 166 2 9:={}
instance:Zh sV 166 3 10:={}
instance:Zh sV 166 4 14:={}
instance:Zh sV 166 5 15:={}
instance:Zh sV 166 6 18:={}
instance:Zh sV 173 0 0:={}
instance:Zh sV 179 0 0:={}
instance:Zh sV 179 1 1:={}
instance:Zh sV 179 2 2:={}
instance:Zh sV 186 0 0:={}
instance:Zh sV 186 1 1:={}
instance:Zh sV 188 0 0:={}
instance:Zh sV 188 1 1:={}
instance:Zh sV 191 0 0:={}
instance:Zh sV 191 1 1:={}
instance:Zh sV 191 2 2:={}
instance:Zh sV 193 0 0:={}
instance:Zh sV 193 1 1:={}
instance:Zh sV 201 0 0:={}
instance:Zh sV 201 1 1:={}
instance:Zh sV 201 2 2:={}
instance:Zh sV 201 3 3:={}
instance:Zh sV 225 0 0:={}
instance:Zh sV 225 1 1:={}
instance:Zh sV 225 2 2:={}
instance:Zh sV 236 0 0:={}
instance:Zh sV 236 1 4:={}
instance:Zh sV 236 2 5:={}
instance:Zh sV 236 3 6:={}
instance:Zh sV 239 0 0:={}
instance:Zh sV 239 1 1:={}
instance:Zh sV 239 2 2:={}
instance:Zh sV 251 0 0:={}
instance:Zh sV 251 1 1:={}
instance:Zh sV 251 2 2:={}
instance:Zh sV 253 0 0:={}
instance:Zh sV 253 1 2:={}
instance:Zh sV 253 2 3:={}
instance:Zh sV 261 0 0:={}
instance:Zh sV 261 1 1:={}
instance:Zh sV 304 0 0:={}
instance:Zh sV 304 1 4:={}
instance:Zh sV 323 0 0:={}
instance:Zh sV 327 0 0:={}
instance:Zh sV 327 1 4:={}
instance:Zh sV 327 2 5:={}
instance:Zh sV 327 3 6:={}
instance:Zh sV 355 0 0:={}
instance:Zh sV 355 1 1:={}
instance:Zh sV 355 2 2:={}
instance:Zh sV 361 0 0:={}
instance:Zh sV 361 1 1:={}
instance:Zh sV 361 2 2:={}
instance:Zh sV 382 0 0:={}
instance:Zh sV 382 1 1:={}
instance:XN sV 3:={}
instance:XN sV 4:={}
instance:XN sV 5:={}
instance:XN sV 9:={}
instance:XN sV 24:={}
instance:XN sV 32:={}
instance:XN sV 33:={}
instance:XN sV 41:={}
instance:XN sV 42:={}
instance:XN sV 43:={}
instance:XN sV 44:={}
instance:XN sV 47:={}
instance:XN sV 51:={}
instance:XN sV 54:={}
instance:XN sV 55:={}
instance:XN sV 64:={}
instance:XN sV 86:={}
instance:XN sV 87:={}
instance:XN sV 121:={}
instance:XN sV 128:={}
instance:XN sV 144:={}
instance:XN sV 152:={}
instance:XN sV 159:={}
instance:XN sV 164:={}
instance:XN sV 184:={}
instance:XN sV 189:={}
instance:XN sV 199:={}
instance:XN sV 223:={}
instance:XN sV 242:={}
instance:XN sV 249:={}
instance:XN sV 259:={}
instance:XN sV 275:={}
instance:XN sV 301:={}
instance:XN sV 325:={}
instance:XN sV 334:={}
instance:XN sV 356:={}
instance:Ag sV 23 5:={}
instance:Ag sV 28 27:={}
instance:Ag sV 36 152:={}
instance:Ag sV 38 153:={}
instance:Ag sV 46 5:={}
instance:Ag sV 53 4:={}
instance:Ag sV 59 8:={}
instance:Ag sV 81 5:={}
instance:Ag sV 89 8:={}
instance:Ag sV 94 5:={}
instance:Ag sV 113 11:={}
instance:Ag sV 123 2:={}
instance:Ag sV 148 9:={}
instance:Ag sV 156 2:={}
instance:Ag sV 163 3:={}
instance:Ag sV 173 4:={}
instance:Ag sV 179 3:={}
instance:Ag sV 183 4:={}
instance:Ag sV 186 2:={}
instance:Ag sV 188 2:={}
instance:Ag sV 191 3:={}
instance:Ag sV 193 2:={}
instance:Ag sV 201 4:={}
instance:Ag sV 225 3:={}
instance:Ag sV 239 3:={}
instance:Ag sV 304 5:={}
instance:Ag sV 323 4:={}
instance:Ag sV 361 3:={}
instance:Ag sV 382 2:={}
instance:Ze sV 3 (sS 0):={}
instance:Ze sV 46 (.agg #[nS,nS,nS,nS,nS]):={}
instance:Ze sV 47 (nS):={}
instance:Ze sV 53 (.agg #[nS,sS 0,nS,nS]):={}
instance:Ze sV 55 (sS 0):={}
instance:Ze sV 59 (.agg #[.bool false,nS,.bool false,nS,nS,.bool false,nS,sS 0]):={}
instance:Ze sV 81 (.agg #[.string ByteArray.empty,nS,sS 0,nS,nS]):={}
instance:Ze sV 89 (.agg #[nS,sS 0,nS,nS,nS,nS,nS,nS]):={}
instance:Ze sV 94 (.agg #[.string ByteArray.empty,.bool false,.bool false,.bool false,sS 0]):={}
instance:Ze sV 113 (.agg #[nS,nS,nS,nS,nS,nS,sS 0,nS,nS,nS,nS]):={}
instance:Ze sV 123 (.agg #[.string ByteArray.empty,.nilFunc]):={}
instance:Ze sV 148 (.agg #[nS,nS,nS,sS 0,nS,sS 0,nS,nS,nS]):={}
instance:Ze sV 152 (.pointer none):={}
instance:Ze sV 156 (.agg #[sS 0,sS 0]):={}
instance:Ze sV 163 (.agg #[nS,nS,nS]):={}
instance:Ze sV 173 (.agg #[sS 0,sS 0,sS 0,sS 0]):={}
instance:Ze sV 179 (.agg #[sS 0,sS 0,sS 0]):={}
instance:Ze sV 183 (.agg #[.int .u8 0,.int .u8 0,.int .u8 0,.int .u8 0]):={}
instance:Ze sV 186 (.agg #[.string ByteArray.empty,nS]):={}
instance:Ze sV 188 (.agg #[sS 0,sS 0]):={}
instance:Ze sV 191 (.agg #[.string ByteArray.empty,nS,sS 0]):={}
instance:Ze sV 193 (.agg #[sS 0,sS 0]):={}
instance:Ze sV 201 (.agg #[nS,nS,nS,nS]):={}
instance:Ze sV 225 (.agg #[nS,nS,nS]):={}
instance:Ze sV 239 (.agg #[sS 0,nS,nS]):={}
instance:Ze sV 261 (.agg #[.pointer none,nS]):={}
instance:Ze sV 301 (nS):={}
instance:Ze sV 304 (.agg #[nS,sS 0,nS,nS,nS]):={}
instance:Ze sV 323 (.agg #[sS 0,sS 0,sS 0,sS 0]):={}
instance:Ze sV 356 (nS):={}
instance:Ze sV 361 (.agg #[nS,nS,nS]):={}
instance:Ze sV 382 (.agg #[nS,sS 0]):={}
instance:Bs sV 46 [nS,nS,nS,nS,nS] [0,1,2,3,4]:={}
instance:Bs sV 53 [nS,sS 0,nS,nS] [0,1,2,3]:={}
instance:Bs sV 94 [.string ByteArray.empty,.bool false,.bool false,.bool false,sS 0] [0,1,2,3,4]:={}
instance:Bs sV 123 [.string ByteArray.empty,.nilFunc] [0,1]:={}
instance:Bs sV 143 [sS 0,sS 0] [0,1]:={}
instance:Bs sV 156 [sS 0,sS 0] [0,1]:={}
instance:Bs sV 163 [nS,nS,nS] [0,1,2]:={}
instance:Bs sV 173 [sS 0,sS 0,sS 0,sS 0] [0,1,2,3]:={}
instance:Bs sV 179 [sS 0,sS 0,sS 0] [0,1,2]:={}
instance:Bs sV 186 [.string ByteArray.empty,nS] [0,1]:={}
instance:Bs sV 188 [sS 0,sS 0] [0,1]:={}
instance:Bs sV 191 [.string ByteArray.empty,nS,sS 0] [0,1,2]:={}
instance:Bs sV 193 [sS 0,sS 0] [0,1]:={}
instance:Bs sV 225 [nS,nS,nS] [0,1,2]:={}
instance:Bs sV 239 [sS 0,nS,nS] [0,1,2]:={}
instance:Bs sV 251 [.map none,.map none,sS 0] [0,1,2]:={}
instance:Bs sV 300 [nS,nS] [0,1]:={}
instance:Bs sV 323 [sS 0,sS 0,sS 0,sS 0] [0,1,2,3]:={}
instance:Bs sV 355 [sS 0,sS 0,sS 0] [0,1,2]:={}
instance:Bs sV 361 [nS,nS,nS] [0,1,2]:={}
instance:Bs sV 382 [nS,sS 0] [0,1]:={}
instance:Ik sV 3 .i64:={}
instance:Bk sV 4:=⟨underlying4⟩
instance:Ik sV 5 .u8:={}
instance:St sV 9:=⟨underlying9⟩
instance:Ik sV 21 .i32:={}
instance:Ik sV 33 .i8:={}
instance:Ik sV 246 .u64:={}
instance:Ik sV 317 .u32:={}
instance:S3 sV 179:=⟨⟨_,_,_,underlying179,og,og,og,O,O,O,underlying3,underlying3,underlying3⟩,oc,oc⟩
instance:Mp sV 164 9 3 (sS 0):={}
instance:Key sV 9 Xz:=Qmk underlying9
instance:Mp sV 217 9 4 (.bool false):={}
instance:Mp sV 242 3 4 (.bool false):={}
instance:Key sV 3 XG:=Qml underlying3
instance:Mp sV 249 143 3 (sS 0):={}
instance:Key sV 143 Yp:=Qco underlying143 underlying3 oc
instance:Mp sV 255 156 4 (.bool false):={}
instance:Key sV 156 Yp:=Qco underlying156 underlying3 oc
instance:Mp sV 297 3 296 (.nilFunc):={}
instance:Mp sV 325 3 47 (nS):={}
instance:Mp sV 371 3 3 (sS 0):={}
instance:Fu sV 59 f59:=XW func59
instance:Fu sV 60 f60:=XW func60
instance:Fu sV 64 f64:=XW func64
instance:Fu sV 65 f65:=XW func65
instance:Fu sV 72 f72:=XW func72
instance:Fu sV 86 f86:=XW func86
instance:Fu sV 88 f88:=XW func88
instance:Fu sV 101 f101:=XW func101
instance:Fu sV 105 f105:=XW func105
instance:Fu sV 108 f108:=XW func108
instance:Fu sV 124 f124:=XW func124
instance:Fu sV 125 f125:=XW func125
instance:Fu sV 126 f126:=XW func126
instance:Fu sV 133 f133:=XW func133
instance:Fu sV 136 f136:=XW func136
instance:Fu sV 138 f138:=XW func138
instance:Fu sV 142 f142:=XW func142
instance:Fu sV 144 f144:=XW func144
instance:Fu sV 145 f145:=XW func145
instance:Fu sV 147 f147:=XW func147
instance:Fu sV 148 f148:=XW func148
instance:Fu sV 149 f149:=XW func149
instance:Fu sV 150 f150:=XW func150
instance:Fu sV 154 f154:=XW func154
instance:Fu sV 157 f157:=XW func157
instance:Fu sV 158 f158:=XW func158
instance:Fu sV 159 f159:=XW func159
instance:Fu sV 160 f160:=XW func160
instance:Fu sV 169 f169:=XW func169
instance:Fu sV 171 f171:=XW func171
instance:Fu sV 172 f172:=XW func172
instance:Fu sV 174 f174:=XW func174
instance:Fu sV 175 f175:=XW func175
instance:Fu sV 178 f178:=XW func178
instance:Fu sV 187 f187:=XW func187
instance:Fu sV 190 f190:=XW func190
instance:Fu sV 200 f200:=XW func200
instance:Fu sV 201 f201:=XW func201
instance:Fu sV 205 f205:=XW func205
instance:Fu sV 207 f207:=XW func207
instance:Fu sV 208 f208:=XW func208
instance:Fu sV 210 f210:=XW func210
instance:Fu sV 232 f232:=XW func232
instance:Fu sV 237 f237:=XW func237
instance:Fu sV 239 f239:=XW func239
instance:Fu sV 255 f255:=XW func255
instance:Fu sV 256 f256:=XW func256
instance:Fu sV 268 f268:=XW func268
instance:Fu sV 270 f270:=XW func270
instance:Fu sV 271 f271:=XW func271
instance:Fu sV 279 f279:=XW func279
instance:Fu sV 285 f285:=XW func285
instance:Fu sV 299 f299:=XW func299
instance:Fu sV 309 f309:=XW func309
theorem mixed:sV.follows .mixedOrders=true:=oc
theorem ZL {all:xD}{f:Fr}{Q:Exit->Fr->O1->Prop}(L:LN)(pl:xt)(h:XP sV all (O5 L w) (λf w=>Q .normal f w) pl f { w with drawn:=w.drawn+1 })(E:Xu n all=true:=by rfl)(G:zR all pl=true:=by kernel_rfl):W sV n (.region id all.toArray true) Q f w:=V3 (O5 L w) pl mixed E G (O5.X _ _) h
theorem brG {B:Func}(E:((((P.funcs[g]?).map Func.name).getD "") == "runtime.NumGoroutine")=false) (G:P.funcs[g]?=some { B with name:=((P.funcs[g]?).map Func.name).getD "" }):∃nm:String,(nm == "runtime.NumGoroutine")=false/\P.funcs[g]?=some { B with name:=nm }:=⟨_,E,G⟩
theorem lyS {p:Prop}(h:p:=by constructor <;> first|kernel_rfl|decide|(intro _;kernel_rfl)|(apply brG <;> kernel_rfl)|(constructor <;> first|kernel_rfl|decide|(intro _;kernel_rfl)|(apply brG <;> kernel_rfl))):p:=h
end Go.Proofs
namespace Go.Lg
def Rn (t e k:Nat):Go.Shelf.Ren:=⟨λn=>n,λ|22=>t|23=>e|25=>k|n=>n,λn=>n⟩
def fix {α:Type}(q:α->Bool):Nat->List α->Int
 | _,[]=>-1
 | i,e::l=>if q e=true then(i:Int) else fix q (i+1) l
theorem YD (q:α->Bool)(i:Nat)(a:α)(l:List α):fix q i (a::l)=if q a=true then(i:Int) else fix q (i+1) l:=rfl
structure LdE {α:Type}(e:Nat)(c:α->LV)(el:α->O2):Prop where
 ld:∀{f:Fr} {w:O1} {d:xE} {E:O3} {ty:Nat} {pS:String} {af:xC} {gd:xq} {L:LN} {a:Addr} {q:α},At L ↑w a (c q)->ev f E=.pointer (some a)->(execOp (ev f) ⟨d,.load e E,ty,pS,af,gd⟩).run sV w=.ok (.value (el q)) w
theorem ld1 {e:Nat}[XN sV e]{c:α->LV}{el:α->O2}(E:∀q,c q=[el q]):LdE e c el:=⟨λh hx=>Qr (by rw[<-E];exact h) hx⟩
theorem ldA {e:Nat}[Ag sV e m]{c:α->LV}(E:∀q,(c q).length=m):LdE e c λq=>sT (c q):=⟨λh hx=>QA h hx (E _)⟩
abbrev Ut (n:Int):LV:=[sS n]
theorem Qjv (n:Int):(Ut n).length=1:=rfl
theorem QnM:∀l:LI,l.flatMap Ut=l.map (.int .i64)
 | []=>rfl
 | a::l=>by rw[LK,QnM l];rfl
theorem Qu.fl {L:LN}{H:xA}{v:O2}{l:LI}(h:Qu L H v l):Zt L H v l.length 1 (l.flatMap Ut):=by rw[QnM];exact h
theorem Qfe {c:α->LV}(h:∀q,Zv (c q))(l:List α):∀u∈l.flatMap c,u.oneCell'=true:=λu E=>by
 obtain⟨q,_,G⟩:=Md.1 E;exact(h q).all u G
theorem UA {α:Type}(q:α->Bool):∀(l:List α) (i:Nat),decide (0<=fix q i l)=l.any q
 | [],i=>rfl
 | a::l,i=>by
  rw[YD,List.any_cons];cases h:q a with
  | true=>rw[OU rfl];simp
  | false=>rw[OT og,UA q l (i+1)];rfl
def IxQ {α:Type}(q:α->Bool)(es:List α)(r:O2):Prop:=(r=sS (-1)/\∀m (E:m<es.length),q (es[m]'E)=false)\/∃(i:Nat) (hi:i<es.length),r=sS i/\q (es[i]'hi)=true/\∀m (E:m<i),q (es[m]'oa)=false
theorem QjI {α:Type}(q:α->Bool):∀(l:List α) (i:Nat),(fix q i l=-1/\∀m (E:m<l.length),q (l[m]'E)=false)\/∃k,∃G:k<l.length,fix q i l=((i+k:Nat):Int)/\q (l[k]'G)=true/\∀m (E:m<k),q (l[m]'oa)=false
 | [],i=>.inl ⟨O,λm E=>by cases E⟩
 | a::l,i=>by
  rw[YD];cases h:q a with
  | true=>exact .inr ⟨0,od,rfl,h,λm E=>by cases E⟩
  | false =>
   rcases QjI q l (i+1) with⟨I,J⟩|⟨k,G,I,J,S⟩
   ·exact .inl ⟨I,λm E=>by cases m with|zero=>exact h|succ m=>exact J m (ou E)⟩
   exact .inr ⟨k+1,ou G,by rw[OT og,I];congr 1;omega,J,λm E=>by cases m with|zero=>exact h|succ m=>exact S m oa⟩
theorem Qmu (q:α->Bool)(l:List α):IxQ q l (sS (fix q 0 l)):=by
 rcases QjI q l 0 with⟨E,G⟩|⟨k,I,E,G,J⟩
 ·exact .inl ⟨by rw[E],G⟩
 exact .inr ⟨k,I,by rw[E,LU],G,J⟩
section
variable {e bys:Nat}[hS:Sl sV t e m bys z]{L L':LN}{v:O2}
include hS in
theorem yx (hB:Bears sV n (SlBodyN.n41 (Rn t e 0))){k:Nat}{cs:LV}(h:Zt L ↑w v k m cs)(ho:∀u∈cs,u.oneCell'=true)(hb:bys<=128:=by decide):
  QR sV n [v] w λr w'=>sW w w'/\w'.ownsRow ↑w e m r k cs:=by
 obtain⟨nm,_,T⟩:=hB;obtain⟨ρ,hρ,ha⟩:∃ρ,Rn t e 0=ρ/\ρ.t 22=t:=⟨_,O,O⟩;rw[hρ]at T;clear hρ;subst ha;have hg:=h.le;refine QR.of_W T O (n:=8) O O od ?_;refine Qc<|Qb ?_;obtain⟨ao,cap,G⟩:=h.shape;refine Qd<|Qk<|x (QlD (show ev _ _=_ from G) O)<|xe<|Q6 rfl (λJ=>?_) (λJ=>?_)
 ·refine Qc<|Qb<|Qh ⟨[nS],La,O5.Y _ _,?_⟩;rcases h.2.2 with⟨E,I⟩|⟨a,c,E,_⟩
  ·have S:cs=[]:=Lt (by rw[h.1,I];simp);subst S I;exact QM _ _ _ _
  rw[E]at G;cases G;cases J
 rcases h.2.2 with⟨E,I⟩|⟨a,c,E,I,S⟩
 ·rw[E]at G;injection G with e1;subst e1;cases J
 refine Qf<|Qc<|Qo<|QdP λb5 w1 U V Y=>Qa<|Qo<|Q8 (base:=↑w) (Y.own (n:=0) (sz:=m) od oa V) rfl (show ev _ _=_ from E) h.1 (S.I U) ho oa (oo Y.lt) (λv2 w2 hc he hh=>Qb ?_) hb;refine Qh ⟨[v2],La,U.Q he V,?_⟩;simpa[tup]using hc
include hS in
theorem ixG {c:α->LV}{el:α->O2}{k:Nat}(Y:Bears sV n (SlBodyH.n6 (Rn t e k)))(hc:∀q,(c q).length=m)(hl:LdE e c el)[Fu sV gp fn]{cap:LV}{q:α->Bool}{l:List α}(h:Zt L ↑w v l.length m (l.flatMap c))
  (hk:∀e∈l,∀G:O1,sW w G->QR sV gp ([el e]++cap) G λr w'=>r=.bool (q e)/\sW G w'):
  QR sV n [v,.func (.func gp) #[] cap.toArray] w λr w'=>r=sS (fix q 0 l)/\sW w w':=by
 obtain⟨nm,_,U⟩:=Y;obtain⟨ρ,hρ,ha,he⟩:∃ρ,Rn t e k=ρ/\ρ.t 22=t/\ρ.t 23=e:=⟨_,O,O,O⟩;rw[hρ]at U;clear hρ;subst ha he;have hm:=h.le;refine QR.of_W U O (n:=19) O O od ?_;refine Qc<|Qb<|Qd<|Qk<|QG h O<|Qa<|xe<|QW (α:=Nat) [(4,5),(8,18)] (λz=>[(8,sS z)]) (λz w'=>z<=l.length/\sW w w'/\fix q z (l.drop z)=fix q 0 l) (λz=>l.length - z) 0 La
  ⟨Lo _,O5.Y _ _,O⟩ ?_
 rintro k g G ⟨hk1,I,E⟩;refine Zk rfl O (λS=>?_) (λS=>?_)
 ·refine Qt ?_;have hg:l.length<=k:=by have hh:¬(k:Int)<(l.length:Int):=S;omega
  rw[Lr hg]at E;refine Qc<|Qb<|Qh ⟨[_],La,by rw[<-E];rfl,I⟩
 have J:k<l.length:=by have hh:(k:Int)<(l.length:Int):=S;omega
 rw[QY J,YD]at E;refine Qf<|Qd<|Qn<|Qk<|Qb<|Qk<|Qa<|Qa<|O8 hc (h.I I) O O J λhn hj=>?_;refine x (hl.ld hj O)<|Qo<|xc (first:=[]) (capt:=cap) O<|(hk _ (Le J) G I).S ?_;rintro r2 w2 ⟨rfl,V⟩;refine xe<|Q6 rfl (λT=>?_) (λT=>?_)
 ·rw[OU T]at E;refine Qk<|Qb<|Qh ⟨[_],La,by rw[<-E];rfl,I.D V⟩
 rw[OT (by rw[T];decide)]at E;refine Qf<|Qs<|QD O O<|Qa<|xe ?_;exact⟨k+1,oa,La,J,I.D V,E⟩
include hS in
theorem eqG [DecidableEq α]{c:α->LV}{el:α->O2}(hB:Bears sV n (SlBodyN.n33 (Rn t e 0)))(E:∀q,(c q).length=m)(hl:LdE e c el){l l':List α}(h:Zt L ↑w v l.length m (l.flatMap c))(G:Zt L' ↑w v' l'.length m (l'.flatMap c))
  (hn:∀{f:Fr} {w:O1} {d:xE} {X Y:O3} {ty:Nat} {pS:String} {af:xC} {gd:xq} {a b:α},a∈l->b∈l'->ev f X=el a->ev f Y=el b->(execOp (ev f) ⟨d,.binOp .neq e X Y e,ty,pS,af,gd⟩).run sV w=.ok (.value (.bool (decide (a≠b)))) w):
  QR sV n [v,v'] w λr w'=>r=.bool (decide (l=l'))/\sW w w':=by
 obtain⟨nm,_,V⟩:=hB;obtain⟨ρ,hρ,hg,hh⟩:∃ρ,Rn t e 0=ρ/\ρ.t 22=t/\ρ.t 23=e:=⟨_,O,O,O⟩;rw[hρ]at V;clear hρ;subst hg hh;have hq:=h.le;refine QR.of_W V O (n:=26) O O od ?_;refine Qc<|Qb<|Qd<|Qk<|QG h O<|Qa<|QG G O<|ZM O O<|xe<|Zi rfl (λha=>?_) (λha=>?_)
 ·refine Qc<|Qb<|Qh ⟨[.bool false],La,?_,O5.Y _ _⟩;have:l≠l':=λe=>ha (by rw[e]);simp[tup,this]
 refine Qf<|Qd<|Qk<|QG h O<|Qa<|xe<|QW (α:=Nat) [(4,5),(13,25)] (λk=>[(13,sS k)]) (λk w'=>sW w w'/\k<=l.length/\(l=l'↔l.drop k=l'.drop k)) (λk=>l.length - k) 0 La ⟨O5.Y _ _,Lo _,od⟩ ?_;rintro k g w1 ⟨I,hk,J⟩
 replace h:=h.I I
 replace G:=G.I I;refine Zk rfl O (λhj=>?_) (λhj=>?_)
 ·refine Qt<|Qc<|Qb<|Qh ⟨[.bool true],La,?_,I⟩;rw[Lr oa,Lr oa]at J;simp[tup,J]
 have S:k<l.length:=oa
 have T:k<l'.length:=oa
 refine Qf<|Qd<|Qn<|Qk<|Qb<|Qd<|ZL [] (Xg 0 9 [])<|p Qx<|p Qx<|Lg.pig O E h O O S λhr ho=>pq (λ_ E=>hl.ld (ho.I E) O) <|
  p Qx<|p Qx<|Lg.pig O E G O O T λht hp=>pq (λ_ E=>hl.ld (hp.I E) O)<|p (λ_=>hn (Le S) (Le T) O O)<|pe ?_
 have he:=I.D (O5.X [] w1);refine Zi rfl (λU=>?_) (λU=>?_)
 ·refine Qc<|Qb<|Qh ⟨[.bool false],La,?_,he⟩;have:l≠l':=λe=>U (by subst e;rfl);simp[tup,this]
 refine Qf<|Qs<|QD O O<|Qa<|xe<|⟨k+1,oa,La,he,oa,?_⟩;rw[J,QY S,QY T,Ls.1 U];exact⟨λh=>(List.cons.inj h).2,λh=>by rw[h]⟩
end
def nxt (es:List Ed)(s e:Int):Int:=match es with
 | []=>-1
 | x::es=>if x.1=s/\x.2.1=e then x.2.2 else nxt es s e
section
def eqV:O2->O2->Bool
 | .int _ a,.int _ b=>a == b
 | .string a,.string b=>a == b
 | .bool a,.bool b=>a == b
 | _,_=>false
def tvB:LN->LV->LV->Bool
 | [],[],[]=>true
 | 0::ks,oB oC _::xs,oB oC _::ys=>tvB ks xs ys
 | 1::ks,.string _::xs,.string _::ys=>tvB ks xs ys
 | 2::ks,.bool _::xs,.bool _::ys=>tvB ks xs ys
 | _,_,_=>false
def VT:LV->LV->Bool
 | x::xs,y::ys=>eqV x y && VT xs ys
 | _,_=>true
inductive Fks (P:O4):Nat->List Field->LN->Prop
 | nil {o:Nat}:Fks P o [] []
 | int {o:Nat} {f:Field} {fs:List Field} {ks:LN} (hn:f.name ≠ "_") (ho:f.offset=o) (hu:P.underlying f.type=some (.int .i64)) (h:Fks P (o+1) fs ks):Fks P o (f::fs) (0::ks)
 | str {o:Nat} {f:Field} {fs:List Field} {ks:LN} (hn:f.name ≠ "_") (ho:f.offset=o) (hu:P.underlying f.type=some .string) (h:Fks P (o+1) fs ks):Fks P o (f::fs) (1::ks)
 | flag {o:Nat} {f:Field} {fs:List Field} {ks:LN} (hn:f.name ≠ "_") (ho:f.offset=o) (hu:P.underlying f.type=some .bool) (h:Fks P (o+1) fs ks):Fks P o (f::fs) (2::ks)
theorem Qe8 {k:Nat}{v:O2}{l:LV}(h:∀w,(isAgg t).run P w=.ok false w)(E:l[k]?=some v)(w:O1):(part t l.toArray k).run P w=.ok v w:=by
 have e:l.toArray[k]?=some v:=by simpa using E
 simp[part,h w,e]
theorem yt {d o:Nat}{f:Field}{fs:List Field}{x y:O2}{xs ys X Y:LV}(I:f.name ≠ "_") (J:f.offset=o) (E:∀w,(isAgg f.type).run P w=.ok false w) (S:∀m w,(Op.equalIn (m+1) f.type x y).run P w=.ok (eqV x y) w)
  (hX:X.drop o=x::xs) (G:Y.drop o=y::ys) (ih:X.drop (o+1)=xs->Y.drop (o+1)=ys->∀w,(Op.eqFields (d+1) X.toArray Y.toArray fs).run P w=.ok (VT xs ys) w) (w:O1):
  (Op.eqFields (d+1) X.toArray Y.toArray (f::fs)).run P w=.ok (VT (x::xs) (y::ys)) w:=by
 have hx:X[o]?=some x:=by rw[<-List.head?_drop,hX];rfl
 have T:Y[o]?=some y:=by rw[<-List.head?_drop,G];rfl
 have U:X.drop (o+1)=xs:=by rw[<-List.tail_drop,hX];rfl
 have V:Y.drop (o+1)=ys:=by rw[<-List.tail_drop,G];rfl
 simp only[Op.eqFields,I,ne_eq,not_false_eq_true,if_true,Sem.run_bind,J,Qe8 E hx,Qe8 E T,S,Result.andThen_ok,Sem.run_ite,VT];cases hv:eqV x y with
 | false=>simp
 | true=>simpa using ih U V w
theorem Fks.run {d:Nat}{o:Nat}{fs:List Field}{ks:LN}(h:Fks P o fs ks):∀{xs ys X Y:LV},tvB ks xs ys=true->X.drop o=xs->Y.drop o=ys->∀w,(Op.eqFields (d+1) X.toArray Y.toArray fs).run P w=.ok (VT xs ys) w:=by
 induction h with
 | nil =>
  intro xs ys X Y E _ _ w;cases xs with
  | nil=>simp[Op.eqFields,VT]
  | cons x xs=>cases ys <;> simp[tvB]at E
 | @int o f fs ks I J G h ih =>
  intro xs ys X Y E hX S w
  match xs,ys,E with
  | oB oC a::xs,oB oC b::ys,E=>exact yt I J (λw=>by simp[isAgg,run_underlying G]) (λm w=>by simp[Op.equalIn,run_underlying G,eqV]) hX S (λT U=>ih E T U) w
 | @str o f fs ks I J G h ih =>
  intro xs ys X Y E hX S w
  match xs,ys,E with
  | .string a::xs,.string b::ys,E=>exact yt I J (λw=>by simp[isAgg,run_underlying G]) (λm w=>by simp[Op.equalIn,run_underlying G,eqV]) hX S (λT U=>ih E T U) w
 | @flag o f fs ks I J G h ih =>
  intro xs ys X Y E hX S w
  match xs,ys,E with
  | .bool a::xs,.bool b::ys,E=>exact yt I J (λw=>by simp[isAgg,run_underlying G]) (λm w=>by simp[Op.equalIn,run_underlying G,eqV]) hX S (λT U=>ih E T U) w
class Sk (P:O4)(t:Nat)(ks:outParam (LN)):Prop where
 u:∃fs:List Field,P.underlying t=some (.struct fs.toArray)/\Fks P 0 fs ks
 s:P.stoodInHeld t=false
 g:P.eqGuardType P.depth t=false
theorem Uc {ks:LN}[h:Sk P t ks]{xs ys:LV}(J:tvB ks xs ys=true)(w:O1):(Op.equal t (sT xs) (sT ys)).run P w=.ok (VT xs ys) w:=by
 obtain⟨fs,E,S⟩:=h.u;have G:P.fieldsOf t=fs.toArray:=by unfold Program.fieldsOf;rw[E]
 have T:P.underlying t=some (.struct (P.fieldsOf t)):=by rw[G];exact E
 have I:=run_equalIn_struct (P:=P) w 9999 t xs.toArray ys.toArray T h.s;rw[G]at I;exact I.D (S.run (d:=9998) J O O w)
instance {t:Nat}[h:S3 P t]:Sk P t [0,0,0]:=let⟨f0,f1,f2,hu,E,G,I,J,o1,o2,S,T,u2⟩:=h.u;⟨⟨[f0,f1,f2],hu,.int E J S<|.int G o1 T<|.int I o2 u2 .nil⟩,h.s,h.g⟩
theorem Qj2 (p q:Ed):VT (Qp p) (Qp q)=decide (p=q):=by
 rw[Bool.eq_iff_iff];simp only[Qp,VT,eqV,oI,beq_iff_eq,decide_eq_true_eq,Prod.ext_iff,and_true]
theorem Qaw [S3 P t](w:O1)(p q:Ed):(Op.equal t (sT (Qp p)) (sT (Qp q))).run P w=.ok (decide (p=q)) w:=by
 rw[<-Qj2];exact Uc O w
variable {f:Fr}
theorem KZ {ks:LN}[h:Sk P t ks]{x:O3}{xs ys:LV}(G:tvB ks xs ys=true)(hx:ev f x=sT xs)(I:ev f y=sT ys):
  (execOp (ev f) ⟨d,.binOp .neq t x y E,ty,pS,af,gd⟩).run P w=.ok (.value (.bool (!VT xs ys))) w:=by
 have J:(eqGuard .neq t x y (sT xs) (sT ys)).run P w=.ok () w:=by simp[eqGuard,h.g]
 simp only[execOp,hx,I,Sem.run_bind,J,Result.andThen_ok,binOp,Uc G,Sem.run_pure]
theorem Uf [S3 P t]{x:O3}{p q:Ed}(hx:ev f x=sT (Qp p))(G:ev f y=sT (Qp q)):
  (execOp (ev f) ⟨d,.binOp .neq t x y E,ty,pS,af,gd⟩).run P w=.ok (.value (.bool (decide (¬p=q)))) w :=
 (KZ O hx G).D (by rw[Qj2];simp)
end
theorem jS {L:LN}{v:O2}{l:LI}(h:Qu L ↑w v l)(n:Int):
  QR sV 139 [v,sS n] w λr w'=>w'=w/\r=sS (fix (λe=>decide (n=e)) 0 l):=by
 have T:=h.le;refine Zm func139 ?_;refine Qc<|Qb<|Qd<|Qk<|QG h O<|Qa<|xe<|QW (α:=Nat) [(4,5),(8,18)] (λk=>[(8,sS k)]) (λk w'=>w'=w/\k<=l.length/\fix (λe=>decide (n=e)) k (l.drop k)=fix (λe=>decide (n=e)) 0 l) (λk=>l.length - k) 0 La ⟨O,Lo _,O⟩ ?_;rintro k g U ⟨rfl,V,E⟩;refine Zk rfl O (λJ=>?_) (λJ=>?_)
 ·refine Qt<|Qc<|Qb ?_;rw[Lr oa]at E;exact Qh ⟨[sS (-1)],La,O,by rw[<-E];rfl⟩
 have I:k<l.length:=oa
 rw[QY I,YD]at E;refine Qf<|Qd<|Qn<|Qk<|Qb<|Qk<|Qa<|Qa<|xii h O O I λY S=>x (Qr S O)<|x (Zd O O)<|xe<|Zi rfl (λG=>?_) (λG=>?_)
 ·refine Qk<|Qb ?_;rw[OU (OX G)]at E;exact Qh ⟨[sS k],La,O,by rw[<-E];rfl⟩
 refine Qf<|Qs<|QD O O<|Qa<|xe ?_;rw[OT (ou G)]at E;exact⟨k+1,oa,La,O,oa,E⟩
theorem Qju {L:LN}{v:O2}{l:LI}(h:Qu L ↑w v l)(n:Int):
  QR sV 139 [v,sS n] w λr w'=>w'=w/\∃i:Int,r=sS i/\(0<=i↔n∈l):=
 (jS h n).S λ_ _ ⟨E,G⟩=>⟨E,_,G,by have:=UA (λe=>decide (n=e)) l 0;rw[<-decide_eq_true_iff (p:=0<=_),this];simp⟩
theorem ZK {L:LN}{v:O2}{l:LI}(h:Qu L ↑w v l)(n:Int):
  QR sV 61 [v,sS n] w λr w'=>r=.bool (decide (n∈l))/\w'=w:=by
 refine Zm func61 ?_;refine Qc<|Qb<|Qk<|Qa<|Qv<|(Qju h n).S ?_;rintro E G ⟨rfl,i,rfl,hi⟩;refine x (Yl O O)<|Qb<|Qh ⟨[.bool (decide (0<=i))],La,?_,O⟩;simp[tup,hi]
theorem qh {L L':LN}{v:O2}{l l':LI}(h:Qu L ↑w v l)(E:Qu L' ↑w v' l'):
  QR sV 99 [v,v'] w λr w'=>r=.bool (decide (l=l'))/\sW w w' :=
 eqG ⟨_,O,func99⟩ Qjv (ld1 λ_=>O) (Qu.fl h) (Qu.fl E) λ_ _ hx G=>JN hx G
theorem QgR {L L':LN}{v:O2}{l l':List Ed}(h:UP L ↑w v l)(E:UP L' ↑w v' l'):
  QR sV 100 [v,v'] w λr w'=>r=.bool (decide (l=l'))/\sW w w' :=
 eqG (c:=Qp) ⟨_,O,func100⟩ (λ_=>O) (ldA λ_=>O) h E λ_ _ hx G=>Uf hx G
theorem Qjr (n:Int):QR sV 284 [sS n] w λr w'=>r=.bool false/\w'=w:=by
 refine Zm func284 ?_;refine Qc<|Qb<|Qk<|Qa<|ZM O O<|Qb<|Qh ⟨[.bool (decide (¬n=n))],La,by simp[tup],rfl⟩
theorem QgH (n:Int):QR sV 262 [sS n] w λr w'=>r=.bool false/\w'=w:=by
 refine Zm func262 ?_;refine Qc<|Qb<|Qk<|Qa<|ZM O O<|Qb<|Qh ⟨[.bool (decide (¬n=n))],La,by simp[tup],rfl⟩
theorem Qmf (m n:Int):QR sV 217 [sS m,sS n] w λr w'=>r=.bool (decide (m<n))/\w'=w:=by
 refine Zm func217 ?_;refine Qc<|Qb<|Qk<|Qv<|(QgH m).S ?_;rintro E G ⟨rfl,rfl⟩;refine Qa<|Zq<|QB O<|Qa<|Qa<|Qa<|ZX O O<|QB O<|Qb<|Qh ⟨[.bool (decide (m<n))],La,O,O⟩
theorem YA.get {l:LI}(h:YA l)(E:j<l.length)(G:i<j):l[i]<l[j]:=Mi.1 h i j oa E G
def lwB (l:LI)(n:Int):Nat:=(l.filter λx=>decide (x<n)).length
theorem QoC {l:LI}{n:Int}(_:YA l)(hi:i<=l.length)(I:∀m (E:m<l.length),m<i->l[m]<n)(J:∀m (E:m<l.length),i<=m->n<=l[m]):lwB l n=i:=by
 unfold lwB;have e1:(l.take i).filter (λx=>decide (x<n))=l.take i:=NA.2 λx hx=>by
  obtain⟨m,E,rfl⟩:=LP hx;rw[M6];have G:m<i/\m<l.length:=by rw[LC]at E;omega
  exact OX (I m G.2 G.1)
 have e2:(l.drop i).filter (λx=>decide (x<n))=[]:=MH.2 λx hx=>by
  obtain⟨m,E,rfl⟩:=LP hx;rw[List.getElem_drop];have G:i+m<l.length:=by rw[Mo]at E;omega
  have:=J (i+m) G oa;simp;omega
 have S:l.filter (λx=>decide (x<n))=l.take i:=by
  conv=>lhs;rw[<-MA i l]
  rw[LT,e1,e2,LF]
 rw[S,LC];omega
theorem QcY {L:LN}{v:O2}{l:LI}(h:Qu L ↑w v l)(hi:YA l)(n:Int):
  QR sV 253 [v,sS n] w λr w'=>w'=w/\r=.tuple #[sS (lwB l n),.bool (decide (n∈l))]:=by
 have hu:=h.le;refine Zm func253 ?_;refine Qc<|x Qe<|Qb<|Qk<|QG h O<|Qb<|Qk<|x Qe<|Qb<|Qd<|QW (α:=Nat×Nat) [(7,9),(13,30)] (λz=>[(7,sS z.1),(8,sS z.2)])
  (λz w'=>w'=w/\z.1<=z.2/\z.2<=l.length/\(∀m (E:m<l.length),m<z.1->l[m]<n)/\(∀m (E:m<l.length),z.2<=m->n<=l[m])) (λz=>z.2 - z.1) (0,l.length) ov
  ⟨O,Lo _,Lp _,λm _ S=>OW S (NJ m),λm h1 S=>OW h1 (by simp only[]at S;omega)⟩ ?_
 rintro⟨i,j⟩ g w1 ⟨rfl,hv,hj,G,T⟩;refine Qd<|Qk<|Qa<|ZX O O<|xe<|Zr rfl (λhc=>?_) (λhc=>?_)
 ·have e:i=j:=oa
  subst e;refine Qt<|QX (α:=Bool) [(4,5),(31,53)] (λz=>[(4,sS i),(5,.bool z)]) (λz w'=>w'=w1/\z=decide (n∈l)) oh ?_ ?_
  ·refine Qs<|Qa<|Qa<|Qa<|xb (YC O O) (λhe=>?_) (λhe=>?_)
   ·have I:i<l.length:=oa
    refine Qa<|Qa<|Qa<|xii h O O I λhw hf=>x (Qr hf O)<|Qa<|xb (Zd O O) (λU=>?_) (λU=>?_)
    ·refine Qa<|Zq<|Zq<|Zq<|QB O<|QB O<|x Qe<|Qb ?_;have:n∈l:=by rw[<-U];exact Le I
     exact⟨true,ov,O,by simp[this]⟩
    refine Qa<|Qa<|Qa<|xii h O O I λhy hg=>x (Qr hg O)<|Qv<|(Qjr _).S ?_;rintro r3 w3 ⟨rfl,rfl⟩;refine Qa<|Yf<|QB O<|QB O<|QB O<|x Qe<|Qb<|⟨false,ov,O,?_⟩;have:n∉l:=by
     intro E;obtain⟨m,J,V⟩:=LP E;by_cases hk:m<i
     ·have:=G m J hk;omega
     by_cases hn:m=i
     ·subst hn;exact U V
     have:=YA.get hi J (show i<m by omega);have:=T i I (Lp _);omega
    simp[this]
   refine Qa<|Zq<|Zq<|Zq<|Zq<|Zq<|Kt<|xs O <|
    QB rfl<|x Qe<|Qb<|⟨false,ov,O,?_⟩
   have:n∉l:=by
    intro E;obtain⟨m,J,V⟩:=LP E;have:=G m J oa;omega
   simp[this]
  rintro z g w7 ⟨rfl,rfl⟩;exact Qh ⟨[sS i,.bool (decide (n∈l))],ov,O,by rw[QoC hi (show i<=l.length by omega) G T];rfl⟩
 refine Qf<|Qn<|Qk<|Qa<|QD O O<|x (Yh O (by exact⟨oa,oa⟩))<|x (Qb0 (n:=1) O O og)<|x (Yh O (by exact⟨oa,oa⟩))<|Qb ?_;have hh:(((i:Int)+(j:Int)) / 2 ^ 1)=(((i+j) / 2:Nat):Int):=oa
 rw[hh];generalize hq:(i+j) / 2=q;have ho:i<=q:=oa
 have hp:q<j:=oa
 have Y:q<l.length:=oa
 refine Qk<|Qa<|xii h O O Y λhz hr=>x (Qr hr O)<|Qa<|Qv<|(Qmf _ _).S ?_;rintro r8 w8 ⟨rfl,rfl⟩;refine xe<|Zr rfl (λha=>?_) (λha=>?_)
 ·refine Qs<|Qa<|Qb<|⟨(i,q),oe,ov,O,ho,oa,G,λm E hs=>?_⟩;by_cases e:q=m
  ·subst e;omega
  have:=YA.get hi E (show q<m by simp only[]at hs;omega);omega
 refine Qs<|Qa<|QD O O<|Qb<|⟨(q+1,j),oe,ov,O,hp,hj,λm E ht=>?_,T⟩;by_cases e:m=q
 ·subst e;exact ha
 have:=YA.get hi Y (show m<q by simp only[]at ht;omega);omega
theorem yI {L:LN}{v:O2}{l:LI}(h:Qu L ↑w v l)(hi:YA l)(n:Int):
  QR sV 253 [v,sS n] w λr w'=>w'=w/\∃i:Int,r=.tuple #[sS i,.bool (decide (n∈l))]:=
 (QcY h hi n).S λ_ _ ⟨E,G⟩=>⟨E,_,G⟩
theorem J3 {L:LN}{v:O2}{l:LI}(h:Qu L ↑w v l)(hi:YA l)(n:Int):
  QR sV 188 [v,sS n] w λr w'=>r=.bool (decide (n∈l))/\w'=w:=by
 refine Zm func188 ?_;refine Qc<|Qb<|Qk<|Qa<|Qv<|(yI h hi n).S ?_;rintro E G ⟨rfl,i,rfl⟩;refine Qa<|QJ O O<|QJ O O<|x Qe<|Qb<|Qk<|Qb<|Qh ⟨[.bool (decide (n∈l))],La,O,O⟩
theorem qI {L:LN}{v:O2}{l:LI}(h:Qu L ↑w v l)(n:Int):
  QR sV 202 [v,sS n] w λr w'=>r=sS (J1 n none l)/\w'=w:=by
 have he:=h.le;refine Zm func202 ?_;refine Qc<|Qb<|Qd<|Qk<|QG h O<|Qa<|xe<|QW (α:=Nat) [(4,6),(9,34)] (λk=>[(9,sS k)]) (λk w'=>w'=w/\k<=l.length/\J1 n (pv l k) (l.drop k)=J1 n none l) (λk=>l.length - k) 0 La ⟨O,Lo _,O⟩ ?_;rintro k g U ⟨rfl,hk,E⟩;refine Zk rfl O (λV=>?_) (λV=>?_)
 ·refine Qt<|Qc<|Qb<|Qh ⟨[sS 0],La,?_,O⟩;rw[<-E,Lr oa];rfl
 have G:k<l.length:=oa
 rw[(QY G),J1]at E;refine Qf<|Qd<|Qn<|Qk<|xii h O O G λhf Y=>x (Qr Y O)<|x Qe<|Qb<|Qn<|QX (α:=Bool) [(14,21)] (λz=>[(14,.bool z)]) (λz w'=>w'=U/\z=decide (l[k]<0\/n<=l[k])) oh ?_ ?_
 ·refine Qs<|Qa<|xb (YC O O) (λI=>?_) (λI=>?_)
  ·refine Qa<|Zq<|QB O<|Qb<|⟨true,La,O,by simp[I]⟩
  refine Qa<|Qa<|Qa<|x (Yl O O)<|QB O<|Qb<|⟨_,La,O,by simp[I]⟩
 rintro z g w2 ⟨rfl,rfl⟩;refine Zi rfl (λJ=>?_) (λJ=>?_)
 ·refine Qc<|Qb<|Qh ⟨[sS 2],La,?_,O⟩;rw[<-E,OU J];rfl
 rw[OT J]at E;refine QX (α:=Bool) [(22,33)] (λz=>[(22,.bool z)]) (λz w'=>w'=w2/\z=z8 (pv l k) l[k]) oh ?_ ?_
 ·refine Qs<|Qa<|xb (Ya O O) (λha=>?_) (λha=>?_)
  ·have hk1:((k:Int) - 1)=((k - 1:Nat):Int):=oa
   refine Qa<|Qa<|Qa<|Qa<|x (Jq O O ⟨oa,oa⟩)<|xii (i:=k - 1) h O (by show Value.int _ ((k:Int) - 1)=_;rw[hk1]) oa λhg hc=>x (Qr hc rfl)<|x (X6 rfl rfl)<|QB rfl<|Qb<|⟨_,⟨rfl,Z⟩,rfl,?_⟩;have:pv l k=some l[k - 1]:=by
    have S:k≠0:=oa
    simp[pv,S,show k - 1<l.length by omega]
   rw[this];rfl
  refine Qa<|Zq<|Zq<|Kt<|QB O<|Qb ?_;have S:k=0:=oa
  exact⟨false,La,O,by simp[pv,S,z8]⟩
 rintro z g w3 ⟨rfl,rfl⟩;refine Q6 rfl (λT=>?_) (λT=>?_)
 ·refine Qc<|Qb<|Qh ⟨[sS 5],La,?_,O⟩;rw[<-E,OU T];rfl
 rw[OT (by simp[T])]at E;refine Qf<|Qs<|QD O O<|Qa<|xe ?_;exact⟨k+1,oa,La,O,oa,by rw[Kw G];exact E⟩
theorem je {L:LN}{a:Qz}(h:Zp L ↑w va vm ve a):
  QR sV 203 [.agg #[va,sS a.st,vm,ve]] w λr w'=>r=sS (ckE a.al a.st none a.ed)/\sW w w':=by
 obtain⟨S,_,I⟩:=h;have h6:=I.le;refine Zm func203 ?_;refine Qc<|Za [va,sS a.st,vm,ve] λb1 w1 ha h7 J=>Qb ?_
 replace S:=S.I ha
 replace I:=I.I ha;refine Qd<|Qc<|Qq O J O O<|QG I O<|Qa<|xe<|QW (α:=Nat) [(2,5),(9,71)] (λk=>[(9,sS k)]) (λk w'=>sW w1 w'/\k<=a.ed.length/\ckE a.al a.st (pv a.ed k) (a.ed.drop k)=ckE a.al a.st none a.ed) (λk=>a.ed.length - k) 0 La
  ⟨O5.Y _ _,Lo _,O⟩ ?_
 rintro k g w2 ⟨T,hk,E⟩
 replace S:=S.I T
 replace I:=I.I T
 replace J:=J.I T;refine Zk rfl O (λhu=>?_) (λhu=>?_)
 ·refine Qt<|Qc<|Qb<|Qh ⟨[sS 0],La,?_,ha.D T⟩;rw[<-E,Lr oa];rfl
 have hc:k<a.ed.length:=oa
 rw[(QY hc),ckE]at E;refine Qf<|Qd<|Qn<|Qk<|xie I O O hc λh8 hv=>x (QA hv O O)<|QN [sS 0,sS 0,sS 0] λb4 w3 hw hy G=>x Qe <|
  Qo<|Zj G O O O O ox λw4 hz G=>xe ?_
 have U:=hw.Q hz hy
 replace S:=S.I U
 replace I:=I.I U
 replace J:=J.I U;have V:=(ha.D T).D U;refine Qd<|Qn<|QX (α:=Bool) [(14,36)] (λz=>[(14,.bool z)]) (λz w'=>w'=w4/\z=decide (a.ed[k].1<0\/a.st<=a.ed[k].1\/a.ed[k].2.2<0\/a.st<=a.ed[k].2.2)) oh ?_ ?_
 ·refine Qs<|Qq O G O O<|xb (YC O O) (λhe=>?_) (λhe=>?_)
  ·refine Qa<|Zq<|Yf<|QB O<|Qa<|Zq<|QB O<|Qa<|Zq<|Yf<|QB O<|Qb<|⟨true,La,O,by simp[he]⟩
  refine Qa<|Qq O G O O<|Qq O J O O<|xb (Yl O O) (λhf=>?_) (λhf=>?_)
  ·refine QB O<|Qa<|Zq<|QB O<|Qa<|Zq<|Yf<|QB O<|Qb<|⟨true,La,O,by simp[hf]⟩
  refine QB O<|Qa<|Qq O G O O<|xb (YC O O) (λhg=>?_) (λhg=>?_)
  ·refine QB O<|Qa<|Zq<|Yf<|QB O<|Qb<|⟨true,La,O,by simp[hg]⟩
  refine QB O<|Qa<|Qq O G O O<|Qq O J O O<|x (Yl O O)<|QB O<|Qb<|⟨_,La,O,by simp[he,hf,hg]⟩
 rintro z g w5 ⟨rfl,rfl⟩;refine Zi rfl (λhh=>?_) (λhh=>?_)
 ·refine Qc<|Qb<|Qh ⟨[sS 2],La,?_,V⟩;rw[<-E,OU hh];rfl
 rw[OT hh]at E;refine Qc<|Qq O J O O<|Qq O G O O<|Qv<|(ZK S _).S ?_;rintro r4 w6 ⟨rfl,rfl⟩;refine x (Zl O)<|Qb<|Q6 O (λhj=>?_) (λhj=>?_)
 ·have hn:a.ed[k].2.1∉a.al:=by simpa using hj
  refine Qc<|Qb<|Qh ⟨[sS 9],La,?_,V⟩;rw[<-E,OU hn];rfl
 have hn:¬(a.ed[k].2.1∉a.al):=by simpa using hj
 rw[OT hn]at E;refine Qf<|Qd<|Qk<|x (Zd O O)<|xe<|Zi rfl (λh1=>?_) (λh1=>?_)
 ·have h0:k=0:=oa
  rw[OT (by simp[pv,h0,edO])]at E;refine Qt<|Qs<|QD O O<|Qa<|xe ?_;exact⟨k+1,oa,La,T.D U,oa,by rw[Kw hc];exact E⟩
 have h0:k≠0:=oa
 have hk1:((k:Int) - 1)=((k - 1:Nat):Int):=oa
 have ht:k - 1<a.ed.length:=oa
 refine Qf<|Qc<|Qq O J O O<|Qa<|x (Jq O O ⟨oa,oa⟩)<|xie (i:=k - 1) I O (by show Value.int _ ((k:Int) - 1)=_;rw[hk1]) ht λh9 h2 =>
  x (QA h2 O O)<|QN [sS 0,sS 0,sS 0] λb5 w7 h3 h4 Y=>Qo<|Zj Y O O O O ox λw8 h5 Y=>xe ?_
 have ho:=h3.Q h5 h4
 replace G:=G.I ho
 replace V:=V.D ho;have hp:pv a.ed k=some a.ed[k - 1]:=by simp[pv,h0,ht]
 rw[hp]at E;refine QX (α:=Bool) [(52,70)] (λz=>[(70,.bool z)]) (λz w'=>w'=w8/\z=edO (some a.ed[k - 1]) a.ed[k]) oh ?_ ?_
 ·refine Qs<|Qq O G O O<|Qq O Y O O<|xb (YC O O) (λhq=>?_) (λhq=>?_)
  ·refine Qa<|Zq<|Zq<|Zq<|Zq<|QB O<|xe ?_;exact⟨true,La,O,by simp[edO,hq]⟩
  refine Qa<|Qq O G O O<|Qq O Y O O<|xb (Zd O O) (λhr=>?_) (λhr=>?_)
  ·refine Qa<|Qq O G O O<|Qq O Y O O<|x (X6 O O)<|QB O<|QB O<|xe ?_;exact⟨_,La,O,by simp[edO,hr]⟩
  refine Qa<|Zq<|Yf<|QB O<|QB O<|xe ?_;exact⟨false,La,O,by simp[edO,hr,hq]⟩
 rintro z g w9 ⟨rfl,rfl⟩;refine Q6 rfl (λhs=>?_) (λhs=>?_)
 ·refine Qc<|Qb<|Qh ⟨[sS 5],La,?_,V⟩;rw[<-E,OU hs];rfl
 rw[OT (by simp[hs])]at E;refine Qf<|Qs<|QD O O<|Qa<|xe ?_;exact⟨k+1,oa,La,(T.D U).D ho,oa,by rw[Kw hc];exact E⟩
theorem Y5 {L:LN}{a:Qz}(h:Zp L ↑w va vm ve a):
  QR sV 130 [.agg #[va,sS a.st,vm,ve]] w λr w'=>r=sS (X4 a)/\sW w w':=by
 refine Zm func130 ?_;refine Qc<|Za [va,sS a.st,vm,ve] λV Y E ha G=>Qb ?_
 replace h:=h.I E;refine Qd<|Qc<|Qq O G O O<|Qv<|(qI h.al 32).S ?_;rintro r2 w2 ⟨rfl,rfl⟩;refine Qb<|Qk<|ZM O O<|xe<|Zi rfl (λI=>?_) (λI=>?_)
 ·refine Qk<|Qb<|Qh ⟨[sS (J1 32 none a.al)],La,?_,E⟩;rw[X4,OU I];rfl
 refine Qf<|Qd<|Qn<|Qc<|Qq O G O O<|ZX O O<|Qb<|Zi O (λJ=>?_) (λJ=>?_)
 ·refine Qc<|Qb<|Qh ⟨[sS 2],La,?_,E⟩;rw[X4,OT I,OU J];rfl
 refine Qc<|Qq O G O O<|x (Ya O O)<|Qb<|Zi O (λS=>?_) (λS=>?_)
 ·refine Qc<|Qb<|Qh ⟨[sS 3],La,?_,E⟩;rw[X4,OT I,OT J,OU S];rfl
 refine Qf<|Qd<|Qc<|Qq O G O O<|Qq O G O O<|Qv<|(qI h.mr a.st).S ?_;rintro r3 w3 ⟨rfl,rfl⟩;refine Qb<|Qk<|ZM O O<|xe<|Zi rfl (λT=>?_) (λT=>?_)
 ·refine Qk<|Qb<|Qh ⟨[sS (J1 a.st none a.mr)],La,?_,E⟩;rw[X4,OT I,OT J,OT S,OU T];rfl
 refine Qf<|Qc<|QV G O O<|Qv<|(je h).S ?_;rintro r4 w4 ⟨rfl,U⟩;refine Qb<|Qh ⟨[sS (ckE a.al a.st none a.ed)],La,?_,E.D U⟩;rw[X4,OT I,OT J,OT S,OT T];rfl
theorem ZZ {L:LN}{v:O2}{l:LI}(h:Qu L ↑w v l):
  QR sV 64 [v] w λr w'=>sW w w'/\Qi 3 ↑w w' r l :=
 yx ⟨_,O,func64⟩ h (Uj l)
theorem Qcj [Fu sV g fn]{keep:Bool->Bool->Bool}(hk:∀(p q:Bool) (w:O1),QR sV g [.bool p,.bool q] w λr w'=>r=.bool (keep p q)/\w'=w)
  {L L':LN}   {a b:LI} (I:Qu L ↑w va a) (hb:Qu L' ↑w vb b) (hI:a.length+b.length<=1099511627776):
  QR sV 146 [va,vb,.func (.func g) #[] #[]] w λr w'=>sW w w'/\Qi 3 ↑w w' r (mrg keep a b):=by
 refine Zm func146 ?_;refine Qc<|Qb<|Qc<|Qb<|Qd<|QW (α:=(LI×O2)×(LI×O2)×(LI×O2)) [(0,1),(7,72)] (λz=>[(0,z.1.2),(1,z.2.1.2),(7,z.2.2.2)])
  (λz w'=>Qu L ↑w z.1.2 z.1.1/\Qu L' ↑w z.2.1.2 z.2.1.1/\Qi 3 ↑w w' z.2.2.2 z.2.2.1/\sW w w'/\z.2.2.1++mrg keep z.1.1 z.2.1.1=mrg keep a b/\z.2.2.1.length+z.1.1.length+z.2.1.1.length<=1099511627776)
  (λz=>z.1.1.length+z.2.1.1.length) ((a,va),(b,vb),([],nS)) ox ⟨I,hb,QM _ _ _ _,O5.Y _ _,O,by simp;omega⟩ ?_
 clear I hb;rintro⟨⟨a1,h3⟩,⟨E,h4⟩,⟨o,vo⟩⟩ g1 w1 ⟨I,hb,J,G,U,hl⟩;simp only[]at I hb J G U hl;refine Qd<|QX (α:=Bool) [(11,18)] (λz=>[(18,.bool z)]) (λz w'=>w'=w1/\z=decide (¬(a1=[]/\E=[]))) oh ?_ ?_
 ·refine Qs<|Qa<|QG I O<|xb (Ya O O) (λhp=>?_) (λhp=>?_)
  ·refine Qa<|Zq<|QB O<|xe ?_;have:a1≠[]:=by intro e;subst e;simp at hp
   exact⟨true,La,O,by simp[this]⟩
  refine Qa<|Qa<|QG hb O<|x (Ya O O)<|QB O<|xe ?_;have:a1=[]:=Lt oa;refine⟨_,La,O,?_⟩;cases E <;> simp[this]
 rintro z g2 w2 ⟨rfl,rfl⟩;refine Zr rfl (λhe=>?_) (λhe=>?_)
 ·refine Qt<|Qk<|Qb<|Qh ⟨[vo],La,G,?_⟩;obtain⟨rfl,rfl⟩:=Ls.1 he;rw[Kz,LF]at U;rw[<-U];exact J
 refine Qf ?_;rw[Kg keep he]at U;have hq:=ye he;have hJ:=I.le;have hK:=hb.le;refine Qn<|QX (α:=Bool) [(8,8),(19,35)] (λz=>[(8,.bool z)]) (λz w'=>sW w2 w'/\z=Jd a1 E) oh ?_ ?_
 ·refine ZL [] (Xg 0 18 [])<|p Qx<|p (λ_=>YY I O)<|pb (λ_=>Ya O O) (λhr=>?_) (λhr=>?_)
  ·refine p Qx<|p Qx<|p (λ_=>YY hb O)<|pb (λ_=>Zd O O) (λh5=>?_) (λh5=>?_)
   ·refine p Qx<|ps<|ps<|ps<|ps<|ps<|ps<|ps<|p (Ys O)<|p (Ys O)<|p ZN<|pe ?_;refine⟨true,La,O5.X _ _,?_⟩;have:E=[]:=Lt oa;subst this;cases a1 with
    | nil=>simp at hr
    | cons y a1=>rfl
   have hA:0<a1.length:=oa
   have T:0<E.length:=oa
   refine p Qx<|p Qx<|pii O (i:=0) (I.I G) O O hA λhL h6=>pq (λ_ S=>Qr (h6.I S) O) <|
    p Qx<|pii O (i:=0) (hb.I G) O O T λhM h7=>pq (λ_ S=>Qr (h7.I S) O)<|p (λ_=>X6 O O) <|
    p (Ys rfl)<|p (Ys O)<|p ZN<|pe ?_
   refine⟨_,La,O5.X _ _,?_⟩;cases a1 with
   | nil=>simp at hA
   | cons y a1=>cases E with
    | nil=>simp at T
    | cons z E=>rfl
  refine p Qx<|ps<|ps<|ps<|ps<|ps<|ps<|ps<|ps<|ps<|ps<|ps<|ps<|p (Ys O)<|p ZN<|pe ?_;refine⟨false,La,O5.X _ _,?_⟩;have:a1=[]:=Lt oa;subst this;rfl
 rintro z g3 w3 ⟨ht,rfl⟩
 replace J:=Qm J ht
 replace G:=G.D ht;refine QX (α:=Bool) [(9,9),(36,52)] (λz=>[(9,.bool z)]) (λz w'=>sW w3 w'/\z=Jd E a1) oh ?_ ?_
 ·refine ZL [] (Xg 0 18 [])<|p Qx<|p (λ_=>YY hb O)<|pb (λ_=>Ya O O) (λhu=>?_) (λhu=>?_)
  ·refine p Qx<|p Qx<|p (λ_=>YY I O)<|pb (λ_=>Zd O O) (λh8=>?_) (λh8=>?_)
   ·refine p Qx<|ps<|ps<|ps<|ps<|ps<|ps<|ps<|p (Ys O)<|p (Ys O)<|p ZN<|pe ?_;refine⟨true,La,O5.X _ _,?_⟩;have:a1=[]:=Lt oa;subst this;cases E with
    | nil=>simp at hu
    | cons y E=>rfl
   have hA:0<a1.length:=oa
   have T:0<E.length:=oa
   refine p Qx<|p Qx<|pii O (i:=0) (hb.I G) O O T λhN h9=>pq (λ_ S=>Qr (h9.I S) O) <|
    p Qx<|pii O (i:=0) (I.I G) O O hA λhO hC=>pq (λ_ S=>Qr (hC.I S) O)<|p (λ_=>X6 O O) <|
    p (Ys rfl)<|p (Ys O)<|p ZN<|pe ?_
   refine⟨_,La,O5.X _ _,?_⟩;cases a1 with
   | nil=>simp at hA
   | cons y a1=>cases E with
    | nil=>simp at T
    | cons z E=>rfl
  refine p Qx<|ps<|ps<|ps<|ps<|ps<|ps<|ps<|ps<|ps<|ps<|ps<|ps<|p (Ys O)<|p ZN<|pe ?_;refine⟨false,La,O5.X _ _,?_⟩;have:E=[]:=Lt oa;subst this;rfl
 rintro z g4 w4 ⟨hv,rfl⟩
 replace J:=Qm J hv
 replace G:=G.D hv;refine Qc<|Qb<|QX (α:=O2) [(0,0),(10,10),(53,58)] (λz=>[(0,z),(10,sS (bif Jd a1 E then a1.headD 0 else 0))]) (λz w'=>sW w4 w'/\Qu L ↑w z (tl (Jd a1 E) a1)) oh ?_ ?_
 ·refine Qk<|xe<|Q6 O (λV=>?_) (λV=>?_)
  ·have hA:0<a1.length:=by cases a1 with|nil=>simp[Jd]at V|cons y a1=>simp
   refine ZL [] (Xg 0 7 [])<|p Qx<|pii O (i:=0) (I.I G) O O hA λhD hf=>pq (λ_ S=>Qr (hf.I S) O)<|p Qx <|
    Qok rfl (lo:=1) I O O hA λv' hg=>p ZN<|p ZN<|pe ?_
   have hh:=Qu.drop hg;refine⟨v',⟨O,?_,Z⟩,O5.X _ _,?_⟩
   ·show sS a1[0]=_;rw[V];cases a1 with|nil=>simp at hA|cons y a1=>rfl
   rw[V];simpa[tl]using hh
  refine Qf<|⟨h3,⟨O,by show _=_;rw[V];rfl,Z⟩,O5.Y _ _,?_⟩;rw[V];exact I
 rintro hw g5 w5 ⟨hy,hz⟩
 replace J:=Qm J hy
 replace G:=G.D hy;refine QX (α:=O2) [(1,1),(10,10),(59,64)] (λz=>[(1,z),(10,sS (bif Jd E a1 then E.headD 0 else bif Jd a1 E then a1.headD 0 else 0))]) (λz w'=>sW w5 w'/\Qu L' ↑w z (tl (Jd E a1) E)) oh ?_ ?_
 ·refine Qk<|xe<|Q6 O (λY=>?_) (λY=>?_)
  ·have T:0<E.length:=by cases E with|nil=>simp[Jd]at Y|cons y E=>simp
   refine ZL [] (Xg 0 7 [])<|p Qx<|pii O (i:=0) (hb.I G) O O T λhD hf=>pq (λ_ S=>Qr (hf.I S) O)<|p Qx <|
    Qok rfl (lo:=1) hb O O T λv' hg=>p ZN<|p ZN<|pe ?_
   have hh:=Qu.drop hg;refine⟨v',⟨O,?_,Z⟩,O5.X _ _,?_⟩
   ·show sS E[0]=_;rw[Y];cases E with|nil=>simp at T|cons y E=>rfl
   rw[Y];simpa[tl]using hh
  refine Qf<|⟨h4,⟨O,by show _=_;rw[Y];rfl,Z⟩,O5.Y _ _,?_⟩;rw[Y];exact hb
 rintro h0 g6 w6 ⟨h1,h2⟩
 replace J:=Qm J h1
 replace G:=G.D h1;have hE:(bif Jd E a1 then E.headD 0 else bif Jd a1 E then a1.headD 0 else 0)=hx a1 E:=by
  unfold hx;cases e:Jd E a1 with
  | true=>rfl
  | false =>
   cases e2:Jd a1 E with
   | true=>rfl
   | false=>rw[e,e2]at hq;simp[tl]at hq
 refine Qk<|Qa<|Qa<|Qo<|xc (first:=[]) (capt:=[]) O<|(hk _ _ _).S ?_;rintro r7 w7 ⟨rfl,rfl⟩;refine xe<|Q6 rfl (λhj=>?_) (λhj=>?_)
 ·refine Qs ?_;rw[hj,cond_true]at U;refine Qa<|Qa<|Qo<|Yi (us:=[[sS (hx a1 E)]]) O O og od ⟨by rw[<-hE];rfl,O,Z⟩ λhP w8 hn hQ hF =>
   Qo<|Q8 (news:=[sS (hx a1 E)]) (L:=[]) (Qm J hn) O O O (hF.at od) om oa (oq G.size hn.size) λv9 w9 hG hH hR=>Qb ?_
  have hge:=Qj J;refine⟨((tl (Jd a1 E) a1,hw),(tl (Jd E a1) E,h0),(o++[hx a1 E],v9)),oe,ox,hz,h2,?_,(G.D hn).O hH (λb hb=>.inr (hge b hb).1),by rw[LA];exact U,by simp only[oM,oL];omega⟩;exact Qi.snoc hG
 rw[hj,cond_false,Mv]at U;refine Qf ?_;exact⟨((tl (Jd a1 E) a1,hw),(tl (Jd E a1) E,h0),(o,vo)),oe,ox,hz,h2,J,G,U,oe⟩
theorem Qqq (p q:Bool)(w:O1):QR sV 147 [.bool p,.bool q] w λr w'=>r=.bool (p || q)/\w'=w:=by
 refine Zm func147 ?_;refine Qc<|Qb<|Qc ?_;cases p
 ·refine Qa<|Qa<|Qa<|QB O<|Qb<|Qh ⟨[.bool q],La,O,O⟩
 refine Qa<|Qa<|Kt<|QB O<|Qb<|Qh ⟨[.bool true],La,O,O⟩
theorem Qi1 (p q:Bool)(w:O1):QR sV 237 [.bool p,.bool q] w λr w'=>r=.bool (p && !q)/\w'=w:=by
 refine Zm func237 ?_;refine Qc<|Qb<|Qc ?_;cases p
 ·refine Qa<|Qa<|Yf<|QB O<|Qb<|Qh ⟨[.bool false],La,O,O⟩
 refine Qa<|Qa<|Qa<|x (Zl O)<|QB O<|Qb<|Qh ⟨[.bool (!q)],La,O,O⟩
theorem yL {L L':LN}{a b:LI}(E:Qu L ↑w va a)(hb:Qu L' ↑w vb b)(G:a.length+b.length<=1099511627776):
  QR sV 71 [va,vb] w λr w'=>sW w w'/\Qi 3 ↑w w' r (mrg (· || ·) a b):=by
 refine Zm func71 ?_;refine Qc<|Qb<|Qk<|Qa<|Qv<|(Qcj Qqq E hb G).S ?_;rintro I T ⟨J,S⟩;refine Qb<|Qh ⟨[I],La,J,S⟩
theorem QkQ {L L':LN}{a b:LI}(E:Qu L ↑w va a)(hb:Qu L' ↑w vb b)(G:a.length+b.length<=1099511627776):
  QR sV 164 [va,vb] w λr w'=>sW w w'/\Qi 3 ↑w w' r (mrg (λp q=>p && !q) a b):=by
 refine Zm func164 ?_;refine Qc<|Qb<|Qk<|Qa<|Qv<|(Qcj Qi1 E hb G).S ?_;rintro I T ⟨J,S⟩;refine Qb<|Qh ⟨[I],La,J,S⟩
theorem Qag {L L':LN}{a b:LI}(E:Qu L ↑w va a)(hb:Qu L' ↑w vb b)(G:a.length+b.length<=1099511627776):
  QR sV 90 [va,vb] w λr w'=>sW w w'/\r=.bool (decide (mrg (λp q=>p && !q) a b=[])):=by
 refine Zm func90 ?_;refine Qc<|Qb<|Qk<|Qa<|Qv<|(QkQ E hb G).S ?_;rintro S T ⟨I,J⟩;have U:=zl (λp q=>p && !q) a b;refine QG (Qi.ints (L:=[]) J oa od) rfl<|x (Zd rfl rfl)<|Qb<|Qh ⟨[.bool (decide (((mrg (λp q=>p && !q) a b).length:Int)=0))],⟨rfl,Z⟩,I,?_⟩;simp[tup]
theorem QkC [Fu sV g fn](V:∀(e:Ed) (s:Int) (w:O1),0<=e.1->e.1<=1099511627776->0<=s->s<=1099511627776->QR sV g [sT (Qp e),sS s] w λr w'=>r=sS (e.1 - s)/\sW w w')
  {L:LN}  {v:O2} {es:List Ed} (h:UP L ↑w v es) (hi:es.Pairwise (λa b=>a.1<=b.1)) (hb:∀e∈es,0<=e.1/\e.1<=1099511627776) (s:Int) (Y:0<=s) (ha:s<=1099511627776):
  QR sV 156 [v,sS s,.func (.func g) #[] #[]] w λr w'=>sW w w'/\∃(i:Nat) (b:Bool),r=.tuple #[sS i,.bool b]/\i<=es.length /\
   (∀m (E:m<es.length),m<i->es[m].1<s)/\(∀m (E:m<es.length),i<=m->s<=es[m].1):=by
 have h5:=h.le;have hc:∀{i j:Nat} (G:j<es.length) (J:i<j),es[i].1<=es[j].1:=λ{i j} G J=>Mi.1 hi i j oa G J;have he:∀m (E:m<es.length),0<=es[m].1/\es[m].1<=1099511627776:=λm E=>hb _ (Le E);refine Zm func156 ?_;refine Qc<|x Qe<|Qb<|Qk<|QG h O<|Qb<|Qk<|x Qe<|Qb<|Qd<|QW (α:=Nat×Nat) [(9,11),(15,34)] (λz=>[(9,sS z.1),(10,sS z.2)])
  (λz w'=>sW w w'/\z.1<=z.2/\z.2<=es.length/\(∀m (E:m<es.length),m<z.1->es[m].1<s)/\(∀m (E:m<es.length),z.2<=m->s<=es[m].1)) (λz=>z.2 - z.1) (0,es.length) ov
  ⟨O5.Y _ _,Lo _,Lp _,λm _ S=>OW S (NJ m),λm h1 S=>OW h1 (by simp only[]at S;omega)⟩ ?_
 rintro⟨i,j⟩ g1 w1 ⟨I,J,G,hf,hg⟩;refine Qd<|Qk<|Qa<|ZX O O<|xe<|Zr rfl (λhr=>?_) (λhr=>?_)
 ·have e:i=j:=oa
  subst e;refine Qt<|QX (α:=Bool) [(6,7),(35,48)] (λz=>[(6,sS i),(7,.bool z)]) (λz w'=>sW w1 w') oh ?_ ?_
  ·refine Qs<|Qa<|Qa<|Qa<|xb (YC O O) (λhs=>?_) (λhs=>?_)
   ·have hn:i<es.length:=oa
    have T:=he i hn;refine Qa<|Qa<|Qa<|Qa<|xie (h.I I) O O hn λh6 ht=>x (QA ht O O)<|Qa<|Qo<|xc (first:=[]) (capt:=[]) O<|(V es[i] s _ T.1 T.2 Y ha).S ?_;rintro r2 w2 ⟨rfl,hu⟩;refine x (Zd O O)<|QB O<|x Qe<|Qb<|⟨_,ov,hu⟩
   refine Qa<|Zq<|Zq<|Yf<|QB O<|x Qe<|Qb<|⟨false,ov,O5.Y _ _⟩
  rintro z g3 w3 hv;exact Qh ⟨[sS i,.bool z],ov,I.D hv,i,z,O,G,hf,hg⟩
 refine Qf<|Qn<|Qk<|Qa<|QD O O<|x (Yh O (by exact⟨oa,oa⟩))<|x (Qb0 (n:=1) O O og)<|x (Yh O (by exact⟨oa,oa⟩))<|Qb ?_;have hh:(((i:Int)+(j:Int)) / 2 ^ 1)=(((i+j) / 2:Nat):Int):=oa
 rw[hh];generalize T:(i+j) / 2=q;have hw:i<=q:=oa
 have hy:q<j:=oa
 have U:q<es.length:=oa
 have ho:=he q U;refine Qk<|Qa<|Qa<|xie (h.I I) O O U λh7 hz=>x (QA hz O O)<|Qa<|Qo<|xc (first:=[]) (capt:=[]) O<|(V es[q] s _ ho.1 ho.2 Y ha).S ?_;rintro r4 w4 ⟨rfl,hp⟩;refine ZX rfl O<|xe<|Zr rfl (λh2=>?_) (λh2=>?_)
 ·refine Qs<|Qa<|Qb<|⟨(i,q),oe,ov,I.D hp,hw,oa,hf,λm E h3=>?_⟩;by_cases e:q=m
  ·subst e;omega
  have:=hc E (show q<m by simp only[]at h3;omega);omega
 refine Qs<|Qa<|QD O O<|Qb<|⟨(q+1,j),oe,ov,I.D hp,hy,G,λm E h4=>?_,hg⟩;by_cases e:m=q
 ·subst e;omega
 have:=hc U (show m<q by simp only[]at h4;omega);omega
theorem QlS (e:Ed)(s:Int)(w:O1)(I:0<=e.1)(J:e.1<=1099511627776)(S:0<=s)(T:s<=1099511627776):
  QR sV 157 [sT (Qp e),sS s] w λr w'=>r=sS (e.1 - s)/\sW w w':=by
 refine Zm func157 ?_;refine Qc<|Za (Qp e) λU V E Y G=>Qb<|Qc<|Qq O G O O<|Qa<|x (Jq O O ⟨oa,oa⟩)<|Qb<|Qh ⟨[sS (e.1 - s)],La,O,E⟩
theorem QlR (e:Ed)(s:Int)(w:O1)(I:0<=e.1)(J:e.1<=1099511627776)(S:0<=s)(T:s<=1099511627776):
  QR sV 158 [sT (Qp e),sS s] w λr w'=>r=sS (e.1 - s)/\sW w w':=by
 refine Zm func158 ?_;refine Qc<|Za (Qp e) λU V E Y G=>Qb<|Qc<|Qq O G O O<|Qa<|x (Jq O O ⟨oa,oa⟩)<|Qb<|Qh ⟨[sS (e.1 - s)],La,O,E⟩
theorem QaH {L:LN}{st:Int}{es:List Ed}(h:UP L ↑w ve es)(hi:es.Pairwise (λa b=>a.1<=b.1))(hb:∀e∈es,0<=e.1/\e.1<=1099511627776)(s:Int)(he:0<=s)(hp:s<1099511627776):
  QR sV 80 [.agg #[va,sS st,vm,ve],sS s] w λr w'=>sW w w'/\UP L ↑w' r (QQ es s):=by
 refine Zm func80 ?_;refine Qc<|Za [va,sS st,vm,ve] λb2 w1 T hq E=>Qb ?_
 replace h:=h.I T;refine Qc<|Qq O E O O<|Qa<|Qv<|(QkC QlS h hi hb s he oa).S ?_;rintro r2 w2 ⟨J,lo,b,rfl,hr,U,hf⟩
 replace h:=h.I J
 replace E:=E.I J;refine Qa<|QJ O O<|QJ O O<|x Qe<|Qb<|Qc<|Qq O E O O<|Qa<|QD O O<|Qv<|(QkC QlR h hi hb (s+1) oa oa).S ?_;rintro r3 w3 ⟨S,hi',b',rfl,V,hg,Y⟩
 replace h:=h.I S
 replace E:=E.I S;refine Qa<|QJ O O<|QJ O O<|x Qe<|Qb ?_;have ha:lo<=hi':=by
  rcases OM hi' lo with hh|hge
  ·have I:=U hi' oa hh;have h2:=Y hi' oa (Lp _);omega
  exact hge
 refine Qc<|Qq O E O O<|Qa<|Qa<|Qrz h O O O ha V λv' hj=>Qb<|Qh ⟨[v'],La,(T.D J).D S,?_⟩;have hc:=yw (λe:Ed=>decide (e.1=s)) es lo hi' ha V (λm G hk=>by have:=U m G hk;simp;omega) (λm G I h2=>by have:=hf m G I;have:=hg m G h2;simp;omega) (λm G I=>by have:=Y m G I;simp;omega);have hn:(QQ es s).length=hi' - lo:=by unfold QQ;rw[<-hc,LC,Mo];omega
 show Zt L ↑w3 v' (QQ es s).length 3 _;rw[hn];have e1:(QQ es s).flatMap Qp=((es.flatMap Qp).drop (lo*3)).take ((hi' - lo)*3):=by
  unfold QQ;rw[<-hc];have key:∀(l:List Ed) (k:Nat),(l.flatMap Qp).drop (k*3)=(l.drop k).flatMap Qp:=by
   intro l;induction l with
   | nil=>intro k;simp
   | cons a l ih=>intro k;cases k with
    | zero=>simp
    | succ k=>simp only[oT,List.drop_succ_cons,Ou,OL];rw[MV,<-List.drop_drop,show(Qp a++l.flatMap Qp).drop 3=l.flatMap Qp from rfl,ih]
  have ho:∀(l:List Ed) (k:Nat),(l.flatMap Qp).take (k*3)=(l.take k).flatMap Qp:=by
   intro l;induction l with
   | nil=>intro k;simp
   | cons a l ih=>intro k;cases k with
    | zero=>simp
    | succ k =>
     simp only[oT,List.take_succ_cons,Ou,OL];rw[NC,JQ,<-ih,Lq (by simp[JQ])];simp
  rw[key,ho]
 rw[e1];exact hj
structure KJ (b3 b22:Nat)(r3:O2)(wS:O1)(c:Cs)(vo vk ve:O2)(w:O1):Prop where
 st:O5 [b3,b22] wS w
 B3:QL ↑w b3 53 [r3,sS 0,vk,ve]
 B22:QL ↑w b22 3 (c.num.map (Value.int .i64))
 o:Qi 3 ↑wS w vo c.ord
 k:Qi 3 ↑wS w vk c.mk'
 e:Yd 179 ↑wS w ve c.ed
 d1:Dj vo vk
 d2:Dj vo ve
 d3:Dj vk ve
theorem KJ.I {b3 b22:Nat}{r3:O2}{wS:O1}{c:Cs}{vo vk ve:O2}{w w':O1}(h:KJ b3 b22 r3 wS c vo vk ve w)(E:sW w w'):KJ b3 b22 r3 wS c vo vk ve w' :=
 ⟨h.st.D E,h.B3.I E,h.B22.I E,Qm h.o E,Qm h.k E,Qm h.e E,h.d1,h.d2,h.d3⟩
section
variable {b3 b22:Nat}{r3:O2}{wS:O1}{c:Cs}{w'':O1}
theorem KJ.setK (h:KJ b3 b22 r3 wS c vo vk ve w)(V:b3<wS.heap.size)(T:b22<wS.heap.size)(ne:b3≠b22){G:O2}{m:LI}(I:O5 (ob vk) w w')(J:Qi 3 ↑wS w' G m)
  (S:∀b∈ob G,b∈ob vk\/↑w<=b) (E:O5 [b3] w' w'') (U:QL ↑w'' b3 53 [r3,sS 0,G,ve]):KJ b3 b22 r3 wS ⟨c.ord,c.num,m,c.ed⟩ vo G ve w'':=by
 refine⟨(h.st.O I (λb hb=>.inr ((Qj h.k) b hb).1)).O E (λb hb=>.inl (by simp at hb;simp[hb])),U,(h.B22.J I (QK h.k T)).J E (by simp;omega),
  Qg (Qg h.o I h.d1) E (λb hb=>by have:=(Qj h.o b hb).1;simp;omega),Qg J E (λb hb=>by have:=(Qj J b hb).1;simp;omega),
  Qg (Qg h.e I h.d3.symm) E (λb hb=>by have:=(Qj h.e b hb).1;simp;omega),h.d1.grow S (QU h.o),h.d2,(h.d3.symm.grow S (QU h.e)).symm⟩
theorem KJ.setE (h:KJ b3 b22 r3 wS c vo vk ve w)(V:b3<wS.heap.size)(T:b22<wS.heap.size)(ne:b3≠b22){G:O2}{m:List Ed}(I:O5 (ob ve) w w')(J:Yd 179 ↑wS w' G m)
  (S:∀b∈ob G,b∈ob ve\/↑w<=b) (E:O5 [b3] w' w'') (U:QL ↑w'' b3 53 [r3,sS 0,vk,G]):KJ b3 b22 r3 wS ⟨c.ord,c.num,c.mk',m⟩ vo vk G w'':=by
 refine⟨(h.st.O I (λb hb=>.inr ((Qj h.e) b hb).1)).O E (λb hb=>.inl (by simp at hb;simp[hb])),U,(h.B22.J I (QK h.e T)).J E (by simp;omega),
  Qg (Qg h.o I h.d2) E (λb hb=>by have:=(Qj h.o b hb).1;simp;omega),Qg (Qg h.k I h.d3) E (λb hb=>by have:=(Qj h.k b hb).1;simp;omega),
  Qg J E (λb hb=>by have:=(Qj J b hb).1;simp;omega),h.d1,h.d2.grow S (QU h.o),h.d3.grow S (QU h.k)⟩
theorem KJ.setN (h:KJ b3 b22 r3 wS c vo vk ve w)(I:b22<wS.heap.size)(ne:b3≠b22){m:LI}(E:O5 [b22] w w')(G:QL ↑w' b22 3 (m.map (Value.int .i64))):KJ b3 b22 r3 wS ⟨c.ord,m,c.mk',c.ed⟩ vo vk ve w' :=
 ⟨h.st.O E (λb hb=>.inl (by simp at hb;simp[hb])),h.B3.J E (by simp;omega),G,Qg h.o E (λb hb=>by have:=(Qj h.o b hb).1;simp;omega),
  Qg h.k E (λb hb=>by have:=(Qj h.k b hb).1;simp;omega),Qg h.e E (λb hb=>by have:=(Qj h.e b hb).1;simp;omega),h.d1,h.d2,h.d3⟩
theorem KJ.setO (h:KJ b3 b22 r3 wS c vo vk ve w)(J:b3<wS.heap.size)(S:b22<wS.heap.size){G:O2}{m:LI}(E:O5 (ob vo) w w')(T:Qi 3 ↑wS w' G m)
  (I:∀b∈ob G,b∈ob vo\/↑w<=b):KJ b3 b22 r3 wS ⟨m,c.num,c.mk',c.ed⟩ G vk ve w' :=
 ⟨h.st.O E (λb hb=>.inr (Qj h.o b hb).1),h.B3.J E (QK h.o J),h.B22.J E (QK h.o S),T,Qg h.k E h.d1.symm,Qg h.e E h.d2.symm,
  (h.d1.symm.grow I (QU h.k)).symm,(h.d2.symm.grow I (QU h.e)).symm,h.d3⟩
end
def Yw (c:Cs)(e:Ed):Cs:=if Z9 c.num e.2.2<0 then⟨c.ord++[e.2.2],c.num.set e.2.2.toNat c.ord.length,c.mk',c.ed⟩else c
theorem Ql1 (c:Cs)(e:Ed):(Yw c e).num.length=c.num.length:=by unfold Yw;split <;> simp
theorem zE {c:Cs}{e:Ed}(h:e.2.2.toNat<c.num.length):Zx i c e=⟨(Yw c e).ord,(Yw c e).num,(Yw c e).mk',(Yw c e).ed++[((i:Int),e.2.1,Z9 (Yw c e).num e.2.2)]⟩:=by
 unfold Zx Yw;split
 ·simp[Z9,oO,h]
 rfl
theorem KC {L:LN}{a:Qz}(h:Zp L ↑w va vm ve a)(hok:Q0 a):
  QR sV 241 [.agg #[va,sS a.st,vm,ve]] w λr w'=>sW w w'/\YT ↑w ↑w' r (Xw a):=by
 have hst0:=hok.st0;have hst1:=hok.st1;refine Zm func241 ?_;refine Qc<|Za [va,sS a.st,vm,ve] λb1 w1 gk hb1 hj=>QN [nS,sS 0,nS,nS] λb2 w2 hf hb2 ho=>xe ?_;have hl1:=hj.lt;have hl2:=ho.lt;refine Qc<|Qq O (hj.I hf) O O<|Qv<|(ZZ ((h.al.I gk).I hf)).S ?_;rintro r3 w3 ⟨V,J⟩;have hz3:=V.size;refine x (QE ⟨(Qi.ints (L:=[]) J h.al.le od).cells,Z⟩)<|QN [nS,sS 0,nS,nS] λb3 w4 ko kq hp =>
  Q2 [r3,sS 0,nS,nS] hp ⟨(Qi.ints (L:=[]) J h.al.le od).one,rfl,rfl,rfl,Z⟩ λw5 kr hp=>xe ?_
 have I:sW w3 w5:=ko.Q kr kq;have hl3:=hp.lt;have gl:sW w w5:=((gk.D hf).D V).D I;refine Qd<|Qc<|Zc O<|x (Ql (((hj.I hf).I V).I I) O O)<|x (Zd O O)<|xe<|Zi rfl (λhJ=>?_) (λhJ=>?_)
 ·refine Qc<|QV hp O O<|Q2 [r3,sS 0,nS,nS] ((ho.I V).I I) ⟨(Qi.ints (L:=[]) J h.al.le od).one,rfl,rfl,rfl,Z⟩ λw6 gm ho=>xe ?_;refine Qh ⟨[.agg #[r3,sS 0,nS,nS]],⟨Jl ho,Z⟩,gl.Q gm oa,?_⟩;have kt:=Qg (Qm J I) gm (λb hb=>by have:=(Qj J b hb).1;simp;omega);unfold Xw;rw[OU hJ];exact⟨r3,_,_,O,λL' hr=>⟨Qi.ints kt h.al.le (λb hb=>oo (hr b hb)),Zt.nil _ _ _,Zt.nil _ _ _⟩⟩
 have ku:0<a.st:=oa
 obtain⟨n,hn⟩:∃n:Nat,a.st=n:=⟨a.st.toNat,oa⟩;have kv:a.st.toNat=n:=oa
 refine Qf<|Qc<|Zc O<|x (Ql (((hj.I hf).I V).I I) O O)<|Qo<|YZ (n:=n) (OV sS hn) (OV sS hn) oa λb22 w7 ht hb22 hK=>Qb ?_;have hl22:=hK.lt;have kw:=gl.D ht;rw[show(oG n (sS 0).cells.toList).flatten=((oG n 0).map (Value.int .i64)) by rw[show(sS 0).cells.toList=[sS 0] from rfl,QbY,List.map_replicate]]at hK;have kx:sW w3 w7:=I.D ht;refine Qd<|Qk<|x (jA O)<|Qa<|xe<|QW (α:=Nat) [(5,5),(25,31)] (λk=>[(25,sS k)]) (λk w'=>O5 [b22] w7 w'/\k<=n/\QL ↑w' b22 3 ((oG k (-1)++oG (n - k) 0).map (Value.int .i64))) (λk=>n - k) 0 La
  ⟨O5.Y _ _,Lo _,ou hK⟩ ?_
 rintro k g w8 ⟨hL,hk,hM⟩;refine Zk rfl O (λkz=>?_) (λkz=>?_)
 rotate_left
 ·have T:k<n:=oa
  refine Qf<|Qd<|Qn<|Qk<|Qb<|Qs<|Qa<|Qa<|x (QF O O T)<|Qo<|Ka hM O O (by simp;omega) λw9 h5 gn=>xe ?_;refine Qs<|QD O O<|Qa<|xe<|⟨k+1,oa,La,hL.V h5,oa,?_⟩;have e:(oG k (-1:Int)++oG (n - k) 0).set k (-1)=oG (k+1) (-1)++oG (n - (k+1)) 0:=by
   rw[List.set_append_right _ _ od];obtain⟨m,hm⟩:∃m,n - k=m+1:=⟨n - k - 1,oa⟩;rw[hm,show n - (k+1)=m by omega,List.replicate_succ,List.replicate_succ' (n:=k)];simp
  rw[e]at gn;exact gn
 have k0:n=k:=oa
 subst k0;simp only[Nat.sub_self,List.replicate_zero,Oo]at hM;refine Qt<|Qk<|x (QF (i:=0) O O oa)<|Qo<|Ka (i:=0) hM O O (by simp;omega) λwS h5 k4=>xe ?_;have hzS:w8.heap.size<=wS.heap.size:=h5.size;have hz8:=hL.size;have hv:O5 [b22] w7 wS:=hL.V h5;have hN:sW w wS:=kw.Q hv oa;have hA:Zp [b3,b22] ↑wS va vm ve a:=(h.up (λb hb=>.inr (by simp at hb;omega))).I hN;have go:QL ↑wS b1 53 [va,sS a.st,vm,ve]:=((((hj.I hf).I V).I I).I ht).J hv (by simp;omega);have k5:QL ↑wS b2 53 [nS,sS 0,nS,nS]:=(((ho.I V).I I).I ht).J hv (by simp;omega);have k6:QL ↑wS b3 53 [r3,sS 0,nS,nS]:=(hp.I ht).J hv (by simp;omega);have k9:Qi 3 ↑w2 wS r3 a.al:=Qg (Qm J kx) hv (λb hb=>by have:=QU J b hb;simp;omega);have ma:∀b∈ob r3,b<w3.heap.size:=QU J;have hw:b3<wS.heap.size:=oa
 have hy:b22<wS.heap.size:=oa
 have hO:b3≠b22:=oa
 refine Qc<|Qo<|Q9 [[sS 0]] λgq mc hP hb34 mf=>Qb ?_;have mg:Qi 3 ↑wS mc (sL gq 1 1) [0]:=mf.own (n:=1) (sz:=1) O oa oa;refine Qd<|Qc<|Qb ?_;have hedle:=hok.ed_le;have mh:∀e∈a.ed,0<=e.1/\e.1<=1099511627776:=λe he=>oo (hok.ed e he)
 refine QW (α:=Nat×Cs×O2×O2×O2) [(6,9),(11,11),(35,100)] (λz=>[(6,z.2.2.1),(7,sS z.1)])
  (λz w'=>KJ b3 b22 r3 wS z.2.1 z.2.2.1 z.2.2.2.1 z.2.2.2.2 w'/\z.1<=z.2.1.ord.length/\V5 a.st z.2.1/\z.2.1.mk'.length<=z.1/\z.2.1.ed.length<=z.1*131072/\Xd a (a.st.toNat - z.1) z.1 z.2.1=Xd a a.st.toNat 0 (Z3 a))
  (λz=>a.st.toNat - z.1) (0,Z3 a,sL gq 1 1,nS,nS) ov
  ⟨⟨hP.any,k6.I hP,by show QL _ _ _ (OS _ ((oG a.st.toNat (-1)).set 0 0));rw[kv];exact k4.I hP,mg,QM _ _ _ _,QM _ _ _ _,Dj.nil' _,Dj.nil' _,Dj.nil' _⟩,Lo _,QfT ku,Lo _,Lo _,O⟩ ?_
 rintro⟨i,c,vo,vk,S⟩ g2 mj ⟨hI,hi,E,mo,mq,hQ⟩;simp only[]at hI hi E mo mq hQ;have hcle:=E.le;have hR:=Qi.ints (L:=[]) hI.o oa od;have ms:=hA.st hI.st;have mt:=go.J hI.st (by simp;omega);refine Qd<|Qk<|Qa<|QG hR O<|ZX O O<|xe<|Zr rfl (λmu=>?_) (λmu=>?_)
 ·have mv:c=Xd a a.st.toNat 0 (Z3 a):=by rw[<-hQ,Qaa oa]
  refine Qt<|Qk<|QG hR O<|Zc O<|Qo<|Qw hI.B3 O O od rfl λmw h6 my=>xe ?_;refine Qc ?_;have mz:=Qi.ints (L:=[]) hI.k oa od;have m0:=Yd.eds (L:=[]) hI.e (oo E.el) od;have m1:=Qi.ints (L:=[]) J h.al.le od;refine QV my O O<|Q2 [r3,sS c.ord.length,vk,S] (((k5.J hI.st (by simp;omega))).J h6 (by simp;omega)) ⟨m1.one,O,mz.one,m0.one,Z⟩ λm2 h7 m3=>xe ?_;have gr:O5 [b3,b22] wS mw:=hI.st.O h6 (λb hb=>.inl (by simp at hb;simp[hb]));have m4:sW w m2:=(hN.O gr (λb hb=>.inr (by simp at hb;omega))).Q h7 oa;refine Qh ⟨[.agg #[r3,sS c.ord.length,vk,S]],⟨Jl m3,Z⟩,m4,?_⟩;unfold Xw;rw[OT hJ];simp only[];rw[<-mv];have k1:=Qg (Qg hI.k h6 (λb hb=>by have:=(Qj hI.k b hb).1;simp;omega)) h7 (λb hb=>by have:=(Qj hI.k b hb).1;simp;omega);have k2:=Qg (Qg hI.e h6 (λb hb=>by have:=(Qj hI.e b hb).1;simp;omega)) h7 (λb hb=>by have:=(Qj hI.e b hb).1;simp;omega);have k3:=Qg (Qg k9 gr (λb hb=>by have:=ma b hb;simp;omega)) h7 (λb hb=>by have:=(Qj J b hb).1;simp;omega);exact⟨r3,vk,S,O,λL' hr=>⟨Qi.ints k3 h.al.le (λb hb=>oo (hr b hb)),Qi.ints k1 (by show c.mk'.length<=_;omega) (λb hb=>oo (hr b hb)),Yd.eds k2 (by show c.ed.length<=_;have:=E.el;omega) (λb hb=>oo (hr b hb))⟩⟩
 have T:i<c.ord.length:=oa
 refine Qf<|Qd<|Qn<|QX (α:=O2) [(8,9),(41,57)] (λz=>[]) (λz w'=>KJ b3 b22 r3 wS (Ym a i c) vo z S w') oh ?_ ?_
 ·refine Qd<|ZL [] (Xg 0 12 [6])<|p (QH O)<|pq (λ_ E=>Ql (mt.I E) O O)<|p Qx<|p Qx<|pii O hR O O T λa46 m5 =>
   pq (λ_ E=>Qr (m5.I E) O)<|pk<|xg<|(yI (ms.mr.I (O5.X _ _)) hok.mri _).S ?_
  rintro r14 w14 ⟨rfl,j14,rfl⟩;refine⟨O5.X _ _,?_⟩;refine p Qx<|p (λ_=>Q3 O O)<|p (λ_=>Q3 O O)<|p ZN<|p ZN<|pe ?_;have hS:=hI.I (O5.X [] mj);refine Qk<|xe ?_;have h8:Z9 c.ord i=c.ord[i]:=Uu (ou T);refine Zr O (λhT=>?_) (λhT=>?_)
  ·refine Qf<|⟨vk,Z,?_⟩;unfold Ym;rw[h8,OT hT];exact hS
  refine Qs<|Qq O hS.B3 O O<|Qa<|Qo<|Q9 [[sS i]] λb55 w15 m6 hb55 m7=>?_;have hz:=hS.I m6;refine Qo<|Q8 (news:=[sS i]) (L:=[]) hz.k O O O (m7.at od) om oa hz.st.size λgs m8 m9 gt pc=>?_;have gu:Qi 3 ↑wS m8 gs (c.mk'++[(i:Int)]):=Qi.snoc m9;refine Zc O<|Qo<|Qw (hz.B3.J gt (QK hz.k hw)) O O od (Qi.ints (L:=[]) gu (by simp;omega) od).one λw17 pd pf=>xe ?_;refine⟨gs,Z,?_⟩;unfold Ym;rw[h8,OU hT];exact hz.setK hw hy hO gt gu pc pd pf
 rintro hU g3 h0 hg;have pg:V5 a.st (Ym a i c):=Qi3 E;have hV:(Ym a i c).ord=c.ord:=by unfold Ym;split <;> rfl
 have ph:(Ym a i c).ed=c.ed:=by unfold Ym;split <;> rfl
 have pj:(Ym a i c).mk'.length<=i+1:=by
  unfold Ym;split
  ·simp only[oM,oL];omega
  omega
 have gv:Qu [] ↑h0 vo (Ym a i c).ord:=Qi.ints (L:=[]) hg.o (by rw[hV];omega) od;rw[hV]at gv;have pn:sW w h0:=hN.O hg.st (λb hb=>.inr (by simp at hb;omega));have po:Zp (b3::b22::(ob vo++ob S)) ↑h0 va vm ve a:=(h.up (λb hb=>.inr (by
  simp only[oK,oW]at hb;rcases hb with rfl|rfl|hb|hb
  ·omega
  ·omega
  ·have:=(Qj hg.o b hb).1;omega
  have:=(Qj hg.e b hb).1;omega))).I pn
 have pp:=go.J hg.st (by simp;omega);have hs:=E.ord c.ord[i] (Le T);refine Qd<|ZL [] [oz 0,oz 1,oz 2,oz 3,oz 4,oz 7,oA 5,oz 6]<|pq (λ_ E=>Q7 (pp.I E) O O)<|p Qx<|p Qx<|pii O gv O O T λa61 pt =>
  pq (λ_ E=>Qr (pt.I E) O)<|p Qx<|pk<|xg<|(QaH (po.ed.I (O5.X _ _)) hok.eds mh c.ord[i] hs.1 oa).S ?_
 rintro r19 hh ⟨pu,gx⟩;have gy:sW h0 hh:=(O5.X [] h0).D pu;refine⟨gy,?_⟩;refine p (λ_=>YY gx O)<|pe ?_;have pw:=hg.I gy;have h8:Z9 c.ord i=c.ord[i]:=Uu (ou T);have hol:=Yg a.ed c.ord[i];have pz:qS a i c=(QQ a.ed c.ord[i]).foldl (Zx i) (Ym a i c):=by unfold qS;rw[h8]
 generalize p0:QQ a.ed c.ord[i]=os at *;have p4:∀e∈os,0<=e.2.2/\e.2.2<a.st:=λe he=>by rw[<-p0]at he;have:=hok.ed e (ZH he).1;omega
 refine QW (α:=Nat×Cs×O2×O2) [(6,6),(11,11),(65,100)] (λz=>[(6,z.2.2.1),(65,sS z.1)])
  (λz w'=>KJ b3 b22 r3 wS z.2.1 z.2.2.1 hU z.2.2.2 w'/\O5 (b3::b22::(ob vo++ob S)) hh w'/\(∀b∈ob z.2.2.1,b∈ob vo\/↑hh<=b)/\(∀b∈ob z.2.2.2,b∈ob S\/↑hh<=b)/\z.1<=os.length/\V5 a.st z.2.1/\z.2.1.mk'=(Ym a i c).mk'/\z.2.1.ed.length=c.ed.length+z.1/\c.ord.length<=z.2.1.ord.length/\(os.drop z.1).foldl (Zx i) z.2.1=qS a i c)
  (λz=>os.length - z.1) (0,Ym a i c,vo,S) ov
  ⟨pw,O5.Y _ _,λ_ hb=>.inl hb,λ_ hb=>.inl hb,Lo _,pg,O,by simp[ph],by simp[hV],by rw[pz];rfl⟩ ?_
 rintro⟨k,d,gz,h9⟩ g4 p5 ⟨Y,hB,hC,hW,p6,U,hX,hY,p7,h2⟩;simp only[]at Y hB hC hW p6 U hX hY p7 h2;refine Zk rfl O (λp8=>?_) (λp8=>?_)
 ·rw[Lr oa,NE]at h2;subst h2;refine Qt<|Qs<|Qa<|QD O O<|Qb ?_;have p9:=U.le;refine⟨(i+1,qS a i c,gz,hU,h9),oe,ov,Y,oe,U,by simp only[];rw[hX];exact pj,oe,?_⟩;simp only[];rw[<-hQ];obtain⟨m,hm⟩:∃m,a.st.toNat - i=m+1:=⟨a.st.toNat - i - 1,oa⟩;rw[hm,Xd,OU T,show a.st.toNat - (i+1)=m by omega]
 have hZ:k<os.length:=oa
 have qa:=QY hZ;rw[qa,LO]at h2;have g0:=p4 os[k] (Le hZ);have qe:=gx.st hB;have p9:=U.le;have hzS4:=hB.size;have hI4z:=Y.st.size;have qf:=Qi.ints (L:=[]) Y.o oa od;obtain⟨q,hq⟩:∃q:Nat,os[k].2.2=q:=⟨os[k].2.2.toNat,oa⟩;have ga:os[k].2.2.toNat=q:=oa
 have gb:q<n:=oa
 have gc:q<d.num.length:=by rw[U.nl];omega
 have g6:Z9 d.num os[k].2.2=d.num[q]:=by rw[Uu oa];simp only[ga]
 have qj:=QU Y.e;have ql:=QU Y.o;refine Qf<|Qd<|Qn<|Qc<|xie qe O O hZ λa67 qm=>x (QA qm O O)<|QN [sS 0,sS 0,sS 0] λb11 w21 q0 q4 ha=>Q2 (Qp os[k]) ha ox λq5 j1 ha=>xe ?_;have g7:sW p5 q5:=q0.Q j1 q4;have hD:=Y.I g7;have hl11:=ha.lt;have I:=hB.D g7;refine QX (α:=O2) [(6,6),(69,85)] (λz=>[(6,z)]) (λz w'=>KJ b3 b22 r3 wS (Yw d os[k]) z hU h9 w'/\O5 (b3::b22::(ob vo++ob S)) hh w'/\(∀b∈ob z,b∈ob vo\/↑hh<=b)/\QL ↑w' b11 179 (Qp os[k])) oh ?_ ?_
 ·refine Qk<|Qq O ha O O<|x (QF O (OV sS hq) gb)<|x (zh hD.B22 O gc)<|ZX O O<|xe<|Zr O (λge=>?_) (λge=>?_)
  ·refine Qf<|⟨gz,La,?_,I,hC,ha⟩;unfold Yw;rw[g6,OT ge];exact hD
  refine Qk<|Qq O ha O O<|Qa<|QG qf O<|x (QF O (OV sS hq) gb)<|Qo<|Ka hD.B22 O O gc λw23 hE j2=>xe ?_;have j3:=hD.setN hy hO hE j2;have g8:=ha.J hE (by simp;omega);refine Qs<|Qa<|Qq O g8 O O<|Qo<|Yi (us:=[[sS os[k].2.2]]) O O og od ⟨rfl,rfl,Z⟩ λb84 w24 hF hb84 j4=>?_;have gg:=j3.I hF;refine Qo<|Q8 (news:=[sS os[k].2.2]) (L:=[]) gg.o O O O (j4.at od) om (by show d.ord.length+1<=_;omega) gg.st.size λg9 za z0 gh ka=>Qb ?_;have z2:Qi 3 ↑wS za g9 (d.ord++[os[k].2.2]):=Qi.snoc z0;have hz23:=hE.size;have hz24:=hF.size;refine⟨g9,La,?_,?_,?_,(g8.I hF).J gh (λhb=>oo (ql _ hb))⟩
  ·unfold Yw;rw[g6,OU ge,ga];exact gg.setO hw hy gh z2 ka
  ·refine((I.O hE (λb hb=>.inl ?_)).D hF).O gh (λb hb=>?_)
   ·simp at hb;simp[hb]
   rcases hC b hb with G|G
   ·exact .inl (by simp[G])
   exact .inr G
  intro b hb;rcases ka b hb with G|G
  ·exact hC b G
  exact .inr oa
 rintro z3 g5 kb ⟨h3,kc,z4,ke⟩;have gi:Zx i d os[k]=⟨(Yw d os[k]).ord,(Yw d os[k]).num,(Yw d os[k]).mk',(Yw d os[k]).ed++[((i:Int),os[k].2.1,Z9 (Yw d os[k]).num os[k].2.2)]⟩:=zE oa;have z5:q<(Yw d os[k]).num.length:=by rw[Ql1];exact gc
 have hg2:Z9 (Yw d os[k]).num os[k].2.2=(Yw d os[k]).num[q]:=by rw[Uu oa];simp only[ga]
 have kf:=QK h3.e hw;have hne22:=QK h3.e hy;have kg:b11∉ob h9:=λhb=>oo (qj _ hb)
 have kh:(Yw d os[k]).ed=d.ed:=by unfold Yw;split <;> rfl
 have hc5:V5 a.st (Zx i d os[k]):=QbK U g0.1 g0.2 (by rw[hY];omega);refine ZL (ob h9) (Xg 0 15 [11,12,14])<|p (QH O)<|pq (λ_ E=>Ql (h3.B3.J E kf) O O)<|p Qx<|p (QH O)<|pq (λ_ E=>Ql (ke.J E kg) O O) <|
  p Qx<|p (QH O)<|pq (λ_ E=>Ql (ke.J E kg) O O)<|p (λ_=>QF O (OV sS hq) gb) <|
  pq (λ_ E=>zh (h3.B22.J E hne22) O z5)<|p (λ_=>QE ⟨O,O,O,Z⟩)<|pk<|Q9 [Qp ((i:Int),os[k].2.1,(Yw d os[k]).num[q])] λb97 w27 hs27 hb97 hB97=>?_
 have h4:sW kb w27:=(O5.X [] kb).D hs27;refine⟨h4.any,?_⟩;have hG:=h3.I h4;refine pk<|Q8 (news:=Qp ((i:Int),os[k].2.1,(Yw d os[k]).num[q])) (L:=[]) hG.e O O O (hB97.at od) (λu hu=>by simp only[Qp,oK,oH,or_false]at hu;rcases hu with rfl|rfl|rfl <;> rfl) (by rw[kh];have:=U.el;omega) hG.st.size λki w28 ho28 hH kj=>?_
 refine⟨h4.any.V hH,?_⟩;have kk:Yd 179 ↑wS w28 ki ((Yw d os[k]).ed++[((i:Int),os[k].2.1,(Yw d os[k]).num[q])]):=Yd.snoc ho28;refine p (QH O)<|pkk<|Qw (hG.B3.J hH kf) O O od (Yd.eds (L:=[]) kk (by simp[kh];have:=U.el;omega) od).one λw29 kn hB29=>pe ?_;have gj:=hG.setE hw hy hO hH kk kj kn hB29;rw[<-hg2]at gj;rw[<-gi]at gj;refine Qs<|QD O O<|Qa<|xe ?_;have hz26:=kc.size;have hz27:=h4.size;refine⟨(k+1,Zx i d os[k],z3,ki),oe,ov,gj,?_,z4,?_,oe,hc5,?_,?_,?_,h2⟩
 ·refine(((kc.D h4)).O hH (λb hb=>?_)).O kn (λb hb=>.inl (by simp at hb;simp[hb]));rcases hW b hb with G|G
  ·exact .inl (by simp[G])
  exact .inr G
 ·intro b hb;rcases kj b hb with G|G
  ·exact hW b G
  exact .inr oa
 ·simp only[];rw[<-hX,gi];simp only[];unfold Yw;split <;> rfl
 ·simp only[];rw[QbM,hY];omega
 simp only[];rw[gi];simp only[];unfold Yw;split
 ·simp only[oM];omega
 omega
end Go.Lg
namespace Go.Proofs
open Go.Proofs.Tryz
open Go.Shelf
def Tryz.lays169_ren:Go.Shelf.Ren:=⟨λ|169=>150|n=>n,λ|70=>259|9=>9|0=>0|72=>261|37=>86|127=>332|3=>3|5=>5|n=>n,λ|n=>n⟩
theorem Tryz.lays169:Go.Proofs.Lays.n169 sV Tryz.lays169_ren:=lyS
theorem Tryz.Builder_Extra_169:Builder.Extra sV Tryz.lays169_ren:=lyS
open Go.RowKit in
open Go.RowKit in
open Go.RowKit in
theorem Tryz.Builder_String_any (B b:Nat)(l:List UInt8)(w:O1)(h:Lib.IsBuilder 261 5 B b (Lib.byteCells l) w)(E:B<=↑w):
  Calls sV 150 #[sP b] w λe w'=>e=.returned (.string ⟨l.toArray⟩)/\Below B w w':=Any.Builder_String_any Tryz.lays169 Tryz.Builder_Extra_169 B b l w h E
def Tryz.laysM171_ren:Go.Shelf.Ren:=⟨λ|171=>149|243=>229|246=>267|283=>295|284=>296|285=>297|286=>298|129=>221|317=>314|318=>315|319=>316|320=>317|337=>323|338=>324|n=>n,λ|3=>3|9=>9|2=>2|4=>4|171=>396|0=>0|53=>319|37=>86|5=>5|173=>398|212=>410|51=>317|20=>20|213=>411|46=>246|232=>417|233=>418|n=>n,λ|17=>0|18=>1|19=>2|n=>n⟩
theorem Tryz.laysM171:Go.Proofs.LaysM.n171 sV Tryz.laysM171_ren:=lyS
open Go.RowKit Go.Sort Go.Lib in
theorem Tryz.strconv_Itoa (n:Int)(E:-9223372036854775808<=n)(G:n<=9223372036854775807)(w:O1)(I:Lib.TabIs sV w "internal/strconv.uint64pow10" .u64 Lib.pow10Tab):
  Calls sV 149 #[sS n] w λe w'=>e=.returned (.string ⟨(Lib.itoa n).toArray⟩)/\∃k os,w'=grow (w.drewN k) os:=Any.strconv_Itoa Tryz.laysM171 n E G w I
def Tryz.lays171_ren:Go.Shelf.Ren:=⟨λ|171=>149|243=>229|246=>267|283=>295|284=>296|285=>297|286=>298|129=>221|317=>314|318=>315|319=>316|320=>317|337=>323|338=>324|n=>n,λ|3=>3|9=>9|2=>2|4=>4|171=>396|0=>0|53=>319|37=>86|5=>5|173=>398|212=>410|51=>317|20=>20|213=>411|46=>246|232=>417|233=>418|n=>n,λ|17=>0|18=>1|19=>2|n=>n⟩
theorem Tryz.lays171:Go.Proofs.Lays.n171 sV Tryz.lays171_ren:=lyS
open Go.RowKit Go.Sort Go.Lib in
theorem Tryz.strconv_Itoa_small (i:Nat)(hi:i<100)(w:O1):
  Calls sV 149 #[sS i] w λe w'=>e=.returned (.string ⟨(Lib.decDigits i).toArray⟩)/\w'=w:=Any.strconv_Itoa_small Tryz.lays171 i hi w
end Go.Proofs
namespace Go.Lg
open Go.RowKit
section
variable {K:Fr->O1->Prop}{f:Fr}
theorem Qe5 {te:Nat}(G:P.underlying t=some (.pointer te)){x:O3}{a:Option Addr}(hx:ev f x=.pointer a)(I:ev f y=.pointer none):
  (execOp (ev f) ⟨d,.binOp .eql t x y E,ty,pS,af,gd⟩).run P w=.ok (.value (.bool a.isNone)) w:=by
 have J:(eqGuard .eql t x y (.pointer a) (.pointer none)).run P w=.ok () w:=by simp[eqGuard]
 have key:∀m,(Op.equalIn (m+1) t (.pointer a) (.pointer none)).run P w=.ok a.isNone w:=by
  intro m;unfold Op.equalIn;cases a <;> simp[run_underlying G]
 have S:(Op.equal t (.pointer a) (.pointer none)).run P w=.ok a.isNone w:=key 9999;simp only[execOp,hx,I,Sem.run_bind,J,Result.andThen_ok,binOp,S,Sem.run_pure]
theorem Qgo {te:Nat}{j:TypeInfo}(G:P.underlying t=some (.pointer te))(I:P.info? te=some j){x:O3}{a:Addr}(hx:ev f x=.pointer (some a))(J:ev f y=.pointer (some a)):
  (execOp (ev f) ⟨d,.binOp .neq t x y E,ty,pS,af,gd⟩).run P w=.ok (.value (.bool false)) w:=by
 have S:(eqGuard .neq t x y (.pointer (some a)) (.pointer (some a))).run P w=.ok () w:=by simp[eqGuard]
 simp only[execOp,hx,J,Sem.run_bind,S,Result.andThen_ok,Lib.run_neq_ptr_same w a G I,Sem.run_pure]
theorem zi {x:O3}{v:O2}(hx:ev f x=v)(h:(convert t E v).run P w=.ok v' w):
  (execOp (ev f) ⟨d,.convert t E x,ty,pS,af,gd⟩).run P w=.ok (.value v') w:=by
 simp[execOp,hx,h]
theorem Qii {e:Array O2->Sem O2}{x:O3}{v:O2}{ts:Array Nat}(G:P.funcs[g]?=some fn)(I:(fn.name == "runtime.NumGoroutine")=false)
  (hb:fn.body.isNone=true) (J:Extern.findNext fn=none) (S:Extern.find fn=some e) (h:(e #[ev f x]).run P w=.ok v w):
  (execOp (ev f) ⟨d,.call ⟨.value (.func g),#[x],ts⟩,ty,pS,af,gd⟩).run P w=.ok (.value v) w:=by
 have E:=run_callFunc_extern G I hb J S #[ev f x] w;rw[h]at E;have T:ev f (.func g)=.func (.func g) #[] #[]:=rfl;simp[execOp,resolve,T,Deferred.ofValue,invoke,E,Result.andThen]
theorem Qos {e u:Nat}[h:Sl P t e 1 1 (.int .u8 0)](E:P.underlying u=some .string){s:O3}{v:O2}{cs:LV}(G:w.ownsRow base e 1 v n cs)(I:ev f s=v)
  {b:ByteArray} (J:ev f y=.string b) (hb:n+b.size<=1099511627776) (S:base<=↑w)
  (hK:∀v' w',w'.ownsRow base e 1 v' (n+b.size) (cs++Lib.strCells b)->O5 (ob v) w w'->K (QP f d v') w'):
  XO P ⟨d,.call ⟨.builtin .append,#[s,y],#[t,u]⟩,ty,pS,af,gd⟩ f w K:=by
 obtain⟨i,hi,T,U,V⟩:=Sl.info h;obtain⟨v',w',Y,h2,h3,_⟩:=Lib.run_append_own_string (P:=P) w base t u ty e i h.u E hi T U V v n cs G b (by simp only[maxLen];omega) oa S;have ha:(execOp (ev f) ⟨d,.call ⟨.builtin .append,#[s,y],#[t,u]⟩,ty,pS,af,gd⟩).run P w=.ok (.value v') w':=by
  simp[execOp,resolve,invoke,builtin,I,J,Y]
 exact xv ha (hK v' w' h2 (by rw[QaJ];exact O5.of_grown h3))
theorem Qig {x:O3}{u:Nat}(E:P.underlying u=some .string){b:ByteArray}(hx:ev f x=.string b):
  (execOp (ev f) ⟨d,.call ⟨.builtin .len,#[x],#[u]⟩,ty,pS,af,gd⟩).run P w=.ok (.value (sS b.size)) w:=by
 simp[execOp,resolve,invoke,builtin,Builtin.len_,hx,run_underlying E,goInt]
end
def Bl (p:O2)(b:Nat)(E:List UInt8)(w:O1):Prop:=∃v,QL ↑w b 261 [p,v]/\w.ownsRow (b+1) 5 1 v E.length (Lib.byteCells E)
def me (b:Nat):O2:=sP b
theorem Qmw (h:(P.info? t).map (·.size)=some n):∃j,P.info? t=some j/\j.size=n:=by
 simpa using h
theorem Qac {b:Nat}{cs:LV}(h:QL ↑w b T cs):w.shape? b=some (T,cs.length):=by
 unfold QL at h;simp[World.shape?,h]
theorem KB {G:O1}{b:Nat}{S:List UInt8}{p:O2}(T:sW G w)(hb:↑G<=b)(V:p=.pointer none\/p=me b)(h:Bl p b S w):
  QR sV 228 [me b] w λr w'=>r=.tuple #[]/\sW G w'/\Bl (me b) b S w':=by
 obtain⟨v,E,I⟩:=h;obtain⟨j,J,Y⟩:=Qmw (P:=sV) (t:=261) (n:=2) oc;refine Zm func228 ?_;refine Qc ?_;rcases V with rfl|rfl
 ·refine Qa<|Z6 O<|Qq O E O O<|x (Qe5 underlying259 O O)<|xe<|yJ O ?_;refine Qs<|Qa<|Qa<|x (zi (v':=me b) O (Lib.run_to_unsafe w ⟨b,0,none⟩ underlying259 underlying372 J (by rw[Y];decide) (Qac E) od)) <|
   x (Qii (v:=me b) func266 oc oc oc (e:=Extern.AbiNoEscape.same) oc O) <|
   x (zi (v':=me b) O (Lib.run_from_unsafe w ⟨b,0,none⟩ underlying372 underlying259 J (Qac E) oc))<|x (VN O) <|
   Zc rfl<|Qo<|Qw E O O od rfl λw2 U ha=>xe ?_
  exact⟨[],Z,O,T.Q U hb,v,ha,Qg I U (λc hc=>by have:=(Qj I c hc).1;simp;omega)⟩
 refine Qa<|Z6 O<|Qq O E O O<|x (Qe5 underlying259 O O)<|xe<|ZD O<|Qk<|Z6 O<|Qq O E O O<|Qa<|x (Qgo underlying259 J O O)<|xe<|ZD O<|Qf ?_;exact⟨[],Z,O,T,v,E,I⟩
theorem Ku {J:O1}{b:Nat}{E:List UInt8}{p:O2}(h0:sW J w)(hb:↑J<=b)(hp:p=.pointer none\/p=me b)(h:Bl p b E w)(c:UInt8)(hl:E.length+1<=1000000000):
  QR sV 187 [me b,.int .u8 c.toNat] w λ_ w'=>sW J w'/\Bl (me b) b (E++[c]) w':=by
 refine Zm func187 ?_;refine Qc<|Qb<|Qk<|Qv<|(KB h0 hb hp h).S ?_;rintro r1 w1 ⟨rfl,he,v,S,T⟩;refine xe ?_;have hj:=S.lt;refine Qk<|Qa<|Z6 O<|Qq O S O O<|Qa<|Qo<|Q9 [[.int .u8 c.toNat]] λhk w2 I hm hf=>?_;have hn:=I.size;refine Qo<|Q8 (news:=[.int .u8 c.toNat]) (L:=[]) (Qm T I) O O O (hf.at od) om oa oa λV w3 hg Y hq=>?_;have U:w3.ownsRow (b+1) 5 1 V (E++[c]).length (Lib.byteCells (E++[c])):=by simpa[Lib.byteCells]using hg
 refine Z6 rfl<|Zc O<|Qo<|Qw ((S.I I).J Y (λG=>oo (Qj T b G).1)) O O od (QO (L:=[]) U (by simp;omega) od).one λw4 ha hh=>xe ?_;refine Qc<|Qb<|Qh ⟨[.nilIface],La,(((he.D I).O Y (λc G=>.inr ?_)).Q ha hb),V,hh,Qg U ha (λc G=>by have:=(Qj U c G).1;simp;omega)⟩;have:=(Qj T c G).1;omega
theorem Jo {I:O1}{b:Nat}{E:List UInt8}{p:O2}(h0:sW I w)(hb:↑I<=b)(hp:p=.pointer none\/p=me b)(h:Bl p b E w)(s:ByteArray)(hl:E.length+s.size<=1000000000):
  QR sV 148 [me b,.string s] w λ_ w'=>sW I w'/\Bl (me b) b (E++s.data.toList) w':=by
 refine Zm func148 ?_;refine Qc<|x Qe<|Qb<|Qk<|Qv<|(KB h0 hb hp h).S ?_;rintro r1 w1 ⟨rfl,he,v,J,S⟩;refine xe ?_;have hh:=J.lt;refine Qk<|Qa<|Z6 O<|Qq O J O O<|Qa<|Qo<|Qos underlying9 S O O oa oa λU w3 hf V=>?_;have Y:s.size=s.data.toList.length:=rfl;have T:w3.ownsRow (b+1) 5 1 U (E++s.data.toList).length (Lib.byteCells (E++s.data.toList)):=by
  rw[Lc,<-Y,show Lib.byteCells (E++s.data.toList)=Lib.byteCells E++Lib.strCells s by simp[Lib.byteCells,Lib.strCells_eq]];exact hf
 refine Z6 rfl<|Zc O<|Qo<|Qw (J.J V (λG=>oo (Qj S b G).1)) O O od (QO (L:=[]) T (by rw[Lc,<-Y];omega) od).one λw4 ha hg=>xe ?_;refine Qk<|x (Qig underlying9 O)<|x Qe<|Qb<|Qh ⟨[sS s.size,.nilIface],ov,((he.O V (λc G=>.inr ?_)).Q ha hb),U,hg,Qg T ha (λc G=>by have:=(Qj T c G).1;simp;omega)⟩;have:=(Qj S c G).1;omega
theorem Vm {J:O1}{b:Nat}{I:List UInt8}{p:O2}(E:sW J w)(hb:↑J<=b)(V:p=.pointer none\/p=me b)(h:Bl p b I w):
  QR sV 150 [me b] w λr w'=>r=.string ⟨I.toArray⟩/\sW J w':=by
 obtain⟨v,S,T⟩:=h;have ha:=S.lt;have U:Lib.BuilderAt 261 5 b b p (Lib.byteCells I) w:=⟨Lp _,v,S,by rw[Lib.byteCells_length];exact Zf T oa,λe=>by
  have:b∈ob v:=by rw[QaJ,e];simp
  have:=(Qj T b this).1;omega⟩
 unfold QR;refine Calls.mono (Tryz.Builder_String_any b b I w (by rcases V with rfl|rfl;exact .inl U;exact .inr U) oa) ?_
 rintro e w' ⟨rfl,G⟩;exact⟨O,⟨G.os.D E.os,G.tape.D E.tape,G.output.D E.output,Lx E.size G.size,λk Y hL=>(G.block k oa).D (E.block k Y hL)⟩⟩
def Tb (w:O1):Prop:=Lib.TabIs sV w "internal/strconv.uint64pow10" .u64 Lib.pow10Tab
theorem QhF {name:String}{v:Array O2}(h:w.var? P name=some v)(I:sW w w'):w'.var? P name=some v:=by
 unfold World.var? at *;rw[MP]at *;obtain⟨g,J,E⟩:=h;refine⟨g,J,?_⟩;cases G:w.heap[g]? with
 | none=>rw[G]at E;cases E
 | some o =>
  have S:g<w.heap.size:=(LH.1 G).1;rw[I.block g S od];exact E
theorem Tb.I (h:Tb w)(E:sW w w'):Tb w':=QhF h E
def Kb (w:O1)(m:Int):Prop:=m<=100\/(m<=1000000/\Tb w)
theorem Kb.I {w w':O1}{m:Int}(h:Kb w m)(E:sW w w'):Kb w' m:=h.imp id λh=>⟨h.1,h.2.I E⟩
theorem Kb.le {m:Int}(h:Kb w m):m<=1000000:=by rcases h with h|h <;> omega
theorem Qdw {k:Nat}{os:xA}:sW w (Sort.grow (w.drewN k) os):=by
 refine⟨O,O,O,?_,λi hi _=>?_⟩
 ·show ↑w<=(w.heap++os).size;simp
 show(w.heap++os)[i]?=w.heap[i]?;rw[Array.getElem?_append_left hi]
theorem Qa1 {m:Int}(i:Nat)(hi:(i:Int)<m)(w:O1)(E:Kb w m):QR sV 149 [sS i] w λr w'=>r=.string ⟨(Lib.decDigits i).toArray⟩/\sW w w':=by
 unfold QR;rcases E with E|E
 ·refine Calls.mono (Tryz.strconv_Itoa_small i oa w) ?_;rintro e w' ⟨rfl,rfl⟩;exact⟨O,O5.Y _ _⟩
 refine Calls.mono (Tryz.strconv_Itoa i oa oa w E.2) ?_;rintro e w' ⟨rfl,k,os,rfl⟩;refine⟨?_,Qdw⟩;unfold Lib.itoa;rw[OT oa,MO]
def YS (l:LI):List UInt8:=l.flatMap λn=>Lib.decDigits n.toNat++[32]
theorem Kj:∀(k u:Nat),u<10 ^ k->(Lib.decDigits u).length<=max 1 k
 | 0,u,h=>by
  unfold Lib.decDigits;rw[dif_pos (by simp at h;omega)];simp
 | k+1,u,h=>by
  unfold Lib.decDigits;split
  ·simp
  rename_i E;have ih:=Kj k (u / 10) (by rw[OH]at h;omega);rw[Lc];simp only[oL];have G:k≠0:=λe=>by subst e;simp at h;omega
  omega
theorem Bl.I {w w':O1}{p:O2}{b:Nat}{E:List UInt8}(h:Bl p b E w)(G:sW w w'):Bl p b E w':=by
 obtain⟨v,I,J⟩:=h;exact⟨v,I.I G,Qm J G⟩
theorem QaV {L:LN}{v:O2}{l:LI}{m:Int}(h:Qu L ↑w v l)(U:Kb w m)(hb:∀n∈l,0<=n/\n<m)(hl:l.length<=1000000):
  QR sV 120 [v] w λr w'=>r=.string ⟨(YS l).toArray⟩/\sW w w':=by
 refine Zm func120 ?_;refine Qc<|Qb<|Qc<|QN [.pointer none,nS] λI w1 ha J hc=>xe ?_;refine Qd<|Qk<|QG h O<|Qa<|xe<|QW (α:=Nat×O2) [(5,5),(8,16)] (λz=>[(8,sS z.1)]) (λz w'=>z.1<=l.length/\sW w w'/\(z.2=.pointer none\/z.2=me I)/\Bl z.2 I (YS (l.take z.1)) w'/\(YS (l.take z.1)).length<=8*z.1) (λz=>l.length - z.1) (0,.pointer none) La
  ⟨Lo _,ha,.inl O,⟨_,hc,QM _ _ _ _⟩,Lp _⟩ ?_
 rintro⟨k,p⟩ g w2 ⟨hk,E,S,G,he⟩;simp only[]at hk S G he;refine Zk rfl O (λh9=>?_) (λh9=>?_)
 ·refine Qt<|Qc ?_;rw[Lq oa]at G;refine KS<|(Vm E J S G).S ?_;rintro r3 w3 ⟨rfl,hf⟩;refine Qb<|Qh ⟨[.string ⟨(YS l).toArray⟩],La,O,hf⟩
 have T:k<l.length:=oa
 have hr:=hb l[k] (Le T);obtain⟨q,hq⟩:∃q:Nat,l[k]=q:=⟨l[k].toNat,oa⟩;have hg:l[k].toNat=q:=oa
 have hs:=Kj 7 q (oo U.le);have V:YS (l.take (k+1))=YS (l.take k)++Lib.decDigits q++[32]:=by
  rw[Lj T];unfold YS;rw[LD,M7,hg,LA]
 refine Qf<|Qd<|Qn<|Qc<|xii (h.I E) O O T λht hh=>x (Qr hh O)<|Qb<|Qk<|Qo<|xf ?_;refine(show QR _ _ [sS l[k]] _ _ by rw[hq];exact(Qa1 q oa w2 (U.I E))).S ?_;rintro r4 w4 ⟨rfl,Y⟩;refine KS<|(Jo (E.D Y) J S (G.I Y) ⟨(Lib.decDigits q).toArray⟩ (by show _+(Lib.decDigits q).toArray.size<=_;simp;omega)).S ?_;rintro r5 w5 ⟨hj,hm⟩;refine xe<|Qs<|KS<|(Ku hj J (.inr O) hm 32 (by simp;omega)).S ?_;rintro r6 w6 ⟨hn,ho⟩;refine xe<|Qs<|QD O O<|Qa<|xe<|⟨(k+1,me I),oe,La,oe,hn,.inr O,?_,?_⟩
 ·simp only[];rw[V];simpa using ho
 simp only[];rw[V];simp;omega
theorem VY (p:AV):(ZB p).length=4:=rfl
theorem Kv (p:TV):(YI p).length=1:=rfl
theorem X1.le {L:LN}{H:xA}{v:O2}{ps:List AV}(h:X1 L H v ps):ps.length<=1099511627776:=h.arr.le
theorem Qkq {l:List Qz}{k:Nat}(h:k<l.length):ckL (l.drop k)=if X4 l[k]≠0 then X4 l[k]else ckL (l.drop (k+1)):=by
 rw[LZ h,ckL]
theorem Qgt {L:LN}{v:O2}{ps:List AV}(h:X1 L ↑w v ps):
  QR sV 117 [v] w λr w'=>r=sS (KR (ps.map (·.a)))/\sW w w':=by
 have hm:=X1.le h;refine Zm func117 ?_;refine Qc<|Qb<|Qd<|Qk<|QG h.arr O<|x (Ya O O)<|xe<|Zi rfl (λU=>?_) (λU=>?_)
 ·refine Qc<|Qb<|Qh ⟨[sS 3],La,?_,O5.Y _ _⟩;unfold KR;rw[OU (by simp;omega)];rfl
 refine Qf ?_;have V:KR (ps.map (·.a))=ckL (ps.map (·.a)):=by unfold KR;rw[OT (by simp;omega)]
 rw[V];refine Qd<|Qk<|QG h.arr O<|Qa<|xe<|QW (α:=Nat) [(2,2),(4,5),(11,20)] (λz=>[(11,sS z)]) (λz w'=>z<=ps.length/\sW w w'/\ckL (ps.map (·.a))=ckL ((ps.map (·.a)).drop z)) (λz=>ps.length - z) 0 La
  ⟨Lo _,O5.Y _ _,O⟩ ?_
 rintro k g Y ⟨hk,E,hck⟩;refine Zk rfl O (λha=>?_) (λha=>?_)
 ·refine Qt<|Qc<|Qb<|Qh ⟨[sS 0],La,?_,E⟩;rw[hck,Lr (by simp;omega)];rfl
 have G:k<ps.length:=oa
 have hc:k<(ps.map (·.a)).length:=by simpa using G
 rw[Qkq hc,MK]at hck;refine Qf<|Qd<|Qn<|Qc<|O8 VY (h.I E).arr O O G λhn he=>x (QA he O O)<|QN [nS,sS 0,nS,nS] λb4 w2 hf hg I=>?_;have hA:=h.each ps[k] (Le G);refine Q2 (ZB ps[k]) I ⟨hA.al.one,O,hA.mr.one,hA.ed.one,Z⟩ λw3 hh I=>xe ?_;have S:sW Y w3:=hf.Q hh hg;refine Qc<|QV I O O<|Qv<|(Y5 ((hA.I E).I S)).S ?_;rintro r4 w4 ⟨rfl,hj⟩;refine Qb ?_;have T:=(E.D S).D hj;refine Qk<|ZM O O<|xe<|Zi rfl (λJ=>?_) (λJ=>?_)
 ·refine Qk<|Qb<|Qh ⟨[sS (X4 ps[k].a)],La,?_,T⟩;rw[hck,OU J];rfl
 refine Qf<|Qs<|QD O O<|Qa<|xe<|⟨k+1,oa,La,G,T,?_⟩;rw[hck,OT J]
theorem QjW {l:List Qz}{k:Nat}(h:k<l.length):evs (l.take (k+1))=mrg (· || ·) (evs (l.take k)) l[k].al:=by
 unfold evs;rw[Lj h,Mj];rfl
theorem Qbc (l:List Qz)(h:∀a∈l,a.al.length<=32):(evs l).length<=32*l.length:=by
 have key:∀(l:List Qz) (acc:LI),(∀a∈l,a.al.length<=32)->(l.foldl (λacc a=>mrg (· || ·) acc a.al) acc).length<=acc.length+32*l.length:=by
  intro l;induction l with
  | nil=>intro acc _;simp
  | cons a l ih =>
   intro acc h;have G:=ih (mrg (· || ·) acc a.al) (λa E=>h a (Lk _ E));have I:=zl (· || ·) acc a.al;have J:=h a Lm;simp only[List.foldl_cons,oQ];omega
 have:=key l [] h;unfold evs;simpa using this
theorem QgP {L:LN}{v:O2}{ps:List AV}(h:X1 L ↑w v ps)(hn:ps.length<=12)(T:∀p∈ps,p.a.al.length<=32):
  QR sV 186 [v] w λr w'=>sW w w'/\Qi 3 ↑w w' r (evs (ps.map (·.a))):=by
 refine Zm func186 ?_;refine Qc<|Qb<|Qc<|Qb<|Qd<|Qk<|QG h.arr O<|Qa<|xe<|QW (α:=Nat×O2) [(3,3),(5,5),(8,16)] (λz=>[(3,z.2),(8,sS z.1)]) (λz w'=>z.1<=ps.length/\sW w w'/\Qi 3 ↑w w' z.2 (evs ((ps.map (·.a)).take z.1))) (λz=>ps.length - z.1) (0,nS) ov
  ⟨Lo _,O5.Y _ _,QM _ _ _ _⟩ ?_
 rintro⟨k,vo⟩ g V ⟨Y,I,G⟩;simp only[]at Y G;have hm:=Qbc ((ps.map (·.a)).take k) (λa ha=>by obtain⟨p,hp,rfl⟩:=Ly.1 (L3 ha);exact T p hp);have hq:((ps.map (·.a)).take k).length<=12:=by simp;omega
 refine Zk rfl O (λh9=>?_) (λh9=>?_)
 ·refine Qt<|Qk<|Qb<|Qh ⟨[vo],La,I,?_⟩;rw[Lq (by simp;omega)]at G;exact G
 have E:k<ps.length:=oa
 refine Qf<|Qd<|Qn<|Qc<|O8 VY (h.I I).arr O O E λhr hc=>x (QA hc O O)<|QN [nS,sS 0,nS,nS] λb5 w2 he hf J=>?_;have hA:=h.each ps[k] (Le E);have hs:=T ps[k] (Le E);refine Q2 (ZB ps[k]) J ⟨hA.al.one,O,hA.mr.one,hA.ed.one,Z⟩ λw3 hg J=>xe ?_;have U:sW V w3:=he.Q hg hf;have S:=I.D U;refine Qs<|Qa<|Qq O J O O<|Qv<|(yL (Qi.ints (L:=[]) (Qm G U) oa od) (hA.al.I S) oa).S ?_;rintro r4 w4 ⟨hh,hj⟩;refine Qb<|Qs<|QD O O<|Qa<|xe<|⟨(k+1,r4),oe,ov,E,S.D hh,?_⟩;simp only[];rw[QjW (ou E),MK];exact Zf hj S.size
abbrev Qfl (b:Nat):LV:=[.map (some b)]
structure Vj (L:LN)(H:xA)(vl ve vs:O2)(ps:List AV)(ms:LN):Prop where
 al:X1 L H vl ps
 ev:Qu L H ve (evs (ps.map (·.a)))
 ml:ms.length=ps.length
 sl:Zt L H vs ms.length 1 (ms.flatMap Qfl)
 mp:∀i (h:i<ms.length) (h':i<ps.length),ZU Yp H ms[i] (KM [] ps[i].a.ed)/\ms[i]∉L
theorem Vj.I {L:LN}{w w':O1}{vl ve vs:O2}{ps:List AV}{G:LN}(h:Vj L ↑w vl ve vs ps G)(E:sW w w'):Vj L ↑w' vl ve vs ps G :=
 ⟨h.al.I E,h.ev.I E,h.ml,h.sl.I E,λi I J=>⟨(h.mp i I J).1.I E,(h.mp i I J).2⟩⟩
theorem Vj.st {L:LN}{w w':O1}{vl ve vs:O2}{ps:List AV}{J:LN}(h:Vj L ↑w vl ve vs ps J)(E:O5 L w w'):Vj L ↑w' vl ve vs ps J :=
 ⟨h.al.st E,h.ev.st E,h.ml,h.sl.st E,λi G I=>⟨(h.mp i G I).1.J E (h.mp i G I).2,(h.mp i G I).2⟩⟩
theorem Vj.up {L L':LN}{H:xA}{vl ve vs:O2}{ps:List AV}{J:LN}(h:Vj L H vl ve vs ps J)(E:∀b∈L',b∈L\/H.size<=b):Vj L' H vl ve vs ps J :=
 ⟨h.al.up E,h.ev.up E,h.ml,h.sl.up E,λi G I=>⟨(h.mp i G I).1,λT=>by rcases E _ T with S|S;exact(h.mp i G I).2 S;have:=(h.mp i G I).1.lt;omega⟩⟩
theorem yu {m:List ((Int×Int)×O2)}{es:List Ed}{k:Nat}(h:k<es.length):KM m (es.take (k+1))=xh (KM m (es.take k)) (es[k].1,es[k].2.1) (sS es[k].2.2):=by
 unfold KM;rw[Lj h,Mj];rfl
theorem QlT {L:LN}{ps:List AV}(h:X1 L ↑w vl ps)(hn:ps.length<=12)(hF:∀p∈ps,p.a.al.length<=32)(hL:∀b∈L,b<↑w):
  QR sV 118 [vl] w λr w'=>sW w w'/\∃ve vs E,r=.agg #[vl,ve,vs]/\Vj L ↑w' vl ve vs ps E/\Qi 3 ↑w w' ve (evs (ps.map (·.a))):=by
 refine Zm func118 ?_;refine Qc<|QN [nS,nS,nS] λb2 w1 hv hR hw=>xe ?_;refine Qk<|Qa<|Qv<|(QgP (h.I hv) hn hF).S ?_;rintro ve w2 ⟨Y,hc⟩;have hS:=Qbc (ps.map (·.a)) (λa ha=>by obtain⟨p,hp,rfl⟩:=Ly.1 ha;exact hF p hp);have kb:(evs (ps.map (·.a))).length<=1000:=by simp at hS;omega
 have hy:=Qi.ints (L:=[]) hc oa od;refine x (QE ⟨h.arr.cells,hy.cells,Z⟩)<|QN [nS,nS,nS] λb3 w3 hT hU he =>
  Q2 [vl,ve,nS] he ⟨h.arr.one,hy.one,O,Z⟩ λG hV he=>xe ?_
 have hW:=hv.size;have kc:=Y.size;have hf:sW w2 G:=hT.Q hV hU;have ke:=hw.lt;have kf:=he.lt;have hX:sW w G:=(hv.D Y).D hf;have hY:=Qm hc hf;refine Qd<|Qk<|QG h.arr O<|Qa<|xe ?_;have hZ:=QU hc;refine QW (α:=Nat×LN×O2) [(5,6),(8,8),(15,42)] (λz=>[(15,sS z.1)])
  (λz w'=>z.1<=ps.length/\z.2.1.length=z.1/\O5 [b3] G w'/\QL ↑w' b3 225 [vl,ve,z.2.2]/\w'.ownsRow ↑G 249 1 z.2.2 z.2.1.length (z.2.1.flatMap Qfl) /\
   (∀i (h:i<z.2.1.length) (h':i<ps.length),ZU Yp ↑w' z.2.1[i] (KM [] ps[i].a.ed)/\↑G<=z.2.1[i]/\z.2.1[i]∉ob z.2.2)) (λz=>ps.length - z.1) (0,[],nS) La
  ⟨Lo _,O,O5.Y _ _,he,QM _ _ _ _,λi h=>by simp at h⟩ ?_
 rintro⟨k,E,vs⟩ g w5 ⟨hk,hg,I,hz,J,hh⟩;simp only[]at hk hg I hz J hh;have ho:sW w w5:=hX.Q I oa;have kg:=I.size;have hr:=Qj J;refine Zk rfl O (λga=>?_) (λga=>?_)
 ·have gb:k=ps.length:=oa
  subst gb;refine Qt<|Qc ?_;have gc:=QO (L:=[]) J oa od;refine QV hz O O<|Q2 [vl,ve,vs] (((hw.I Y).I hf).J I (by simp;omega)) ⟨h.arr.one,hy.one,gc.one,Z⟩ λw6 hs ge=>xe ?_;have hG:=ho.Q hs hR;have hH:Qi 3 ↑w1 w6 ve _:=Qg (Qg hY I (λb hb=>by have:=hZ b hb;simp;omega)) hs (λb hb=>by have:=(Qj hc b hb).1;simp;omega);have hI:=Qg J hs (λb hb=>by have:=(hr b hb).1;simp;omega);refine Qh ⟨[.agg #[vl,ve,vs]],⟨Jl ge,Z⟩,hG,ve,vs,E,O,⟨h.I hG,Qi.ints hH oa (λb hb=>oo (hL b hb)),hg,QO hI oa (λb hb h0=>oq (hL b h0) (Qj hI b hb).1),λi h1 h2=>⟨?_,λh0=>oq (hL _ h0) (hh i h1 h2).2.1⟩⟩,Zf hH hW⟩;obtain⟨S,m2,_⟩:=hh i h1 h2;exact S.J hs (λhb=>by
   simp only[oF]at hb;have h7:=(((hw.I Y).I hf).J I (by simp;omega));rw[hb]at S;obtain⟨es,c,m4,_⟩:=S;unfold QL at h7;rw[h7]at m4;cases m4)
 have h3:k<ps.length:=oa
 have hA:=h.each ps[k] (Le h3);refine Qf<|Qd<|Qn<|Qc<|O8 VY (h.I ho).arr O O h3 λkh gg=>x (QA gg O O)<|QN [nS,sS 0,nS,nS] λb5 w7 gh gi gj =>
  Q2 (ZB ps[k]) gj ⟨hA.al.one,O,hA.mr.one,hA.ed.one,Z⟩ λw8 gk hJ=>xe ?_
 have gl:sW w5 w8:=gh.Q gk gi;have ki:=hJ.lt;refine Qc<|Qo<|Z1 Yp λbm w9 hK kj hM=>Qb ?_;have kk:=hM.lt;have hN:=gl.D hK;have gm:=ho.D hN;refine Qd<|Qc<|Qq O (hJ.I hK) O O<|QG hA.ed O<|Qa<|xe ?_;have gn:=(hA.ed.up (L':=[bm]) (λb hb=>.inr (by simp at hb;have:=ho.size;omega))).I gm;have kn:=hA.ed.le;refine QW (α:=Nat) [(8,8),(23,35)] (λz=>[(23,sS z)]) (λz w'=>z<=ps[k].a.ed.length/\O5 [bm] w9 w'/\ZU Yp ↑w' bm (KM [] (ps[k].a.ed.take z))) (λz=>ps[k].a.ed.length - z) 0 La
  ⟨Lo _,O5.Y _ _,hM⟩ ?_
 rintro j g2 T ⟨hj,ht,h4⟩;have ko:=ht.size;refine Zk rfl O (λgo=>?_) (λgo=>?_)
 ·refine Qt ?_;rw[Lq oa]at h4;have h6:sW w5 T:=hN.Q ht oa;have hO:QL ↑T b3 225 [vl,ve,vs]:=hz.I h6;refine Qs<|Qq O hO O O<|Qa<|Qo<|Q9 [[.map (some bm)]] λkq gq hu kr gr=>?_;have h8:=h6.D hu;have gs:=Qm J h8;have kt:=h8.size;refine Qo<|Q8 (news:=[.map (some bm)]) (L:=[]) gs O O O (gr.at od) om oa oa λh9 gt gu hB hP=>?_;have hC:gt.ownsRow ↑G 249 1 h9 (E++[bm]).length ((E++[bm]).flatMap Qfl):=by
   rw[Lc,LD];simpa using gu
  have gv:=(hO.I hu).J hB (QK J oa);refine Zc O<|Qo<|Qw gv O O od (QO (L:=[]) hC (by simp;omega) od).one λgx hD gy=>xe ?_;refine Qs<|QD O O<|Qa<|xe ?_;have gz:∀b∈ob h9,↑G<=b:=λb hb=>(Qj hC b hb).1;have ku:T.heap.size<=gq.heap.size:=hu.size;refine⟨(k+1,E++[bm],h9),oe,La,h3,by simp[hg],?_,gy,Qg hC hD (λb hb=>by have:=gz b hb;simp;omega),?_⟩
  ·exact((I.D h8).O hB (λb hb=>.inr (hr b hb).1)).V hD
  intro i h1 h2;simp only[oM,oL]at h1;have keep:∀(c:Nat) (m:List ((Int×Int)×O2)),ZU Yp ↑T c m->c≠b3->c∉ob vs->ZU Yp ↑gx c m:=λc m hm g0 g3 =>
   ((hm.I hu).J hB g3).J hD (ou g0)
  by_cases hi:i<E.length
  ·obtain⟨S,m2,m3⟩:=hh i hi h2;simp only[List.getElem_append_left hi];refine⟨keep _ _ (S.I h6) oa m3,m2,λhb=>?_⟩;have kv:=S.lt;rcases hP _ hb with U|U
   ·exact m3 U
   omega
  have hi':i=E.length:=oa
  subst hi';simp only[List.getElem_append_right (OE _),Nat.sub_self,List.getElem_singleton];have hq:E.length=k:=hg;have e2:ps[E.length]=ps[k]:=by simp only[hq]
  rw[e2];refine⟨keep _ _ h4 oa (λhb=>oo (hr _ hb).2),oa,λhb=>?_⟩;rcases hP _ hb with U|U
  ·have:=(hr _ U).2;omega
  omega
 have hE:j<ps[k].a.ed.length:=oa
 refine Qf<|Qd<|Qn<|Qc<|xie (gn.st ht) O O hE λkw g4=>x (QA g4 O O)<|QN [sS 0,sS 0,sS 0] λb8 kx g5 g6 V=>Q2 (Qp ps[k].a.ed[j]) V ox λg7 g8 V=>xe ?_;have hQ:sW T g7:=g5.Q g8 g6;refine Qs<|Qa<|Qq O V O O<|Qq O V O O<|x (QE ⟨O,O,Z⟩)<|x (Uh O) <|
  ZE V rfl O<|Qo<|YO (k:=(ps[k].a.ed[j].1,ps[k].a.ed[j].2.1)) (h4.I hQ) O O λkz g9 ka=>xe ?_
 refine Qs<|QD O O<|Qa<|xe<|⟨j+1,oa,La,hE,(ht.D hQ).V g9,?_⟩;rw[yu hE];exact ka
theorem Qd1 {L:LN}{ps:List AV}{ms:LN}(h:Vj L ↑w vl ve vs ps ms)(hn:ps.length<=12):
  QR sV 119 [.agg #[vl,ve,vs]] w λr w'=>sW w w' /\
   if ∃p∈ps,p.a.st=0 then r=.tuple #[nS,.bool false]else ∃v,r=.tuple #[v,.bool true]/\Qi 3 ↑w w' v (oG ps.length 0):=by
 refine Zm func119 ?_;refine Qc<|Za [vl,ve,vs] λb1 w1 G hm T=>x Qe<|Qb<|Qd<|Qc<|Qq O T O O<|QG h.al.arr O<|Qa<|xe<|QW (α:=Nat) [(2,3),(5,5),(9,16)] (λz=>[(9,sS z)]) (λz w'=>z<=ps.length/\sW w1 w'/\∀i (h:i<ps.length),i<z->ps[i].a.st≠0) (λz=>ps.length - z) 0 La
  ⟨Lo _,O5.Y _ _,λi _ h=>oa⟩ ?_
 rintro k g w2 ⟨hk,E,U⟩;refine Zk rfl O (λha=>?_) (λha=>?_)
 ·refine Qt<|Qc<|Qq O (T.I E) O O<|QG h.al.arr O<|Qo<|YZ (n:=ps.length) O O oa λhc w3 he ho V=>x Qe<|Qb ?_;rw[show(oG ps.length (sS 0).cells.toList).flatten=((oG ps.length 0).map (Value.int .i64)) by rw[show(sS 0).cells.toList=[sS 0] from rfl,QbY,List.map_replicate]]at V;have hz:=(G.D E).size;refine Qh ⟨[sL hc ps.length ps.length,.bool true],ov,(G.D E).D he,?_⟩;rw[OT (by
   rintro⟨p,hp,h0⟩;obtain⟨i,hi,rfl⟩:=LP hp;exact U i hi oa h0)]
  refine⟨_,O,?_⟩;have:=V.own (n:=ps.length) (sz:=1) (base:=↑w) od oa oa;unfold Qi;rw[List.length_replicate];exact this
 have I:k<ps.length:=oa
 have hA:=h.al.each ps[k] (Le I);refine Qf<|Qd<|Qn<|Qc<|O8 VY ((h.al.I G).I E).arr O O I λhq hf=>x (QA hf O O)<|QN [nS,sS 0,nS,nS] λb5 w4 hg hh J =>
  Q2 (ZB ps[k]) J ⟨hA.al.one,O,hA.mr.one,hA.ed.one,Z⟩ λw5 hj J=>xe ?_
 have Y:sW w2 w5:=hg.Q hj hh;refine Qc<|Qq O J O O<|x (Zd O O)<|xe<|Zi rfl (λS=>?_) (λS=>?_)
 ·refine Qc<|x Qe<|Qb<|Qh ⟨[nS,.bool false],ov,(G.D E).D Y,?_⟩;rw[OU ⟨ps[k],Le I,S⟩];rfl
 refine Qf<|Qs<|QD O O<|Qa<|xe<|⟨k+1,oa,La,I,E.D Y,λi hi hr=>?_⟩;by_cases e:i=k
 ·subst e;exact S
 exact U i hi oa
theorem QdS {aa:List Qz}{ts:LI}{k:Nat}(h:k<aa.length)(E:k<ts.length):Jy (aa.drop k) (ts.drop k)=(decide (ts[k]∈aa[k].mr) && Jy (aa.drop (k+1)) (ts.drop (k+1))):=by
 rw[LZ h,LZ E,Jy]
theorem QgA {L:LN}{ps:List AV}{ms:LN}{ts:LI}(h:Vj L ↑w vl ve vs ps ms)(ht:Qu L ↑w vt ts)(hl:ts.length=ps.length)(hi:∀p∈ps,YA p.a.mr)(hn:ps.length<=12):
  QR sV 121 [.agg #[vl,ve,vs],vt] w λr w'=>r=.bool (Jy (ps.map (·.a)) ts)/\sW w w':=by
 refine Zm func121 ?_;refine Qc<|Za [vl,ve,vs] λb2 w1 he hr hf=>Qb<|Qd<|Qc<|Qq O hf O O<|QG h.al.arr O<|Qa<|xe<|QW (α:=Nat) [(4,6),(10,23)] (λz=>[(10,sS z)]) (λz w'=>z<=ps.length/\sW w w'/\Jy (ps.map (·.a)) ts=Jy ((ps.map (·.a)).drop z) (ts.drop z)) (λz=>ps.length - z) 0 La
  ⟨Lo _,he,O⟩ ?_
 rintro k g w2 ⟨hk,I,G⟩;refine Zk rfl O (λhg=>?_) (λhg=>?_)
 ·refine Qt<|Qc<|Qb<|Qh ⟨[.bool true],La,?_,I⟩;rw[G,Lr (by simp;omega)];rfl
 have E:k<ps.length:=oa
 have V:k<ts.length:=oa
 have hA:=h.al.each ps[k] (Le E);rw[QdS (ou E) V,MK]at G;refine Qf<|Qd<|Qn<|Qk<|O8 VY (h.al.I I).arr O O E λhs hh=>x (QA hh O O)<|QN [nS,sS 0,nS,nS] λb6 w3 hj hm J=>x Qe <|
  Q2 (ZB ps[k]) J ⟨hA.al.one,O,hA.mr.one,hA.ed.one,Z⟩ λY ho J=>xe ?_
 have hp:sW w2 Y:=hj.Q ho hm;have S:=I.D hp;refine Qd<|ZL [] (Xg 0 8 [6])<|p (QH O)<|pq (λ_ T=>Ql (J.I T) O O)<|p Qx<|p Qx<|pii O (ht.I S) O O V λhu hq =>
  pq (λ_ T=>Qr (hq.I T) O)<|pk<|xg<|(J3 ((hA.mr.I S).I (O5.X _ _)) (hi ps[k] (Le E)) _).S ?_
 rintro r5 w5 ⟨rfl,rfl⟩;refine⟨O5.X _ _,?_⟩;refine p (λ_=>Zl O)<|pe ?_;have ha:=S.D (O5.X [] Y);refine Q6 rfl (λU=>?_) (λU=>?_)
 ·refine Qc<|Qb<|Qh ⟨[.bool false],La,?_,ha⟩;rw[G,show decide (ts[k]∈ps[k].a.mr)=false by simpa using U];rfl
 refine Qf<|Qs<|QD O O<|Qa<|xe<|⟨k+1,oa,La,E,ha,?_⟩;rw[G,show decide (ts[k]∈ps[k].a.mr)=true by simpa using U,OK]
theorem Qdx {aa:List Qz}{ts:LI}{k:Nat}{v:Int}(h:k<aa.length)(E:k<ts.length):Yo v (aa.drop k) (ts.drop k) =
  if v∉aa[k].al then(Yo v (aa.drop (k+1)) (ts.drop (k+1))).map (ts[k]::·) else match xj aa[k].ed ts[k] v with|none=>none|some u=>(Yo v (aa.drop (k+1)) (ts.drop (k+1))).map (u::·):=by
 rw[LZ h,LZ E];show(if v∉aa[k].al then _ else _)=_
 split
 ·rfl
 cases xj aa[k].ed ts[k] v <;> rfl
theorem Qil {L:LN}{ps:List AV}{Y:LN}{ts:LI}(h:Vj L ↑w vl ve vs ps Y)(ht:Qu L ↑w vt ts)(hl:ts.length=ps.length)(hi:∀p∈ps,YA p.a.al)
  (hz:∀p∈ps,p.a.ed.Pairwise λx y=>x.1<y.1\/(x.1=y.1/\x.2.1<y.2.1)) (hn:ps.length<=12) (v:Int):
  QR sV 122 [.agg #[vl,ve,vs],vt,sS v] w λr w'=>sW w w' /\
   match Yo v (ps.map (·.a)) ts with|none=>r=.tuple #[nS,.bool false]|some u=>∃v',r=.tuple #[v',.bool true]/\Qi 3 ↑w w' v' u:=by
 refine Zm func122 ?_;refine Qc<|Za [vl,ve,vs] λb3 w1 ha hL hf=>x Qe<|Qb<|Qk<|Qv<|(ZZ (ht.I ha)).S ?_;rintro vx w2 ⟨hg,hr⟩;refine Qb ?_;have h0:=ha.size;have hM:=hf.lt;have hh:=ha.D hg;refine Qd<|Qc<|Qq O (hf.I hg) O O<|QG h.al.arr O<|Qa<|xe ?_;have hge:=Qj hr;have h1:Vj (ob vx) ↑w2 vl ve vs ps Y:=((h.up (L':=ob vx) (λb hb=>.inr (oo (hge b hb).1))).I hh);have h2:Qu (ob vx) ↑w2 vt ts:=((ht.up (L':=ob vx) (λb hb=>.inr (oo (hge b hb).1))).I hh);refine QW (α:=Nat×LI) [(6,7),(9,12),(18,49)] (λz=>[(18,sS z.1)])
  (λz w'=>z.1<=ps.length/\z.2.length=z.1/\O5 (ob vx) w2 w'/\Qi 3 ↑w1 w' vx (z.2++ts.drop z.1)/\Yo v (ps.map (·.a)) ts=(Yo v ((ps.map (·.a)).drop z.1) (ts.drop z.1)).map (z.2++·)) (λz=>ps.length - z.1) (0,[]) La
  ⟨Lo _,O,O5.Y _ _,hr,od⟩ ?_
 rintro⟨k,pre⟩ g w3 ⟨hk,U,S,T,E⟩;simp only[]at hk U T E;have hj:sW w w3:=hh.O S (λb hb=>.inr (oo (hge b hb).1));refine Zk rfl O (λh3=>?_) (λh3=>?_)
 ·refine Qt<|Qk<|x Qe<|Qb<|Qh ⟨[vx,.bool true],ov,hj,?_⟩;rw[Lr (by simp;omega),Lr oa]at E;rw[Lr oa]at T;rw[E];simp only[Yo,OD];exact⟨vx,O,Zf T h0⟩
 have G:k<ps.length:=oa
 have hm:k<ts.length:=oa
 have hs:k<Y.length:=by rw[h.ml];exact G
 have hA:=h.al.each ps[k] (Le G);rw[Qdx (ou G) hm,MK]at E;have hu:=h1.st S;have h4:=h2.st S;refine Qf<|Qd<|Qn<|Qk<|O8 VY hu.al.arr O O G λhN h5=>x (QA h5 O O)<|QN [nS,sS 0,nS,nS] λb10 w4 h6 h7 ho=>x Qe <|
  Q2 (ZB ps[k]) ho ⟨hA.al.one,O,hA.mr.one,hA.ed.one,Z⟩ λw5 h8 ho=>xe ?_
 have I:sW w3 w5:=h6.Q h8 h7;have h9:=hj.D I;refine Qd<|Qc<|Qq O ho O O<|Qa<|Qv<|(J3 (hA.al.I h9) (hi ps[k] (Le G)) v).S ?_;rintro r6 w6 ⟨rfl,rfl⟩;refine x (Zl O)<|xe ?_;have hv:=QY hm;refine Q6 rfl (λhp=>?_) (λhp=>?_)
 ·have hB:v∉ps[k].a.al:=by simpa using hp
  refine Qt<|Qs<|QD O O<|Qa<|xe<|⟨(k+1,pre++[ts[k]]),oe,La,G,by simp[U],S.D I,?_,?_⟩
  ·simp only[Of,Ov];rw[<-hv];exact Qm T I
  simp only[];rw[E,OU hB,Option.map_map];congr 1;funext l;simp
 have hC:¬(v∉ps[k].a.al):=by simpa using hp
 rw[OT hC]at E;refine Qf ?_;have hD:=(hf.I hg).J S (λhb=>oo (hge b3 hb).1);have hw:=hu.I I;obtain⟨hE,hO⟩:=hw.mp k hs G;refine Qd<|ZL [] (Xg 0 17 [])<|p (QH O)<|pq (λ_ J=>Ql ((hD.I I).I J) O O)<|p Qx<|pig O (g:=Qfl) (λ_=>O) hw.sl O O hs λhP hF =>
  pq (λ_ J=>Qr (hF.I J) O)<|p Qx<|p Qx<|pii O (h4.I I) O O hm λhQ hG=>pq (λ_ J=>Qr (hG.I J) O) <|
  p Qx<|p (λ_=>QE ⟨O,O,Z⟩)<|pq (λ_ J=>K3 (k:=(ts[k],v)) (hE.I J) O O)<|?_
 rw[qn ps[k].a.ed [] ts[k] v (hz ps[k] (Le G))];have hq:sW w3 { w6 with drawn:=w6.drawn+1 }:=I.D (O5.X [] w6)
 cases he:xj ps[k].a.ed ts[k] v with
 | none =>
  rw[he]at E;refine p Qx<|p (λ_=>Q3 O O)<|p (λ_=>Q3 O O)<|p ZN<|p ZN<|pe ?_;refine Qd<|Qk<|x (Zl O)<|xe<|yJ O ?_;refine Qc<|x Qe<|Qb<|Qh ⟨[nS,.bool false],ov,hj.D hq,?_⟩;rw[E];rfl
 | some u =>
  rw[he]at E;refine p Qx<|p (λ_=>Q3 O O)<|p (λ_=>Q3 O O)<|p ZN<|p ZN<|pe ?_;refine Qd<|Qk<|x (Zl O)<|xe<|ZD O<|Qf ?_;have hy:=Qm T hq;have hR:(pre++ts.drop k).length=ts.length:=by simp;omega
  obtain⟨gx,cx,V⟩:=U6 T oa;have hH:ob vx=[gx]:=by rw[V];rfl
  refine Qs<|Qa<|Qa<|Qa<|x (QF V O oa)<|Qo<|Qce (u:=sS u) (by rw[V]at hy;exact hy) O O oa O λw7 hI hJ=>xe ?_;refine Qs<|QD O O<|Qa<|xe ?_;have hK:(pre++ts.drop k).set k u=(pre++[u])++ts.drop (k+1):=by
   rw[hv,List.set_append_right _ _ oa,U,Nat.sub_self,List.set_cons_zero,LA];rfl
  refine⟨(k+1,pre++[u]),oe,La,G,by simp[U],(S.D hq).O hI (λb hb=>.inl (by rw[hH];exact hb)),?_,?_⟩
  ·simp only[];rw[<-hK];unfold Qi;rw[MX,Ny,V];exact hJ
  simp only[];rw[E,Option.map_map];congr 1;funext l;simp
theorem Xt (h:n<256):(UInt8.ofNat n).toNat=n:=by
 simp[Nat.mod_eq_of_lt h]
theorem QcJ (u:Nat):(32:UInt8)∉Lib.decDigits u:=by
 induction u using Nat.strongRecOn with
 | _ u ih =>
  unfold Lib.decDigits;split
  ·intro h;simp only[oF]at h;have:=OV UInt8.toNat h;rw[Xt oa]at this;have E:(32:UInt8).toNat=32:=rfl;omega
  intro h;rcases Lh.1 h with h|h
  ·exact ih _ oa h
  simp only[oF]at h;have:=OV UInt8.toNat h;rw[Xt oa]at this;have E:(32:UInt8).toNat=32:=rfl;omega
def dval (l:List UInt8):Nat:=l.foldl (λa b=>a*10+(b.toNat - 48)) 0
theorem QcH (u:Nat):dval (Lib.decDigits u)=u:=by
 induction u using Nat.strongRecOn with
 | _ u ih =>
  unfold Lib.decDigits;split
  ·simp only[dval,List.foldl_cons,List.foldl_nil];rw[Xt oa];omega
  have:=ih (u / 10) oa;unfold dval at *;rw[Mj,this];simp only[List.foldl_cons,List.foldl_nil];rw[Xt oa];omega
theorem QeW:∀{a b r r':List UInt8},(32:UInt8)∉a->(32:UInt8)∉b->a++32::r=b++32::r'->a=b/\r=r'
 | [],[],_,_,_,_,h=>ou h
 | [],y::b,_,_,_,hb,h=>by simp at h;exact OW h.1 (by intro e;exact hb (by simp[e]))
 | x::a,[],_,_,E,_,h=>by simp at h;exact OW h.1 (by intro e;exact E (by simp[e]))
 | x::a,y::b,_,_,E,hb,h=>by
  simp only[oZ,List.cons.injEq]at h;have:=QeW (λe=>E (Lk _ e)) (λe=>hb (Lk _ e)) h.2;exact⟨by rw[h.1,this.1],this.2⟩
theorem Uq:∀{l l':LI},(∀n∈l,0<=n)->(∀n∈l',0<=n)->YS l=YS l'->l=l'
 | [],[],_,_,_=>rfl
 | [],y::b,_,_,h=>by simp[YS]at h
 | x::a,[],_,_,h=>by simp[YS]at h
 | x::a,y::b,G,hb,h=>by
  have I:Lib.decDigits x.toNat++32::YS a=Lib.decDigits y.toNat++32::YS b:=by simpa[YS]using h
  obtain⟨J,S⟩:=QeW (QcJ _) (QcJ _) I;have T:x.toNat=y.toNat:=by rw[<-QcH x.toNat,<-QcH y.toNat,J]
  have U:=G x Lm;have V:=hb y Lm;rw[(Uq (λn E=>G n (Lk _ E)) (λn E=>hb n (Lk _ E)) S),show x=y by omega]
def KO (l:LI):ByteArray:=⟨(YS l).toArray⟩
theorem Qjg {l l':LI}(E:∀n∈l,0<=n)(G:∀n∈l',0<=n)(h:KO l=KO l'):l=l':=by
 refine Uq E G ?_;have:=OV (λb:ByteArray=>b.data.toList) h;simpa[KO]using this
def qw (n:Nat)(m:List (ByteArray×O2))(tup:List (LI)):Prop :=
 ∀u:LI,u.length=n->(∀x∈u,0<=x)->xd m (KO u)=if u∈tup then some (sS (tup.idxOf u:Int)) else none
theorem qw.add {m:List (ByteArray×O2)}{tup:List (LI)}(h:qw n m tup){u:LI}(I:u∉tup)(J:∀x∈u,0<=x):qw n (xh m (KO u) (sS (tup.length:Int))) (tup++[u]):=by
 intro v S G;rw[Jk];by_cases e:u=v
 ·subst e;rw[OU rfl,OU od,L7,OT I];simp
 rw[OT (λT=>e (Qjg J G T)),h v S G];by_cases E:v∈tup
 ·rw[OU E,OU (by simp[E]),L7,OU E]
 rw[OT E,OT (by simp[E,Ne.symm e])]
structure q7 (N b2 b38 b37:Nat)(ve:O2)(wS:O1)(s:Sy)(m:List (ByteArray×O2))(qs:List TV)(vt vk vd:O2)(w:O1):Prop where
 st:O5 [b2,b38,b37] wS w
 A:QL ↑w b2 53 [ve,sS 0,vk,vd]
 M:ZU Xz ↑w b38 m
 t:q6 47 N w vt qs
 tb:∀b∈ob vt,b=b37\/↑wS<=b
 k:Qi 3 ↑wS w vk s.mk'
 e:Yd 179 ↑wS w vd s.ed
 q:qs.map (·.2)=s.tup
 el:∀p∈qs,Qi 3 N w p.1 p.2
 sep:∀p∈qs,∀b∈ob p.1,b≠b38/\b∉ob vt/\b∉ob vk/\b∉ob vd
 d1:Dj vt vk
 d2:Dj vt vd
 d3:Dj vk vd
section
variable {b2 b38 b37:Nat}{wS:O1}{s:Sy}{m:List (ByteArray×O2)}{qs:List TV}{vd:O2}{w'':O1}
theorem q7.I (h:q7 N b2 b38 b37 ve wS s m qs vt vk vd w)(E:sW w w'):q7 N b2 b38 b37 ve wS s m qs vt vk vd w' :=
 ⟨h.st.D E,h.A.I E,h.M.I E,Qm h.t E,h.tb,Qm h.k E,Qm h.e E,h.q,λp G=>Qm (h.el p G) E,h.sep,h.d1,h.d2,h.d3⟩
structure SyN (N b2 b38 b37:Nat)(wS:O1):Prop where
 l2:b2<N
 l38:b38<wS.heap.size
 l37:b37<wS.heap.size
 n37:N<=b37
 n38:b37<b38
 nS:N<=↑wS
theorem q7.setK (h:q7 N b2 b38 b37 ve wS s m qs vt vk vd w)(n:SyN N b2 b38 b37 wS){J:O2}{l:LI}(I:O5 (ob vk) w w')(T:Qi 3 ↑wS w' J l)
  (S:∀b∈ob J,b∈ob vk\/↑w<=b) (G:O5 [b2] w' w'') (V:QL ↑w'' b2 53 [ve,sS 0,J,vd]):q7 N b2 b38 b37 ve wS ⟨s.tup,l,s.ed⟩ m qs vt J vd w'':=by
 have l2:=n.l2;have l38:=n.l38;have n37:=n.n37;have n38:=n.n38;have nS:=n.nS;refine⟨(h.st.O I (λb hb=>.inr ((Qj h.k) b hb).1)).O G (λb hb=>.inl (by simp at hb;simp[hb])),V,(h.M.J I (QK h.k oa)).J G (by simp;omega),
  Qg (Qg h.t I h.d1) G (λb hb=>by have:=(Qj h.t b hb).1;simp;omega),h.tb,Qg T G (λb hb=>by have:=(Qj T b hb).1;simp;omega),
  Qg (Qg h.e I h.d3.symm) G (λb hb=>by have:=(Qj h.e b hb).1;simp;omega),h.q,
  λp E=>Qg (Qg (h.el p E) I (λb hb=>(h.sep p E b hb).2.2.1)) G (λb hb=>by have:=(Qj (h.el p E) b hb).1;simp;omega),
  λp E b hb=>⟨(h.sep p E b hb).1,(h.sep p E b hb).2.1,λY=>?_,(h.sep p E b hb).2.2.2⟩,h.d1.grow S (QU h.t),h.d2,(h.d3.symm.grow S (QU h.e)).symm⟩
 rcases S b Y with U|U
 ·exact(h.sep p E b hb).2.2.1 U
 have:=QU (h.el p E) b hb;omega
theorem q7.setE (h:q7 N b2 b38 b37 ve wS s m qs vt vk vd w)(n:SyN N b2 b38 b37 wS){J:O2}{l:List Ed}(I:O5 (ob vd) w w')(T:Yd 179 ↑wS w' J l)
  (S:∀b∈ob J,b∈ob vd\/↑w<=b) (G:O5 [b2] w' w'') (V:QL ↑w'' b2 53 [ve,sS 0,vk,J]):q7 N b2 b38 b37 ve wS ⟨s.tup,s.mk',l⟩ m qs vt vk J w'':=by
 have l2:=n.l2;have l38:=n.l38;have n37:=n.n37;have n38:=n.n38;have nS:=n.nS;refine⟨(h.st.O I (λb hb=>.inr ((Qj h.e) b hb).1)).O G (λb hb=>.inl (by simp at hb;simp[hb])),V,(h.M.J I (QK h.e oa)).J G (by simp;omega),
  Qg (Qg h.t I h.d2) G (λb hb=>by have:=(Qj h.t b hb).1;simp;omega),h.tb,Qg (Qg h.k I h.d3) G (λb hb=>by have:=(Qj h.k b hb).1;simp;omega),
  Qg T G (λb hb=>by have:=(Qj T b hb).1;simp;omega),h.q,
  λp E=>Qg (Qg (h.el p E) I (λb hb=>(h.sep p E b hb).2.2.2)) G (λb hb=>by have:=(Qj (h.el p E) b hb).1;simp;omega),
  λp E b hb=>⟨(h.sep p E b hb).1,(h.sep p E b hb).2.1,(h.sep p E b hb).2.2.1,λY=>?_⟩,h.d1,h.d2.grow S (QU h.t),h.d3.grow S (QU h.k)⟩
 rcases S b Y with U|U
 ·exact(h.sep p E b hb).2.2.2 U
 have:=QU (h.el p E) b hb;omega
theorem q7.setM (h:q7 N b2 b38 b37 ve wS s m qs vt vk vd w)(n:SyN N b2 b38 b37 wS){G:List (ByteArray×O2)}(E:O5 [b38] w w')(J:ZU Xz ↑w' b38 G):q7 N b2 b38 b37 ve wS s G qs vt vk vd w':=by
 have l2:=n.l2;have l38:=n.l38;have n37:=n.n37;have n38:=n.n38;have nS:=n.nS;exact⟨h.st.O E (λb hb=>.inl (by simp at hb;simp[hb])),h.A.J E (by simp;omega),J,Qg h.t E (λb hb=>by have:=h.tb b hb;simp;omega),h.tb,
  Qg h.k E (λb hb=>by have:=(Qj h.k b hb).1;simp;omega),Qg h.e E (λb hb=>by have:=(Qj h.e b hb).1;simp;omega),h.q,
  λp I=>Qg (h.el p I) E (λb hb=>by have:=(h.sep p I b hb).1;simpa using this),h.sep,h.d1,h.d2,h.d3⟩
theorem q7.setT (h:q7 N b2 b38 b37 ve wS s m qs vt vk vd w)(n:SyN N b2 b38 b37 wS){J:O2}{u:LI}(hx:Qi 3 ↑wS w vx u)(T:∀b∈ob vx,b∉ob vt/\b∉ob vk/\b∉ob vd)(G:O5 (ob vt) w w')
  (V:q6 47 N w' J (qs++[(vx,u)])) (S:∀b∈ob J,b∈ob vt\/↑w<=b):q7 N b2 b38 b37 ve wS ⟨s.tup++[u],s.mk',s.ed⟩ m (qs++[(vx,u)]) J vk vd w':=by
 have l2:=n.l2;have l38:=n.l38;have n37:=n.n37;have n38:=n.n38;have nS:=n.nS;have he:=h.st.size;have nott:∀c,c<↑w->c∉ob vt->c∉ob J:=λc hc Y ha=>by
  rcases S c ha with I|I
  ·exact Y I
  omega
 refine⟨h.st.O G (λb hb=>by have:=h.tb b hb;simp;omega),h.A.J G (λhb=>oo (h.tb b2 hb)),h.M.J G (λhb=>oo (h.tb b38 hb)),V,
  λb hb=>?_,Qg h.k G h.d1.symm,Qg h.e G h.d2.symm,by rw[Lv,h.q];rfl,λp E=>?_,λp E b hb=>?_,(h.d1.symm.grow S (QU h.k)).symm,(h.d2.symm.grow S (QU h.e)).symm,h.d3⟩
 ·rcases S b hb with I|I
  ·exact h.tb b I
  exact .inr oa
 ·rcases Lh.1 E with E|E
  ·exact Qg (h.el p E) G (λb hb=>(h.sep p E b hb).2.1)
  simp only[oF]at E;subst E;exact Zf (Qg hx G (λb hb=>(T b hb).1)) nS
 rcases Lh.1 E with E|E
 ·have:=h.sep p E b hb;exact⟨this.1,nott b (QU (h.el p E) b hb) this.2.1,this.2.2⟩
 simp only[oF]at E;subst E;have I:=(Qj hx b hb);have U:=T b hb;exact⟨oa,nott b I.2 U.1,U.2⟩
end
theorem QrV (o:Option α):o=none\/∃t,o=some t:=by cases o;exact .inl O;exact .inr ⟨_,O⟩
def zA:O2:=.agg #[nS,sS 0,nS,nS]
def Zs:O2:=nS
def Yz (N:Nat)(H:xA)(aa:List Qz)(va vt:O2)(c:Int):Prop :=
 if KR aa≠0 then c=KR aa/\va=zA/\vt=Zs else match xo aa with
  | none=>c=3/\va=zA/\vt=Zs
  | some z=>c=0/\YT N H va z.1/\Qc7 N H vt z.2
def YX (s:Sy)(u:LI):Sy:=if u∈s.tup then s else⟨s.tup++[u],s.mk',s.ed⟩
theorem QhT (s:Sy)(u:LI):(YX s u).mk'=s.mk':=by unfold YX;split <;> rfl
theorem QhU (s:Sy)(u:LI):(YX s u).ed=s.ed:=by unfold YX;split <;> rfl
theorem Qlo {aa:List Qz}{t u:LI}{s:Sy}{v:Int}(h:Yo v aa t=some u)(hl:u∈s.tup\/s.tup.length≠4096):
  syE aa i t s v=some ⟨(YX s u).tup,(YX s u).mk',(YX s u).ed++[((i:Int),v,((YX s u).tup.idxOf u:Int))]⟩:=by
 unfold syE YX;rw[h];simp only[];by_cases E:u∈s.tup
 ·simp only[OU E]
 simp only[OT E];rw[OT (by rcases hl with G|G;exact OW G E;exact G),L7,OT E];simp
theorem QhS {aa:List Qz}{t u:LI}{s:Sy}{v:Int}(h:Yo v aa t=some u)(E:u∉s.tup)(hl:s.tup.length=4096):syE aa i t s v=none:=by
 unfold syE;rw[h];simp only[];rw[OT E,OU hl]
theorem QhQ {aa:List Qz}{t:LI}{s:Sy}{v:Int}(h:Yo v aa t=none):syE aa i t s v=some s:=by
 unfold syE;rw[h]
theorem Qnz {s:Sy}{qs:List TV}(E:qs.map (·.2)=s.tup)(h:i<qs.length):JF s i=qs[i].2:=by
 unfold JF;rw[<-E];simp[oO,h]
theorem Vt.bd {aa:List Qz}{t:LI}(h:Vt aa t){m:Int}(E:∀a∈aa,a.st<=m):∀x∈t,0<=x/\x<m:=by
 intro x hx;obtain⟨i,hi,rfl⟩:=LP hx;have hi':i<aa.length:=by rw[<-h.1];exact hi
 have:=h.2 i hi hi';have:=E aa[i] (Le hi');omega
theorem UL {L:LN}{ps:List AV}{km:Int}(h:X1 L ↑w vl ps)(gl:Kb w km)(ke:0<km)(m6:∀p∈ps,p.a.st<=km):
  QR sV 49 [vl] w λr w'=>sW w w'/\∃va vt c,r=.tuple #[va,vt,sS c]/\Yz ↑w ↑w' (ps.map (·.a)) va vt c:=by
 refine Zm func49 ?_;generalize U:ps.map (·.a)=aa;refine Qc<|QN [nS,sS 0,nS,nS] λJ w1 hQ hB gm=>x Qe<|Qb ?_;have hl2:=gm.lt;refine Qd<|Qk<|Qv<|(Qgt (h.I hQ)).S ?_;rintro r2 w2 ⟨rfl,hr⟩;refine Qb ?_;rw[U];refine Qk<|ZM O O<|xe<|Zi rfl (λh5=>?_) (λh5=>?_)
 ·refine Qc<|x (QE Z)<|Qa<|Q2 [nS,sS 0,nS,nS] (gm.I hr) oy λw3 m7 m8=>x Qe<|Qb<|Qh ⟨[zA,Zs,sS (KR aa)],⟨Jl m8,O,O,Z⟩,(hQ.D hr).Q m7 hB,zA,Zs,KR aa,O,?_⟩;unfold Yz;rw[OU h5];exact⟨O,O,O⟩
 have hck:KR aa=0:=Ls.1 h5;have hn:ps.length<=12:=by
  unfold KR at hck;split at hck
  ·cases hck
  rename_i h1;rw[<-U]at h1;simp at h1;exact h1
 have hC:∀a∈aa,Q0 a:=by
  unfold KR at hck;split at hck
  ·cases hck
  exact(UG aa).1 hck
 have hok:∀p∈ps,Q0 p.a:=λp E=>hC p.a (by rw[<-U];exact LG E);have m9:∀p∈ps,p.a.al.length<=32:=λp E=>(hok p E).al_le;have pc:∀a∈aa,a.st<=km:=λa ha=>by rw[<-U]at ha;obtain⟨p,E,rfl⟩:=Ly.1 ha;exact m6 p E
 have hD:aa.length=ps.length:=by rw[<-U];simp
 refine Qf<|Qk<|Qv<|(QlT (L:=[J]) (((h.up (λb hb=>.inr (by simp at hb;omega))).I hQ).I hr) hn m9 (λb hb=>by simp at hb;have:=hr.size;omega)).S ?_;rintro r4 w4 ⟨gn,ve,vs,ms,rfl,kf,ho⟩;rw[U]at ho;have hel:=Qbc aa (λa ha=>(hC a ha).al_le);have hevl:(evs aa).length<=1000:=oa
 have hR:=Qi.ints (L:=[]) ho oa od;refine QN [nS,nS,nS] λb6 w5 pd pf hE=>Q2 [vl,ve,vs] hE ⟨h.arr.one,hR.one,kf.sl.one,Z⟩ λw6 pg hE=>xe ?_;have hS:sW w4 w6:=pd.Q pg pf;have hz2:=hr.size;have hz4:=gn.size;have hl6:=hE.lt;refine Qc<|Qq O hE O O<|Zc O<|Qo<|Qw (((gm.I hr).I gn).I hS) O O od hR.one λw7 hF ph=>xe ?_;have hz7:=hF.size;have go:sW w w7:=((((hQ.D hr).D gn).D hS).Q hF hB);have kg:Vj [J] ↑w7 vl ve vs ps ms:=(kf.I hS).st hF;have kh:Qi 3 ↑w2 w7 ve (evs aa):=Qg (Qm ho hS) hF (λb hb=>by have:=(Qj ho b hb).1;simp;omega);have ki:=hE.J hF (by simp;omega);refine Qc<|QV ki O O<|Qv<|(Qd1 kg hn).S ?_;rintro r8 w8 ⟨hk,hU⟩;have hz8:=hk.size;have gq:=ph.I hk;have hV:(∃p∈ps,p.a.st=0)↔(∃a∈aa,a.st=0):=by
  rw[<-U];constructor
  ·rintro⟨p,E,h0⟩;exact⟨p.a,LG E,h0⟩
  rintro⟨a,ha,h0⟩;obtain⟨p,E,rfl⟩:=Ly.1 ha;exact⟨p,E,h0⟩
 by_cases hz:∃p∈ps,p.a.st=0
 ·rw[OU hz]at hU;subst hU;refine Qa<|QJ O O<|QJ O O<|x Qe<|Qb<|Qd<|Qk<|x (Zl O)<|xe<|yJ O ?_;refine Qc<|QV gq O O<|Q2 [ve,sS 0,nS,nS] gq ⟨hR.one,O,O,O,Z⟩ λw9 kj pj=>x Qe<|Qb<|Qh ⟨[.agg #[ve,sS 0,nS,nS],Zs,sS 0],⟨Jl pj,O,O,Z⟩,(go.D hk).Q kj hB,_,Zs,0,O,?_⟩;unfold Yz;rw[OT h5];unfold xo;rw[OU (hV.1 hz)];refine⟨O,⟨ve,_,_,O,λL' hm=>⟨Qi.ints (Qg (Qm kh hk) kj (λb hb=>by have:=(Qj ho b hb).1;simp;omega)) (by show(evs aa).length<=_;omega) (λb hb=>oo (hm b hb)),Zt.nil _ _ _,Zt.nil _ _ _⟩⟩,[],O,λL' hm=>⟨Zt.nil _ _ _,λp E=>by cases E⟩⟩
 rw[OT hz]at hU;obtain⟨vf,rfl,gr⟩:=hU;have kk:=Qi.ints (L:=[]) gr (by simp;omega) od;refine Qa<|QJ O O<|QJ O O<|x Qe<|Qb<|Qd<|Qk<|x (Zl O)<|xe<|ZD rfl<|Qf<|Qk<|Qo<|Yi (us:=[[vf]]) O O og od ⟨kk.cells,rfl,Z⟩ λV w10 gs hb37 kn=>Qb ?_;have hl37:=kn.lt;refine Qc<|Qo<|Z1 Xz λhg w11 hW hb38 ko=>?_;have hl38:=ko.lt;refine Qa<|Qv<|(QaV ((kk.I gs).I hW) (gl.I ((go.D hk).D (gs.D hW))) (λn hn=>oo (Nz hn)) (by simp;omega)).S ?_;rintro r12 pn ⟨rfl,hX⟩;have hz12:=hX.size;refine Qo<|Yv (k:=KO (oG ps.length 0)) (ko.I hX) O O λwS gt po=>Qa<|Qb ?_;have hzS:=gt.size;have pp:sW w8 pn:=(gs.D hW).D hX;have h6:sW w8 wS:=pp.Q gt oa;have hY:sW w wS:=(go.D hk).D h6;have pt:∀b∈[J,hg,V],b∈[J]\/↑w8<=b:=λb hb=>by
  simp only[oK,oH,or_false]at hb;rcases hb with rfl|rfl|rfl
  ·exact .inl od
  ·exact .inr oa
  exact .inr oa
 have gu:Vj [J,hg,V] ↑wS vl ve vs ps ms:=((kg.I hk).up pt).I h6;have gv:QL ↑wS b6 225 [vl,ve,vs]:=(ki.I hk).I h6;have pu:Qi 3 ↑w2 wS ve (evs aa):=Qm (Qm kh hk) h6;have hG:SyN ↑w1 J hg V wS:=⟨oa,oa,oa,oa,oa,oa⟩;have pw:q7 ↑w1 J hg V ve wS (zD aa) (xh [] (KO (oG ps.length 0)) (sS 0)) [(vf,oG ps.length 0)] (sL V 1 1) Zs Zs wS:=by
  refine⟨O5.Y _ _,gq.I h6,po,?_,λb hb=>by simp[ob]at hb;exact .inl hb,QM _ _ _ _,QM _ _ _ _,by simp[zD,hD],λp E=>?_,λp E b hb=>?_,Dj.nil' _,Dj.nil' _,Dj.nil' _⟩
  ·exact(((kn.I hW).I hX).J gt (by simp;omega)).own (n:=1) (sz:=1) O oa oa
  ·simp only[oF]at E;subst E;exact Zf (Qm gr h6) oa
  simp only[oF]at E;subst E;have:=(Qj gr) b hb;refine⟨oa,?_,by simp[ob,Zs],by simp[ob,Zs]⟩;simp[ob];omega
 have pz:qw ps.length (xh [] (KO (oG ps.length 0)) (sS 0)) (zD aa).tup:=by
  have ke:qw ps.length [] []:=λu _ _=>O;have:=ke.add (u:=oG ps.length 0) od (λx hx=>oo (Nz hx));simpa[zD,hD]using this
 have p0:qv aa (zD aa):=by
  refine⟨λt ht=>?_,by simp[zD]⟩;simp only[zD,oF]at ht;subst ht;refine⟨od,λi h1 h2=>?_⟩;have h3:=(hC aa[i] (Le h2)).st0;have h4:aa[i].st≠0:=λe=>hz (hV.2 ⟨aa[i],Le h2,e⟩);simp only[Oq];omega
 generalize hT:syL aa 4096 0 (zD aa)=T;have p4:∀s,T=some s->xo aa=some (⟨evs aa,s.tup.length,s.mk',s.ed⟩,s.tup):=λs hs=>by
  unfold xo;rw[OT (λe=>hz (hV.2 e)),hT,hs];rfl
 have p5:T=none->xo aa=none:=λhs=>by unfold xo;rw[OT (λe=>hz (hV.2 e)),hT,hs];rfl
 refine Qd<|Qc<|Qb ?_;have gx:b6∉[J,hg,V]:=by simp;omega
 refine QW (α:=Nat×Sy×List (ByteArray×O2)×List TV×O2×O2×O2) [(3,4),(10,10),(12,16),(42,111)] (λz=>[(3,z.2.2.2.2.1),(10,sS z.1)])
  (λz w'=>q7 ↑w1 J hg V ve wS z.2.1 z.2.2.1 z.2.2.2.1 z.2.2.2.2.1 z.2.2.2.2.2.1 z.2.2.2.2.2.2 w'/\qv aa z.2.1/\qw ps.length z.2.2.1 z.2.1.tup/\z.1<=z.2.1.tup.length/\z.2.1.mk'.length<=z.1/\z.2.1.ed.length<=z.1*1000/\syL aa (4096 - z.1) z.1 z.2.1=T)
  (λz=>4096 - z.1) (0,zD aa,_,_,_,Zs,Zs) ov ⟨pw,p0,pz,Lo _,Lo _,Lo _,hT⟩ ?_
 rintro⟨i,s,m,qs,vt,vk,vd⟩ g hZ ⟨hI,ga,kq,hi,p6,kr,gy⟩;simp only[]at hI ga kq hi p6 kr gy;have hle:=ga.le;have p7:qs.length=s.tup.length:=by rw[<-hI.q];simp
 have kt:∀p∈qs,Vt aa p.2:=λp E=>ga.v p.2 (by rw[<-hI.q];exact LG E);have ku:∀p∈qs,p.2.length<=12:=λp E=>oo (kt p E).1
 have jc:=QO (L:=[]) hI.t oa od;refine Qd<|Qk<|Qa<|QG jc O<|ZX O O<|xe<|Zr rfl (λp8=>?_) (λp8=>?_)
 ·have p9:T=some s:=by rw[<-gy,QhO oa]
  refine Qt<|Qk<|QG jc O<|Zc O<|Qo<|Qw hI.A O O od rfl λw15 qa kv=>xe ?_;refine Qc<|QV kv O O<|Qa<|Q2 [ve,sS qs.length,vk,vd] kv ⟨hR.one,O,(Qi.ints (L:=[]) hI.k oa od).one,(Yd.eds (L:=[]) hI.e oa od).one,Z⟩ λgz qe qf=>x Qe<|Qb ?_;have h7:O5 [J] hZ gz:=qa.V qe;have qj:sW w gz:=(hY.O hI.st (λb hb=>.inr (by simp at hb;omega))).Q h7 hB;refine Qh ⟨[.agg #[ve,sS qs.length,vk,vd],vt,sS 0],⟨Jl qf,O,O,Z⟩,qj,_,vt,0,O,?_⟩;unfold Yz;rw[OT h5,p4 s p9];have e1:(qs.length:Int)=s.tup.length:=by rw[p7]
  have k0:Qi 3 ↑w2 gz ve (evs aa):=Qg (Qg pu hI.st (λb hb=>by have:=(Qj ho b hb).1;have:=(QU ho) b hb;simp;omega)) h7 (λb hb=>by have:=(Qj ho b hb).1;simp;omega);have k1:=Qg hI.k h7 (λb hb=>by have:=(Qj hI.k b hb).1;simp;omega);have k2:=Qg hI.e h7 (λb hb=>by have:=(Qj hI.e b hb).1;simp;omega);have k3:=Qg hI.t h7 (λb hb=>by have:=(Qj hI.t b hb).1;simp;omega);refine⟨O,⟨ve,vk,vd,by rw[e1],λL' hm=>⟨Qi.ints k0 (by show(evs aa).length<=_;omega) (λb hb=>oo (hm b hb)),Qi.ints k1 (by show s.mk'.length<=_;omega) (λb hb=>oo (hm b hb)),Yd.eds k2 (by show s.ed.length<=_;omega) (λb hb=>oo (hm b hb))⟩⟩,qs,hI.q,λL' hm=>⟨?_,λp E=>?_⟩⟩
  ·exact QO k3 oa (λb hb ql=>oq (Qj hI.t b hb).1 (hm b ql))
  exact Qi.ints (Qg (hI.el p E) h7 (λb hb=>by have:=(Qj (hI.el p E) b hb).1;simp;omega)) (oo (ku p E)) (λb hb=>oo (hm b hb))
 have qm:i<s.tup.length:=oa
 have Y:i<qs.length:=oa
 have kw:=Qnz hI.q Y;have h8:=kt (qs[i]'Y) (Le Y);obtain⟨t,g0⟩:∃t,(qs[i]'Y).2=t:=⟨_,O⟩;rw[g0]at kw h8;refine Qf ?_;have q0:(UU aa i t (evs aa) (Z7 aa i t s)).bind (syL aa (4096 - (i+1)) (i+1))=T:=by
  rw[<-gy];obtain⟨f,hf⟩:∃f,4096 - i=f+1:=⟨4096 - i - 1,oa⟩;rw[hf,syL,OU qm,kw,show 4096 - (i+1)=f by omega]
 have q4:=gu.st hI.st;have q5:Vj [] ↑hZ vl ve vs ps ms:=q4.up (λ_ hb=>by cases hb);have j1:=gv.J hI.st gx;have j2:Qu [] ↑hZ (qs[i]'Y).1 t:=by rw[<-g0];exact Qi.ints (hI.el (qs[i]'Y) (Le Y)) (oo (ku (qs[i]'Y) (Le Y))) od
 refine Qd<|Qn<|QX (α:=O2) [(48,59)] (λz=>[]) (λz w'=>q7 ↑w1 J hg V ve wS (Z7 aa i t s) m qs vt z vd w') oh ?_ ?_
 ·refine Qd<|ZL [] (Xg 0 6 [5])<|pq (λ_ hc=>Q7 (j1.I hc) O O)<|p Qx<|p Qx<|pig O Kv jc O O Y λa51 j3 =>
   pq (λ_ hc=>Qr (j3.I hc) O)<|pk<|xg<|(QgA (q5.I (O5.X _ _)) (j2.I (O5.X _ _)) (by rw[h8.1,hD]) (λp E=>(hok p E).mri) hn).S ?_
  rintro r17 w17 ⟨rfl,j4⟩;have kx:=(O5.X [] hZ).D j4;refine⟨kx,?_⟩;refine pe ?_;have g2:=hI.I kx;refine Q6 O (λhH=>?_) (λhH=>?_)
  rotate_left
  ·refine Qf<|⟨vk,Z,?_⟩;rw[U]at hH;unfold Z7;rw[OT (by rw[hH];simp)];exact g2
  refine Qs<|Qq O g2.A O O<|Qa<|Qo<|Q9 [[sS i]] λb57 w18 za hb57 z0=>?_;have hJ:=g2.I za;refine Qo<|Q8 (news:=[sS i]) (L:=[]) hJ.k O O O (z0.at od) om oa hJ.st.size λkz z2 z3 k4 z4=>?_;have k5:Qi 3 ↑wS z2 kz (s.mk'++[(i:Int)]):=Qi.snoc z3;refine Zc O<|Qo<|Qw (hJ.A.J k4 (QK hJ.k oa)) O O od (Qi.ints (L:=[]) k5 (by simp;omega) od).one λw20 z5 hB20=>xe ?_;refine⟨kz,Z,?_⟩;rw[U]at hH;unfold Z7;rw[OU hH];exact hJ.setK hG k4 k5 z4 z5 hB20
 rintro gb g3 w21 k6;have hsk2:qv aa (Z7 aa i t s):=jq ga;have htup2:(Z7 aa i t s).tup=s.tup:=by unfold Z7;split <;> rfl
 have hed2:(Z7 aa i t s).ed=s.ed:=by unfold Z7;split <;> rfl
 have hmk2:(Z7 aa i t s).mk'.length<=i+1:=by
  unfold Z7;split
  ·simp only[oM,oL];omega
  omega
 have k9:Qu [J,hg,V] ↑wS ve (evs aa):=by have:=gu.ev;rw[U]at this;exact this
 refine Qc<|Qq O (gv.J k6.st gx) O O<|QG k9 O<|Qa<|xe<|QW (α:=Nat×Sy×List (ByteArray×O2)×List TV×O2×O2) [(3,4),(12,16),(63,111)] (λz=>[(3,z.2.2.2.2.1),(63,sS z.1)])
  (λz w'=>q7 ↑w1 J hg V ve wS z.2.1 z.2.2.1 z.2.2.2.1 z.2.2.2.2.1 gb z.2.2.2.2.2 w'/\qv aa z.2.1/\qw ps.length z.2.2.1 z.2.1.tup/\z.1<=(evs aa).length/\z.2.1.mk'=(Z7 aa i t s).mk'/\z.2.1.ed.length<=i*1000+z.1 /\
   (∃h:i<z.2.2.2.1.length,(z.2.2.2.1[i]'h).2=t)/\(UU aa i t ((evs aa).drop z.1) z.2.1).bind (syL aa (4096 - (i+1)) (i+1))=T)
  (λz=>(evs aa).length - z.1) (0,Z7 aa i t s,m,qs,vt,vd) ov
  ⟨k6,hsk2,by rw[htup2];exact kq,Lo _,O,by rw[hed2];simpa using kr,⟨Y,g0⟩,q0⟩ ?_
 rintro⟨j,G,m4,hh,gc,ge⟩ g4 hK ⟨S,hL,hv,hj,gg,ma,⟨hq,h9⟩,he⟩;simp only[]at S hL hv hj gg ma he hq h9;have mc:hh.length=G.tup.length:=by rw[<-S.q];simp
 have hle4:=hL.le;refine Zk rfl O (λh64=>?_) (λh64=>?_)
 ·rw[Lr oa,UU]at he;refine Qt<|Qs<|Qa<|QD O O<|Qb<|⟨(i+1,G,m4,hh,gc,gb,ge),oe,ov,S,hL,hv,oe,by simp only[];rw[gg];exact hmk2,oe,he⟩
 have gh:j<(evs aa).length:=oa
 rw[QY gh,UU]at he;obtain⟨v,mf⟩:∃v,(evs aa)[j]=v:=⟨_,O⟩;rw[mf]at he;refine Qf<|Qd<|Qn<|Qc<|xii (k9.st S.st) O O gh λa65 mg=>?_;rw[mf]at mg;refine x (Qr mg O)<|Qb ?_;have hB622:=gv.J S.st gx;have htA4:=QO (L:=[]) S.t oa od;have htI4:Qu [] ↑hK (hh[i]'hq).1 t:=by rw[<-h9];exact Qi.ints (S.el (hh[i]'hq) (Le hq)) (by rw[h9,h8.1];omega) od
 refine Qd<|ZL [] (Xg 0 12 [6])<|pq (λ_ hc=>Q7 (hB622.I hc) O O)<|p Qx<|p Qx<|pig O Kv htA4 O O hq λa71 h71 =>
  pq (λ_ hc=>Qr (h71.I hc) O)<|p Qx<|pk<|xg<|(Qil (((gu.st S.st).up (L':=[]) (λ_ hb=>by cases hb)).I (O5.X _ _)) (htI4.I (O5.X _ _)) (by rw[h8.1,hD]) (λp E=>(hok p E).ali) (λp E=>(hok p E).edi) hn _).S ?_
 rintro r23 w23 ⟨hs23,hM⟩;rw[U]at hM;have mh:=(O5.X [] hK).D hs23;refine⟨mh,?_⟩;have hN:=S.I mh;have hz22:=S.st.size;rcases QrV (Yo v aa t) with hw|⟨u,hw⟩
 ·rw[hw]at hM;subst hM;rw[QhQ hw]at he;refine p Qx<|p (λ_=>Q3 O O)<|p (λ_=>Q3 O O)<|p ZN<|p ZN<|pe ?_;refine Qd<|Qk<|x (Zl O)<|xe<|yJ O ?_;refine Qt<|Qs<|QD O O<|Qa<|xe ?_;exact⟨(j+1,G,m4,hh,gc,ge),oe,ov,hN,hL,hv,gh,gg,oe,⟨hq,h9⟩,he⟩
 rw[hw]at hM;obtain⟨vx,rfl,g5⟩:=hM;have mj:=Xo hC h8 hw;have mo:u.length=ps.length:=by rw[mj.1,hD]
 have g8:=mj.bd pc;have g9:∀x∈u,0<=x:=λx hx=>(g8 x hx).1;refine p Qx<|p (λ_=>Q3 O O)<|p (λ_=>Q3 O O)<|p ZN<|p ZN<|pe ?_;refine Qd<|Qk<|x (Zl O)<|xe<|ZD O<|Qf ?_;have gi:=Qi.ints (L:=[]) g5 oa od;have mq:=Qj g5;refine QX (α:=Unit) [(15,16),(79,85)] (λz=>[(15,sS (if u∈G.tup then(G.tup.idxOf u:Int) else 0)),(16,.bool (decide (u∈G.tup)))]) (λz w'=>sW w23 w') oh ?_ ?_
 ·refine Qs<|Qa<|Qa<|Qv<|(QaV gi (gl.I (hY.O hN.st (λb hb=>.inr (by simp at hb;omega)))) g8 oa).S ?_;rintro r24 w24 ⟨rfl,gj⟩;by_cases I:u∈G.tup
  ·refine x (U1 (k:=KO u) ((hN.I gj).M) O O (by rw[hv u mo g9,OU I]))<|Qa<|QJ rfl rfl<|QJ rfl rfl<|x Qe<|Qb<|⟨(),⟨OV sS (OU I).symm,OV Value.bool (OX I).symm,Z⟩,gj⟩
  refine x (jz (k:=KO u) ((hN.I gj).M) O O (by rw[hv u mo g9,OT I]))<|Qa<|QJ rfl rfl<|QJ rfl rfl<|x Qe<|Qb<|⟨(),⟨OV sS (OT I).symm,OV Value.bool (OZ I).symm,Z⟩,gj⟩
 rintro _ g6 w25 ka;have hA:=hN.I ka;have hxA25:=gi.I ka;have hadd:∀b∈ob vx,b∉ob gc/\b∉ob gb/\b∉ob ge:=λb hb=>by
  have h1:=(mq b hb).1;have h1':↑hK<=b:=h1;exact⟨λhO=>oo (QU S.t b hO),λhO=>oo (QU S.k b hO),λhO=>oo (QU S.e b hO)⟩
 refine QX (α:=List (ByteArray×O2)×List TV×O2) [(3,4),(15,15),(86,101)] (λz=>[(3,z.2.2),(15,sS ((YX G u).tup.idxOf u:Int))])
  (λz w'=>q7 ↑w1 J hg V ve wS (YX G u) z.1 z.2.1 z.2.2 gb ge w'/\(u∈G.tup\/G.tup.length≠4096)/\qw ps.length z.1 (YX G u).tup/\∃h:i<z.2.1.length,(z.2.1[i]'h).2=t) oh ?_ ?_
 ·refine Qk<|x (Zl O)<|xe<|Q6 O (λkb=>?_) (λkb=>?_)
  rotate_left
  ·have I:u∈G.tup:=by simpa using kb
   refine Qf ?_;have e1:YX G u=G:=by unfold YX;rw[OU I]
   have e2:(if u∈G.tup then(G.tup.idxOf u:Int) else 0)=((YX G u).tup.idxOf u:Int):=by rw[e1,OU I]
   refine⟨(m4,hh,gc),⟨O,OV sS e2,Z⟩,?_,.inl I,?_,hq,h9⟩
   ·rw[e1];exact hA
   rw[e1];exact hv
  have I:u∉G.tup:=by simpa using kb
  have mt:=QO (L:=[]) hA.t oa od;refine Qd<|Qk<|QG mt O<|x (Zd O O)<|xe<|Zi O (λh90=>?_) (λh90=>?_)
  ·refine Qc<|x (QE Z)<|Q2 [nS,sS 0,nS,nS] hA.A oy λw26 gk hB26=>x Qe<|Qb<|Qh ⟨[zA,Zs,sS 3],⟨Jl hB26,O,O,Z⟩,(hY.O hA.st (λb hb=>.inr (by simp at hb;omega))).Q gk hB,zA,Zs,3,O,?_⟩;unfold Yz;rw[QhS hw I oa]at he;rw[OT h5,p5 he.symm];exact⟨rfl,O,O⟩
  have hl4:G.tup.length≠4096:=oa
  refine Qf<|Qk<|QG mt O<|Qb<|Qk<|Qa<|Qv<|(QaV hxA25 (gl.I (hY.O hA.st (λb hb=>.inr (by simp at hb;omega)))) g8 oa).S ?_;rintro r26 w26 ⟨rfl,gk⟩;have mu:=hA.I gk;refine Qa<|Qo<|YO (k:=KO u) mu.M O O λw27 mv hm27=>xe ?_;have hx27:=Qg (Qm (Qm g5 ka) gk) mv (λb hb=>by have:=(mq b hb).1;have h1':↑hK<=b:=this;simp;omega);refine Qs<|Qa<|Qa<|Qo<|Yi (us:=[[vx]]) O O og od ⟨gi.cells,rfl,Z⟩ λb100 w28 mw hb100 hB100=>?_;have kc:=(mu.setM hG mv hm27).I mw;refine Qo<|Q8 (news:=[vx]) (L:=[]) kc.t O O O (hB100.at od) (λy hy=>by simp only[oF]at hy;subst hy;exact gi.one) oa (oq kc.st.size hG.nS) λmy w29 ho29 hs29 hn29=>Qb ?_;have hk29:q6 47 ↑w1 w29 my (hh++[(vx,u)]):=q6.snoc ho29;have hIA:=kc.setT hG (u:=u) (Zf (Qm hx27 mw) (by show wS.heap.size<=↑hK;omega)) hadd hs29 hk29 hn29;have e1:YX G u=⟨G.tup++[u],G.mk',G.ed⟩:=by unfold YX;rw[OT I]
  have e2:(hh.length:Int)=((YX G u).tup.idxOf u:Int):=by
   rw[e1];simp only[];rw[L7,OT I,<-mc];simp
  refine⟨(xh m4 (KO u) (sS (hh.length:Int)),hh++[(vx,u)],my),⟨O,OV sS e2,Z⟩,?_,.inr hl4,?_,by simp;omega,?_⟩
  ·rw[e1];exact hIA
  ·rw[e1];simp only[];rw[mc];exact hv.add I g9
  simp only[];rw[Mt hq];exact h9
 rintro⟨m5,qs5,vt5⟩ g7 w30 ⟨mz,hlim,hkn5,hlt5,ht5⟩;have hed5:(YX G u).ed.length<=i*1000+j:=by rw[QhU];exact ma
 have m0:=Qlo (aa:=aa) (i:=i) (s:=G) hw hlim;rw[m0]at he;refine Qs<|Qq O mz.A O O<|Qa<|Qa<|Qa<|x (QE ⟨O,O,O,Z⟩)<|Qo<|Q9 [Qp ((i:Int),v,((YX G u).tup.idxOf u:Int))] λb108 w31 hs31 hb108 hB108=>?_;have hP:=mz.I hs31;refine Qo<|Q8 (news:=Qp ((i:Int),v,((YX G u).tup.idxOf u:Int))) (L:=[]) hP.e O O O (hB108.at od) (λy hy=>by simp only[Qp,oK,oH,or_false]at hy;rcases hy with rfl|rfl|rfl <;> rfl) oa hP.st.size λm1 w32 ho32 m2 hn32=>?_
 have m3:Yd 179 ↑wS w32 m1 ((YX G u).ed++[((i:Int),v,((YX G u).tup.idxOf u:Int))]):=Yd.snoc ho32;refine Zc O<|Qo<|Qw (hP.A.J m2 (QK hP.e oa)) O O od (Yd.eds (L:=[]) m3 (by simp;omega) od).one λw33 hs33 hB33=>xe ?_;refine Qs<|QD O O<|Qa<|xe<|⟨(j+1,_,m5,qs5,vt5,m1),oe,ov,(hP.setE hG m2 m3 hn32 hs33 hB33),(QhR hC hL h8 m0),hkn5,gh,?_,?_,⟨hlt5,ht5⟩,he⟩
 ·simp only[];rw[QhT];exact gg
 simp only[oM,oL];omega
theorem yM {L:LN}{ps:List AV}(h:X1 L ↑w vl ps)(E:∀p∈ps,p.a.st<=100):
  QR sV 49 [vl] w λr w'=>sW w w'/\∃va vt c,r=.tuple #[va,vt,sS c]/\Yz ↑w ↑w' (ps.map (·.a)) va vt c :=
 UL (km:=100) h (.inl (Mx _)) og E
theorem xI {α:Type}(g:α->LV)(sz:Nat)(G:∀x,(g x).length=sz):∀(l:List α) (i j:Nat) (h:i<l.length) (y:α) (u:O2),j<sz->g y=(g l[i]).set j u ->
  (l.flatMap g).set (i*sz+j) u=(l.set i y).flatMap g
 | x::l,0,j,h,y,u,I,E=>by
  simp only[Ot]at E;simp only[Nat.zero_mul,oX,oT,List.set_cons_zero];rw[List.set_append_left _ _ (by rw[G];exact I),E]
 | x::l,i+1,j,h,y,u,I,E=>by
  simp only[List.getElem_cons_succ]at E;simp only[oT,List.set_cons_succ];rw[List.set_append_right _ _ (by rw[G,My];omega),G,show(i+1)*sz+j - sz=i*sz+j by rw[My];omega,xI g sz G l i j (ou h) y u I E]
section
variable {f:Fr}{all:xD}{C:xz}{K:Fr->O1->Prop}
end
theorem ZA {l:LI}(h:i<l.length):l[i]=O6 l i:=by simp[O6,oO,h]
section
variable {l:xD}{K:Fr->O1->Prop}{f:Fr}{C:xz}{pl:xt}{i0:Nat}
theorem xic {x:O3}{e bys:Nat}[Sl P t e 1 bys z]{L:LN}{li:LI}{v:O2}{k:IntKind}
  (h:Qu L ↑w v li) (E:ev f x=v) (G:ev f y=.int k i) (hi:i<li.length)
  (hK:∀a,At L ↑w a [sS (O6 li i)]->XL P ops K l (QP f d (.pointer (some a))) w) (I:Z8 ops f ⟨d,.indexAddr t x y,ty,pS,af,gd⟩=true:=by rfl):
  XL P ops K (⟨d,.indexAddr t x y,ty,pS,af,gd⟩::l) f w :=
 xii h E G hi (λa J=>hK a (by rw[<-ZA hi];exact J)) I
theorem pic {x:O3}{e bys:Nat}[Sl P t e 1 bys z]{L:LN}{li:LI}{v:O2}{H:xA}{k:IntKind}
  (E:QT ops i0=⟨d,.indexAddr t x y,ty,pS,af,gd⟩) (h:Qu L H v li) (G:ev f x=v) (I:ev f y=.int k i) (hi:i<li.length)
  (hK:∀a,At L H a [sS (O6 li i)]->XP P ops C K pl (QP f d (.pointer (some a))) w) (J:Z8 ops f (QT ops i0)=true:=by rfl):XP P ops C K ((i0,true)::pl) f w :=
 pii E h G I hi (λa S=>hK a (by rw[<-ZA hi];exact S)) J
theorem jF [h1:XN P t]{x:O3}{e cap:Nat}{li:LI}{v:O2}{u:Int}(h:Qi e base w v li)(E:v=sL g li.length cap)(hx:ev f x=.pointer (some ⟨g,0+i*1,none⟩))(I:ev f y=sS u)(hi:i<li.length)
  (hK:∀w',O5 (ob v) w w'->Qi e base w' v (li.set i u)->K (QP f d undef) w'):XO P ⟨d,.store t x y,ty,pS,af,gd⟩ f w K:=by
 have G:=h;unfold Qi at G;rw[E]at G;refine Qce G hx I hi O λw' J S=>hK w' (by rw[E];exact J) ?_;unfold Qi;rw[MX,Ny,E];exact S
end
theorem Qh6 {a:Nat}(h:a<n):oN a (n - a)=a::oN (a+1) (n - (a+1)):=by
 rw[show n - a=(n - (a+1))+1 by omega,Ns]
theorem Qlz {a:Nat}(h:n<=a):oN a (n - a)=[]:=by rw[show n - a=0 by omega];rfl
section
variable {f:Fr}{κ:Type}[DecidableEq κ]
end
theorem QeT {aa:List Qz}{i:Nat}{t:LI}(G:∀a∈aa,Q0 a)(I:Vt aa t):∀(vs:LI) (s E:Sy),qv aa s->UU aa i t vs s=some E->qv aa E
 | [],s,E,h,e=>by cases e;exact h
 | v::vs,s,E,h,e=>by
  rw[UU]at e;obtain⟨J,S,T⟩:=MP.1 e;exact QeT G I vs J E (QhR G h I S) T
theorem QhM {aa:List Qz}(G:∀a∈aa,Q0 a):∀(f i:Nat) (s E:Sy),qv aa s->syL aa f i s=some E->qv aa E
 | 0,i,s,E,h,e=>by cases e;exact h
 | f+1,i,s,E,h,e=>by
  rw[syL]at e;split at e
  ·rename_i hi;obtain⟨I,J,S⟩:=MP.1 e;have T:Vt aa (JF s i):=h.v _ (by unfold JF;simp[oO,hi]);exact QhM G f _ I E (QeT G T _ _ _ (jq h) J) S
  cases e;exact h
theorem Qn7 {aa:List Qz}(I:∀a∈aa,Q0 a)(J:¬∃a∈aa,a.st=0):qv aa (zD aa):=by
 refine⟨λt E=>?_,by simp[zD]⟩;simp only[zD,oF]at E;subst E;refine⟨od,λi S G=>?_⟩;have T:=(I aa[i] (Le G)).st0;have U:aa[i].st≠0:=λe=>J ⟨aa[i],Le G,e⟩;simp only[Oq];omega
theorem zd {aa:List Qz}(E:∀a∈aa,Q0 a){z:Qz×List (LI)}(h:xo aa=some z):(∀t∈z.2,Vt aa t)/\z.2.length<=4096:=by
 unfold xo at h;split at h
 ·cases h;simp
 rename_i G;obtain⟨s,I,rfl⟩:=Nb.1 h;have:=QhM E _ _ _ _ (Qn7 E G) I;exact⟨this.v,this.le⟩
def opC (p s:Qz):Int:=if X4 p≠0 then X4 p else if X4 s≠0 then X4 s else if mrg (λp q=>p && !q) s.al p.al=[]then 0 else 9
def opE (p s:Qz):Int:=if opC p s≠0 then opC p s else match xo [p,s]with|none=>3|some _=>0
def opQ (p s:Qz):List (LI):=match xo [p,s]with|none=>[]|some z=>z.2
def Qqy (l:LI):Int:=(l.drop 1).foldl max (O6 l 0)
theorem Y8 {b:Nat}{v:O2}{a:Qz}(h:YT N ↑w v a)(hb:b<N)(G:O5 [b] w w'):YT N ↑w' v a:=by
 obtain⟨va,vm,ve,I,J⟩:=h;refine⟨va,vm,ve,I,λL S=>?_⟩;exact((J (b::L) (λc E=>by rcases Ln.1 E with rfl|E;exact hb;exact S c E)).st (G.S od)).up (λc E=>.inl (Lk _ E))
theorem QkJ {b:Nat}{v:O2}{l:List (LI)}(h:Qc7 N ↑w v l)(hb:b<N)(G:O5 [b] w w'):Qc7 N ↑w' v l:=by
 obtain⟨ps,I,J⟩:=h;refine⟨ps,I,λL S=>?_⟩;exact((J (b::L) (λc E=>by rcases Ln.1 E with rfl|E;exact hb;exact S c E)).st (G.S od)).up (λc E=>.inl (Lk _ E))
theorem Y9 {H:xA}{v:O2}{a:Qz}(h:YT N H v a):∃us,v=sT us/\us.length=4/\Zv us:=by
 obtain⟨va,vm,ve,E,G⟩:=h;have:=G [] od;exact⟨[va,sS a.st,vm,ve],E,O,this.al.one,O,this.mr.one,this.ed.one,Z⟩
theorem Qbs {L:LN}{a:Qz}(h:Zp L ↑w va vm ve a):
  QR sV 246 [.agg #[va,sS a.st,vm,ve]] w λr w'=>sW w w'/\∃v,r=.tuple #[v,sS (X4 a)]/\(X4 a≠0->v=zA)/\(X4 a=0->YT ↑w ↑w' v (Xw a)):=by
 refine Zm func246 ?_;refine Qc<|Za [va,sS a.st,vm,ve] λb1 w1 V hn Y=>QN [nS,sS 0,nS,nS] λb2 w2 G ho I=>Qb ?_;have J:=V.D G;refine Qd<|Qc<|QV (Y.I G) O O<|Qv<|(Y5 (h.I J)).S ?_;rintro r3 w3 ⟨rfl,E⟩;refine Qb ?_;have hp:=V.size;refine Qk<|ZM O O<|xe<|Zi rfl (λS=>?_) (λS=>?_)
 ·refine Qc<|x (QE Z)<|Qa<|Q2 [nS,sS 0,nS,nS] (I.I E) oy λw4 hh hj=>Qb<|Qh ⟨[zA,sS (X4 a)],⟨Jl hj,O,Z⟩,(J.D E).Q hh oa,zA,O,λ_=>O,λe=>OW e S⟩
 have T:X4 a=0:=Ls.1 S;have hq:=I.lt;have U:=J.D E;refine Qf<|Qc<|QV ((Y.I G).I E) O O<|Qv<|(KC (h.I U) ((ZC a).1 T)).S ?_;rintro v w5 ⟨ha,hF⟩;obtain⟨us,he,hf,hk⟩:=Y9 hF;have hr:=E.size;refine Qo<|Zj (us:=us) ((I.I E).I ha) O he hf O hk λw6 hg hm =>
  Qb<|Qh ⟨[sT us,sS 0],⟨⟨_,O,ZF hf (hm.at (L:=[]) od).cells⟩,rfl,Z⟩,(U.D ha).Q hg oa,v,by rw[T,he];rfl,λe=>OW T e,λ_=>?_⟩
 exact(Y8 hF oa hg).S U.size
def gget:List ((Int×Int)×Int)->Int×Int->Option Int
 | [],_=>none
 | (k',v)::m,k=>if k'=k then some v else gget m k
def gput:List ((Int×Int)×Int)->Int×Int->Int->List ((Int×Int)×Int)
 | [],k,v=>[(k,v)]
 | (k',v')::m,k,v=>if k'=k then(k',v)::m else(k',v')::gput m k v
def QrP (s:Qz)(cls:LI)(x:Nat)(m:List ((Int×Int)×Int))(v:Int):List ((Int×Int)×Int):=gput m (O6 cls x,v) (O6 cls (to0 s x v).toNat)
def QrM (s:Qz)(l:List V6)(cls:LI)(z:LI×List ((Int×Int)×Int))(x:Nat):LI×List ((Int×Int)×Int):=
 if O6 cls x<0 then z else(if((lget l x).mk' && (lget l x).ps)=true then Qn0 z.1 (O6 cls x) else z.1,(lget l x).en.foldl (QrP s cls x) z.2)
def Qqf (s:Qz)(l:List V6)(cls:LI):LI×List ((Int×Int)×Int):=(oN 0 cls.length).foldl (QrM s l cls) ([],[])
def QrO (m:List ((Int×Int)×Int))(c:Nat)(v:Int):Option Ed:=(gget m ((c:Int),v)).map λt=>((c:Int),v,t)
def QrN (m:List ((Int×Int)×Int))(al:LI)(n:Nat):List Ed:=(oN 0 n).flatMap λc=>al.filterMap (QrO m c)
def QrQ (s:Qz)(l:List V6)(cls:LI):Qz:=⟨s.al,Qqy cls+1,(Qqf s l cls).1,QrN (Qqf s l cls).2 s.al (Qqy cls+1).toNat⟩
def red (p s:Qz):Qz:=QrQ s (ctls p s (opQ p s)) (QqW p s (opQ p s))
def xJ (p s:Qz):Int:=if opE p s≠0 then opE p s else if opQ p s=[]then 0 else X4 (red p s)
theorem Xv {l:LI}(h:i<l.length):O6 l i∈l:=by rw[<-ZA h];exact Le h
theorem Zg (a:α){Q:Prop}(h:∀b,a=b->Q):Q:=h a O
theorem Qak {H:xA}{a:Qz}{J S I:Nat}(V:QL H J 3 (a.al.map (.int .i64)))(Y:QL H S 3 (a.mr.map (.int .i64)))(h3:QL H T 179 (a.ed.flatMap Qp))(g1:N<=J)(g2:N<=S)(g3:N<=T)
  (l1:a.al.length=E) (l2:a.mr.length=G) (l3:a.ed.length=I) (m1:E<=1000) (m2:G<=1000) (m3:I<=1000):
  YT N H (.agg #[sL J E E,sS a.st,sL S G G,sL T I I]) a:=by
 subst l1 l2 l3;refine⟨_,_,_,O,λL U=>⟨?_,?_,?_⟩⟩
 ·exact V.arr (λhb=>oo (U _ hb)) od oa (Lp _)
 ·exact Y.arr (λhb=>oo (U _ hb)) od oa (Lp _)
 exact h3.arr (λhb=>oo (U _ hb)) (by rw[Vd _ 3 JQ]) oa (Lp _)
end Go.Lg
namespace Go.Lg
abbrev xx:=Fr->xz
end Go.Lg
