/- Merged out of 44 texts. -/
import Derived.Orders
import Derived.Below
import Derived.WalkKit
import Derived.Laws.AppendOwn
import Derived.Laws.Rows
import Derived.Laws.Tables
import Derived.Great.BuildSlice
import Derived.Deep.OwnRows
import Derived.MapKept
import Derived.Test.YtpfnhheoeaiomaaGreatDoorProg
import Derived.Shelf.SlBodiesH
import Derived.Shelf.SlBodiesN
import Derived.Shelf.SlGeneric
import Derived.Laws.StructEq
import Derived.Shelf.Strings.Builder1
import Derived.Shelf.Small.Bits
import Derived.Shelf.Strings.BuilderF
import Derived.Shelf.Strings.BuilderK
import Derived.Shelf.Strconv.Itoa0
import Derived.Shelf.Strconv.Itoa1
import Derived.Shelf.LaysM
import Derived.Shelf.Strconv.Itoa2
import Derived.Shelf.Strconv.Itoa3
import Derived.Shelf.Strings.BuilderCap
import Derived.Lib.Builder
import Derived.Laws.Externs
set_option maxHeartbeats 40000000
set_option maxRecDepth 100000
set_option linter.all false
abbrev Eq.D:=@Eq.trans
abbrev Iff.D:=@Iff.trans
abbrev List.Perm.D:=@List.Perm.trans
namespace Go
abbrev sL (b n c:Nat):Value:=.slice (some ⟨b,0,none⟩) n c
abbrev sP (b:Nat):Value:=.pointer (some ⟨b,0,none⟩)
instance:CoeOut World Nat:=⟨λw=>w.heap.size⟩
instance:CoeOut World (Array Obj):=⟨λw=>w.heap⟩
abbrev sS (n:Int):Value:=.int .i64 n
abbrev sT (l:List Value):Value:=.agg l.toArray
abbrev xp:=Option (Nat×Bool)
abbrev xq:=List (Nat×Bool)
abbrev xt:=List (Nat×Nat)
abbrev xu:=List (Int×Int)
abbrev xx:=World→Prop
abbrev xz:=Array Obj
abbrev xA:=Array Edge
abbrev xC:=List Oper
abbrev xD:=Option Nat
theorem oo{p q:Prop}(a:q)(h:q→p:=by intro _;omega):p:=h a
theorem oq{p q r:Prop}(a:q)(b:r)(h:q→r→p:=by intro _ _;omega):p:=h a b
theorem ot{p q r s:Prop}(a:q)(b:r)(c:s)(h:q→r→s→p:=by intro _ _ _;omega):p:=h a b c
theorem ou{p q:Prop}(a:q)(h:q→p:=by intro h;simpa using h):p:=h a
theorem oa{p:Prop}(h:p:=by omega):p:=h
theorem oc{p:Prop}(h:p:=by kernel_rfl):p:=h
theorem od{p:Prop}(h:p:=by simp):p:=h
theorem oe{p:Prop}(h:p:=by simp only[];omega):p:=h
theorem og{p:Prop}(h:p:=by decide):p:=h
theorem oh{p:Prop}(h:p:=by rfl):p:=h
theorem ol{p:Prop}(h:p:=by simp only[List.mem_singleton];omega):p:=h
theorem om{p:Prop}(h:p:=by simp[Value.oneCell']):p:=h
abbrev oz(j:Nat):Nat×Bool:=(j,true)
abbrev oA(j:Nat):Nat×Bool:=(j,false)
abbrev OR:=@if_neg
abbrev OS:=@if_pos
abbrev OT:=@congrArg
abbrev OU:=@absurd
abbrev OV:=@decide_eq_true
abbrev OW:=@of_decide_eq_true
abbrev OX:=@decide_eq_false
abbrev OY:=@of_decide_eq_false
end Go
open Go
open Go.Value renaming int->oB
open Go.IntKind renaming i64->oC
open _root_.List renaming mem_singleton->oF,replicate->oG,not_mem_nil->oH,range->oJ,mem_cons->oK,length_singleton->oL,length_append->oM,range'->oN,getD->oO,length_cons->oQ,getElem?_toArray->oR,map_cons->oS,flatMap_cons->oT,getElem?_eq_getElem->oU,mem_append->oV,cons_append->oZ,all_cons->Ob,size_toArray->Od,append_assoc->Of,all_eq_true->Oh,forall_mem_cons->Oj,nil_append->Ok,append_nil->Ol,getElem_cons_zero->Om,singleton_append->Oo,length_map->Oq,range'_succ->Oy,pairwise_cons->OA,length_drop->OD,length_take->OE,filter_cons->OF,map->OQ
open _root_.Bool renaming and_eq_true->oI,or_eq_false_iff->oY,not_eq_true'->Oe
open _root_.Array renaming replicate->oP
open _root_.Nat renaming zero_add->oX,add_mul->On,add_zero->Ou,le_refl->Oz,one_mul->OJ,lt_or_ge->OK,sub_zero->OL,pow_succ->OM,mul_one->OO,beq->OP
open _root_.Int renaming toNat_natCast->Ov
open _root_.Option renaming map_some->OC
open Go renaming World->OZ,Value->O0,Operand->O1,Program->O2
open Go.Proofs Go.Proofs.Tryz
open Go.Proofs.Tryz renaming prog->sV
variable {w w':OZ}{n t i sz base T N j E m g id B kt ty G lo hi et gp off:Nat}{α β:Type}{y:O1}{va ve vm z vt vl vs vk v' vx vb vo:O0}{P:O2}{fn:Func}{s:Int}{d:xD}{pS:String}{af:xA}{gd:xp}{k':IntKind}{at_:Array Nat}{ops:xC}{q:Prop}
namespace Go
abbrev nS:O0:=.slice none 0 0
abbrev LI:=List Int
abbrev LN:=List Nat
abbrev LV:=List O0
theorem O.{u}{α:Sort u}{a:α}:a=a:=rfl
theorem Z:True:=trivial
theorem La.{u}{α:Sort u}{a:α}:a=a/\True:=⟨rfl,trivial⟩
abbrev Lb:=@List.mem_singleton
abbrev Lc:=@List.length_append
abbrev Le:=@List.mem_append
abbrev Lh:=@List.take_succ_eq_append_getElem
abbrev Lj:=@List.mem_cons_of_mem
abbrev Lk:=@List.getElem_mem
abbrev Ll:=@List.mem_cons_self
abbrev Lm:=@List.length_map
abbrev Ln:=@List.mem_cons
abbrev Lo:=@Nat.zero_le
abbrev Lp:=@Nat.le_refl
abbrev Lq:=@List.take_of_length_le
abbrev Lr:=@List.drop_of_length_le
abbrev Ls:=@List.eq_nil_of_length_eq_zero
abbrev Lt:=@Decidable.not_not
abbrev Lu:=@List.length_singleton
abbrev Lv:=@List.map_append
abbrev Lx:=@Nat.le_trans
abbrev Ly:=@List.mem_map
abbrev Lz:=@List.not_mem_nil
abbrev LA:=@List.length_take
abbrev LB:=@Bool.and_eq_true
abbrev LC:=@List.append_assoc
abbrev LD:=@List.flatMap_append
abbrev LE:=@List.getElem?_eq_getElem
abbrev LF:=@List.append_nil
abbrev LG:=@List.mem_map_of_mem
abbrev LH:=@Array.getElem?_eq_some_iff
abbrev LJ:=@List.length_filter_le
abbrev LK:=@List.flatMap_cons
abbrev LL:=@List.length_cons
abbrev LM:=@List.mem_append_left
abbrev LO:=@List.foldl_cons
abbrev LP:=@List.getElem_of_mem
abbrev LQ:=@Nat.lt_of_lt_of_le
abbrev LR:=@List.filter_append
abbrev LS:=@Nat.zero_add
abbrev LT:=@List.size_toArray
abbrev LU:=@List.map_cons
abbrev LW:=@List.mem_filter
abbrev LX:=@List.ext_getElem
abbrev LY:=@List.getElem?_append_left
abbrev LZ:=@List.getElem?_take
abbrev L2:=@List.mem_of_mem_take
abbrev L3:=@Nat.le_of_ble_eq_true
abbrev L4:=@List.pairwise_cons
abbrev L5:=@List.length_range
abbrev L6:=@List.drop_eq_getElem_cons
abbrev L7:=@List.filter_cons
abbrev L8:=@List.pairwise_map
abbrev L9:=@List.all_eq_true
abbrev Ma:=@List.mem_flatMap
abbrev Mb:=@List.getElem?_toArray
abbrev Mc:=@List.idxOf_append
abbrev Md:=@List.nodup_append
abbrev Me:=@List.pairwise_append
abbrev Mf:=@List.getElem?_eq_some_iff
abbrev Mg:=@List.pairwise_iff_getElem
abbrev Mh:=@List.foldl_append
abbrev Mi:=@List.filterMap_cons
abbrev Mj:=@List.mem_of_getElem?
abbrev Mk:=@List.getElem?_append_right
abbrev Ml:=@List.length_drop
abbrev Mm:=@List.getElem?_eq_none
abbrev Mn:=@List.nodup_nil
abbrev Mo:=@List.range'_1_concat
abbrev Mq:=@List.getElem_append_left
abbrev Mr:=@List.nil_append
abbrev Ms:=@List.mem_range'_1
abbrev Mt:=@List.getElem_range
abbrev Mu:=@List.map_map
abbrev Mv:=@List.cons_append
abbrev Mw:=@Nat.add_mul
abbrev Mx:=@Int.le_refl
abbrev My:=@Bool.false_ne_true
abbrev Mz:=@List.idxOf_lt_length_of_mem
abbrev MA:=@Array.getElem?_append
abbrev MB:=@List.take_append_drop
abbrev MC:=@List.take_succ_cons
abbrev MD:=@List.mem_range
abbrev ME:=@List.getElem?_map
abbrev MF:=@Array.size_modify
abbrev MG:=@List.all_cons
abbrev MH:=@Array.getElem?_eq_getElem
abbrev MI:=@List.getElem?_drop
abbrev MJ:=@List.filter_eq_nil_iff
abbrev MK:=@Array.getElem?_toList
abbrev ML:=@Int.toNat_natCast
abbrev MM:=@Option.bind_eq_some_iff
abbrev MN:=@Nat.mul_le_mul_right
abbrev MO:=@List.mem_filterMap
abbrev MP:=@List.mem_of_mem_drop
abbrev MQ:=@Bool.or_eq_false_iff
abbrev MR:=@List.getElem_map
abbrev MS:=@Nat.add_comm
abbrev MT:=@List.filter_sublist
abbrev MU:=@Array.getElem?_modify
abbrev MV:=@List.length_set
abbrev MW:=@Nat.add_zero
abbrev MX:=@Nat.min_eq_left
abbrev MY:=@List.filter_nil
abbrev MZ:=@List.headD_cons
abbrev M0:=@Nat.add_sub_cancel_left
abbrev M1:=@List.getElem_set
abbrev M2:=@List.pairwise_singleton
abbrev M4:=@List.getElem?_set_ne
abbrev M5:=@List.getElem_take
abbrev M6:=@List.flatMap_singleton
abbrev M7:=@Bool.not_eq_true'
abbrev M8:=@List.tail_cons
abbrev M9:=@Option.map_eq_some_iff
abbrev Na:=@List.mergeSort_perm
abbrev Nb:=@List.range_succ
abbrev Nc:=@List.getElem_append_right
abbrev Nd:=@List.mem_append_right
abbrev Nf:=@Bool.false_eq_true
abbrev Ng:=@List.take_zero
abbrev Nh:=@Nat.exists_eq_succ_of_ne_zero
abbrev Ni:=@List.forall_mem_cons
abbrev Nj:=@List.ext_getElem?
abbrev Nk:=@List.pairwise_lt_range'
abbrev Nl:=@List.getElem_cons_zero
abbrev Nm:=@List.map_nil
abbrev Nn:=@List.getElem_cons_succ
abbrev Np:=@Array.getD_eq_getD_getElem?
abbrev Nq:=@List.any_eq_true
abbrev Nr:=@List.range'_succ
abbrev Ns:=@List.map_singleton
abbrev Nt:=@List.singleton_append
abbrev Nu:=@List.mem_or_eq_of_mem_set
abbrev Nv:=@Array.size_append
abbrev Nw:=@List.map_set
abbrev Nx:=@Bool.true_and
abbrev Ny:=@List.eq_of_mem_replicate
abbrev Nz:=@List.filter_eq_self
abbrev NA:=@List.take_append
abbrev NC:=@List.zipIdx_cons
abbrev ND:=@List.foldl_nil
abbrev NE:=@List.drop_zero
abbrev NF:=@Nat.mul_le_mul
abbrev NG:=@Nat.mod_eq_of_lt
abbrev NH:=@Nat.one_mul
abbrev NI:=@Option.map_some
abbrev NJ:=@Nat.not_lt_zero
theorem ov.{u,v}{α:Sort u}{β:Sort v}{a:α}{b:β}:a=a/\b=b/\True:=⟨rfl,rfl,trivial⟩
theorem ox.{u,v,w}{α:Sort u}{β:Sort v}{γ:Sort w}{a:α}{b:β}{c:γ}:a=a/\b=b/\c=c/\True:=⟨rfl,rfl,rfl,trivial⟩
theorem oy.{u,v,w,x}{α:Sort u}{β:Sort v}{γ:Sort w}{δ:Sort x}{a:α}{b:β}{c:γ}{d:δ}:a=a/\b=b/\c=c/\d=d/\True:=⟨rfl,rfl,rfl,rfl,trivial⟩
end Go
namespace Go.Lg
open Go.RowKit
abbrev Fr:=Nat->O0
def upd (f:Fr)(d:Nat)(v:O0):Fr:=λt=>bif OP t d then v else f t
def ev (f:Fr):O1->O0
 | .tmp t=>f t
 | .const v=>v
 | .global g=>.pointer (some ⟨g,0,none⟩)
 | .func g=>.func (.func g) #[] #[]
def QN (f:Fr):xD->O0->Fr
 | some d,v=>upd f d v
 | none,_=>f
structure Rel (n:Nat)(a:Act)(f:Fr):Prop where
 size:a.tmps.size=n
 defers:a.defers=[]
 get:∀t,a.tmps.getD t undef=f t
theorem XG (f:Fr)(d:Nat)(v:O0):upd f d v d=v:=by simp[upd]
theorem JL (f:Fr){d:Nat}(v:O0)(h:t≠d):upd f d v t=f t:=by
 have:OP t d=false:=by
  cases e:OP t d with
  | false=>rfl
  | true=>exact OU (Nat.eq_of_beq_eq_true e) h
 simp[upd,this]
theorem Rel.eval {n:Nat}{a:Act}{f:Fr}(h:Rel n a f):a.eval=ev f:=by
 funext x;cases x with
 | tmp t=>exact h.get t
 | _=>rfl
theorem Rel.put {n:Nat}{a:Act}{f:Fr}(h:Rel n a f){dst:xD}(hd:∀d,dst=some d->d<n)(v:O0):Rel n (a.put dst v) (QN f dst v):=by
 cases dst with
 | none=>exact h
 | some d =>
  have E:d<a.tmps.size:=by rw[h.size];exact hd d O
  refine⟨by simp[Act.put,h.size],h.defers,λt=>?_⟩;by_cases e:t=d
  ·subst e;rw[QN,XG];simp[Act.put,E]
  rw[QN,JL _ _ e,<-h.get t];simp[Act.put,Array.getElem?_setIfInBounds_ne (Ne.symm e)]
def Yj (l:xC)(t:Nat):Bool:=l.any λo=>match o.dst with|some d=>OP d t|none=>false
def wrs:Code->Nat->Bool
 | .region _ ops _,t=>Yj ops.toList t
 | .seq a b,t=>wrs a t || wrs b t
 | .cond _ a b,t=>wrs a t || wrs b t
 | .block _ a,t=>wrs a t
 | .loop a,t=>wrs a t
 | .skip,_| .exit _,_| .label _,_| .goto _,_| .ret,_=>false
 | _,_=>true
def JM (D:xt)(t:Nat):Bool:=match D with
 | []=>false
 | (lo,hi)::D=>bif (Nat.ble lo t && Nat.ble t hi) then true else JM D t
def inD (D:xt)(d:xD):Bool:=match d with|none=>true|some d=>JM D d
def Qd8 (D:xt)(l:xC):Bool:=l.all λo=>inD D o.dst
def wr (D:xt):Code->Bool
 | .region _ ops _=>Qd8 D ops.toList
 | .seq a b=>wr D a && wr D b
 | .cond _ a b=>wr D a && wr D b
 | .block _ a=>wr D a
 | .loop a=>wr D a
 | .skip| .exit _| .label _| .goto _| .ret=>true
 | _=>false
theorem yE {D:xt}{l:xC}(h:Qd8 D l=true)(G:JM D t=false):Yj l t=false:=by
 unfold Qd8 at h;unfold Yj;rw[List.any_eq_false];intro o I;have E:=L9.1 h o I;cases hd:o.dst with
 | none=>simp
 | some d =>
  rw[hd]at E;simp only[inD]at E;intro e;have:=Nat.eq_of_beq_eq_true e;subst this;rw[E]at G;cases G
theorem KA {D:xt}{t:Nat}(E:JM D t=false):∀c:Code,wr D c=true->wrs c t=false
 | .region _ ops _,h=>yE h E
 | .seq a b,h=>by simp only[wr,oI]at h;simp[wrs,KA E a h.1,KA E b h.2]
 | .cond _ a b,h=>by simp only[wr,oI]at h;simp[wrs,KA E a h.1,KA E b h.2]
 | .block _ a,h=>KA E a (by simpa[wr]using h)
 | .loop a,h=>KA E a (by simpa[wr]using h)
 | .skip,_=>rfl
 | .exit _,_=>rfl
 | .label _,_=>rfl
 | .goto _,_=>rfl
 | .ret,_=>rfl
 | .rangeFunc ..,h=>by simp[wr]at h
 | .scope _,h=>by simp[wr]at h
 | .refuse _,h=>by simp[wr]at h
def mix (D:xt)(f g:Fr):Fr:=λt=>bif JM D t then g t else f t
theorem KH {D:xt}{f g:Fr}(h:∀t,JM D t=false->g t=f t):mix D f g=g:=by
 funext t;unfold mix;cases e:JM D t with
 | false=>exact(h t e).symm
 | true=>rfl
def Vp (S:List (Nat×O0))(f:Fr):Fr:=match S with
 | []=>f
 | (t,v)::S=>upd (Vp S f) t v
def YW (f:Fr):List (Nat×O0)->Prop
 | []=>True
 | (t,v)::S=>f t=v/\YW f S
theorem Xo {f:Fr}:∀{S:List (Nat×O0)},YW f S->Vp S f=f
 | [],_=>rfl
 | (t,v)::S,h=>by
  funext s;simp only[Vp,Xo h.2];by_cases e:s=t
  ·subst e;rw[XG];exact h.1.symm
  exact JL _ _ e
def W (P:O2)(n:Nat)(c:Code)(Q:Exit->Fr->OZ->Prop)(f:Fr)(w:OZ):Prop :=
 ∀a,Rel n a f->c.wp P (λe E w'=>∃f',Rel n E f'/\(∀t,wrs c t=false->f' t=f t)/\Q e f' w') a w
def thn (K:Fr->OZ->Prop)(Q:Exit->Fr->OZ->Prop):Exit->Fr->OZ->Prop
 | .normal,f,w=>K f w
 | e,f,w=>Q e f w
def blk (id:Nat)(Q:Exit->Fr->OZ->Prop):Exit->Fr->OZ->Prop
 | .exit i,f,w=>bif OP i id then Q .normal f w else Q (.exit i) f w
 | e,f,w=>Q e f w
section
variable {Q:Exit->Fr->OZ->Prop}{f:Fr}
theorem W.S {c:Code}{Q':Exit->Fr->OZ->Prop}(h:W P n c Q f w)(E:∀e f w,Q e f w->Q' e f w):W P n c Q' f w :=
 λa G=>wp_mono (h a G) λ_ _ _ ⟨I,J,S,T⟩=>⟨I,J,S,E _ _ _ T⟩
theorem W.keeps {c:Code}(h:W P n c Q f w):W P n c (λe E w'=>(∀t,wrs c t=false->E t=f t)/\Q e E w') f w :=
 λa I=>wp_mono (h a I) λ_ _ _ ⟨E,J,G,S⟩=>⟨E,J,G,G,S⟩
theorem Qf (h:Q .normal f w):W P n .skip Q f w:=λ_ E=>wp_skip ⟨f,E,λ_ _=>O,h⟩
theorem Qt (h:Q (.exit i) f w):W P n (.exit i) Q f w:=λ_ E=>wp_exit ⟨f,E,λ_ _=>O,h⟩
theorem Qk (h:Q .ret f w):W P n .ret Q f w:=λ_ E=>wp_ret ⟨f,E,λ_ _=>O,h⟩
theorem Qe {x y:Code}(h:W P n x (thn (λf w=>W P n y Q f w) Q) f w):W P n (.seq x y) Q f w:=by
 intro a S;refine wp_seq (wp_mono (h a S) ?_);rintro e T w' ⟨E,G,U,I⟩;have k1:∀t,wrs (.seq x y) t=false->E t=f t:=λt J=>U t (by simp only[wrs,oY]at J;exact J.1);cases e with
 | normal =>
  refine wp_mono (I T G) λ_ _ _ ⟨V,g1,Y,g3⟩=>⟨V,g1,λt J=>(Y t ?_).D (k1 t J),g3⟩;simp only[wrs,oY]at J;exact J.2
 | exit id=>exact⟨E,G,k1,I⟩
 | goto l=>exact⟨E,G,k1,I⟩
 | ret=>exact⟨E,G,k1,I⟩
 | panic ch=>exact⟨E,G,k1,I⟩
 | outgrown=>exact⟨E,G,k1,I⟩
theorem QW {x y:Code}(D:xt)(S:α->List (Nat×O0))(I:α->OZ->Prop)(hD:wr D x=true)
  (T:W P n x (thn (λG w'=>∃z,YW G (S z)/\I z w') Q) f w)
  (U:∀z g w',I z w'->W P n y Q (Vp (S z) (mix D f g)) w'):W P n (.seq x y) Q f w:=by
 refine Qe (T.keeps.S ?_);rintro e G w' ⟨V,E⟩;cases e with
 | normal =>
  obtain⟨z,Y,hi⟩:=E;have J:=U z G w' hi;rw[KH (λt ht=>V t (KA ht x hD)),Xo Y]at J;exact J
 | exit id=>exact E
 | goto l=>exact E
 | ret=>exact E
 | panic ch=>exact E
 | outgrown=>exact E
theorem Q0 {c:O1}{x y:Code}{t:Bool}(I:ev f c=.bool t)(E:t=true->W P n x Q f w)(J:t=false->W P n y Q f w):
  W P n (.cond c x y) Q f w:=by
 intro a G;have S:a.eval c=.bool t:=by rw[G.eval];exact I
 refine wp_cond_split S (λe=>wp_mono (E e a G) ?_) (λe=>wp_mono (J e a G) ?_) <;>
  (rintro e a' w' ⟨T,U,V,Y⟩
   refine⟨T,U,λt E=>V t ?_,Y⟩;simp only[wrs,oY]at E
   first|exact E.1|exact E.2)
theorem Zh {c:O1}{x y:Code}{p:Prop}[Decidable p](E:ev f c=.bool (decide p))(G:p->W P n x Q f w)(I:¬p->W P n y Q f w):
  W P n (.cond c x y) Q f w :=
 Q0 E (λe=>G (OW e)) (λe=>I (OY e))
theorem Zn {c:O1}{x y:Code}{p:Prop}[Decidable p](E:ev f c=.bool (decide p))(G:¬p->W P n y Q f w)(I:p->W P n x Q f w):
  W P n (.cond c x y) Q f w:=Zh E I G
theorem yd {c:O1}{x y:Code}(E:ev f c=.bool true)(h:W P n x Q f w):W P n (.cond c x y) Q f w:=Q0 E (λ_=>h) (λe=>by cases e)
theorem Zz {c:O1}{x y:Code}(E:ev f c=.bool false)(h:W P n y Q f w):W P n (.cond c x y) Q f w:=Q0 E (λe=>by cases e) (λ_=>h)
theorem Qn {c:Code}(h:W P n c (blk id Q) f w):W P n (.block id c) Q f w:=by
 intro a J;refine wp_block (wp_mono (h a J) ?_);rintro e U w' ⟨G,I,S,E⟩;have k1:∀t,wrs (.block id c) t=false->G t=f t:=λt T=>S t (by simpa[wrs]using T);cases e with
 | exit i =>
  simp only[Exit.inBlock];simp only[blk]at E;by_cases hi:i=id
  ·subst hi;simp only[Nat.beq_refl,cond_true]at E;simp only[if_true];exact⟨G,I,k1,E⟩
  have hb:OP i id=false:=by
   cases e:OP i id with
   | false=>rfl
   | true=>exact OU (Nat.eq_of_beq_eq_true e) hi
  rw[hb]at E;rw[OR hi];exact⟨G,I,k1,E⟩
 | normal=>exact⟨G,I,k1,E⟩
 | goto l=>exact⟨G,I,k1,E⟩
 | ret=>exact⟨G,I,k1,E⟩
 | panic ch=>exact⟨G,I,k1,E⟩
 | outgrown=>exact⟨G,I,k1,E⟩
theorem QoI {c:Code}(D:xt)(S:α->List (Nat×O0))(I:α->OZ->Prop)(m:α->Nat)(hD:wr D c=true)(z:α)
  (h0:YW f (S z)) (hI:I z w)
  (round:∀x g w',I x w'->W P n c (thn (λG Y=>∃U,m U<m x/\YW G (S U)/\I U Y) Q) (Vp (S x) (mix D f g)) w'):W P n (.loop c) Q f w:=by
 intro a ha;refine wp_loop_ghost (λ(x:α) V w'=>∃G,Rel n V G/\(∀t,wrs c t=false->G t=f t)/\YW G (S x)/\I x w') m z ⟨f,ha,λ_ _=>O,h0,hI⟩ ?_;rintro x V w' ⟨G,h1,h2,h3,h4⟩;have h5:=round x G w' h4;rw[KH (λt J=>h2 t (KA J c hD)),Xo h3]at h5;refine wp_mono (h5 V h1) ?_;rintro e hc Y ⟨E,g1,g2,T⟩;have k1:∀t,wrs c t=false->E t=f t:=λt J=>(g2 t J).D (h2 t J);have k2:∀t,wrs (.loop c) t=false->E t=f t:=λt J=>k1 t (by simpa[wrs]using J);cases e with
 | normal=>obtain⟨U,hm,hs,hi⟩:=T;exact⟨U,hm,E,g1,k1,hs,hi⟩
 | exit id=>exact⟨E,g1,k2,T⟩
 | goto l=>exact⟨E,g1,k2,T⟩
 | ret=>exact⟨E,g1,k2,T⟩
 | panic ch=>exact⟨E,g1,k2,T⟩
 | outgrown=>exact⟨E,g1,k2,T⟩
 where
 wp_loop_ghost {α:Type} {P:O2} {c:Code} {Q:Exit->Act->OZ->Prop} {a:Act} {w:OZ} (J:α->Act->OZ->Prop) (m:α->Nat) (z:α) (h₀:J z a w)
   (round:∀x a w,J x a w->c.wp P (Exit.then (λa' w'=>∃x',m x'<m x/\J x' a' w') Q) a w):(Code.loop c).wp P Q a w:=by
  intro b k cs
  have key:∀i x a w,m x=i->J x a w ->
    ∃e a' w',Q e a' w'/\Arrives P (lone (b.at a (.code c::.inLoop c::k)) cs w) b k cs e a' w':=by
   intro i
   induction i using Nat.strongRecOn with
   | _ i ih =>
    intro x a w hx hJ
    obtain⟨e,a₁,w₁,hq,harr⟩:=round x a w hJ b (.inLoop c::k) cs
    cases e with
    | normal =>
     obtain⟨x',hlt,hJ'⟩:=hq
     obtain⟨e₂,a₂,w₂,hq₂,harr₂⟩:=ih (m x') (hx ▸ hlt) x' a₁ w₁ rfl hJ'
     exact⟨e₂,a₂,w₂,hq₂,.of_steps (Steps.trans harr (.one step_inLoop)) harr₂⟩
    | exit id=>exact⟨_,a₁,w₁,hq,.pass (x:=.inLoop c) rfl (λ_ _=>.inl od) harr⟩
    | goto l=>exact⟨_,a₁,w₁,hq,.pass (x:=.inLoop c) rfl (λ_ _=>.inl od) harr⟩
    | ret=>exact⟨_,a₁,w₁,hq,.pass (x:=.inLoop c) rfl (λ_ _=>.inl od) harr⟩
    | panic ch=>exact⟨_,a₁,w₁,hq,.pass (x:=.inLoop c) rfl (λ_ _=>.inl od) harr⟩
    | outgrown=>exact⟨_,a₁,w₁,hq,.pass (x:=.inLoop c) rfl (λ_ _=>.inl od) harr⟩
  obtain⟨e,a',w',hq,harr⟩:=key _ z a w rfl h₀
  exact⟨e,a',w',hq,.of_steps (.one step_loop) harr⟩
end
def upF (P:O2)(dst:xD)(f:Fr)(K:Fr->OZ->Prop):Result Next->Prop
 | .ok (.value v) w'=>K (QN f dst v) w'
 | .ok .skip w'=>K (QN f dst undef) w'
 | .ok (.enter g args) w'=>Calls P g args w' λe E=>match e with| .returned v=>K (QN f dst v) E|_=>False
 | _=>False
def XO (P:O2)(o:Oper)(f:Fr)(w:OZ)(K:Fr->OZ->Prop):Prop:=upF P o.dst f K ((execOp (ev f) o).run P w)
def Z1 (ops:xC)(f:Fr)(o:Oper):Bool:=match o.guard with
 | none=>true
 | some (j,want)=>match (ops[j]?).bind (·.dst) with
  | some d=>(match f d with| .bool b=>bif want then b else !b|_=>false)
  | none=>false
def XL (P:O2)(ops:xC)(K:Fr->OZ->Prop):xC->Fr->OZ->Prop
 | [],f,w=>K f w
 | o::l,f,w=>bif Z1 ops f o then XO P o f w (XL P ops K l) else XL P ops K l (QN f o.dst undef) w
theorem Ur {l:xC}{a:Act}{f:Fr}(h:Rel n a f)(I:∀o∈l,∀d,o.dst=some d->d<n)(o:Oper):Region.wanted o (yielded l.toArray a.tmps)=Z1 l f o:=by
 unfold Region.wanted Z1;cases o.guard with
 | none=>rfl
 | some p =>
  obtain⟨j,want⟩:=p;simp only[yielded,oR];cases J:(l[j]?) with
  | none=>simp
  | some o' =>
   cases hd:o'.dst with
   | none=>simp[hd]
   | some d =>
    have E:d<a.tmps.size:=by rw[h.size];exact I o' (Mj J) d hd
    have G:=h.get d;simp only[Option.bind_some,hd,Array.getElem?_eq_getElem E];simp[E]at G;rw[G];cases f d <;> simp
    cases want <;> simp
theorem QmR {o:Oper}{a:Act}{f:Fr}{K:Fr->OZ->Prop}{K':Act->OZ->Prop}{Q:Exit->Act->OZ->Prop}(h:Rel n a f)
  (hK:∀v w',K (QN f o.dst v) w'->K' (a.put o.dst v) w') (hx:XO P o f w K):o.wp P a w K' Q:=by
 unfold XO at hx;unfold Oper.wp;rw[h.eval];generalize (execOp (ev f) o).run P w=r at hx;cases r with
 | ok nx w' =>
  cases nx <;> simp only[upF]at hx <;> simp only[Oper.upon]
  case value v=>exact hK v w' hx
  case skip=>exact hK _ w' hx
  case enter g args =>
   refine Calls.mono hx λe G E=>?_;cases e with
   | returned v=>exact hK v G E
   | panicked c=>exact E.elim
   | outgrown=>exact E.elim
 | halt x w'=>exact hx.elim
theorem XO.S {P:O2}{o:Oper}{f:Fr}{w:OZ}{K K':Fr->OZ->Prop}(hK:∀v w',K (QN f o.dst v) w'->K' (QN f o.dst v) w')(hx:XO P o f w K):XO P o f w K':=by
 unfold XO at *;generalize (execOp (ev f) o).run P w=r at *;cases r with
 | ok nx w' =>
  cases nx <;> simp only[upF]at hx ⊢
  case value v=>exact hK v w' hx
  case skip=>exact hK _ w' hx
  case enter g args =>
   refine Calls.mono hx λe G E=>?_;cases e with
   | returned v=>exact hK v G E
   | panicked c=>exact E.elim
   | outgrown=>exact E.elim
 | halt x w'=>exact hx.elim
def Xi (n:Nat)(l:xC):Bool:=l.all λo=>match o.dst with|some d=>Nat.blt d n|none=>true
theorem Xt {l:xC}(h:Xi n l=true):∀o∈l,∀d,o.dst=some d->d<n:=by
 intro o E d hd;have:=L9.1 h o E;simp only[hd,Nat.blt_eq]at this;exact this
theorem Jd {l:xC}{o:Oper}(E:o∈l)(h:Yj l t=false):o.dst≠some t:=by
 intro e;have:=List.any_eq_false.1 h o E;simp[e]at this
theorem YX {f:Fr}{dst:xD}(h:dst≠some t)(v:O0):QN f dst v t=f t:=by
 cases dst with
 | none=>rfl
 | some d=>exact JL _ _ (λe=>h (by rw[e]))
section
variable {Q:Exit->Fr->OZ->Prop}{f:Fr}
theorem QmS {all:xC}(G:∀o∈all,∀d,o.dst=some d->d<n)(f0:Fr):
  ∀(l:xC) (k:Nat) (a:Act) (f:Fr) (w:OZ),(∀j,l[j]?=all[k+j]?)->Rel n a f->(∀t,Yj all t=false->f t=f0 t) ->
   XL P all (λf w=>Q .normal f w) l f w ->
   wpOps P all.toArray (λe V w'=>∃f',Rel n V f'/\(∀t,Yj all t=false->f' t=f0 t)/\Q e f' w') (oN k l.length) a w
 | [],_,a,f,w,_,E,I,h=>⟨f,E,I,h⟩
 | o::l,k,a,f,w,hl,E,I,h=>by
  have S:all[k]?=some o:=by simpa using(hl 0).symm
  have J:o∈all:=Mj S;have ih:=λa f w=>QmS G f0 l (k+1) a f w (λj=>by have:=hl (j+1);simpa[Nat.add_assoc,Nat.add_comm 1 j]using this);have next:∀v,(∀t,Yj all t=false->QN f o.dst v t=f0 t):=λv t T=>(YX (Jd J T) v).D (I t T);simp only[oQ,Oy,wpOps,oR,S];rw[Ur E G o];simp only[XL]at h;cases U:Z1 all f o with
  | false =>
   rw[U]at h;exact ih _ _ _ (E.put (G o J) _) (next _) h
  | true =>
   rw[U]at h;exact .inl (QmR E (λv w' hx=>ih _ _ _ (E.put (G o J) v) (next v) hx) h)
theorem Qcw {l:xC}(E:Xi n l=true)(h:XL P l (λf w=>Q .normal f w) l f w):W P n (.region id l.toArray false) Q f w:=by
 intro a G;refine wp_region ?_;have:=QmS (Xt E) f l 0 a f w od G (λ_ _=>rfl) h;simpa[List.range_eq_range',wrs]using this
end
def yv (o:Oper):Bool:=match o.op with
 | .move _| .assign _| .pick .. | .alloc _| .box .. | .build .. | .buildSlice .. | .store .. | .nilCheck _| .binOp .. | .unOp .. | .makeFunc .. | .makeMap .. | .makeSlice .. | .fieldAddr .. | .field .. | .indexAddr .. | .index .. | .extract .. | .insert .. | .mapUpdate ..=>false
 | .slice ..=>false
 | .call ⟨.builtin .append,_,_⟩=>false
 | .call ⟨.builtin .min,_,_⟩=>false
 | .call ⟨.builtin .max,_,_⟩=>false
 | .call ⟨.builtin .len,_,_⟩=>false
 | .call ⟨.value _,_,_⟩=>false
 | _=>true
def KK (all:xC)(j:Nat):Bool:=match all[j]? with
 | none=>false
 | some o=>(oJ all.length).all λi=>match all[i]? with
  | none=>true
  | some oi=>!yv oi || i == j || o.after.any λe=>Region.binds .any e && e.on == i
def XA (P:O2)(all:xC)(C:xx)(K:Fr->OZ->Prop):Nat->Array Bool->Fr->OZ->Prop
 | 0,ls,f,w=>Region.ready .any all.toArray ls=[]/\K f w
 | k+1,ls,f,w=>(Region.ready .any all.toArray ls=[]->K f w) /\
  ∀i∈Region.ready .any all.toArray ls,∀o,all[i]?=some o ->
   bif Z1 all f o then XO P o f w (λE w'=>(KK all i=true\/w'=w\/C w')/\XA P all C K k (ls.setIfInBounds i true) E w') else XA P all C K k (ls.setIfInBounds i true) (QN f o.dst undef) w
section
variable {f:Fr}{all:xC}{C:xx}{K:Fr->OZ->Prop}
theorem Qfe {Q:Exit->Act->OZ->Prop}(G:∀o∈all,∀d,o.dst=some d->d<n)(f0:Fr)
  (I:∀a f w,Rel n a f->(∀t,Yj all t=false->f t=f0 t)->K f w->Q .normal a w):
  ∀(k:Nat) (ls:Array Bool) (a:Act) (f:Fr) (w:OZ),Rel n a f->(∀t,Yj all t=false->f t=f0 t)->XA P all C K k ls f w->wpAny P .any all.toArray Q k ls a w
 | 0,_,a,f,w,E,J,h=>⟨h.1,I a f w E J h.2⟩
 | k+1,ls,a,f,w,E,J,h=>by
  refine⟨λh0=>I a f w E J (h.1 h0),λi hi=>?_⟩;unfold wpOp;simp only[oR];cases T:all[i]? with
  | none =>
   exfalso;obtain⟨_,o,ha,_⟩:=mem_ready.1 hi;simp[T]at ha
  | some o =>
   have U:o∈all:=Mj T;have S:=h.2 i hi o T;have next:∀v,(∀t,Yj all t=false->QN f o.dst v t=f0 t):=λv t V=>(YX (Jd U V) v).D (J t V);simp only[];rw[Ur E G o];cases Y:Z1 all f o with
   | false =>
    rw[Y]at S;exact Qfe G f0 I k _ _ _ _ (E.put (G o U) _) (next _) S
   | true =>
    rw[Y]at S;exact .inl (QmR E (λv w' hx=>Qfe G f0 I k _ _ _ _ (E.put (G o U) v) (next v) hx.2) S)
theorem UE (f:Fr){x y:xD}(v u:O0)(h:∀d,x=some d->y≠some d):QN (QN f x v) y u=QN (QN f y u) x v:=by
 cases x with
 | none=>rfl
 | some d =>
  cases y with
  | none=>rfl
  | some e =>
   have I:d≠e:=λJ=>h d O (J ▸ O);funext t;simp only[QN];by_cases E:t=d
   ·subst E;rw[JL _ _ I,XG,XG]
   by_cases G:t=e
   ·subst G;rw[XG,JL _ _ E,XG]
   rw[JL _ _ G,JL _ _ E,JL _ _ E,JL _ _ G]
theorem QlX {f:Fr}{dst:xD}{v:O0}{x:O1}(h:∀d,dst=some d->x≠.tmp d):ev (QN f dst v) x=ev f x:=by
 cases dst with
 | none=>rfl
 | some d =>
  cases x with
  | tmp t=>exact JL _ _ (λe=>h d O (by rw[e]))
  | _=>rfl
theorem JC {o:Oper}(E:∀cs b,o.op≠.select cs b)(f:Fr)(dst:xD)(v:O0)(h:∀d,dst=some d->d∉o.looksAt all.toArray):
  execOp (ev (QN f dst v)) o=execOp (ev f) o :=
 execOp_congr o E λx hx=>QlX λd hd G=>h d hd (by
  subst G;exact LM _ (MO.2 ⟨.tmp d,ou hx,rfl⟩))
theorem Ua (o:Oper)(f:Fr)(dst:xD)(v:O0)(h:∀d,dst=some d->d∉o.looksAt all.toArray):Z1 all (QN f dst v) o=Z1 all f o:=by
 unfold Z1;cases E:o.guard with
 | none=>rfl
 | some gw =>
  obtain⟨g,want⟩:=gw;simp only[];cases G:(all[g]?).bind (·.dst) with
  | none=>rfl
  | some t =>
   have I:dst≠some t:=λe=>h t e (by simp[Oper.looksAt,E,G]);simp only[];rw[YX I]
def Qfg (P:O2)(all:xC)(D:xx)(o:Oper)(v:O0)(f:Fr):Prop :=
 (Z1 all f o=true/\∀w,D w->(execOp (ev f) o).run P w=.ok (.value v) w)\/(Z1 all f o=false/\v=undef)
theorem Qlr {oi oj:Oper}(hi:all[i]?=some oi)(G:all[j]?=some oj)(I:yv oi=true)(J:j≠i)(hl:KK all j=true)(S:∀e∈oj.after,Region.binds .any e=true->e.on≠i):False:=by
 simp only[KK,G,Oh,List.mem_range]at hl;have T:i<all.length:=(Mf.1 hi).1;have E:=hl i T;simp only[hi,I,Bool.not_true,Bool.false_or,Bool.or_eq_true,beq_iff_eq,Array.any_eq_true',oI]at E;rcases E with E|⟨e,U,hb,V⟩
 ·exact J E.symm
 exact S e U hb V
theorem J5 {oi:Oper}{v:O0}{D:xx}(hi:all[i]?=some oi)(hD:∀w,(yv oi=true->C w)->D w)(ha:∀(j:Nat) (o:Oper) cs b,all[j]?=some o->o.op≠.select cs b):
  ∀(fuel:Nat) (ls:Array Bool) (f:Fr) (w:OZ),(yv oi=true->C w) ->
   (∀j oj,all[j]?=some oj->j≠i->ls.getD j true=false->(∀e∈oj.after,Region.binds .any e=true->e.on≠i)->oi.apart all.toArray oj=true) ->
   i∈Region.ready .any all.toArray ls->Qfg P all D oi v f ->
   XA P all C K fuel (ls.setIfInBounds i true) (QN f oi.dst v) w->XA P all C K (fuel+1) ls f w:=by
 have hc:∀(fuel:Nat) (ls:Array Bool) (f:Fr) (w:OZ),(yv oi=true->C w)->Qfg P all D oi v f->XA P all C K fuel (ls.setIfInBounds i true) (QN f oi.dst v) w->∀o,all[i]?=some o ->
   bif Z1 all f o then XO P o f w (λf' w'=>(KK all i=true\/w'=w\/C w')/\XA P all C K fuel (ls.setIfInBounds i true) f' w') else XA P all C K fuel (ls.setIfInBounds i true) (QN f o.dst undef) w:=by
  intro fuel ls f w hC T H o ho;rw[hi]at ho;cases ho
  rcases T with⟨U,hv⟩|⟨U,rfl⟩
  ·rw[U];simp only[cond_true,XO,hv w (hD w hC),upF];exact⟨.inr (.inl Z),H⟩
  rw[U];exact H
 intro fuel;induction fuel with
 | zero =>
  intro ls f w hC _ J T H;refine⟨λh=>(by rw[h]at J;cases J),λj Y=>?_⟩;by_cases I:j=i
  ·subst I;exact hc _ _ _ _ hC T H
  have:=ready_mono Y I;rw[H.1]at this;cases this
 | succ fuel ih =>
  intro ls f w hC hf J T H;refine⟨λh=>(by rw[h]at J;cases J),λj Y=>?_⟩;by_cases I:j=i
  ·subst I;exact hc _ _ _ _ hC T H
  intro oj V;have E:=H.2 j (ready_mono Y I) oj V;obtain⟨hh,G,hm,ht⟩:=mem_ready.1 Y;have hu:G=oj:=by rw[Mb,V]at hm;exact(Option.some.inj hm).symm
  subst hu;have hn:∀e∈G.after,Region.binds .any e=true->e.on≠i:=λe S hb hw=>by
   have E:=ht e S hb;have h0:=(mem_ready.1 J).1;rw[hw]at E;rcases OK i ls.size with h'|h'
   ·simp[h']at h0 E;rw[h0]at E;cases E
   simp[Array.getElem?_eq_none h']at E
  obtain⟨a1,a2,a3⟩:=Oper.apart_spec (hf j G V I hh hn);have hz:∀k ok,all[k]?=some ok->k≠i->(ls.setIfInBounds j true).getD k true=false ->
    (∀e∈ok.after,Region.binds .any e=true->e.on≠i)->oi.apart all.toArray ok=true:=λk ok hk h2 hp h3=>by
   refine hf k ok hk h2 ?_ h3;by_cases hq:j=k
   ·subst hq;exact hh
   rw[getD_set_ne true hq]at hp;exact hp
  have keep:∀u,Qfg P all D oi v (QN f G.dst u):=λu=>by
   unfold Qfg at *;rw[Ua oi f G.dst u a3,JC (all:=all) (ha i oi · · hi) f G.dst u a3];exact T
  have dOf:∀w',(KK all j=true\/w'=w\/C w')->(yv oi=true->C w'):=λw' hl hs=>by
   rcases hl with hl|rfl|hl
   ·exact(Qlr hi V hs I hl hn).elim
   ·exact hC hs
   exact hl
  have go:∀u w',(yv oi=true->C w')->XA P all C K fuel ((ls.setIfInBounds i true).setIfInBounds j true) (QN (QN f oi.dst v) G.dst u) w' ->
    XA P all C K (fuel+1) (ls.setIfInBounds j true) (QN f G.dst u) w':=λu w' h4 hx=>by
   refine ih _ _ _ h4 hz (ready_mono J (Ne.symm I)) (keep u) ?_;rw[Array.setIfInBounds_comm _ _ I,<-UE f v u a2];exact hx
  rw[Ua G f oi.dst v a1]at E;cases U:Z1 all f G with
  | false=>rw[U]at E;exact go _ _ hC E
  | true =>
   rw[U]at E;simp only[cond_true]at E ⊢;unfold XO at *;rw[JC (all:=all) (ha j G · · V) f oi.dst v a1]at E;generalize (execOp (ev f) G).run P w=r at *;cases r with
   | ok nx w' =>
    cases nx <;> simp only[upF]at E ⊢
    case value u=>exact⟨E.1,go _ _ (dOf _ E.1) E.2⟩
    case skip=>exact⟨E.1,go _ _ (dOf _ E.1) E.2⟩
    case enter g args =>
     refine Calls.mono E λe h5 S=>?_;cases e with
     | returned u=>exact⟨S.1,go _ _ (dOf _ S.1) S.2⟩
     | panicked c=>exact S.elim
     | outgrown=>exact S.elim
   | halt x w'=>exact E.elim
def Y8 (all:Array Oper):xq->Array Bool->Bool
 | [],ls=>(Region.ready .any all ls).isEmpty
 | (i,true)::pl,ls=>(Region.ready .any all ls).contains i && Region.free .any all ls i && Y8 all pl (ls.setIfInBounds i true)
 | (i,false)::pl,ls=>Region.ready .any all ls == [i] && Y8 all pl (ls.setIfInBounds i true)
def zf (all:xC)(pl:xq):Bool:=Region.noSelect all.toArray && pl.length == all.length && Y8 all.toArray pl (oP all.length false)
def QR:xC->Nat->Oper
 | [],_=>default
 | o::_,0=>o
 | _::l,i+1=>QR l i
theorem ZF {l:xC}{o:Oper}(h:l[i]?=some o):QR l i=o:=by
 induction l generalizing i with
 | nil=>simp at h
 | cons a l ih=>cases i with
  | zero=>simp at h;subst h;rfl
  | succ i=>exact ih (ou h)
def XP (P:O2)(all:xC)(C:xx)(K:Fr->OZ->Prop):xq->Fr->OZ->Prop
 | [],f,w=>K f w
 | (i,q)::pl,f,w=>bif Z1 all f (QR all i) then
    (bif q then ∃v,(∀w',(yv (QR all i)=true->C w')->(execOp (ev f) (QR all i)).run P w'=.ok (.value v) w')/\XP P all C K pl (QN f (QR all i).dst v) w
     else XO P (QR all i) f w λE w'=>(KK all i=true\/w'=w\/C w')/\XP P all C K pl E w')
   else XP P all C K pl (QN f (QR all i).dst undef) w
def Qct (all:xC)(ls:Array Bool):Prop:=∀i o,all[i]?=some o->yv o=true->ls.getD i false=true
theorem Qct.set {ls:Array Bool}(h:Qct all ls)(i:Nat):Qct all (ls.setIfInBounds i true):=λj o E G=>getD_set_true (h j o E G)
theorem Ym (U:Region.noSelect all.toArray=true):∀(pl:xq) (ls:Array Bool) (f:Fr) (w:OZ),ls.size=all.length->(C w\/Qct all ls)->Y8 all.toArray pl ls=true->XP P all C K pl f w ->
  XA P all C K pl.length ls f w
 | [],ls,f,w,_,_,I,h=>⟨by simpa[Y8]using I,h⟩
 | (i,true)::pl,ls,f,w,V,hC,I,h=>by
  simp only[Y8,oI]at I;obtain⟨⟨S,hf⟩,Y⟩:=I;simp only[XP]at h;have T:i∈Region.ready .any all.toArray ls:=by simpa using S
  cases E:all[i]? with
  | none =>
   exfalso;obtain⟨_,o,h3,_⟩:=mem_ready.1 T;simp[E]at h3
  | some o =>
   rw[ZF E]at h;have hq:∀(j:Nat) (o:Oper) cs b,all[j]?=some o->o.op≠.select cs b:=λj o cs b hj=>Region.noSelect_spec U j o cs b (ou hj);have ht:=λj oj hj=>Region.free_spec (ops:=all.toArray) (md:=.any) (i:=i) (oi:=o) (listed:=ls) (ou E) hf j oj (ou hj);have hu:=(mem_ready.1 T).1;have hw:yv o=true->C w:=λhh=>hC.resolve_right (λhm=>by
    have G:=hm i o E hh;have hn:i<ls.size:=by rw[V];exact(Mf.1 E).1
    simp[hn]at hu G;rw[hu]at G;cases G)
   have hy:C w\/Qct all (ls.setIfInBounds i true):=hC.imp id (λh=>h.set i);have ha:(ls.setIfInBounds i true).size=all.length:=by simpa using V
   cases J:Z1 all f o with
   | false =>
    rw[J]at h;exact J5 (v:=undef) (D:=λw=>yv o=true->C w) E (λ_ h=>h) hq pl.length ls f w hw ht T (.inr ⟨J,O⟩) (Ym U pl _ _ _ ha hy Y h)
   | true =>
    rw[J]at h;simp only[cond_true]at h;obtain⟨v,hv,hx⟩:=h;exact J5 (v:=v) (D:=λw=>yv o=true->C w) E (λ_ h=>h) hq pl.length ls f w hw ht T (.inl ⟨J,hv⟩) (Ym U pl _ _ _ ha hy Y hx)
 | (i,false)::pl,ls,f,w,V,hC,I,h=>by
  simp only[Y8,oI,beq_iff_eq]at I;obtain⟨S,Y⟩:=I;refine⟨λh0=>(by rw[h0]at S;cases S),?_⟩;have T:i∈Region.ready .any all.toArray ls:=by rw[S];simp
  rw[S];intro j hj o E;have:j=i:=by simpa using hj
  subst this;have ha:(ls.setIfInBounds j true).size=all.length:=by simpa using V
  simp only[XP,ZF E]at h;cases J:Z1 all f o with
  | false=>rw[J]at h;exact Ym U pl _ _ _ ha (hC.imp id (λh=>h.set j)) Y h
  | true =>
   rw[J]at h;simp only[cond_true,cond_false]at h ⊢;refine h.S λv w' hx=>⟨hx.1,Ym U pl _ _ _ ha ?_ Y hx.2⟩;rcases hx.1 with hl|rfl|hc
   ·right;intro k ok hk hh;by_cases hz:k=j
    ·subst hz;have hn:k<ls.size:=by rw[V];exact(Mf.1 hk).1
     simp[hn]
    simp only[KK,E,Oh,List.mem_range]at hl;have G:=hl k (Mf.1 hk).1;simp only[hk,hh,Bool.not_true,Bool.false_or,Bool.or_eq_true,beq_iff_eq,Array.any_eq_true',oI]at G;rcases G with G|⟨e,he,hb,h4⟩
    ·exact OU G hz
    obtain⟨_,o',h2,hm⟩:=mem_ready.1 T;have:o'=o:=by rw[Mb,E]at h2;exact(Option.some.inj h2).symm
    subst this;have:=hm e he hb;rw[h4]at this;exact getD_set_true this
   ·exact hC.imp id (λh=>h.set j)
   exact .inl hc
theorem VD {Q:Exit->Fr->OZ->Prop}(C:xx)(pl:xq)(J:P.follows .mixedOrders=true)(S:Xi n all=true)(G:zf all pl=true)
  (hC:C { w with drawn:=w.drawn+1 }) (h:XP P all C (λf w=>Q .normal f w) pl f { w with drawn:=w.drawn+1 }):W P n (.region id all.toArray true) Q f w:=by
 intro a T;simp only[zf,oI,beq_iff_eq]at G;obtain⟨⟨U,hl⟩,G⟩:=G;refine wp_region_any J ?_;have I:=Ym U pl _ _ _ od (.inl hC) G h;rw[hl]at I;have V:=Qfe (n:=n) (Q:=λe Y w'=>∃E,Rel n Y E/\(∀t,Yj all t=false->E t=f t)/\Q e E w') (Xt S) f
  (λa E w hr hk hq=>⟨E,hr,hk,hq⟩) _ _ a f _ T (λ_ _=>O) I
 simpa[wrs]using V
theorem Jn {Q:Exit->Fr->OZ->Prop}(C:xx)(G:P.follows .mixedOrders=true)(I:Xi n all=true)
  (h:XA P all C (λf w=>Q .normal f w) all.length (oP all.length false) f { w with drawn:=w.drawn+1 }):W P n (.region id all.toArray true) Q f w:=by
 intro a J;refine wp_region_any G ?_;have S:=Qfe (n:=n) (Q:=λe T w'=>∃E,Rel n T E/\(∀t,Yj all t=false->E t=f t)/\Q e E w') (Xt I) f
  (λa E w U V Y=>⟨E,U,V,Y⟩) _ _ a f _ J (λ_ _=>O) h
 simpa[wrs]using S
end
theorem JH {all:xC}{C:xx}{K:Fr->OZ->Prop}{k:Nat}{ls:Array Bool}{f:Fr}(E:Region.ready .any all.toArray ls=[]->K f w)
  (h:∀i∈Region.ready .any all.toArray ls,∀o,all[i]?=some o ->
   bif Z1 all f o then XO P o f w (λG w'=>(KK all i=true\/w'=w\/C w')/\XA P all C K k (ls.setIfInBounds i true) G w') else XA P all C K k (ls.setIfInBounds i true) (QN f o.dst undef) w):XA P all C K (k+1) ls f w:=⟨E,h⟩
attribute [irreducible] W XL XP XO XA
theorem sX {α:Type}{x:Option α}{f:α->Bool}(h:x.map f=some true):∃d,x=some d/\f d=true:=by cases x with |none=>cases h |some d=>exact⟨d,rfl,Option.some.inj h⟩
class Sl (P:O2)(t:Nat)(e sz bys:outParam Nat)(z:outParam O0):Prop where
 u:P.underlying t=some (.slice e):=by first|kernel_rfl|decide|rfl|exact sX (by kernel_rfl)
 i:(P.info? e).map (λi=>(i.zero,i.size,i.bytes))=some (some z,sz,bys):=by first|kernel_rfl|decide|rfl|exact sX (by kernel_rfl)
 zs:z.cells.size=sz:=by first|kernel_rfl|decide|rfl|exact sX (by kernel_rfl)
 pos:0<sz:=by first|kernel_rfl|decide|rfl|exact sX (by kernel_rfl)
def QpN (P:O2)(t j:Nat):xD:=match P.underlying t with
 | some (.struct fs)=>match fs[j]? with
  | some fd=>match P.info? fd.type with
   | some i=>if i.size=0 then none else some fd.offset
   | none=>none
  | none=>none
 | _=>none
class Za (P:O2)(t j:Nat)(off:outParam Nat):Prop where
 h:QpN P t j=some off:=by first|kernel_rfl|decide|rfl|exact sX (by kernel_rfl)
class Xx (P:O2)(t:Nat):Prop where
 u:∃d,P.underlying t=some d/\(match d with| .struct _| .array ..=>false|_=>true)=true:=by first|kernel_rfl|decide|rfl|exact sX (by kernel_rfl)
 i:(P.info? t).map (·.size)=some 1:=by first|kernel_rfl|decide|rfl|exact sX (by kernel_rfl)
class Ag (P:O2)(t:Nat)(sz:outParam Nat):Prop where
 u:∃d,P.underlying t=some d/\(match d with| .struct _| .array ..=>true|_=>false)=true:=by first|kernel_rfl|decide|rfl|exact sX (by kernel_rfl)
 i:(P.info? t).map (·.size)=some sz:=by first|kernel_rfl|decide|rfl|exact sX (by kernel_rfl)
class Ze (P:O2)(t:Nat)(z:outParam O0):Prop where
 i:(P.info? t).map (·.zero)=some (some z):=by first|kernel_rfl|decide|rfl|exact sX (by kernel_rfl)
class Fu (P:O2)(g:Nat)(fn:outParam Func):Prop where
 f:P.funcs[g]?=some fn
 b:fn.body.isNone=false
 nm:(fn.name == "runtime.NumGoroutine")=false
section
variable {K:Fr->OZ->Prop}{f:Fr}
theorem xe (h:K f w):XL P ops K [] f w:=by simp only[XL];exact h
theorem xl {o:Oper}{l:xC}(E:Z1 ops f o=true)(h:XO P o f w (XL P ops K l)):XL P ops K (o::l) f w:=by
 simp only[XL,E,cond_true];exact h
theorem xs {o:Oper}{l:xC}(E:Z1 ops f o=false)(h:XL P ops K l (QN f o.dst undef) w):XL P ops K (o::l) f w:=by
 simp only[XL,E,cond_false];exact h
theorem xv {o:Oper}{v:O0}(E:(execOp (ev f) o).run P w=.ok (.value v) w')(h:K (QN f o.dst v) w'):XO P o f w K:=by
 simp only[XO,E,upF];exact h
theorem xk {o:Oper}(E:(execOp (ev f) o).run P w=.ok .skip w')(h:K (QN f o.dst undef) w'):XO P o f w K:=by
 simp only[XO,E,upF];exact h
theorem x {o:Oper}{l:xC}{v:O0}(E:(execOp (ev f) o).run P w=.ok (.value v) w)(h:XL P ops K l (QN f o.dst v) w)(G:Z1 ops f o=true:=by rfl):XL P ops K (o::l) f w :=
 xl G (xv E h)
theorem xb {o:Oper}{l:xC}[Decidable q](E:(execOp (ev f) o).run P w=.ok (.value (.bool (decide q))) w)(I:q->XL P ops K l (QN f o.dst (.bool true)) w)(J:¬q->XL P ops K l (QN f o.dst (.bool false)) w)
  (G:Z1 ops f o=true:=by rfl):XL P ops K (o::l) f w:=by
 by_cases h:q
 ·rw[OV h]at E;exact x E (I h) G
 rw[OX h]at E;exact x E (J h) G
variable {C:xx}
theorem pe (h:K f w):XP P ops C K [] f w:=by simp only[XP];exact h
theorem pq {pl:xq}{v:O0}(E:∀w',C w'->(execOp (ev f) (QR ops i)).run P w'=.ok (.value v) w')(h:XP P ops C K pl (QN f (QR ops i).dst v) w)
  (hd:yv (QR ops i)=true:=by rfl) (G:Z1 ops f (QR ops i)=true:=by rfl):XP P ops C K ((i,true)::pl) f w:=by
 simp only[XP,G,cond_true];exact⟨v,λw' I=>E w' (I hd),h⟩
theorem p {pl:xq}{v:O0}(E:∀w',(execOp (ev f) (QR ops i)).run P w'=.ok (.value v) w')(h:XP P ops C K pl (QN f (QR ops i).dst v) w)
  (G:Z1 ops f (QR ops i)=true:=by rfl):XP P ops C K ((i,true)::pl) f w:=by
 simp only[XP,G,cond_true];exact⟨v,λw' _=>E w',h⟩
theorem ps {q:Bool}{pl:xq}(h:XP P ops C K pl (QN f (QR ops i).dst undef) w)
  (E:Z1 ops f (QR ops i)=false:=by rfl):XP P ops C K ((i,q)::pl) f w:=by
 simp only[XP,E,cond_false];exact h
theorem pb {pl:xq}[Decidable q](E:∀w',(execOp (ev f) (QR ops i)).run P w'=.ok (.value (.bool (decide q))) w')(I:q->XP P ops C K pl (QN f (QR ops i).dst (.bool true)) w)(J:¬q->XP P ops C K pl (QN f (QR ops i).dst (.bool false)) w)
  (G:Z1 ops f (QR ops i)=true:=by rfl):XP P ops C K ((i,true)::pl) f w:=by
 by_cases h:q
 ·rw[OV h]at E;exact p E (I h) G
 rw[OX h]at E;exact p E (J h) G
theorem pk {pl:xq}(h:XO P (QR ops i) f w λE w'=>C w'/\XP P ops C K pl E w')
  (G:Z1 ops f (QR ops i)=true:=by rfl):XP P ops C K ((i,false)::pl) f w:=by
 simp only[XP,G,cond_true,cond_false];exact h.S λ_ _ hx=>⟨.inr (.inr hx.1),hx.2⟩
theorem pkl {pl:xq}(h:XO P (QR ops i) f w λE w'=>XP P ops C K pl E w')
  (hl:KK ops i=true:=by rfl) (G:Z1 ops f (QR ops i)=true:=by rfl):XP P ops C K ((i,false)::pl) f w:=by
 simp only[XP,G,cond_true,cond_false];exact h.S λ_ _ hx=>⟨.inl hl,hx⟩
end
section
variable {f:Fr}
theorem Kd {x:O1}:(execOp (ev f) ⟨d,.move x,ty,pS,af,gd⟩).run P w=.ok (.value (ev f x)) w:=by simp[execOp]
theorem Qd {x:O1}:(execOp (ev f) ⟨d,.assign x,ty,pS,af,gd⟩).run P w=.ok (.value (ev f x)) w:=by simp[execOp]
theorem Vr {c a b:O1}{t:Bool}(h:ev f c=.bool t):(execOp (ev f) ⟨d,.pick c a b,ty,pS,af,gd⟩).run P w=.ok (.value (bif t then ev f a else ev f b)) w:=by
 cases t <;> simp[execOp,h,asBool]
theorem QV {x:O1}{vs:LV}{v:O0}(h:ev f x=.tuple vs.toArray)(E:vs[j]?=some v):(execOp (ev f) ⟨d,.extract x j,ty,pS,af,gd⟩).run P w=.ok (.value v) w:=by
 simp[execOp,h,Instr.extract,E]
theorem Qb1 {op:BinOp}{t:TypeId}{x:O1}{k:IntKind}{a b:Int}:(eqGuard op t x y (.int k a) (.int k' b)).run P w=.ok () w:=by
 simp only[eqGuard];split <;> simp
theorem JU {op:BinOp}{x:O1}{k:IntKind}{a b:Int}{v:O0}(hx:ev f x=.int k a)(G:ev f y=.int k' b)
  (h:(binOp op t (.int k a) (.int k' b)).run P w=.ok v w):(execOp (ev f) ⟨d,.binOp op t x y E,ty,pS,af,gd⟩).run P w=.ok (.value v) w:=by
 simp[execOp,hx,G,Qb1,h]
def inK (k:IntKind)(n:Int):Prop:=match k with
 | .i64=>-9223372036854775808<=n/\n<=9223372036854775807
 | .u8=>0<=n/\n<=255
 | .u16=>0<=n/\n<=65535
 | .u32=>0<=n/\n<=4294967295
 | .u64=>0<=n/\n<=18446744073709551615
 | .i32=>-2147483648<=n/\n<=2147483647
 | _=>False
theorem Xz {k:IntKind}{n:Int}(h:inK k n):k.wrap n=n:=by
 cases k <;> simp only[inK]at h <;> simp only[IntKind.wrap,IntKind.bits,IntKind.signed] <;> first|exact h.elim|(simp;omega)
theorem Xd {x:O1}{k:IntKind}{a b:Int}(hx:ev f x=.int k a)(G:ev f y=.int k b)(h:inK k (a+b)):
  (execOp (ev f) ⟨d,.binOp .add t x y E,ty,pS,af,gd⟩).run P w=.ok (.value (.int k (a+b))) w:=JU hx G (by simp[binOp,Op.intArith,Xz h])
theorem Jg {x:O1}{k:IntKind}{a b:Int}(hx:ev f x=.int k a)(G:ev f y=.int k b)(h:inK k (a - b)):
  (execOp (ev f) ⟨d,.binOp .sub t x y E,ty,pS,af,gd⟩).run P w=.ok (.value (.int k (a - b))) w:=JU hx G (by simp[binOp,Op.intArith,Xz h])
theorem Qen {x:O1}{k:IntKind}{a b:Int}(hx:ev f x=.int k a)(G:ev f y=.int k b)(h:inK k (a*b)):
  (execOp (ev f) ⟨d,.binOp .mul t x y E,ty,pS,af,gd⟩).run P w=.ok (.value (.int k (a*b))) w:=JU hx G (by simp[binOp,Op.intArith,Xz h])
theorem Ys {x:O1}{k:IntKind}{a b:Int}(hx:ev f x=.int k a)(G:ev f y=.int k b):
  (execOp (ev f) ⟨d,.binOp .lss t x y E,ty,pS,af,gd⟩).run P w=.ok (.value (.bool (decide (a<b)))) w:=JU hx G (by simp[binOp,Op.intCmp])
theorem XY {x:O1}{k:IntKind}{a b:Int}(hx:ev f x=.int k a)(G:ev f y=.int k b):
  (execOp (ev f) ⟨d,.binOp .leq t x y E,ty,pS,af,gd⟩).run P w=.ok (.value (.bool (decide (a<=b)))) w:=JU hx G (by simp[binOp,Op.intCmp])
theorem Z5 {x:O1}{k:IntKind}{a b:Int}(hx:ev f x=.int k a)(G:ev f y=.int k b):
  (execOp (ev f) ⟨d,.binOp .gtr t x y E,ty,pS,af,gd⟩).run P w=.ok (.value (.bool (decide (b<a)))) w:=JU hx G (by simp[binOp,Op.intCmp])
theorem Yh {x:O1}{k:IntKind}{a b:Int}(hx:ev f x=.int k a)(G:ev f y=.int k b):
  (execOp (ev f) ⟨d,.binOp .geq t x y E,ty,pS,af,gd⟩).run P w=.ok (.value (.bool (decide (b<=a)))) w:=JU hx G (by simp[binOp,Op.intCmp])
theorem Zd {x:O1}{k:IntKind}{a b:Int}(hx:ev f x=.int k a)(G:ev f y=.int k b):
  (execOp (ev f) ⟨d,.binOp .eql t x y E,ty,pS,af,gd⟩).run P w=.ok (.value (.bool (decide (a=b)))) w :=
 JU hx G (by simp[binOp,Op.intCmp];by_cases h:a=b <;> simp[h])
theorem XI {x:O1}{k:IntKind}{a b:Int}(hx:ev f x=.int k a)(G:ev f y=.int k b):
  (execOp (ev f) ⟨d,.binOp .neq t x y E,ty,pS,af,gd⟩).run P w=.ok (.value (.bool (decide (¬a=b)))) w :=
 JU hx G (by simp[binOp,Op.intCmp];by_cases h:a=b <;> simp[h])
theorem Zj {x:O1}{b:Bool}(hx:ev f x=.bool b):(execOp (ev f) ⟨d,.unOp .not t x,ty,pS,af,gd⟩).run P w=.ok (.value (.bool (!b))) w:=by
 simp[execOp,hx,Op.unary]
theorem yX {x:O1}{e bys:Nat}[h:Sl P t e sz bys z]{a:Option Addr}{c:Nat}(hx:ev f x=.slice a n c):
  (execOp (ev f) ⟨d,.call ⟨.builtin .len,#[x],#[t]⟩,ty,pS,af,gd⟩).run P w=.ok (.value (sS n)) w:=by
 simp[execOp,resolve,invoke,builtin,Builtin.len_,hx,run_underlying h.u,goInt]
theorem Sl.info {e bys:Nat}(h:Sl P t e sz bys z):∃i,P.info? e=some i/\i.zero=some z/\i.size=sz/\i.bytes=bys:=by
 have:=h.i;cases hi:P.info? e with
 | none=>simp[hi]at this
 | some i=>simp[hi]at this;exact⟨i,O,this.1,this.2.1,this.2.2⟩
theorem XC {x:O1}{e bys:Nat}[h:Sl P t e sz bys z]{a:Addr}{c:Nat}{k:IntKind}{i:Int}(hx:ev f x=.slice (some a) n c)(E:ev f y=.int k i)(G:0<=i)(I:i<n):
  (execOp (ev f) ⟨d,.indexAddr t x y,ty,pS,af,gd⟩).run P w=.ok (.value (.pointer (some (a.add (i.toNat*sz))))) w:=by
 obtain⟨ii,hi,_,J,_⟩:=Sl.info h;simp[execOp,hx,E,Instr.indexAt,asIntOf,run_underlying h.u,G,I,sizeOf,typeInfo,hi,J]
theorem jj [h:Xx P t]:(isAgg t).run P w=.ok false w:=by
 obtain⟨d,E,hd⟩:=h.u;unfold isAgg;cases d <;> simp at hd <;> simp[run_underlying E]
theorem QiB [h:Ag P t sz]:(isAgg t).run P w=.ok true w:=by
 obtain⟨d,E,hd⟩:=h.u;unfold isAgg;cases d <;> simp at hd <;> simp[run_underlying E]
theorem Y7 [h:Xx P t]{a:Addr}{v:O0}(E:w.cell? a=some v):(loadVar t a).run P w=.ok v w:=by
 simp[loadVar,jj,E]
theorem qZ [h:Xx P t]:(sizeOf t).run P w=.ok 1 w:=by
 have:=h.i;cases hi:P.info? t with
 | none=>simp[hi]at this
 | some i=>simp[hi]at this;simp[sizeOf,typeInfo,hi,this]
theorem Uw [h:Ag P t sz]:(sizeOf t).run P w=.ok sz w:=by
 have:=h.i;cases hi:P.info? t with
 | none=>simp[hi]at this
 | some i=>simp[hi]at this;simp[sizeOf,typeInfo,hi,this]
theorem JA {a:Addr}:∀(vs:LV) (i:Nat) (acc:Array O0),(∀j v,vs[j]?=some v->w.cell? (a.add (i+j))=some v)->(loadCellsFrom a i vs.length acc).run P w=.ok (acc++vs.toArray) w
 | [],_,acc,_=>by simp[loadCellsFrom]
 | v::vs,i,acc,h=>by
  have E:=h 0 v O;simp only[Ou]at E;simp[loadCellsFrom,E,(JA vs (i+1) (acc.push v) (λj u G=>by have:=h (j+1) u (ou G);simpa[Nat.add_assoc,Nat.add_comm 1 j]using this))]
theorem Z4 [h:Ag P t sz]{a:Addr}{vs:LV}(hl:vs.length=sz)(E:∀j v,vs[j]?=some v->w.cell? (a.add j)=some v):(loadVar t a).run P w=.ok (sT vs) w:=by
 have:=JA (P:=P) (w:=w) (a:=a) vs 0 #[] (ou E);subst hl;simp[loadVar,QiB,Uw (sz:=vs.length),loadCells,this]
theorem Qhr [h:Xx P t]{x:O1}{a:Addr}{v:O0}(hx:ev f x=.pointer (some a))(E:w.cell? a=some v):
  (execOp (ev f) ⟨d,.load t x,ty,pS,af,gd⟩).run P w=.ok (.value v) w:=by
 simp[execOp,hx,Instr.loadAt,Instr.sureAddr,Y7 E]
theorem qB [h:Ag P t sz]{x:O1}{a:Addr}{vs:LV}(hx:ev f x=.pointer (some a))(hl:vs.length=sz)(E:∀j v,vs[j]?=some v->w.cell? (a.add j)=some v):
  (execOp (ev f) ⟨d,.load t x,ty,pS,af,gd⟩).run P w=.ok (.value (sT vs)) w:=by
 simp[execOp,hx,Instr.loadAt,Instr.sureAddr,Z4 hl E]
theorem ZE [h:Za P t j off]{x:O1}{a:Addr}(hx:ev f x=.pointer (some a)):
  (execOp (ev f) ⟨d,.fieldAddr t x j,ty,pS,af,gd⟩).run P w=.ok (.value (.pointer (some (a.add off)))) w:=by
 have E:=h.h;unfold QpN at E;cases I:P.underlying t with
 | none=>simp[I]at E
 | some dd =>
  cases dd <;> simp[I]at E
  rename_i fs;cases G:fs[j]? with
  | none=>simp[G]at E
  | some fd =>
   cases hi:P.info? fd.type with
   | none=>simp[G,hi]at E
   | some i =>
    simp[G,hi]at E;simp[execOp,hx,Instr.fieldAt,run_underlying I,G,Instr.sureAddr,fieldPlace,sizeOf,typeInfo,hi,E]
theorem Vu {x:O1}{a:Addr}(hx:ev f x=.pointer (some a)):(execOp (ev f) ⟨d,.nilCheck x,ty,pS,af,gd⟩).run P w=.ok (.value (.pointer (some a))) w:=by
 simp[execOp,hx]
theorem Zk {fn:Fn}{l l':List O1}:(execOp (ev f) ⟨d,.makeFunc fn l.toArray l'.toArray,ty,pS,af,gd⟩).run P w=.ok (.value (.func fn (l.map (ev f)).toArray (l'.map (ev f)).toArray)) w:=by
 simp[execOp,Instr.makeFunc]
end
def QS (P:O2)(g:Nat)(args:LV)(w:OZ)(R:O0->OZ->Prop):Prop :=
 Calls P g args.toArray w λe w'=>match e with| .returned v=>R v w'|_=>False
theorem QS.S {P:O2}{g:Nat}{args:LV}{w:OZ}{R R':O0->OZ->Prop}(h:QS P g args w R)(G:∀v w',R v w'->R' v w'):QS P g args w R' :=
 Calls.mono h λe w' E=>by cases e <;> first|exact G _ _ E|exact E
theorem xc {f:Fr}{K:Fr->OZ->Prop}{x:O1}{l:List O1}
    {first capt:LV} [hF:Fu P g fn] (hx:ev f x=.func (.func g) first.toArray capt.toArray) (h:QS P g (first++l.map (ev f)++capt) w λv w'=>K (QN f d v) w'):
  XO P ⟨d,.call ⟨.value x,l.toArray,at_⟩,ty,pS,af,gd⟩ f w K:=by
 have E:(execOp (ev f) ⟨d,.call ⟨.value x,l.toArray,at_⟩,ty,pS,af,gd⟩).run P w=.ok (.enter g (first++l.map (ev f)++capt).toArray) w:=by
  have G:¬fn.name = "runtime.NumGoroutine" := by simpa using hF.nm
  have I:¬fn.body=none:=by have:=hF.b;intro e;rw[e]at this;cases this
  simp[execOp,resolve,hx,Deferred.ofValue,invoke,callFunc,hF.f,G,I]
 simp only[XO,E,upF];exact h
theorem xf {f:Fr}{K:Fr->OZ->Prop}{l:List O1}
    [hF:Fu P g fn] (h:QS P g (l.map (ev f)) w λv w'=>K (QN f d v) w'):
  XO P ⟨d,.call ⟨.value (.func g),l.toArray,at_⟩,ty,pS,af,gd⟩ f w K :=
 xc (first:=[]) (capt:=[]) (g:=g) (fn:=fn) O (ou h)
def ent:LV->Fr
 | [],_=>undef
 | v::_,0=>v
 | _::l,t+1=>ent l t
def Uo (P:O2)(f:Fr)(w:OZ):List ResultVar->LV->Prop
 | [],[]=>True
 | .tmp t::rs,v::vs=>f t=v/\Uo P f w rs vs
 | .cell a t::rs,v::vs=>(∃ad,f a=.pointer (some ad)/\(loadVar t ad).run P w=.ok v w)/\Uo P f w rs vs
 | _,_=>False
def tup:LV->O0
 | [v]=>v
 | vs=>.tuple vs.toArray
def rq (P:O2)(rs:List ResultVar)(R:O0->OZ->Prop):Exit->Fr->OZ->Prop
 | .ret,f,w=>∃vs,Uo P f w rs vs/\R (tup vs) w
 | .normal,f,w=>∃vs,Uo P f w rs vs/\R (tup vs) w
 | _,_,_=>False
theorem Jz {P:O2}{n:Nat}{a:Act}{f:Fr}{w:OZ}(G:Rel n a f)(g:ResultVar->Sem O0)(g1:∀t,g (.tmp t)=pure (a.tmps.getD t undef))
  (I:∀ad t,g (.cell ad t)=(do loadVar t (<-asAddr (a.tmps.getD ad undef)))):∀(rs:List ResultVar) (vs:LV),Uo P f w rs vs->(rs.mapM g).run P w=.ok vs w
 | [],[],_=>od
 | [],_::_,h=>h.elim
 | .tmp t::rs,[],h=>h.elim
 | .cell _ _::rs,[],h=>h.elim
 | .tmp t::rs,v::vs,h=>by
  have ih:=Jz G g g1 I rs vs h.2;have E:=G.get t;rw[h.1]at E;simp only[List.mapM_cons,Sem.run_bind,Sem.run_pure,Result.andThen_ok,ih,E,g1]
 | .cell ad t::rs,v::vs,h=>by
  have ih:=Jz G g g1 I rs vs h.2;obtain⟨⟨J,S,T⟩,_⟩:=h;have E:=G.get ad;rw[S]at E;have U:(asAddr (.pointer (some J))).run P w=.ok J w:=rfl;simp only[List.mapM_cons,Sem.run_bind,I,E,U,Sem.run_pure,Result.andThen_ok,T,ih]
theorem QS.of_W {c:Code}{args:LV}{R:O0->OZ->Prop}{rs:List ResultVar}
  (S:P.funcs[g]?=some fn) (hb:fn.body=some c) (T:fn.ntmps=n) (U:fn.results=rs.toArray) (hl:args.length<=n)
  (h:W P n c (rq P rs R) (ent args) w):QS P g args w R:=by
 unfold W at h;refine calls_of_wp S hb (wp_mono (h _ ?_) ?_)
 ·refine⟨by simp[T];omega,O,λt=>?_⟩;have key:∀(l:LV) (t:Nat),l[t]?.getD undef=ent l t:=by
   intro l;induction l with
   | nil=>intro t;rfl
   | cons v l ih=>intro t;cases t with|zero=>rfl|succ t=>simpa[ent]using ih t
  rw[<-key];simp only[Array.getD_eq_getD_getElem?,Array.getElem?_append,Od,oR];by_cases G:t<args.length
  ·simp[G]
  simp[G,Array.getElem?_replicate];split <;> rfl
 rintro e I w' ⟨V,J,_,E⟩;have fin:(∃vs,Uo P V w' rs vs/\R (tup vs) w')->I.defers=[]/\∃v,(results fn I.tmps).run P w'=.ok v w'/\R v w':=by
  rintro⟨vs,Y,hR⟩;refine⟨J.defers,tup vs,?_,hR⟩;simp only[results,U,List.mapM_toArray,Sem.run_bind,Sem.run_map];rw[Jz J _ (λ_=>rfl) (λ_ _=>rfl) rs vs Y];cases vs with
  | nil=>rfl
  | cons v vs=>cases vs with|nil=>rfl|cons u us=>rfl
 cases e with
 | normal=>exact fin E
 | ret=>exact fin E
 | exit id=>exact E.elim
 | goto l=>exact E.elim
 | panic c=>exact E.elim
 | outgrown=>exact E.elim
attribute [irreducible] QS
theorem XW (f:P.funcs[g]?=some fn)(b:fn.body.isNone=false:=by kernel_rfl)(nm:(fn.name == "runtime.NumGoroutine")=false:=by kernel_rfl):Fu P g fn:=⟨f,b,nm⟩
theorem Qc {f:Fr}{Q:Exit->Fr->OZ->Prop}{l:xC}{y:Code}(h:XL P l (λf w=>thn (λf w=>W P n y Q f w) Q .normal f w) l f w)(E:Xi n l=true:=by rfl):W P n (.seq (.region id l.toArray false) y) Q f w:=Qe (Qcw E h)
theorem Qr {f:Fr}{Q:Exit->Fr->OZ->Prop}{l:xC}(h:XL P l (λf w=>Q .normal f w) l f w)(E:Xi n l=true:=by rfl):W P n (.region id l.toArray false) Q f w:=Qcw E h
section
variable {K:Fr->OZ->Prop}{f:Fr}{l:xC}
theorem Qa (h:XL P ops K l (QN f d (ev f y)) w)(E:Z1 ops f ⟨d,.move y,ty,pS,af,gd⟩=true:=by rfl):XL P ops K (⟨d,.move y,ty,pS,af,gd⟩::l) f w:=x Kd h E
theorem QB {I:Nat}{E G:O1}{k:IntKind}{a b:Int}(hx:ev f E=.int k a)(J:ev f G=.int k b)(h:XL P ops K l (QN f d (.int k (a+b))) w)(S:inK k (a+b):=by exact⟨oa,oa⟩)
  (T:Z1 ops f ⟨d,.binOp .add t E G I,ty,pS,af,gd⟩=true:=by rfl):XL P ops K (⟨d,.binOp .add t E G I,ty,pS,af,gd⟩::l) f w:=x (Xd hx J S) h T
theorem Qb (h:K (QN f d (ev f y)) w)(E:Z1 ops f ⟨d,.assign y,ty,pS,af,gd⟩=true:=by rfl):XL P ops K [⟨d,.assign y,ty,pS,af,gd⟩] f w:=x Qd (xe h) E
end
section
variable {C:xx}{K:Fr->OZ->Prop}{f:Fr}{l:xC}
theorem Qo {o:Oper}(h:XO P o f w (XL P ops K l))(E:Z1 ops f o=true:=by rfl):XL P ops K (o::l) f w:=xl E h
theorem Jr {o:Oper}(h:XL P ops K l (QN f o.dst undef) w)(E:Z1 ops f o=false:=by rfl):XL P ops K (o::l) f w:=xs E h
theorem QQ {E:O1}{vs:LV}{v:O0}(G:ev f E=.tuple vs.toArray)(I:vs[j]?=some v)(h:XL P ops K l (QN f d v) w)(J:Z1 ops f ⟨d,.extract E j,ty,pS,af,gd⟩=true:=by rfl):XL P ops K (⟨d,.extract E j,ty,pS,af,gd⟩::l) f w:=x (QV G I) h J
theorem Qz {c a b:O1}{t:Bool}(E:ev f c=.bool t)(h:XL P ops K l (QN f d (bif t then ev f a else ev f b)) w)(G:Z1 ops f ⟨d,.pick c a b,ty,pS,af,gd⟩=true:=by rfl):XL P ops K (⟨d,.pick c a b,ty,pS,af,gd⟩::l) f w:=x (Vr E) h G
theorem ZL {I:Nat}{E G:O1}{k:IntKind}{a b:Int}(hx:ev f E=.int k a)(J:ev f G=.int k b)(h:XL P ops K l (QN f d (.bool (decide (¬a=b)))) w)(S:Z1 ops f ⟨d,.binOp .neq t E G I,ty,pS,af,gd⟩=true:=by rfl):XL P ops K (⟨d,.binOp .neq t E G I,ty,pS,af,gd⟩::l) f w:=x (XI hx J) h S
theorem ZP {I:Nat}{E G:O1}{k:IntKind}{a b:Int}(hx:ev f E=.int k a)(J:ev f G=.int k b)(h:XL P ops K l (QN f d (.bool (decide (a<b)))) w)(S:Z1 ops f ⟨d,.binOp .lss t E G I,ty,pS,af,gd⟩=true:=by rfl):XL P ops K (⟨d,.binOp .lss t E G I,ty,pS,af,gd⟩::l) f w:=x (Ys hx J) h S
theorem ZY {E:O1}{a:Addr}(hx:ev f E=.pointer (some a))(h:XL P ops K l (QN f d (.pointer (some a))) w)(G:Z1 ops f ⟨d,.nilCheck E,ty,pS,af,gd⟩=true:=by rfl):XL P ops K (⟨d,.nilCheck E,ty,pS,af,gd⟩::l) f w:=x (Vu hx) h G
theorem Zl {c:Code}{args:LV}{R:O0->OZ->Prop}{rs:List ResultVar}(E:P.funcs[g]?=some fn)(h:W P n c (rq P rs R) (ent args) w)(hb:fn.body=some c:=by rfl)(G:fn.ntmps=n:=by rfl)(I:fn.results=rs.toArray:=by rfl)(hl:Nat.ble args.length n=true:=by rfl):QS P g args w R:=QS.of_W E hb G I (L3 hl) h
def Y0:Nat->Nat->LN->List (Nat×Bool)
 | _,0,_=>[]
 | i,n+1,fs=>(i,!fs.contains i)::Y0 (i+1) n fs
def fuB (P:O2)(g:Nat):Bool:=match P.funcs[g]? with|some fn=>!fn.body.isNone && !(fn.name == "runtime.NumGoroutine")|none=>false
theorem fuE (h:fuB P g=true):∃fn,Fu P g fn:=by
 unfold fuB at h;split at h
 ·next fn E=>simp only[oI,Oe]at h;exact⟨fn,E,h.1,h.2⟩
 cases h
theorem xg {f:Fr}{K:Fr->OZ->Prop}{l:List O1}(h:QS P g (l.map (ev f)) w λv w'=>K (QN f d v) w')(E:fuB P g=true:=by kernel_rfl):XO P ⟨d,.call ⟨.value (.func g),l.toArray,at_⟩,ty,pS,af,gd⟩ f w K:=(fuE E).elim λ_ _=>xf h
theorem Qw {l':List O1}(h:QS P g (l'.map (ev f)) w λv w'=>XL P ops K l (QN f d v) w')(E:fuB P g=true:=by kernel_rfl)(G:Z1 ops f ⟨d,.call ⟨.value (.func g),l'.toArray,at_⟩,ty,pS,af,gd⟩=true:=by rfl):XL P ops K (⟨d,.call ⟨.value (.func g),l'.toArray,at_⟩,ty,pS,af,gd⟩::l) f w:=xl G (xg h E)
theorem Kz {l':List O1}[Fu P g fn](h:QS P g (l'.map (ev f)) w λv w'=>XL P ops K l (QN f d v) w')(E:Z1 ops f ⟨d,.call ⟨.value (.func g),l'.toArray,at_⟩,ty,pS,af,gd⟩=true:=by rfl):XL P ops K (⟨d,.call ⟨.value (.func g),l'.toArray,at_⟩,ty,pS,af,gd⟩::l) f w:=xl E (xf h)
theorem Qx {E:O1}:∀w',(execOp (ev f) ⟨d,.move E,ty,pS,af,gd⟩).run P w'=.ok (.value (ev f E)) w':=λ_=>Kd
theorem ZA {E:O1}:∀w',(execOp (ev f) ⟨d,.assign E,ty,pS,af,gd⟩).run P w'=.ok (.value (ev f E)) w':=λ_=>Qd
theorem YL {c a b:O1}{t:Bool}(h:ev f c=.bool t):∀w',(execOp (ev f) ⟨d,.pick c a b,ty,pS,af,gd⟩).run P w'=.ok (.value (bif t then ev f a else ev f b)) w':=λ_=>Vr h
theorem YE {E:O1}{a:Addr}(hx:ev f E=.pointer (some a)):∀w',(execOp (ev f) ⟨d,.nilCheck E,ty,pS,af,gd⟩).run P w'=.ok (.value (.pointer (some a))) w':=λ_=>Vu hx
theorem Ql {Q:Exit->Fr->OZ->Prop}{c:Code}(h:XL P (⟨d,.move y,ty,pS,af,gd⟩::l) (λf w=>thn (λf w=>W P n c Q f w) Q .normal f w) l (QN f d (ev f y)) w)(E:Z1 (⟨d,.move y,ty,pS,af,gd⟩::l) f ⟨d,.move y,ty,pS,af,gd⟩=true:=by rfl)(G:Xi n (⟨d,.move y,ty,pS,af,gd⟩::l)=true:=by rfl):W P n (.seq (.region id (⟨d,.move y,ty,pS,af,gd⟩::l).toArray false) c) Q f w:=Qc (Qa h E) G
theorem Zi {Q:Exit->Fr->OZ->Prop}{I:Nat}{E G:O1}{k:IntKind}{a b:Int}{J S c3:Code}(hx:ev f E=.int k a)(T:ev f G=.int k b)(U:¬a<b->W P n S (thn (λf w=>W P n c3 Q f w) Q) (QN f (some j) (.bool (decide (a<b)))) w)(V:a<b->W P n J (thn (λf w=>W P n c3 Q f w) Q) (QN f (some j) (.bool (decide (a<b)))) w)(Y:Z1 [⟨some j,.binOp .lss t E G I,ty,pS,af,gd⟩] f ⟨some j,.binOp .lss t E G I,ty,pS,af,gd⟩=true:=by rfl)(hn:Xi n [⟨some j,.binOp .lss t E G I,ty,pS,af,gd⟩]=true:=by rfl):W P n (.seq (.region id #[⟨some j,.binOp .lss t E G I,ty,pS,af,gd⟩] false) (.seq (.cond (.tmp j) J S) c3)) Q f w:=Qc (ZP hx T (xe (Qe (Zn (by simp[ev,QN,upd]) U V))) Y) hn
theorem YG {o o2:Oper}(h:XL P ops K l (QN (QN f o.dst undef) o2.dst undef) w)(E:Z1 ops (QN f o.dst undef) o2=false:=by rfl)(G:Z1 ops f o=false:=by rfl):XL P ops K (o::o2::l) f w:=Jr (Jr h E) G
theorem Zw {o o2 o3:Oper}(h:XL P ops K l (QN (QN (QN f o.dst undef) o2.dst undef) o3.dst undef) w)(E:Z1 ops (QN (QN f o.dst undef) o2.dst undef) o3=false:=by rfl)(G:Z1 ops (QN f o.dst undef) o2=false:=by rfl)(I:Z1 ops f o=false:=by rfl):XL P ops K (o::o2::o3::l) f w:=Jr (YG h E G) I
theorem pkk {pl:xq}(h:XO P (QR ops i) f w λE w'=>XP P ops C K pl E w')(hl:KK ops i=true:=by kernel_rfl)(G:Z1 ops f (QR ops i)=true:=by rfl):XP P ops C K ((i,false)::pl) f w:=pkl h hl G
theorem QX {Q:Exit->Fr->OZ->Prop}{c:Code}(D:xt)(S:α->List (Nat×O0))(I:α->OZ->Prop)(m:α->Nat)(z:α)(E:YW f (S z))(hI:I z w)(round:∀x g w',I x w'->W P n c (thn (λG J=>∃x',m x'<m x/\YW G (S x')/\I x' J) (blk id Q)) (Vp (S x) (mix D f g)) w')(hD:wr D c=true:=by rfl):W P n (.block id (.loop c)) Q f w:=Qn (QoI D S I m hD z E hI round)
end
structure O3 (L:LN)(w w':OZ):Prop where
 os:w'.os=w.os
 tape:w'.tape=w.tape
 output:w'.output=w.output
 size:w.heap.size<=↑w'
 block:∀k,k<↑w->k∉L->w'.heap[k]?=w.heap[k]?
abbrev sW (w w':World):Prop:=O3 [] w w'
theorem O3.Y (L:LN)(w:OZ):O3 L w w:=⟨rfl,rfl,rfl,Lp _,λ_ _ _=>rfl⟩
theorem O3.X (L:LN)(w:OZ):O3 L w { w with drawn:=w.drawn+1 }:=⟨rfl,rfl,rfl,Lp _,λ_ _ _=>rfl⟩
theorem O3.S {L L':LN}(h:O3 L w w')(E:∀b∈L,b∈L'):O3 L' w w' :=
 ⟨h.os,h.tape,h.output,h.size,λk G I=>h.block k G (λJ=>I (E k J))⟩
theorem O3.any {L:LN}(h:sW w w'):O3 L w w':=h.S (λ_ hb=>by cases hb)
theorem O3.O {L L':LN}{E:OZ}(h:O3 L E w)(k:O3 L' w w')(J:∀b∈L',b∈L\/↑E<=b):O3 L E w' :=
 ⟨k.os.D h.os,k.tape.D h.tape,k.output.D h.output,Lx h.size k.size,λi hi G =>
  (k.block i (LQ hi h.size) (λS=>by rcases J i S with I|I;exact G I;omega)).D (h.block i hi G)⟩
theorem O3.D {L:LN}{E:OZ}(h:O3 L E w)(k:sW w w'):O3 L E w':=h.O k (λ_ hb=>by cases hb)
theorem O3.V {L:LN}{E:OZ}(h:O3 L E w)(k:O3 L w w'):O3 L E w':=h.O k (λ_ hb=>.inl hb)
theorem O3.below (h:sW w w'):Below ↑w w w':=⟨h.os,h.tape,h.output,h.size,λk E=>h.block k E od⟩
theorem O3.of_below (h:Below ↑w w w'):sW w w':=⟨h.os,h.tape,h.output,h.size,λk E _=>h.block k E⟩
theorem O3.of_grown {row:xD}(h:w.grownBy w' row):O3 row.toList w w' :=
 ⟨h.os,h.tape,h.output,h.size,λk E G=>h.block k E (λe=>G (by simp[<-e]))⟩
theorem QaP (w:OZ)(o:Obj)(k:Nat)(h:k<↑w):(w.alloc o).heap[k]?=w.heap[k]?:=by
 show(w.heap.push o)[k]?=_;rw[Array.getElem?_push,OR oa]
theorem KS (w:OZ)(o:Obj):(w.alloc o).heap[w.heap.size]?=some o:=by
 show(w.heap.push o)[w.heap.size]?=_;simp
theorem qP (w:OZ)(o:Obj):(w.alloc o).heap.size=w.heap.size+1:=by show(w.heap.push o).size=_;simp
theorem O3.alloc (w:OZ)(o:Obj):sW w (w.alloc o):=⟨rfl,rfl,rfl,by rw[qP];omega,λk E _=>QaP w o k E⟩
theorem O3.setRow (w:OZ)(g:Nat)(cs:Array O0):O3 [g] w (w.setRow g cs):=
 ⟨rfl,rfl,rfl,by simp[World.setRow],λk _ E=>setRow_other w g k cs (λe=>E (by simp[e]))⟩
def cel (H:xz)(a:Addr):Option O0:=match H[a.block]? with
 | some (.cells c _ _)=>if a.spot.isSome then none else c[a.off]?
 | _=>none
theorem J3 (w:OZ)(a:Addr):w.cell? a=cel ↑w a:=rfl
structure At (L:LN)(H:xz)(a:Addr)(us:LV):Prop where
 out:∀u∈us,a.block∉L
 lt:∀u∈us,a.block<H.size
 cell:∀j u,us[j]?=some u->cel H (a.add j)=some u
theorem Yv (a:Addr)(j:Nat):(a.add j).block=a.block:=by unfold Addr.add;split <;> rfl
theorem QjB {L:LN}(h:O3 L w w'){a:Addr}(E:a.block∉L)(hl:a.block<↑w):cel ↑w' a=cel ↑w a:=by
 unfold cel;rw[h.block _ hl E]
theorem At.J {L X:LN}{a:Addr}{us:LV}(h:At L ↑w a us)(G:O3 X w w')(hX:∀b∈X,b∈L):At L ↑w' a us :=
 ⟨h.out,λu E=>LQ (h.lt u E) G.size,λj u E=>by
  have I:=Mj E;rw[QjB (L:=X) G (by rw[Yv];exact λhx=>h.out u I (hX _ hx)) (by rw[Yv];exact h.lt u I)];exact h.cell j u E⟩
theorem At.I {L:LN}{a:Addr}{us:LV}(h:At L ↑w a us)(E:sW w w'):At L ↑w' a us:=h.J E (λ_ hb=>by cases hb)
theorem At.st {L:LN}{a:Addr}{us:LV}(h:At L ↑w a us)(E:O3 L w w'):At L ↑w' a us:=h.J E (λ_ hb=>hb)
theorem At.one {L:LN}{a:Addr}{u:O0}(h:At L ↑w a [u]):w.cell? a=some u:=by
 have:=h.cell 0 u O;simp only[Addr.add,if_true]at this;exact this
theorem At.cells {L:LN}{a:Addr}{us:LV}(h:At L ↑w a us):∀j v,us[j]?=some v->w.cell? (a.add j)=some v:=h.cell
theorem Addr.add_add (a:Addr)(i j:Nat):(a.add i).add j=a.add (i+j):=by
 unfold Addr.add;by_cases hi:i=0
 ·subst hi;simp
 by_cases E:j=0
 ·subst E;simp
 simp[hi,E,Nat.add_assoc]
theorem At.fld {L:LN}{H:xz}{a:Addr}{us:LV}(h:At L H a us)(j:Nat)(u:O0)(E:us[j]?=some u):At L H (a.add j) [u]:=
 ⟨λ_ _=>by rw[Yv];exact h.out u (Mj E),λ_ _=>by rw[Yv];exact h.lt u (Mj E),λi v G=>by
  cases i with
  | zero=>simp at G;subst G;rw[Addr.add_add,MW];exact h.cell j u E
  | succ i=>simp at G⟩
theorem At.up {L L':LN}{H:xz}{a:Addr}{us:LV}(h:At L H a us)(I:∀b∈L',b∈L\/H.size<=b):At L' H a us :=
 ⟨λu E J=>by rcases I _ J with G|G;exact h.out u E G;have:=h.lt u E;omega,h.lt,h.cell⟩
def Zs (L:LN)(H:xz)(v:O0)(n sz:Nat)(cs:LV):Prop :=
 cs.length=n*sz/\n<=1099511627776/\((v=nS/\n=0)\/∃a cap,v=.slice (some a) n cap/\n<=cap/\At L H a cs)
theorem Zs.J {L X:LN}{w w':OZ}{v:O0}{n sz:Nat}{cs:LV}(h:Zs L ↑w v n sz cs)(E:O3 X w w')(hX:∀b∈X,b∈L):Zs L ↑w' v n sz cs :=
 ⟨h.1,h.2.1,h.2.2.imp id λ⟨a,cap,G,I,J⟩=>⟨a,cap,G,I,J.J E hX⟩⟩
theorem Zs.I {L:LN}{v:O0}{cs:LV}(h:Zs L ↑w v n sz cs)(E:sW w w'):Zs L ↑w' v n sz cs:=h.J E (λ_ hb=>by cases hb)
theorem Zs.st {L:LN}{v:O0}{cs:LV}(h:Zs L ↑w v n sz cs)(E:O3 L w w'):Zs L ↑w' v n sz cs:=h.J E (λ_ hb=>hb)
theorem Zs.up {L L':LN}{H:xz}{v:O0}{n sz:Nat}{cs:LV}(h:Zs L H v n sz cs)(E:∀b∈L',b∈L\/H.size<=b):Zs L' H v n sz cs :=
 ⟨h.1,h.2.1,h.2.2.imp id λ⟨a,cap,G,I,J⟩=>⟨a,cap,G,I,J.up E⟩⟩
theorem Zs.nil (L:LN)(H:xz)(sz:Nat):Zs L H (nS) 0 sz []:=⟨od,oa,.inl ⟨rfl,rfl⟩⟩
theorem Zs.shape {L:LN}{H:xz}{v:O0}{cs:LV}(h:Zs L H v n sz cs):∃a cap,v=.slice a n cap:=by
 rcases h.2.2 with⟨E,G⟩|⟨a,cap,E,_⟩
 ·exact⟨none,0,by rw[E,G]⟩
 exact⟨some a,cap,E⟩
theorem Zs.one {L:LN}{H:xz}{v:O0}{cs:LV}(h:Zs L H v n sz cs):v.oneCell'=true:=by obtain⟨a,cap,rfl⟩:=h.shape;rfl
theorem Zs.cells {L:LN}{H:xz}{v:O0}{n sz:Nat}{cs:LV}(h:Zs L H v n sz cs):v.cells=#[v]:=by obtain⟨a,cap,rfl⟩:=h.shape;rfl
theorem Zs.le {L:LN}{H:xz}{v:O0}{cs:LV}(h:Zs L H v n sz cs):n<=1099511627776:=h.2.1
theorem Zs.at {L:LN}{H:xz}{v:O0}{n sz:Nat}{cs:LV}(h:Zs L H v n sz cs){i:Nat}(hi:i<n):
  ∃a cap,v=.slice (some a) n cap/\At L H (a.add (i*sz)) ((cs.drop (i*sz)).take sz):=by
 rcases h.2.2 with⟨_,J⟩|⟨a,cap,I,_,G⟩
 ·omega
 refine⟨a,cap,I,λu E=>by rw[Yv];exact G.out u (MP (L2 E)),λu E=>by rw[Yv];exact G.lt u (MP (L2 E)),λj u E=>?_⟩;rw[Addr.add_add];refine G.cell _ u ?_;rw[LZ]at E;split at E
 ·simpa using E
 cases E
abbrev Qu (L:LN)(H:xz)(v:O0)(l:LI):Prop:=Zs L H v l.length 1 (l.map (.int .i64))
theorem Qu.at {L:LN}{H:xz}{v:O0}{l:LI}(h:Qu L H v l){i:Nat}(hi:i<l.length):
  ∃a cap,v=.slice (some a) l.length cap/\At L H (a.add (i*1)) [sS l[i]]:=by
 obtain⟨a,cap,G,E⟩:=Zs.at h hi;refine⟨a,cap,G,?_⟩;have:((l.map (Value.int .i64)).drop (i*1)).take 1=[sS l[i]]:=by
  rw[OO,L6 (ou hi)];simp
 rw[this]at E;exact E
def QK (H:xz)(b T:Nat)(cs:LV):Prop:=H[b]?=some (.cells cs.toArray T (0,0))
theorem QK.lt {H:xz}{b:Nat}{cs:LV}(h:QK H b T cs):b<H.size:=(LH.1 h).1
theorem QK.J {X:LN}{b:Nat}{cs:LV}(h:QK ↑w b T cs)(E:O3 X w w')(hb:b∉X):QK ↑w' b T cs:=by
 unfold QK;rw[E.block b h.lt hb];exact h
theorem QK.I {b:Nat}{cs:LV}(h:QK ↑w b T cs)(E:sW w w'):QK ↑w' b T cs:=h.J E od
theorem QK.cell {H:xz}{b:Nat}{cs:LV}(h:QK H b T cs)(j:Nat):cel H ⟨b,j,none⟩=cs[j]?:=by
 unfold QK at h;simp[cel,h]
theorem QeH (b j:Nat):(⟨b,0,none⟩:Addr).add j=⟨b,j,none⟩:=by unfold Addr.add;split <;> simp_all
theorem XK (b i j:Nat):(⟨b,i,none⟩:Addr).add j=⟨b,i+j,none⟩:=by unfold Addr.add;split <;> simp_all
theorem QK.at {L:LN}{H:xz}{b:Nat}{cs:LV}(h:QK H b T cs)(hb:b∉L):At L H ⟨b,0,none⟩ cs :=
 ⟨λ_ _=>hb,λ_ _=>h.lt,λj u E=>by rw[QeH,h.cell];exact E⟩
theorem QK.arr {L:LN}{H:xz}{b:Nat}{cs:LV}(h:QK H b T cs)(hb:b∉L){cap:Nat}(hl:cs.length=n*sz)(E:n<=1099511627776)(G:n<=cap):
  Zs L H (sL b n cap) n sz cs:=⟨hl,E,.inr ⟨_,_,O,G,h.at hb⟩⟩
def ob:O0->LN
 | .slice (some a) _ _=>[a.block]
 | _=>[]
theorem Qaf (v:O0):ob v=v.ownBlock.toList:=by
 cases v <;> try rfl
 rename_i a _ _;cases a <;> rfl
theorem Qg {X:LN}{e:Nat}{v:O0}{cs:LV}(h:w.ownsRow base e sz v n cs)(I:O3 X w w')(hX:∀b∈ob v,b∉X):w'.ownsRow base e sz v n cs:=by
 refine⟨h.1,h.2.imp id λ⟨g,cap,cur,E,J,G,S⟩=>⟨g,cap,cur,E,J,?_,S⟩⟩;rw[I.block g (LH.1 G).1 (hX g (by rw[E];simp[ob]))];exact G
theorem Qm {e:Nat}{v:O0}{cs:LV}(h:w.ownsRow base e sz v n cs)(E:sW w w'):w'.ownsRow base e sz v n cs:=Qg h E (λ_ _=>od)
theorem Qi {e:Nat}{v:O0}{cs:LV}(h:w.ownsRow base e sz v n cs):∀b∈ob v,base<=b/\b<w.heap.size:=by
 intro b hb;rcases h.2 with⟨E,_⟩|⟨g,cap,cur,E,G,I,_⟩
 ·subst E;simp[ob]at hb
 subst E;simp[ob]at hb;subst hb;exact⟨G,(LH.1 I).1⟩
theorem Q9 {base' e:Nat}{v:O0}{cs:LV}(h:w.ownsRow base e sz v n cs)(hb:base'<=base):w.ownsRow base' e sz v n cs :=
 ⟨h.1,h.2.imp id λ⟨g,cap,cur,E,G,I⟩=>⟨g,cap,cur,E,Lx hb G,I⟩⟩
theorem QM {L:LN}{e:Nat}{v:O0}{cs:LV}(h:w.ownsRow base e sz v n cs)(J:n<=1099511627776)(S:∀b∈ob v,b∉L):Zs L ↑w v n sz cs:=by
 refine⟨h.1,J,?_⟩;rcases h.2 with E|⟨g,cap,cur,E,V,I,T,Y,h6,U⟩
 ·exact .inl E
 refine .inr ⟨_,_,E,T,λ_ _=>S g (by rw[E];simp[ob]),λ_ _=>(LH.1 I).1,λj u G=>?_⟩;rw[QeH];unfold cel;simp only[I];rw[<-U,LZ]at G;split at G
 ·simpa using G
 cases G
theorem QL (w:OZ)(base e sz:Nat):w.ownsRow base e sz (nS) 0 []:=World.ownsRow_nil w base e sz
theorem QK.own {b:Nat}{cs:LV}(h:QK ↑w b T cs)(hl:cs.length=n*sz)(E:n<=1099511627776)(hb:base<=b):w.ownsRow base T sz (sL b n n) n cs :=
 ⟨hl,.inr ⟨b,n,cs.toArray,O,hb,h,Lp _,by simp only[maxLen];omega,by simp[hl],by simp[<-hl]⟩⟩
section
variable {K:Fr->OZ->Prop}{f:Fr}{l:xC}
theorem YR {x:O1}{e bys:Nat}[Sl P t e E bys z]{L:LN}{cs:LV}{v:O0}{H:xz}(h:Zs L H v n sz cs)(G:ev f x=v):
  (execOp (ev f) ⟨d,.call ⟨.builtin .len,#[x],#[t]⟩,ty,pS,af,gd⟩).run P w=.ok (.value (sS n)) w:=by
 obtain⟨a,cap,I⟩:=h.shape;exact yX (G.D I)
theorem xi {x:O1}{e bys:Nat}[Sl P t e sz bys z]{L:LN}{cs:LV}{v:O0}{k:IntKind}
  (h:Zs L ↑w v n sz cs) (E:ev f x=v) (G:ev f y=.int k i) (hi:i<n)
  (hK:∀a,At L ↑w a ((cs.drop (i*sz)).take sz)->XL P ops K l (QN f d (.pointer (some a))) w) (I:Z1 ops f ⟨d,.indexAddr t x y,ty,pS,af,gd⟩=true:=by rfl):
  XL P ops K (⟨d,.indexAddr t x y,ty,pS,af,gd⟩::l) f w:=by
 obtain⟨a,cap,J,S⟩:=h.at hi;refine xl I (xv (XC (E.D J) G oa oa) (hK _ ?_));simpa using S
theorem xii {x:O1}{e bys:Nat}[Sl P t e 1 bys z]{L:LN}{li:LI}{v:O0}{k:IntKind}
  (h:Qu L ↑w v li) (E:ev f x=v) (G:ev f y=.int k i) (hi:i<li.length)
  (hK:∀a,At L ↑w a [sS li[i]]->XL P ops K l (QN f d (.pointer (some a))) w) (I:Z1 ops f ⟨d,.indexAddr t x y,ty,pS,af,gd⟩=true:=by rfl):
  XL P ops K (⟨d,.indexAddr t x y,ty,pS,af,gd⟩::l) f w:=by
 obtain⟨a,cap,J,S⟩:=Qu.at h hi;refine xl I (xv (XC (E.D J) G oa oa) (hK _ ?_));simpa using S
theorem Qq [Xx P t]{x:O1}{a:Addr}{L:LN}{u:O0}(h:At L ↑w a [u])(hx:ev f x=.pointer (some a)):
  (execOp (ev f) ⟨d,.load t x,ty,pS,af,gd⟩).run P w=.ok (.value u) w:=Qhr hx h.one
theorem QF [Ag P t sz]{x:O1}{a:Addr}{L:LN}{us:LV}(h:At L ↑w a us)(hx:ev f x=.pointer (some a))(hl:us.length=sz):
  (execOp (ev f) ⟨d,.load t x,ty,pS,af,gd⟩).run P w=.ok (.value (sT us)) w:=qB hx hl h.cells
theorem Qj [Xx P t]{x:O1}{b:Nat}{cs:LV}{u:O0}(h:QK ↑w b T cs)(hx:ev f x=.pointer (some ⟨b,j,none⟩))(E:cs[j]?=some u):
  (execOp (ev f) ⟨d,.load t x,ty,pS,af,gd⟩).run P w=.ok (.value u) w:=Qhr hx (by rw[J3,h.cell];exact E)
theorem Zb [Ag P t sz]{x:O1}{b:Nat}{cs:LV}(h:QK ↑w b T cs)(hx:ev f x=sP b)(hl:cs.length=sz):
  (execOp (ev f) ⟨d,.load t x,ty,pS,af,gd⟩).run P w=.ok (.value (sT cs)) w:=qB hx hl (h.at (L:=[]) od).cells
theorem VT [Za P t j off]{x:O1}{b o:Nat}(hx:ev f x=.pointer (some ⟨b,o,none⟩)):
  (execOp (ev f) ⟨d,.fieldAddr t x j,ty,pS,af,gd⟩).run P w=.ok (.value (.pointer (some ⟨b,o+off,none⟩))) w:=by
 rw[<-XK];exact ZE hx
end
section
variable {K:Fr->OZ->Prop}{f:Fr}
theorem U2 {x:O1}{us:LV}(hx:(ev f x).cells=us.toArray)
  (hK:∀b w',sW w w'->↑w<=b->QK ↑w' b t us->K (QN f d (sP b)) w'):XO P ⟨d,.box t x,ty,pS,af,gd⟩ f w K:=by
 have E:(execOp (ev f) ⟨d,.box t x,ty,pS,af,gd⟩).run P w=.ok (.value (.pointer (some ⟨↑w,0,none⟩))) (w.alloc (.cells us.toArray t)):=by
  simp[execOp,Instr.box,newVar,newRow,hx]
 exact xv E (hK _ _ (O3.alloc w _) (Lp _) (KS w _))
theorem YN [h:Ze P t z]{us:LV}(G:z.cells=us.toArray)
  (hK:∀b w',sW w w'->↑w<=b->QK ↑w' b t us->K (QN f d (sP b)) w'):XO P ⟨d,.alloc t,ty,pS,af,gd⟩ f w K:=by
 have I:(execOp (ev f) ⟨d,.alloc t,ty,pS,af,gd⟩).run P w=.ok (.value (.pointer (some ⟨↑w,0,none⟩))) (w.alloc (.cells us.toArray t)):=by
  have hi:=h.i;cases E:P.info? t with
  | none=>simp[E]at hi
  | some i =>
   simp[E]at hi;simp[execOp,Instr.alloc,newVar,newRow,zeroValue,typeInfo,E,hi,G]
 exact xv I (hK _ _ (O3.alloc w _) (Lp _) (KS w _))
def qQ (sz:Nat):LV->List (LV)->Prop
 | [],[]=>True
 | v::vs,u::us=>v.cells=u.toArray/\u.length=sz/\qQ sz vs us
 | _,_=>False
theorem zM {sz:Nat}:∀(vs:LV) (us:List (LV)) (E:Nat) (pre rest:LV),qQ sz vs us->pre.length=E*sz->rest.length=vs.length*sz ->
  Instr.fill (λi=>some (i*sz,sz)) (pre++rest).toArray ((vs.zipIdx E).map λx=>(x.2,x.1))=some (pre++us.flatten).toArray
 | [],[],E,pre,rest,_,_,G=>by
  have:rest=[]:=Ls (ou G);subst this;simp[Instr.fill]
 | [],_::_,_,_,_,h,_,_=>h.elim
 | _::_,[],_,_,_,h,_,_=>h.elim
 | v::vs,u::us,E,pre,rest,h,I,G=>by
  obtain⟨J,S,V⟩:=h;have ha:sz<=rest.length:=by rw[G];simp[On]
  have ih:=zM vs us (E+1) (pre++u) (rest.drop sz) V (by simp[I,S,On]) (by simp only[OD,G,oQ,On,OJ];omega);simp only[List.zipIdx_cons,oS];unfold Instr.fill;have Y:v.cells.size=sz:=by rw[J];simp[S]
  simp only[Y];rw[OR (by simp;omega)];have key:v.cells.zipIdx.foldl (λcs (x:O0×Nat)=>cs.setIfInBounds (E*sz+x.2) x.1) (pre++rest).toArray=(pre++u++rest.drop sz).toArray:=by
   rw[<-Array.foldl_toList,Array.toList_zipIdx,J];obtain⟨g1,g2⟩:=Great.foldl_set (E*sz) u 0 (pre++rest).toArray;apply Array.ext';apply Nj;intro k;simp only[Array.getElem?_toList];rw[(g2 k)];simp only[Ou,Od,oM,oR];split
   ·rename_i T;rw[LC,Mk oa,LY oa,<-I]
   rename_i T;by_cases U:k<pre.length
   ·rw[LC,LY U,LY U]
   rw[LC,Mk oa,Mk oa];by_cases he:k<pre.length+sz
   ·exfalso;apply T;omega
   rw[Mk oa,MI];congr 1;omega
  have hf:=ih;rw[LC pre u]at key;rw[show(v.cells.zipIdx.foldl (λcs (x:O0×Nat)=>cs.setIfInBounds (E*sz+x.2) x.1) (pre++rest).toArray)=(pre++u++rest.drop sz).toArray by rw[key,LC]];rw[ih];simp
theorem yD (f:Fr):∀(ps:List (Nat×O1)) (i:Nat),ps.map (·.1)=oN i ps.length->(ps.map λx=>(x.1,ev f x.2))=((ps.map λx=>ev f x.2).zipIdx i).map λx=>(x.2,x.1)
 | [],_,_=>rfl
 | p::ps,i,h=>by
  simp only[oS,oQ,Oy,List.cons.injEq]at h;simp only[oS,List.zipIdx_cons];rw[yD f ps (i+1) h.2,h.1]
theorem Yd {e bys:Nat}[h:Sl P t e sz bys z]{parts:List (Nat×O1)}{us:List (LV)}(G:parts.map (·.1)=oN 0 n)(I:parts.length=n)(J:0<n)(hs:n*sz<=1000000)
  (S:qQ sz (parts.map λx=>ev f x.2) us)
  (hK:∀b w',sW w w'->↑w<=b->QK ↑w' b e us.flatten->K (QN f d (sL b n n)) w'):XO P ⟨d,.buildSlice t n parts.toArray,ty,pS,af,gd⟩ f w K:=by
 obtain⟨ie,T,U,E,_⟩:=Sl.info h;subst I;have hm:0<parts.length*sz:=Nat.mul_pos J h.pos;have V:Instr.fill (λi=>some (i*ie.size,ie.size)) ((Array.range (parts.length*ie.size)).map (z.cells[· % z.cells.size]!)) (parts.toArray.map λ(i,x)=>(i,ev f x)).toList=some us.flatten.toArray:=by
  rw[E];have:=zM (parts.map λx=>ev f x.2) us 0 [] ((Array.range (parts.length*sz)).map (z.cells[· % z.cells.size]!)).toList S od od;simp only[Ok,Array.toArray_toList]at this;rw[<-this,<-yD f parts 0 G];simp
 have Y:(execOp (ev f) ⟨d,.buildSlice t parts.length parts.toArray,ty,pS,af,gd⟩).run P w=.ok (.value (.slice (some ⟨↑w,0,none⟩) parts.length parts.length)) (w.alloc (.cells us.flatten.toArray e)):=by
  have:=run_buildSlice (P:=P) w t e parts.length (parts.toArray.map λ(i,x)=>(i,ev f x)) us.flatten.toArray ie z h.u T U (by rw[E];omega) (by rw[E];omega) V;simp only[execOp,Sem.run_bind,this,Result.andThen_ok,Sem.run_pure]
 exact xv Y (hK _ _ (O3.alloc w _) (Lp _) (KS w _))
theorem yu {e:Nat}{bys:Nat}[h:Sl P t e sz bys z]{v:O0}{cs:LV}(G:w.ownsRow base e sz v n cs)
  {a:Addr} {c:Nat} {news:LV} (hl:news.length=m*sz) (U:∀j u,news[j]?=some u->w.cell? (a.add j)=some u) (h1:∀u∈news,u.oneCell'=true)
  (hb:n+m<=1099511627776) (hs:bys<=128) (he:base<=↑w):
  ∃v' w',(Builtin.append_ #[t,t] ty #[v,.slice (some a) m c]).run P w=.ok v' w'/\w'.ownsRow base e sz v' (n+m) (cs++news)/\O3 (ob v) w w'/\(∀b∈ob v',b∈ob v\/↑w<=b):=by
 obtain⟨i,hi,Y,J,ha⟩:=Sl.info h;have hc:(n+m)*bys<=140737488355328:=Lx (NF hb hs) oa;have hf:n+m<=maxLen:=by simp only[maxLen];omega
 by_cases hg:∃g cap cur,v=sL g n cap/\w.heap[g]?=some (.cells cur e (0,0))/\n+m<=cap
 ·obtain⟨v',w',T,ho,ht,_⟩:=run_append_own (P:=P) w base t ty e i z sz bys h.u hi Y J ha h.zs h.pos v n cs G a m c news hl U h1 hf hc he;refine⟨v',w',T,ho,by rw[Qaf];exact O3.of_grown ht,?_⟩;obtain⟨g,cap,cur,rfl,hh,S⟩:=hg;rcases G.2 with⟨h2,_⟩|⟨g2,cap2,hj,h2,h3,h4,h5,h6,h7,h8⟩
  ·cases h2
  cases h2
  have hu:n*i.size+news.length<=hj.size:=by rw[hl,h7,J,<-Mw];exact MN _ S
  rw[(run_append_room (P:=P) w t ty e i h.u hi g n cap hj h4 a m c news (by rw[J];exact hl) U h1 S hu)]at T;cases T
  intro b E;exact .inl E
 have new:∀(old:Nat),old<n+m->∀I,I=(Obj.cells (cs.toArray++news.toArray++Builtin.zeroCells z.cells (grownCap w (n+m) old e - (n+m))) e) ->
   (w.drew.alloc I).ownsRow base e sz (.slice (some ⟨↑w,0,none⟩) (n+m) (grownCap w (n+m) old e)) (n+m) (cs++news):=by
  intro old ho I hv;subst hv;have hge:=grownCap_ge w (n+m) old e;have hp:grownCap w (n+m) old e<=maxLen:=grownCap_le_maxLen w (n+m) old e hf;have hq:(cs++news).length=(n+m)*sz:=by rw[Lc,G.1,hl,Mw]
  refine⟨hq,.inr ⟨↑w,_,_,O,he,KS w.drew _,hge,hp,?_,?_⟩⟩
  ·simp only[Array.size_append,Od,size_zeroCells,h.zs,G.1,hl,<-On];congr 1;omega
  simp only[Array.toList_append,Of];rw[<-LC,<-hq];exact List.take_left
 have stp:∀I,O3 (ob v) w (w.drew.alloc I):=λI=>⟨O,O,O,by rw[qP];exact Nat.le_succ _,λk hk _=>QaP w.drew I k hk⟩;have fin:∀(b:Nat),b∈ob (.slice (some ⟨↑w,0,none⟩) (n+m) 0)->b∈ob v\/↑w<=b:=λb E=>by simp[ob]at E;omega
 rcases G.2 with⟨rfl,rfl⟩|⟨g,cap,cur,rfl,h9,hh,hA,hp,hB,hC⟩
 ·have hx:cs=[]:=Ls (ou G.1);subst hx;by_cases hm:m=0
  ·subst hm;have V:news=[]:=Ls (ou hl);subst V;refine⟨nS,w,?_,QL _ _ _ _,O3.Y _ _,λb E=>by simp[ob]at E⟩;simp[Builtin.append_,run_underlying h.u,sizeOf,typeInfo,hi,Builtin.lenOf,Builtin.firstCells,loadCells,loadCellsFrom]
  have T:=run_append_nil (P:=P) w t ty e i z h.u hi Y a m c news (by rw[J];exact hl) U oa oa (by rw[ha];have hw:=hc;simp only[oX]at hw;omega);have V:=new 0 oa _ O;simp only[oX,Ok,Array.empty_append]at V ⊢;exact⟨_,_,T,V,stp _,λb E=>fin b E⟩
 have S:cap<n+m:=by
  rcases OK cap (n+m) with hy|hge
  ·exact hy
  exact OU ⟨g,cap,cur,O,hh,hge⟩ hg
 have h0:∀j u,cs[j]?=some u->w.cell? ((⟨g,0,none⟩:Addr).add j)=some u:=G.cells (g:=g) O;exact⟨_,_,(run_append_grow (P:=P) w t ty e i z h.u hi Y ⟨g,0,none⟩ n cap cs (by rw[J];exact G.1) h0 a m c news (by rw[J];exact hl) U S oa (growslice_fits S (by rw[ha];exact hc))),new cap S _ O,stp _,λb E=>fin b E⟩
theorem QZ {e bys:Nat}[h:Sl P t e sz bys z]{s:O1}{v:O0}{cs:LV}(E:w.ownsRow base e sz v n cs)(G:ev f s=v)
  {a:Addr} {c:Nat} {news:LV} (I:ev f y=.slice (some a) m c) (hl:news.length=m*sz) {L:LN} (J:At L ↑w a news) (S:∀u∈news,u.oneCell'=true)
  (hb:n+m<=1099511627776) (T:base<=↑w)
  (hK:∀v' w',w'.ownsRow base e sz v' (n+m) (cs++news)->O3 (ob v) w w'->(∀b∈ob v',b∈ob v\/↑w<=b)->K (QN f d v') w') (U:bys<=128:=by decide):
  XO P ⟨d,.call ⟨.builtin .append,#[s,y],#[t,t]⟩,ty,pS,af,gd⟩ f w K:=by
 obtain⟨v',w',V,Y,h3,h4⟩:=yu (P:=P) (t:=t) (ty:=ty) E hl J.cells S hb U T (c:=c);have ha:(execOp (ev f) ⟨d,.call ⟨.builtin .append,#[s,y],#[t,t]⟩,ty,pS,af,gd⟩).run P w=.ok (.value v') w':=by
  simp[execOp,resolve,invoke,builtin,G,I,V]
 exact xv ha (hK v' w' Y h3 h4)
end
def QoD (P:O2)(t:Nat):Option (LV×LN):=match P.info? t,P.underlying t with
 | some it,some (.struct fs)=>match it.zero,fs.toList.mapM (λf=>(P.info? f.type).bind λi=>if i.size=1 then some f.offset else none) with
  | some (.agg zs),some offs=>some (zs.toList,offs)
  | _,_=>none
 | some it,some (.array n e)=>match it.zero,P.info? e with
  | some (.agg zs),some ie=>if ie.size=1 then some (zs.toList,oJ n) else none
  | _,_=>none
 | _,_=>none
class Bs (P:O2)(t:Nat)(zs:outParam (LV))(offs:outParam (LN)):Prop where
 h:QoD P t=some (zs,offs):=by first|kernel_rfl|decide|rfl|exact sX (by kernel_rfl)
 b:offs.all (·<zs.length)=true:=by first|kernel_rfl|decide|rfl|exact sX (by kernel_rfl)
def bld (offs:LN)(zs:LV):List (Nat×O0)->LV
 | []=>zs
 | (j,v)::ps=>bld offs (zs.set (offs.getD j 0) v) ps
def Qmw:LV->Prop
 | []=>True
 | v::vs=>v.cells=#[v]/\Qmw vs
theorem zL {place:Nat->Option (Nat×Nat)}{offs:LN}(G:∀j,j<offs.length->place j=some (offs.getD j 0,1)):∀(ps:List (Nat×O0)) (zs:LV),Qmw (ps.map (·.2))->ps.all (λp=>p.1<offs.length)=true ->
  (∀o∈offs,o<zs.length)->Instr.fill place zs.toArray ps=some (bld offs zs ps).toArray
 | [],zs,_,_,_=>rfl
 | (j,v)::ps,zs,I,E,J=>by
  simp only[Ob,oI,decide_eq_true_eq]at E;have U:offs.getD j 0<zs.length:=J _ (by simp[oO,oU E.1]);unfold Instr.fill;simp only[(G j E.1)];have S:v.cells=#[v]:=I.1;simp only[S];rw[OR (by rw[show(#[v]:Array O0).size=1 from rfl,LT];simp only[ne_eq,not_true,decide_false,Bool.false_or,decide_eq_true_eq];omega)];have:(#[v]:Array O0).zipIdx.foldl (λcs (x:O0×Nat)=>cs.setIfInBounds (offs.getD j 0+x.2) x.1) zs.toArray=(zs.set (offs.getD j 0) v).toArray:=by
   simp[Array.zipIdx]
  rw[this];exact zL G ps _ I.2 E.2 (λo T=>by rw[MV];exact J o T)
theorem QdK {zs:LV}{offs:LN}(h:QoD P t=some (zs,offs))(hb:offs.all (·<zs.length)=true)(ps:List (Nat×O0))(U:Qmw (ps.map (·.2)))(V:ps.all (λp=>p.1<offs.length)=true):
  P.built t ps=some (bld offs zs ps).toArray:=by
 have Y:∀o∈offs,o<zs.length:=λo ho=>ou (L9.1 hb o ho)
 unfold QoD at h;unfold Program.built;cases hi:P.info? t with
 | none=>simp[hi]at h
 | some it =>
  cases hu:P.underlying t with
  | none=>simp[hi,hu]at h
  | some dd =>
   simp only[hi,hu]at h;cases dd <;> simp only[]at h <;> try (cases h)
   case struct fs =>
    cases E:it.zero with
    | none=>simp[E]at h
    | some z =>
     cases z <;> simp only[E]at h <;> try (cases h)
     rename_i za;cases J:fs.toList.mapM (λf=>(P.info? f.type).bind λi=>if i.size=1 then some f.offset else none) with
     | none=>simp[J]at h
     | some offs' =>
      simp only[J,Option.some.injEq,Prod.mk.injEq]at h;obtain⟨rfl,rfl⟩:=h;have key:∀(l:List Field) (offs:LN),l.mapM (λf=>(P.info? f.type).bind λi=>if i.size=1 then some f.offset else none)=some offs ->
        l.mapM (λf=>(P.info? f.type).map λi=>(f.offset,i.size))=some (offs.map λo=>(o,1)):=by
       intro l;induction l with
       | nil=>intro offs h;simp at h;subst h;rfl
       | cons f l ih =>
        intro offs h;simp only[List.mapM_cons]at h ⊢;cases S:P.info? f.type with
        | none=>simp[S]at h
        | some i =>
         by_cases G:i.size=1
         ·simp only[S,Option.bind_some,G,if_true,Option.bind_eq_bind]at h;cases hl:l.mapM (λf=>(P.info? f.type).bind λi=>if i.size=1 then some f.offset else none) with
          | none=>simp[hl]at h
          | some os =>
           simp[hl]at h;subst h;simp[ih os hl,G]
         simp[S,G]at h
      simp only[E,(key _ _ J),Value.cells];rw[<-zL (place:=λj=>((offs'.map λo=>(o,1)).toArray)[j]?) (λj I=>by simp[oU I,oO]) ps za.toList U V Y]
   case array n e =>
    cases E:it.zero with
    | none=>simp[E]at h
    | some z =>
     cases z <;> simp only[E]at h <;> try (cases h)
     rename_i za;cases T:P.info? e with
     | none=>simp[T]at h
     | some ie =>
      simp only[T]at h;split at h
      ·rename_i G;simp only[Option.some.injEq,Prod.mk.injEq]at h;obtain⟨rfl,rfl⟩:=h;simp only[E,T,Value.cells];rw[<-zL (place:=λi=>some (i*ie.size,ie.size)) (λj I=>by simp at I;simp[G,oO,I]) ps za.toList U V Y]
      cases h
theorem QC {f:Fr}{zs:LV}{offs:LN}[h:Bs P t zs offs]{parts:List (Nat×O1)}
  (E:Qmw (parts.map λx=>ev f x.2)) (G:parts.all (λp=>p.1<offs.length)=true:=by rfl):
  (execOp (ev f) ⟨d,.build t parts.toArray,ty,pS,af,gd⟩).run P w=.ok (.value (.agg (bld offs zs (parts.map λx=>(x.1,ev f x.2))).toArray)) w:=by
 simp only[execOp,Sem.run_bind,(run_build (P:=P) w t (parts.toArray.map λ(i,x)=>(i,ev f x)) _ (by simpa using(QdK h.h h.b (parts.map λx=>(x.1,ev f x.2)) (by rw[List.map_map];exact E) (by rw[List.all_map];exact G)))),Result.andThen_ok,Sem.run_pure]
section
variable {K:Fr->OZ->Prop}{f:Fr}{l:xC}
theorem Q7 [Za P t j off]{E:O1}{b o:Nat}(hx:ev f E=.pointer (some ⟨b,o,none⟩))(h:XL P ops K l (QN f d (.pointer (some ⟨b,o+off,none⟩))) w)(G:Z1 ops f ⟨d,.fieldAddr t E j,ty,pS,af,gd⟩=true:=by rfl):XL P ops K (⟨d,.fieldAddr t E j,ty,pS,af,gd⟩::l) f w:=x (VT hx) h G
theorem ZB [Xx P t]{E:O1}{b:Nat}{cs:LV}{u:O0}(G:QK ↑w b T cs)(hx:ev f E=.pointer (some ⟨b,j,none⟩))(I:cs[j]?=some u)(h:XL P ops K l (QN f d u) w)(J:Z1 ops f ⟨d,.load t E,ty,pS,af,gd⟩=true:=by rfl):XL P ops K (⟨d,.load t E,ty,pS,af,gd⟩::l) f w:=x (Qj G hx I) h J
theorem Q3 [Ag P t sz]{E:O1}{b:Nat}{cs:LV}(G:QK ↑w b T cs)(hx:ev f E=sP b)(hl:cs.length=sz)(h:XL P ops K l (QN f d (sT cs)) w)(I:Z1 ops f ⟨d,.load t E,ty,pS,af,gd⟩=true:=by rfl):XL P ops K (⟨d,.load t E,ty,pS,af,gd⟩::l) f w:=x (Zb G hx hl) h I
theorem QG {E:O1}{e bys:Nat}[Sl P t e G bys z]{L:LN}{cs:LV}{v:O0}{H:xz}(hA:Zs L H v n sz cs)(I:ev f E=v)(h:XL P ops K l (QN f d (sS n)) w)(J:Z1 ops f ⟨d,.call ⟨.builtin .len,#[E],#[t]⟩,ty,pS,af,gd⟩=true:=by rfl):XL P ops K (⟨d,.call ⟨.builtin .len,#[E],#[t]⟩,ty,pS,af,gd⟩::l) f w:=x (YR hA I) h J
theorem QH [Za P t j off]{E:O1}{b o:Nat}(hx:ev f E=.pointer (some ⟨b,o,none⟩)):∀w',(execOp (ev f) ⟨d,.fieldAddr t E j,ty,pS,af,gd⟩).run P w'=.ok (.value (.pointer (some ⟨b,o+off,none⟩))) w':=λ_=>VT hx
theorem Qs [Za P t j off]{E:O1}{b o:Nat}[Xx P G]{d2:xD}{J:Nat}{pS2:String}{S:xA}{U:xp}{I:O1}{cs:LV}{u:O0}(hx:ev f E=.pointer (some ⟨b,o,none⟩))(V:QK ↑w b T cs)(Y:ev (QN f d (.pointer (some ⟨b,o+off,none⟩))) I=.pointer (some ⟨b,i,none⟩))(hj:cs[i]?=some u)(h:XL P ops K l (QN (QN f d (.pointer (some ⟨b,o+off,none⟩))) d2 u) w)
  (hg:Z1 ops f ⟨d,.fieldAddr t E j,ty,pS,af,gd⟩=true:=by rfl) (ha:Z1 ops (QN f d (.pointer (some ⟨b,o+off,none⟩))) ⟨d2,.load G I,J,pS2,S,U⟩=true:=by rfl):XL P ops K (⟨d,.fieldAddr t E j,ty,pS,af,gd⟩::⟨d2,.load G I,J,pS2,S,U⟩::l) f w:=Q7 hx (ZB V Y hj h ha) hg
theorem Q2 {e bys:Nat}[Sl P t e sz bys z]{parts:List (Nat×O1)}{K:Fr->OZ->Prop}(us:List (LV))(hK:∀b w',sW w w'->↑w<=b->QK ↑w' b e us.flatten->K (QN f d (sL b n n)) w')(E:parts.map (·.1)=oN 0 n:=by rfl)(G:parts.length=n:=by rfl)(I:0<n:=by decide)(J:n*sz<=1000000:=by decide)(S:qQ sz (parts.map λx=>ev f x.2) us:=by first|exact(ov)|exact(oy)):XO P ⟨d,.buildSlice t n parts.toArray,ty,pS,af,gd⟩ f w K:=Yd E G I J S hK
theorem Zc {E:O1}(us:LV)(hK:∀b w',sW w w'->↑w<=b->QK ↑w' b t us->XL P ops K l (QN f d (sP b)) w')(hx:(ev f E).cells=us.toArray:=by rfl)(G:Z1 ops f ⟨d,.box t E,ty,pS,af,gd⟩=true:=by rfl):XL P ops K (⟨d,.box t E,ty,pS,af,gd⟩::l) f w:=xl G (U2 hx hK)
end
section
variable {κ:Type}[DecidableEq κ]
def O8:List (κ×O0)->κ->Option O0
 | [],_=>none
 | (k',v)::m,k=>if k'=k then some v else O8 m k
def O9:List (κ×O0)->κ->O0->List (κ×O0)
 | [],k,v=>[(k,v)]
 | (k',v')::m,k,v=>if k'=k then(k',v)::m else(k',v')::O9 m k v
theorem Ja (m:List (κ×O0))(k k':κ)(v:O0):O8 (O9 m k v) k'=if k=k' then some v else O8 m k':=by
 induction m with
 | nil=>simp[O8,O9]
 | cons p m ih =>
  obtain⟨q,u⟩:=p;simp only[O9];by_cases h:q=k
  ·subst h;simp[O8];by_cases E:q=k' <;> simp[E]
  simp only[h,if_false,O8,ih];by_cases E:q=k'
  ·subst E;simp[Ne.symm h]
  simp[E]
def fnd (k:κ):List κ->List MapEntry->Nat->Option (Nat×O0)
 | q::ks,e::es,i=>if k=q then some (i,e.val) else fnd k ks es (i+1)
 | _,_,_=>none
end
class jI (P:O2)(kt:Nat){κ:Type}[DecidableEq κ](enc:κ->O0):Prop where
 check:∀(w:OZ) (em:Bool) (k:κ),(Instr.checkKey em 10000 kt (enc k)).run P w=.ok () w
 find:∀(w:OZ) (k:κ) (ks:List κ) (es:List MapEntry),es.map (·.key)=ks.map enc->(Instr.findKey kt (enc k) es).run P w=.ok (fnd k ks es 0) w
 same:∀k,Instr.sameBits 10000 (enc k) (enc k)=true
abbrev Xq (n:Int):O0:=sS n
abbrev Yl (p:Int×Int):O0:=.agg #[sS p.1,sS p.2]
abbrev Xl (s:ByteArray):O0:=.string s
theorem Qlv (G:P.underlying kt=some (.int .i64)):jI P kt Xq:=by
 refine⟨λw em k=>?_,λw k ks es h=>?_,λk=>by simp[Instr.sameBits]⟩
 ·have hck:∀n,(Instr.checkKey em (n+1) kt (Xq k)).run P w=.ok () w:=λn=>by simp[Instr.checkKey,run_underlying G]
  exact hck 9999
 have key:∀(ks:LI) (es:List MapEntry) (i:Nat),es.map (·.key)=ks.map Xq->Instr.findNow (.int .i64) (Xq k) es i=some (fnd k ks es i):=by
  intro ks;induction ks with
  | nil=>intro es i h;simp at h;subst h;rfl
  | cons q ks ih =>
   intro es i h;cases es with
   | nil=>simp at h
   | cons e es =>
    simp only[oS,List.cons.injEq]at h;simp only[Instr.findNow,h.1,Instr.sameNow,Xq,if_true,fnd];by_cases E:k=q
    ·subst E;simp
    have:(k == q)=false:=by simpa using E
    simp[E,this,(ih es (i+1) h.2)]
 simp[Instr.findKey,run_underlying G,key ks es 0 h]
theorem Qlu (G:P.underlying kt=some .string):jI P kt Xl:=by
 refine⟨λw em k=>?_,λw k ks es h=>?_,λk=>by simp[Instr.sameBits,(MapKept.bytes_beq k k).2 rfl]⟩
 ·have hck:∀n,(Instr.checkKey em (n+1) kt (Xl k)).run P w=.ok () w:=λn=>by simp[Instr.checkKey,run_underlying G]
  exact hck 9999
 have key:∀(ks:List ByteArray) (es:List MapEntry) (i:Nat),es.map (·.key)=ks.map Xl->Instr.findNow .string (Xl k) es i=some (fnd k ks es i):=by
  intro ks;induction ks with
  | nil=>intro es i h;simp at h;subst h;rfl
  | cons q ks ih =>
   intro es i h;cases es with
   | nil=>simp at h
   | cons e es =>
    simp only[oS,List.cons.injEq]at h;simp only[Instr.findNow,h.1,Instr.sameNow,Xl,fnd];by_cases E:k=q
    ·subst E;simp[(MapKept.bytes_beq k k).2 rfl]
    have:(k == q)=false:=by
     cases hb:(k == q) with
     | false=>rfl
     | true=>exact OU ((MapKept.bytes_beq k q).1 hb) E
    simp[E,this,(ih es (i+1) h.2)]
 simp[Instr.findKey,run_underlying G,key ks es 0 h]
theorem q7 {e:Nat}(Y:P.underlying kt=some (.array 2 e))(J:P.underlying e=some (.int .i64))(E:(P.info? e).map (·.size)=some 1)(w:OZ)(p q:Int×Int):
  (Op.equal kt (Yl p) (Yl q)).run P w=.ok (decide (p=q)) w:=by
 obtain⟨a,b⟩:=p;obtain⟨c,d⟩:=q;cases hi:P.info? e with
 | none=>simp[hi]at E
 | some ie =>
  simp[hi]at E;have S:∀w,(isAgg e).run P w=.ok false w:=λw=>by simp[isAgg,run_underlying J]
  have G:∀(x y:Int) (w:OZ),(part e #[sS x,sS y] 0).run P w=.ok (sS x) w:=λx y w=>by simp[part,S]
  have T:∀(x y:Int) (w:OZ),(part e #[sS x,sS y] 1).run P w=.ok (sS y) w:=λx y w=>by simp[part,S]
  have I:∀(m:Nat) (x y:Int) (w:OZ),(Op.equalIn (m+1) e (sS x) (sS y)).run P w=.ok (x == y) w:=λm x y w=>by simp[Op.equalIn,run_underlying J]
  simp only[Op.equal,Op.maxDepth,Yl];unfold Op.equalIn;simp only[Sem.run_bind,run_underlying Y,Result.andThen_ok,sizeOf,typeInfo,run_program,hi,Sem.run_pure,E];simp only[Std.Legacy.Range.forIn_eq_forIn_range',Std.Legacy.Range.size,OL,Nat.add_sub_cancel,Nat.div_one,Oy,List.range'_zero,List.forIn_cons,List.forIn_nil,Nat.zero_mul,OJ,oX];by_cases U:a=c
  ·subst U;by_cases V:b=d
   ·subst V;simp[G,T,I]
   simp[G,T,I,V]
  simp[G,I,U]
theorem QbM {e:Nat}(E:P.underlying kt=some (.array 2 e))(I:P.underlying e=some (.int .i64))(G:(P.info? e).map (·.size)=some 1):jI P kt Yl:=by
 refine⟨λw em k=>?_,λw k ks es h=>?_,λk=>?_⟩
 ·obtain⟨a,b⟩:=k;cases hi:P.info? e with
  | none=>simp[hi]at G
  | some ie =>
   simp[hi]at G;have S:∀w,(isAgg e).run P w=.ok false w:=λw=>by simp[isAgg,run_underlying I]
   have U:∀(x y:Int) (w:OZ),(part e #[sS x,sS y] 0).run P w=.ok (sS x) w:=λx y w=>by simp[part,S]
   have V:∀(x y:Int) (w:OZ),(part e #[sS x,sS y] 1).run P w=.ok (sS y) w:=λx y w=>by simp[part,S]
   have hck:∀(m:Nat) (x:Int) (w:OZ),(Instr.checkKey em (m+1) e (sS x)).run P w=.ok () w:=λm x w=>by simp[Instr.checkKey,run_underlying I]
   simp only[Yl];unfold Instr.checkKey;simp only[Sem.run_bind,run_underlying E,Result.andThen_ok,sizeOf,typeInfo];simp[Std.Legacy.Range.forIn_eq_forIn_range',Std.Legacy.Range.size,Oy,hi,G,U,V,hck]
 ·have Y:∀es i,es.map (·.key)=ks.map Yl->Instr.findNow (.array 2 e) (Yl k) es i=none\/es=[]:=by
   intro es i h;cases es with
   | nil=>exact .inr O
   | cons e es=>left;simp[Instr.findNow,Instr.sameNow]
  have ask:∀(ks:xu) (es:List MapEntry) (i:Nat),es.map (·.key)=ks.map Yl->(Instr.findAsking kt (Yl k) es i).run P w=.ok (fnd k ks es i) w:=by
   intro ks;induction ks with
   | nil=>intro es i h;simp at h;subst h;simp[Instr.findAsking,fnd]
   | cons q ks ih =>
    intro es i h;cases es with
    | nil=>simp at h
    | cons e es =>
     simp only[oS,List.cons.injEq]at h;simp only[Instr.findAsking,h.1,Sem.run_bind,q7 E I G,Result.andThen_ok,fnd];by_cases T:k=q
     ·subst T;simp
     simp[T,(ih es (i+1) h.2)]
  rcases Y es 0 h with J|J
  ·simp[Instr.findKey,run_underlying E,J,ask ks es 0 h]
  subst J;have:ks=[]:=by simpa using h.symm
  subst this;simp[Instr.findKey,run_underlying E,Instr.findNow,fnd]
 simp[Instr.sameBits]
class Mp (P:O2)(t:Nat)(kt et:outParam Nat)(z:outParam O0):Prop where
 u:P.underlying t=some (.map kt et):=by first|kernel_rfl|decide|rfl|exact sX (by kernel_rfl)
 z:(P.info? et).map (·.zero)=some (some z):=by first|kernel_rfl|decide|rfl|exact sX (by kernel_rfl)
def ZO {κ:Type}(enc:κ->O0)(H:xz)(b:Nat)(m:List (κ×O0)):Prop :=
 ∃es clock,H[b]?=some (.map es clock)/\es.toList.map (λe=>(e.key,e.val))=m.map (λp=>(enc p.1,p.2))
section
variable {κ:Type}{enc:κ->O0}
theorem ZO.lt {H:xz}{b:Nat}{m:List (κ×O0)}(h:ZO enc H b m):b<H.size:=by
 obtain⟨es,c,E,_⟩:=h;exact(LH.1 E).1
theorem ZO.J {X:LN}{b:Nat}{m:List (κ×O0)}(h:ZO enc ↑w b m)(E:O3 X w w')(hb:b∉X):ZO enc ↑w' b m:=by
 have hl:=h.lt;obtain⟨es,c,G,I⟩:=h;exact⟨es,c,by rw[E.block b hl hb];exact G,I⟩
theorem ZO.I {b:Nat}{m:List (κ×O0)}(h:ZO enc ↑w b m)(E:sW w w'):ZO enc ↑w' b m:=h.J E od
theorem Qap {m:List (κ×O0)}{es:List MapEntry}(h:es.map (λe=>(e.key,e.val))=m.map (λp=>(enc p.1,p.2))):es.map (·.key)=(m.map (·.1)).map enc:=by
 have:=OT (OQ Prod.fst) h;simp only[List.map_map]at this ⊢;exact this
variable [DecidableEq κ]
theorem Uc {k:κ}:∀{m:List (κ×O0)}{es:List MapEntry}{i:Nat},es.map (λe=>(e.key,e.val))=m.map (λp=>(enc p.1,p.2))->O8 m k=none->fnd k (m.map (·.1)) es i=none
 | [],es,i,h,_=>by simp[fnd]
 | (q,u)::m,[],i,h,_=>by simp at h
 | (q,u)::m,e::es,i,h,E=>by
  simp only[oS,List.cons.injEq]at h;simp only[O8]at E;by_cases G:q=k
  ·simp[G]at E
  simp only[G,if_false]at E;simp only[oS,fnd,Ne.symm G,if_false];exact Uc h.2 E
theorem Ub {k:κ}{u:O0}:∀{m:List (κ×O0)}{es:List MapEntry}{i:Nat},es.map (λe=>(e.key,e.val))=m.map (λp=>(enc p.1,p.2))->O8 m k=some u ->
  ∃j,fnd k (m.map (·.1)) es i=some (i+j,u)/\j<es.length/\(∃e,es[j]?=some e/\e.key=enc k) /\
   ∀v,(es.modify j λe=>{ e with key:=enc k,val:=v }).map (λe=>(e.key,e.val))=(O9 m k v).map (λp=>(enc p.1,p.2))
 | [],es,i,_,h=>by simp[O8]at h
 | (q,x)::m,[],i,h,_=>by simp at h
 | (q,x)::m,e::es,i,h,E=>by
  simp only[oS,List.cons.injEq,Prod.mk.injEq]at h;simp only[O8]at E;by_cases G:q=k
  ·subst G;simp at E;subst E;refine⟨0,by simp[fnd,h.1.2],od,⟨e,rfl,h.1.1⟩,λv=>?_⟩;simp[O9,h.2]
  simp only[G,if_false]at E;obtain⟨j,I,U,⟨e',J,S⟩,T⟩:=Ub (i:=i+1) h.2 E;refine⟨j+1,?_,by simp;omega,⟨e',ou J,S⟩,λv=>?_⟩
  ·simp only[oS,fnd,Ne.symm G,if_false,I];congr 2;omega
  simp only[O9,G,if_false,List.modify_succ_cons,oS,T v,h.1]
end
section
variable {K:Fr->OZ->Prop}{f:Fr}{κ:Type}[DecidableEq κ]
omit [DecidableEq κ] in
theorem ZU (enc:κ->O0)
  (hK:∀b w',sW w w'->↑w<=b->ZO enc ↑w' b []->K (QN f d (.map (some b))) w'):XO P ⟨d,.makeMap t none,ty,pS,af,gd⟩ f w K:=by
 have E:(execOp (ev f) ⟨d,.makeMap t none,ty,pS,af,gd⟩).run P w=.ok (.value (.map (some ↑w))) (w.alloc (.map #[] 0)):=by
  simp[execOp,Instr.makeMap]
 exact xv E (hK _ _ (O3.alloc w _) (Lp _) ⟨#[],0,KS w _,O⟩)
theorem XB {b:Nat}{es:Array MapEntry}{c:Nat}(h:w.heap[b]?=some (.map es c)):(getObj b).run P w=.ok (.map es c) w:=by
 simp[getObj,Sem.run,h]
theorem Vj {b:Nat}{es E:Array MapEntry}{c:Nat}(h:w.heap[b]?=some (.map es c)):(setObj b (.map E G)).run P w=.ok () { w with heap:=w.heap.setIfInBounds b (.map E G) }:=by
 simp[setObj,Sem.run,h]
theorem KE [hm:Mp P t kt et z]{enc:κ->O0}[G:jI P kt enc]{x:O1}{b:Nat}{m:List (κ×O0)}{k:κ}(h:ZO enc ↑w b m)(hx:ev f x=.map (some b))(J:ev f y=enc k):
  (execOp (ev f) ⟨d,.lookup t x y true,ty,pS,af,gd⟩).run P w=.ok (.value (match O8 m k with|some u=>.tuple #[u,.bool true]|none=>.tuple #[z,.bool false])) w:=by
 obtain⟨es,c,S,E⟩:=h;have T:(zeroValue et).run P w=.ok z w:=by
  have:=hm.z;cases hi:P.info? et with
  | none=>simp[hi]at this
  | some i=>simp[hi]at this;simp[zeroValue,typeInfo,hi,this]
 simp only[execOp,Sem.run_bind,Instr.lookup,run_underlying hm.u,Result.andThen_ok,hx,J,XB S,Sem.run_pure,G.check,(G.find w k (m.map (·.1)) es.toList (Qap E))];cases I:O8 m k with
 | none=>rw[Uc E I];simp[T]
 | some u =>
  obtain⟨j,U,_⟩:=Ub (i:=0) E I;rw[U];simp
theorem X8 [hm:Mp P t kt et z]{enc:κ->O0}[G:jI P kt enc]{x:O1}{b:Nat}{m:List (κ×O0)}{k:κ}(h:ZO enc ↑w b m)(hx:ev f x=.map (some b))(J:ev f y=enc k):
  (execOp (ev f) ⟨d,.lookup t x y false,ty,pS,af,gd⟩).run P w=.ok (.value (match O8 m k with|some u=>u|none=>z)) w:=by
 obtain⟨es,c,S,E⟩:=h;have T:(zeroValue et).run P w=.ok z w:=by
  have:=hm.z;cases hi:P.info? et with
  | none=>simp[hi]at this
  | some i=>simp[hi]at this;simp[zeroValue,typeInfo,hi,this]
 simp only[execOp,Sem.run_bind,Instr.lookup,run_underlying hm.u,Result.andThen_ok,hx,J,XB S,Sem.run_pure,G.check,(G.find w k (m.map (·.1)) es.toList (Qap E))];cases I:O8 m k with
 | none=>rw[Uc E I];simp[T]
 | some u =>
  obtain⟨j,U,_⟩:=Ub (i:=0) E I;rw[U];simp
theorem q6 [hm:Mp P t kt et z]{enc:κ->O0}[J:jI P kt enc]{b:Nat}{m:List (κ×O0)}{k:κ}{u:O0}(h:ZO enc ↑w b m):
  ∃w',(Instr.mapUpdate t (.map (some b)) (enc k) u).run P w=.ok () w'/\O3 [b] w w'/\ZO enc ↑w' b (O9 m k u):=by
 have hl:=h.lt;obtain⟨es,c,S,G⟩:=h;have E:=J.find w k (m.map (·.1)) es.toList (Qap G);have stp:∀U V,O3 [b] w { w with heap:=w.heap.setIfInBounds b (.map U V) }:=λU V =>
  ⟨rfl,rfl,rfl,od,λi hi Y=>by
   have:b≠i:=λe=>Y (by simp[e]);simp[Array.getElem?_setIfInBounds_ne this]⟩
 cases I:O8 m k with
 | none =>
  rw[Uc G I]at E;refine⟨_,?_,stp (es.push { key:=enc k,val:=u,born:=c }) (c+1),es.push { key:=enc k,val:=u,born:=c },c+1,?_,?_⟩
  ·simp only[Instr.mapUpdate,Sem.run_bind,run_underlying hm.u,Result.andThen_ok,XB S,J.check,E,Vj S]
  ·simp[hl]
  have ha:O9 m k u=m++[(k,u)]:=by
   clear G E;induction m with
   | nil=>rfl
   | cons p m ih =>
    obtain⟨q,x⟩:=p;by_cases T:q=k
    ·simp[O8,T]at I
    simp only[O8,T,if_false]at I;simp[O9,T,ih I]
  simp[ha,G]
 | some u0 =>
  obtain⟨j,hj,hr,⟨e,he,hc⟩,hh⟩:=Ub (i:=0) G I;rw[hj]at E;simp only[oX]at E;have ho:∀w,(Instr.keyThatStays (enc k) (enc k)).run P w=.ok (enc k) w:=λw=>by simp[Instr.keyThatStays,J.same]
  have hp:((es[j]?).map (·.key)).getD (enc k)=enc k:=by
   have:es[j]?=some e:=by simpa using he
   simp[this,hc]
  refine⟨_,?_,stp (es.modify j λe=>{ e with key:=enc k,val:=u }) c,es.modify j λe=>{ e with key:=enc k,val:=u },c,?_,?_⟩
  ·simp only[Instr.mapUpdate,Sem.run_bind,run_underlying hm.u,Result.andThen_ok,XB S,J.check,E,hp,ho,Vj S]
  ·simp[hl]
  rw[Array.toList_modify];exact hh u
theorem YH [hm:Mp P t kt et z]{enc:κ->O0}[hk:jI P kt enc]{x v:O1}{b:Nat}{m:List (κ×O0)}{k:κ}(h:ZO enc ↑w b m)(hx:ev f x=.map (some b))(E:ev f y=enc k)
  (hK:∀w',O3 [b] w w'->ZO enc ↑w' b (O9 m k (ev f v))->K (QN f d undef) w'):XO P ⟨d,.mapUpdate t x y v,ty,pS,af,gd⟩ f w K:=by
 obtain⟨w',G,I,J⟩:=q6 (P:=P) (t:=t) (k:=k) (u:=ev f v) h;exact xk (w':=w') (by simp[execOp,hx,E,G]) (hK w' I J)
theorem Yo [hm:Mp P t kt et z]{enc:κ->O0}[hk:jI P kt enc]{x v:O1}{b:Nat}{m:List (κ×O0)}{k:κ}(h:ZO enc ↑w b m)(hx:ev f x=.map (some b))(E:ev f y=enc k)
  (hK:∀w',O3 [b] w w'->ZO enc ↑w' b (O9 m k (ev f v))->K (QN f d undef) w'):XO P ⟨d,.insert t x y v,ty,pS,af,gd⟩ f w K:=by
 obtain⟨w',G,I,J⟩:=q6 (P:=P) (t:=t) (k:=k) (u:=ev f v) h;exact xk (w':=w') (by simp[execOp,hx,E,G]) (hK w' I J)
end
section
variable {K:Fr->OZ->Prop}{f:Fr}{l:xC}
theorem Jf {b:Nat}{cs E:LV}(h:QK ↑w b T cs):QK (w.setRow b E.toArray).heap b T E:=setRow_heap w b cs.toArray E.toArray T (0,0) h
theorem Vi (cs:LV)(j:Nat)(u:O0)(h:j<cs.length):cs.take j++[u]++cs.drop (j+1)=cs.set j u:=by
 rw[List.set_eq_take_append_cons_drop,OS h];simp
theorem Qv [h1:Xx P t]{x:O1}{b:Nat}{cs:LV}{u:O0}(E:QK ↑w b T cs)(hx:ev f x=.pointer (some ⟨b,j,none⟩))(J:ev f y=u)(S:j<cs.length)(G:u.oneCell'=true)
  (hK:∀w',O3 [b] w w'->QK ↑w' b T (cs.set j u)->K (QN f d undef) w'):XO P ⟨d,.store t x y,ty,pS,af,gd⟩ f w K:=by
 have U:u.cells=#[u]:=by cases u <;> first|rfl|cases G
 have I:=run_storeCells_at P b j T [u] 0 cs.toArray w E (by simp;omega) (by simp[G]);simp only[Ou,oL,Vi cs j u S]at I;refine xk (w':=w.setRow b (cs.set j u).toArray) ?_ (hK _ (O3.setRow _ _ _) (Jf E));simp[execOp,hx,J,Instr.storeAt,Instr.sureAddr,storeVar,qZ,U,I]
def ZK:LV->Prop
 | []=>True
 | u::us=>u.oneCell'=true/\ZK us
theorem ZK.all:∀{us:LV},ZK us->∀u∈us,u.oneCell'=true
 | [],_,u,E=>by cases E
 | v::us,h,u,E=>by
  rcases Ln.1 E with rfl|E
  ·exact h.1
  exact ZK.all h.2 u E
theorem ZJ [h1:Ag P t sz]{x:O1}{b:Nat}{cs us:LV}(E:QK ↑w b T cs)(hx:ev f x=sP b)(I:ev f y=sT us)(hl:us.length=sz)(J:cs.length=sz)(S:ZK us)
  (hK:∀w',O3 [b] w w'->QK ↑w' b T us->K (QN f d undef) w'):XO P ⟨d,.store t x y,ty,pS,af,gd⟩ f w K:=by
 have G:=run_storeCells_at P b 0 T us 0 cs.toArray w E (by simp;omega) S.all;have e:(cs.take 0++us++cs.drop us.length)=us:=by rw[hl,<-J];simp
 simp only[Ou,oX,e]at G;refine xk (w':=w.setRow b us.toArray) ?_ (hK _ (O3.setRow _ _ _) (Jf E));subst hl;simp[execOp,hx,I,Instr.storeAt,Instr.sureAddr,storeVar,Uw (sz:=us.length),Value.cells,G]
theorem QE {x:O1}{e bys:Nat}[h:Sl P t e sz bys z]{b o c:Nat}{k:IntKind}(hx:ev f x=.slice (some ⟨b,o,none⟩) n c)(E:ev f y=.int k i)(G:i<n):
  (execOp (ev f) ⟨d,.indexAddr t x y,ty,pS,af,gd⟩).run P w=.ok (.value (.pointer (some ⟨b,o+i*sz,none⟩))) w:=by
 have:=XC (P:=P) (w:=w) (d:=d) (ty:=ty) (pS:=pS) (af:=af) (gd:=gd) (t:=t) hx E oa oa;rw[XK]at this;simpa using this
theorem Qk8 {e bys:Nat}[h:Sl P t e sz bys z]{x:O1}{k:IntKind}(hx:ev f x=.int k n)(J:ev f y=.int k' n)(S:bys*n<=281474976710656)(hn:n<=1099511627776)
  (hK:∀b w',sW w w'->↑w<=b->QK ↑w' b e (oG n z.cells.toList).flatten->K (QN f d (sL b n n)) w'):
  XO P ⟨d,.makeSlice t x y,ty,pS,af,gd⟩ f w K:=by
 obtain⟨i,hi,T,U,V⟩:=Sl.info h;have hb:i.bytes*n<=281474976710656:=by rw[V];exact S
 have Y:(i.bytes:Int)*(n:Int)<=281474976710656:=by
  have h:((i.bytes*n:Nat):Int)<=281474976710656:=oa
  rwa [Int.natCast_mul]at h
 have G:=run_make (P:=P) w t e i z h.u hi T k k' n n oa (Mx _) Y oa;simp only[Ov]at G;have ha:madeCells z.cells (n*i.size)=(oG n z.cells.toList).flatten.toArray:=by
  have hc:z.cells.size=i.size:=by rw[h.zs,U]
  apply Array.ext';apply Nj;intro j;simp only[madeCells,<-hc,Array.toList_map,Array.toList_range,List.getElem?_map];have he:∀n,(oG n z.cells.toList).flatten.length=n*z.cells.size:=λn=>od
  have key:∀n j,j<n*z.cells.size->(oG n z.cells.toList).flatten[j]?=some z.cells[j % z.cells.size]!:=by
   intro n;induction n with
   | zero=>intro j E;omega
   | succ n ih =>
    intro j E;rw[List.replicate_succ,List.flatten_cons];by_cases I:j<z.cells.size
    ·rw[LY (ou I),NG I];simp[I]
    rw[Mk (by simp;omega)];have:=ih (j - z.cells.size) (by rw[Mw]at E;omega);rw[Array.length_toList,this];rw[<-Nat.mod_eq_sub_mod oa]
  by_cases E:j<n*z.cells.size
  ·rw[key n j E];simp[E]
  rw[Mm (ou (Nat.le_of_not_lt E)),List.getElem?_eq_none (by rw[he];omega)];rfl
 rw[ha]at G;refine xv (w':=w.alloc (.cells (oG n z.cells.toList).flatten.toArray e)) (v:=.slice (some ⟨↑w,0,none⟩) n n) ?_ (hK _ _ (O3.alloc w _) (Lp _) (KS w _));simp[execOp,hx,J,G]
theorem YS {e bys:Nat}[h:Sl P t e sz bys z]{x:O1}{k:IntKind}(hx:ev f x=.int k n)(G:ev f y=.int k' n)(E:n<=1099511627776)
  (hK:∀b w',sW w w'->↑w<=b->QK ↑w' b e (oG n z.cells.toList).flatten->K (QN f d (sL b n n)) w') (I:bys<=128:=by decide):
  XO P ⟨d,.makeSlice t x y,ty,pS,af,gd⟩ f w K:=Qk8 hx G (Lx (NF I E) oa) E hK
theorem Yr {k:IntKind}{y:Nat}{c:BoundsCode}(h:i<=y):(Instr.sliceBound (.int k i) y c).run P w=.ok i w:=by
 simp[Instr.sliceBound,asIntOf,h]
theorem Zs.cut {L:LN}{H:xz}{a:Addr}{cap:Nat}{cs:LV}(h:Zs L H (.slice (some a) n cap) n sz cs)(T:lo<=hi)(U:hi<=n):
  Zs L H (.slice (if cap=lo then some a else some (a.add (lo*sz))) (hi - lo) (cap - lo)) (hi - lo) sz ((cs.drop (lo*sz)).take ((hi - lo)*sz)):=by
 obtain⟨J,V,S⟩:=h;rcases S with⟨G,_⟩|⟨a',cap',G,Y,I⟩
 ·cases G
 cases G
 refine⟨?_,oa,.inr ?_⟩
 ·simp only[OE,OD,J,<-Nat.sub_mul];rw[MX];exact MN _ oa
 split
 ·rename_i hc;have:hi - lo=0:=oa
  refine⟨a,cap - lo,by rw[this],oa,λu E=>?_,λu E=>?_,λj u E=>?_⟩
  ·simp[this]at E
  ·simp[this]at E
  simp[this]at E
 refine⟨a.add (lo*sz),cap - lo,O,oa,λu E=>by rw[Yv];exact I.out u (MP (L2 E)),λu E=>by rw[Yv];exact I.lt u (MP (L2 E)),λj u E=>?_⟩;rw[Addr.add_add];rw[LZ]at E;split at E
 ·exact I.cell _ u (ou E)
 cases E
theorem Qem {e bys:Nat}[h:Sl P t e sz bys z]{x y1 y2:O1}{L:LN}{v:O0}{cs:LV}{H:xz}{k:IntKind}(hA:Zs L H v n sz cs)(hx:ev f x=v)(hl:ev f y1=.int k lo)(G:ev f y2=.int k' hi)
  (I:lo<=hi) (J:hi<=n):∃v',Zs L H v' (hi - lo) sz ((cs.drop (lo*sz)).take ((hi - lo)*sz))/\∀w,(execOp (ev f) ⟨d,.slice t x (some y1) (some y2) none,ty,pS,af,gd⟩).run P w=.ok (.value v') w:=by
 obtain⟨i,hi',_,S,_⟩:=Sl.info h;rcases hA.2.2 with⟨E,T⟩|⟨a,cap,E,U,V⟩
 ·have e1:hi=0:=oa
  have e2:lo=0:=oa
  subst e1 e2;refine⟨nS,⟨od,oa,.inl ⟨rfl,rfl⟩⟩,λw=>?_⟩;simp[execOp,hx,E,hl,G,Instr.sliceAt,Instr.slice,run_underlying h.u,Instr.sliceBounds,Instr.sliceBound,asIntOf,sizeOf,typeInfo,hi']
 subst E;refine⟨_,hA.cut I J,λw=>?_⟩;have e1:(Instr.sliceBound (.int k' hi) cap .sliceAcap).run P w=.ok hi w:=Yr oa;have e2:(Instr.sliceBound (.int k lo) hi .sliceB).run P w=.ok lo w:=Yr oa;simp[execOp,hx,hl,G,Instr.sliceAt,Instr.slice,run_underlying h.u,Instr.sliceBounds,e1,e2,sizeOf,typeInfo,hi',S]
theorem Qhn {e bys:Nat}[h:Sl P t e sz bys z]{x y1:O1}{L:LN}{v:O0}{cs:LV}{H:xz}{k:IntKind}(hA:Zs L H v n sz cs)(hx:ev f x=v)(hl:ev f y1=.int k lo)
  (G:lo<=n):∃v',Zs L H v' (n - lo) sz (cs.drop (lo*sz))/\∀w,(execOp (ev f) ⟨d,.slice t x (some y1) none none,ty,pS,af,gd⟩).run P w=.ok (.value v') w:=by
 obtain⟨i,hi',_,J,_⟩:=Sl.info h;rcases hA.2.2 with⟨E,S⟩|⟨a,cap,E,T,U⟩
 ·have e2:lo=0:=oa
  subst e2 S;have:cs=[]:=Ls (ou hA.1);subst this;refine⟨nS,⟨od,oa,.inl ⟨rfl,rfl⟩⟩,λw=>?_⟩;simp[execOp,hx,E,hl,Instr.sliceAt,Instr.slice,run_underlying h.u,Instr.sliceBounds,Instr.sliceBound,asIntOf,sizeOf,typeInfo,hi']
 subst E;have I:=hA.cut G (Lp n);have e:(cs.drop (lo*sz)).take ((n - lo)*sz)=cs.drop (lo*sz):=Lq (by rw[Ml,hA.1,<-Nat.sub_mul];exact Lp _);rw[e]at I;refine⟨_,I,λw=>?_⟩;have e2:(Instr.sliceBound (.int k lo) n .sliceB).run P w=.ok lo w:=Yr G;simp[execOp,hx,hl,Instr.sliceAt,Instr.slice,run_underlying h.u,Instr.sliceBounds,e2,sizeOf,typeInfo,hi',J]
theorem Qho {e bys:Nat}[h:Sl P t e sz bys z]{x y2:O1}{L:LN}{v:O0}{cs:LV}{H:xz}{k:IntKind}(hA:Zs L H v n sz cs)(hx:ev f x=v)(G:ev f y2=.int k hi)
  (J:hi<=n):∃v',Zs L H v' hi sz (cs.take (hi*sz))/\∀w,(execOp (ev f) ⟨d,.slice t x none (some y2) none,ty,pS,af,gd⟩).run P w=.ok (.value v') w:=by
 obtain⟨i,hi',_,S,_⟩:=Sl.info h;rcases hA.2.2 with⟨E,T⟩|⟨a,cap,E,U,V⟩
 ·have e2:hi=0:=oa
  subst e2;refine⟨nS,⟨od,oa,.inl ⟨rfl,rfl⟩⟩,λw=>?_⟩;simp[execOp,hx,E,G,Instr.sliceAt,Instr.slice,run_underlying h.u,Instr.sliceBounds,Instr.sliceBound,asIntOf,sizeOf,typeInfo,hi']
 subst E;have I:=hA.cut (Lo hi) J;simp only[Nat.zero_mul,List.drop_zero,OL]at I;refine⟨_,I,λw=>?_⟩;have e2:(Instr.sliceBound (.int k hi) cap .sliceAcap).run P w=.ok hi w:=Yr oa;simp[execOp,hx,G,Instr.sliceAt,Instr.slice,run_underlying h.u,Instr.sliceBounds,e2,sizeOf,typeInfo,hi']
end
section
variable {K:Fr->OZ->Prop}{C:xx}{f:Fr}{w0:OZ}{pl:xq}{i0:Nat}
theorem pi {x:O1}{e bys:Nat}[Sl P t e sz bys z]{L:LN}{cs:LV}{v:O0}{H:xz}{k:IntKind}
  (E:QR ops i0=⟨d,.indexAddr t x y,ty,pS,af,gd⟩) (h:Zs L H v n sz cs) (G:ev f x=v) (I:ev f y=.int k i) (hi:i<n)
  (hK:∀a,At L H a ((cs.drop (i*sz)).take sz)->XP P ops C K pl (QN f d (.pointer (some a))) w) (J:Z1 ops f (QR ops i0)=true:=by rfl):
  XP P ops C K ((i0,true)::pl) f w:=by
 obtain⟨a,cap,S,T⟩:=h.at hi;refine Lg.p (λw'=>by rw[E];exact XC (G.D S) I oa oa) ?_ J;rw[E];refine hK _ ?_;simpa using T
theorem pii {x:O1}{e bys:Nat}[Sl P t e 1 bys z]{L:LN}{li:LI}{v:O0}{H:xz}{k:IntKind}
  (E:QR ops i0=⟨d,.indexAddr t x y,ty,pS,af,gd⟩) (h:Qu L H v li) (G:ev f x=v) (I:ev f y=.int k i) (hi:i<li.length)
  (hK:∀a,At L H a [sS li[i]]->XP P ops C K pl (QN f d (.pointer (some a))) w) (J:Z1 ops f (QR ops i0)=true:=by rfl):
  XP P ops C K ((i0,true)::pl) f w:=by
 obtain⟨a,cap,S,T⟩:=Qu.at h hi;refine Lg.p (λw'=>by rw[E];exact XC (G.D S) I oa oa) ?_ J;rw[E];refine hK _ ?_;simpa using T
end
abbrev Ed:=Int×Int×Int
def Qp (e:Ed):LV:=[sS e.1,sS e.2.1,sS e.2.2]
abbrev Uq (L:LN)(H:xz)(v:O0)(es:List Ed):Prop:=Zs L H v es.length 3 (es.flatMap Qp)
theorem X5 {α:Type}(g:α->LV)(sz:Nat)(E:∀x,(g x).length=sz):∀(l:List α) (i:Nat) (h:i<l.length),((l.flatMap g).drop (i*sz)).take sz=g l[i]
 | x::l,0,_=>by simp[E]
 | x::l,i+1,h=>by
  have:=X5 g sz E l i (ou h);simp only[oT,List.getElem_cons_succ];rw[<-this,Mw,NH,MS,List.drop_append,E];simp[Nat.add_sub_cancel_left,List.drop_eq_nil_of_le,E]
theorem KP (g:α->LV)(sz:Nat)(E:∀x,(g x).length=sz)(l:List α):(l.flatMap g).length=l.length*sz:=by
 induction l with
 | nil=>simp
 | cons x l ih=>simp[ih,E,On,Nat.add_comm]
theorem JD (e:Ed):(Qp e).length=3:=rfl
structure QD where
 al:LI
 st:Int
 mr:LI
 ed:List Ed
structure Zp (L:LN)(H:xz)(va vm ve:O0)(a:QD):Prop where
 al:Qu L H va a.al
 mr:Qu L H vm a.mr
 ed:Uq L H ve a.ed
def Qri (L:LN)(H:xz)(v:O0)(a:QD):Prop:=∃va vm ve,v=.agg #[va,sS a.st,vm,ve]/\Zp L H va vm ve a
theorem Zp.I {L:LN}{w w':OZ}{va vm ve:O0}{a:QD}(h:Zp L ↑w va vm ve a)(E:sW w w'):Zp L ↑w' va vm ve a:=⟨h.al.I E,h.mr.I E,h.ed.I E⟩
theorem Zp.st {L:LN}{w w':OZ}{va vm ve:O0}{a:QD}(h:Zp L ↑w va vm ve a)(E:O3 L w w'):Zp L ↑w' va vm ve a:=⟨h.al.st E,h.mr.st E,h.ed.st E⟩
theorem Zp.up {L L':LN}{H:xz}{va vm ve:O0}{a:QD}(h:Zp L H va vm ve a)(E:∀b∈L',b∈L\/H.size<=b):Zp L' H va vm ve a:=⟨h.al.up E,h.mr.up E,h.ed.up E⟩
section
variable {f:Fr}
class Ik (P:O2)(t:Nat)(k:outParam IntKind):Prop where
 u:P.underlying t=some (.int k):=by first|kernel_rfl|decide|rfl|exact sX (by kernel_rfl)
theorem Yc {k:IntKind}[h:Ik P t k][h':Ik P E k']{x:O1}{n:Int}{G:IntKind}(hx:ev f x=.int G n)(I:inK k' n):
  (execOp (ev f) ⟨d,.convert t E x,ty,pS,af,gd⟩).run P w=.ok (.value (.int k' n)) w:=by
 simp[execOp,hx,convert,run_underlying h.u,run_underlying h'.u,Conv.intToInt,Xz I]
theorem Qpk {x:O1}{a b:Int}{k:IntKind}{ts:Array Nat}(hx:ev f x=.int k a)(E:ev f y=.int k b):
  (execOp (ev f) ⟨d,.call ⟨.builtin .max,#[x,y],ts⟩,ty,pS,af,gd⟩).run P w=.ok (.value (.int k (max a b))) w:=by
 simp[execOp,resolve,invoke,builtin,Builtin.max_,Builtin.max2,hx,E];split <;> omega
class Bk (P:O2)(t:Nat):Prop where
 u:P.underlying t=some .bool
class St (P:O2)(t:Nat):Prop where
 u:P.underlying t=some .string
theorem Xp [h:Bk P t]{x:O1}{a b:Bool}(hx:ev f x=.bool a)(G:ev f y=.bool b):
  (execOp (ev f) ⟨d,.binOp .eql t x y E,ty,pS,af,gd⟩).run P w=.ok (.value (.bool (a == b))) w:=by
 have I:(eqGuard .eql t x y (.bool a) (.bool b)).run P w=.ok () w:=by simp[eqGuard]
 simp[execOp,hx,G,I,run_eql_bool (P:=P) (w:=w) t a b h.u]
end
theorem QY {l:List α}{k:Nat}(h:k<l.length):l.drop k=l[k]::l.drop (k+1):=L6 h
theorem Uq.at {L:LN}{H:xz}{v:O0}{es:List Ed}(h:Uq L H v es){i:Nat}(hi:i<es.length):
  ∃a cap,v=.slice (some a) es.length cap/\At L H (a.add (i*3)) (Qp es[i]):=by
 obtain⟨a,cap,G,E⟩:=Zs.at h hi;rw[X5 Qp 3 JD es i hi]at E;exact⟨a,cap,G,E⟩
section
variable {K:Fr->OZ->Prop}{f:Fr}{l:xC}{C:xx}{pl:xq}{i0:Nat}
theorem xie {x:O1}{e bys:Nat}[Sl P t e 3 bys z]{L:LN}{es:List Ed}{v:O0}{k:IntKind}
  (h:Uq L ↑w v es) (E:ev f x=v) (G:ev f y=.int k i) (hi:i<es.length)
  (hK:∀a,At L ↑w a (Qp es[i])->XL P ops K l (QN f d (.pointer (some a))) w) (I:Z1 ops f ⟨d,.indexAddr t x y,ty,pS,af,gd⟩=true:=by rfl):
  XL P ops K (⟨d,.indexAddr t x y,ty,pS,af,gd⟩::l) f w:=by
 obtain⟨a,cap,J,S⟩:=Uq.at h hi;refine xl I (xv (XC (E.D J) G oa oa) (hK _ ?_));simpa using S
theorem pie {x:O1}{e bys:Nat}[Sl P t e 3 bys z]{L:LN}{es:List Ed}{v:O0}{H:xz}{k:IntKind}
  (E:QR ops i0=⟨d,.indexAddr t x y,ty,pS,af,gd⟩) (h:Uq L H v es) (G:ev f x=v) (I:ev f y=.int k i) (hi:i<es.length)
  (hK:∀a,At L H a (Qp es[i])->XP P ops C K pl (QN f d (.pointer (some a))) w) (J:Z1 ops f (QR ops i0)=true:=by rfl):
  XP P ops C K ((i0,true)::pl) f w:=by
 obtain⟨a,cap,S,T⟩:=Uq.at h hi;refine Lg.p (λw'=>by rw[E];exact XC (G.D S) I oa oa) ?_ J;rw[E];refine hK _ ?_;simpa using T
end
section
variable {f:Fr}
theorem Qbu {x:O1}{k:IntKind}{a:Int}(hx:ev f x=.int k a)(G:ev f y=.int k' n)(I:n<=k.bits):
  (execOp (ev f) ⟨d,.binOp .shr t x y E,ty,pS,af,gd⟩).run P w=.ok (.value (.int k (a / 2 ^ n))) w:=by
 refine JU hx G ?_;have J:¬((n:Int)<0):=oa
 simp only[binOp,Op.shift,J,if_false,Ov,Nat.min_eq_left I,Sem.run_pure];rw[Int.fdiv_eq_ediv_of_nonneg _ (Int.le_of_lt (Int.pow_pos og))]
class S3 (P:O2)(t:Nat):Prop where
 u:∃f0 f1 f2,P.underlying t=some (.struct #[f0,f1,f2])/\f0.name ≠ "_" /\ f1.name ≠ "_" /\ f2.name ≠ "_" /\ f0.offset=0/\f1.offset=1/\f2.offset=2 /\
  P.underlying f0.type=some (.int .i64)/\P.underlying f1.type=some (.int .i64)/\P.underlying f2.type=some (.int .i64)
 s:P.stoodInHeld t=false
 g:P.eqGuardType P.depth t=false
end
theorem O3.Q {L:LN}{w0:OZ}{b:Nat}(h:O3 L w0 w)(k:O3 [b] w w')(hb:↑w0<=b):O3 L w0 w':=h.O k (λc E=>.inr (by simp at E;omega))
section
variable {K:Fr->OZ->Prop}{f:Fr}
theorem QkM {e bys:Nat}[h:Sl P t e sz bys z]{x:O1}{a:Option Addr}{c:Nat}(hx:ev f x=.slice a n c)(G:ev f y=nS):
  (execOp (ev f) ⟨d,.binOp .eql t x y E,ty,pS,af,gd⟩).run P w=.ok (.value (.bool a.isNone)) w:=by
 have I:(eqGuard .eql t x y (.slice a n c) (nS)).run P w=.ok () w:=by simp[eqGuard]
 have key:∀m,(Op.equalIn (m+1) t (.slice a n c) (nS)).run P w=.ok a.isNone w:=by
  intro m;unfold Op.equalIn;cases a <;> simp[run_underlying h.u]
 have J:(Op.equal t (.slice a n c) (nS)).run P w=.ok a.isNone w:=key 9999;simp only[execOp,hx,G,Sem.run_bind,I,Result.andThen_ok,binOp,J,Sem.run_pure]
theorem Qdc {e bys:Nat}[h:Sl P t e sz bys z]
  (hK:∀b w',sW w w'->↑w<=b->QK ↑w' b e []->K (QN f d (sL b 0 0)) w'):XO P ⟨d,.buildSlice t 0 #[],ty,pS,af,gd⟩ f w K:=by
 obtain⟨ie,E,I,J,_⟩:=Sl.info h;have G:(execOp (ev f) ⟨d,.buildSlice t 0 #[],ty,pS,af,gd⟩).run P w=.ok (.value (.slice (some ⟨↑w,0,none⟩) 0 0)) (w.alloc (.cells #[] e)):=by
  simp[execOp,Instr.buildSlice,run_underlying h.u,sizeOf,typeInfo,E,Instr.fill,newRow];have e0:Array.map (λ_=>(default:O0)) (Array.range 0)=#[]:=by apply Array.ext';simp
  rw[e0]
 exact xv G (hK _ _ (O3.alloc w _) (Lp _) (KS w _))
end
abbrev Qh (e base:Nat)(w:OZ)(v:O0)(l:LI):Prop:=w.ownsRow base e 1 v l.length (l.map (.int .i64))
theorem Qh.ints {e:Nat}{v:O0}{l:LI}{L:LN}(h:Qh e base w v l)(E:l.length<=1099511627776)(G:∀b∈L,b<base):Qu L ↑w v l :=
 QM h E (λb hb I=>oq (Qi h b hb).1 (G b I))
theorem VW (l:LI):∀u∈l.map (Value.int .i64),u.oneCell'=true:=by
 intro u E;obtain⟨n,_,rfl⟩:=Ly.1 E;rfl
section
variable {P:O2}{ops:xC}{K:Fr->OZ->Prop}{f:Fr}{w:OZ}{d:xD}{ty:Nat}{pS:String}{af:xA}{gd:xp}{l:xC}{C:xx}{pl:xq}{i0:Nat}
 {t e sz bys:Nat} {z:O0} {x y1 y2:O1} {L:LN} {v:O0} {n:Nat} {cs:LV} {H:xz} {k k':IntKind} {lo hi:Nat}
theorem Qnn [h:Sl P t e sz bys z](E:QR ops i0=⟨d,.slice t x (some y1) none none,ty,pS,af,gd⟩)(hA:Zs L H v n sz cs)(hx:ev f x=v)(hl:ev f y1=.int k lo)(G:lo<=n)(hK:∀v',Zs L H v' (n - lo) sz (cs.drop (lo*sz))->XP P ops C K pl (QN f d v') w)
  (I:Z1 ops f (QR ops i0)=true:=by rfl):XP P ops C K ((i0,true)::pl) f w:=by
 obtain⟨v',J,S⟩:=Qhn (P:=P) (d:=d) (ty:=ty) (pS:=pS) (af:=af) (gd:=gd) (t:=t) hA hx hl G;exact Lg.p (λw'=>by rw[E];exact S w') (by rw[E];exact hK v' J) I
theorem Qqx [h:Sl P t e sz bys z](hA:Zs L H v n sz cs)(hx:ev f x=v)(hl:ev f y1=.int k lo)(E:ev f y2=.int k' hi)(G:lo<=hi)(I:hi<=n)(hK:∀v',Zs L H v' (hi - lo) sz ((cs.drop (lo*sz)).take ((hi - lo)*sz))->XL P ops K l (QN f d v') w)
  (J:Z1 ops f ⟨d,.slice t x (some y1) (some y2) none,ty,pS,af,gd⟩=true:=by rfl):XL P ops K (⟨d,.slice t x (some y1) (some y2) none,ty,pS,af,gd⟩::l) f w:=by
 obtain⟨v',S,T⟩:=Qem (P:=P) (d:=d) (ty:=ty) (pS:=pS) (af:=af) (gd:=gd) (t:=t) hA hx hl E G I;exact xl J (xv (T w) (hK v' S))
theorem Qm0 [h:Sl P t e sz bys z](hA:Zs L H v n sz cs)(hx:ev f x=v)(E:ev f y2=.int k hi)(G:hi<=n)(hK:∀v',Zs L H v' hi sz (cs.take (hi*sz))->XL P ops K l (QN f d v') w)
  (I:Z1 ops f ⟨d,.slice t x none (some y2) none,ty,pS,af,gd⟩=true:=by rfl):XL P ops K (⟨d,.slice t x none (some y2) none,ty,pS,af,gd⟩::l) f w:=by
 obtain⟨v',J,S⟩:=Qho (P:=P) (d:=d) (ty:=ty) (pS:=pS) (af:=af) (gd:=gd) (t:=t) hA hx E G;exact xl I (xv (S w) (hK v' J))
end
theorem Qu.drop {L:LN}{H:xz}{v:O0}{l:LI}{lo:Nat}(h:Zs L H v (l.length - lo) 1 ((l.map (Value.int .i64)).drop (lo*1))):Qu L H v (l.drop lo):=by
 rw[OO,<-List.map_drop]at h;have e:(l.drop lo).length=l.length - lo:=Ml;unfold Qu;rw[e];exact h
theorem Qh.snoc {e:Nat}{v:O0}{l:LI}{n:Int}(h:w.ownsRow base e 1 v (l.length+1) (l.map (Value.int .i64)++[sS n])):Qh e base w v (l++[n]):=by
 unfold Qh;rw[Lc,Lv];exact h
def Dj (u v:O0):Prop:=∀b∈ob u,b∉ob v
theorem Dj.symm {u v:O0}(h:Dj u v):Dj v u:=λb hb E=>h b E hb
theorem Dj.nil (v:O0):Dj (nS) v:=λb hb=>by simp[ob]at hb
theorem Dj.nil' (v:O0):Dj v (nS):=(Dj.nil v).symm
theorem Dj.grow {u v:O0}(h:Dj u v)(G:∀b∈ob v',b∈ob v\/N<=b)(I:∀b∈ob u,b<N):Dj u v' :=
 λb hb J=>by rcases G b J with E|E;exact h b hb E;have:=I b hb;omega
theorem QU {e:Nat}{v:O0}{cs:LV}(h:w.ownsRow base e sz v n cs):∀b∈ob v,b<w.heap.size:=λb hb=>(Qi h b hb).2
theorem QJ {e:Nat}{v:O0}{cs:LV}(h:w.ownsRow base e sz v n cs){b:Nat}(hb:b<base):b∉ob v:=λE=>oo (Qi h b E).1
abbrev Z8 (e base:Nat)(w:OZ)(v:O0)(l:List Ed):Prop:=w.ownsRow base e 3 v l.length (l.flatMap Qp)
theorem Z8.snoc {e:Nat}{v:O0}{l:List Ed}{n:Ed}(h:w.ownsRow base e 3 v (l.length+1) (l.flatMap Qp++Qp n)):Z8 e base w v (l++[n]):=by
 unfold Z8;rw[Lc,LD];simpa using h
theorem Z8.eds {e:Nat}{v:O0}{l:List Ed}{L:LN}(h:Z8 e base w v l)(E:l.length<=1099511627776)(G:∀b∈L,b<base):Uq L ↑w v l :=
 QM h E (λb hb I=>oq (Qi h b hb).1 (G b I))
def Y5 (N:Nat)(H:xz)(v:O0)(a:QD):Prop:=∃va vm ve,v=.agg #[va,sS a.st,vm,ve]/\∀L:LN,(∀b∈L,b<N)->Zp L H va vm ve a
theorem Y5.v {N:Nat}{H:xz}{v:O0}{a:QD}(h:Y5 N H v a){L:LN}(E:∀b∈L,b<N):Qri L H v a:=let⟨va,vm,ve,G,I⟩:=h;⟨va,vm,ve,G,I L E⟩
theorem Y5.I {N:Nat}{w w':OZ}{v:O0}{a:QD}(h:Y5 N ↑w v a)(E:sW w w'):Y5 N ↑w' v a:=let⟨va,vm,ve,G,I⟩:=h;⟨va,vm,ve,G,λL J=>(I L J).I E⟩
theorem Y5.S {M:Nat}{H:xz}{v:O0}{a:QD}(h:Y5 N H v a)(E:M<=N):Y5 M H v a:=let⟨va,vm,ve,G,I⟩:=h;⟨va,vm,ve,G,λL J=>I L (λb hb=>LQ (J b hb) E)⟩
section
variable {K:Fr->OZ->Prop}{f:Fr}
theorem qC [Xx P t]{x:O1}{b:Nat}{l:LI}(h:QK ↑w b T (l.map (.int .i64)))(hx:ev f x=.pointer (some ⟨b,0+i*1,none⟩))(hi:i<l.length):
  (execOp (ev f) ⟨d,.load t x,ty,pS,af,gd⟩).run P w=.ok (.value (sS l[i])) w:=Qj h hx (by simp[hi])
theorem JX [h1:Xx P t]{x:O1}{b:Nat}{l:LI}{u:Int}(E:QK ↑w b T (l.map (.int .i64)))(hx:ev f x=.pointer (some ⟨b,0+i*1,none⟩))(G:ev f y=sS u)(hi:i<l.length)
  (hK:∀w',O3 [b] w w'->QK ↑w' b T ((l.set i u).map (.int .i64))->K (QN f d undef) w'):XO P ⟨d,.store t x y,ty,pS,af,gd⟩ f w K:=by
 refine Qv E hx G (ou hi) rfl λw' I J=>hK w' I ?_;rw[Nw];simpa using J
end
theorem Qbs (n:Nat)(u:O0):(oG n [u]).flatten=oG n u:=by
 induction n with
 | zero=>rfl
 | succ n ih=>simp[List.replicate_succ,ih]
section
variable {K:Fr->OZ->Prop}{f:Fr}{l:xC}
theorem Q5 [Ag P t sz]{E G:O1}{b:Nat}{cs:LV}(us:LV)(I:QK ↑w b T cs)(J:ZK us)(hK:∀w',O3 [b] w w'->QK ↑w' b T us->XL P ops K l (QN f d undef) w')(hx:ev f E=sP b:=by rfl)(S:ev f G=sT us:=by rfl)(hl:us.length=sz:=by rfl)(U:cs.length=sz:=by rfl)(V:Z1 ops f ⟨d,.store t E G,ty,pS,af,gd⟩=true:=by rfl):XL P ops K (⟨d,.store t E G,ty,pS,af,gd⟩::l) f w:=xl V (ZJ I hx S hl U J hK)
theorem QT [Ze P t z](us:LV)(hK:∀b w',sW w w'->↑w<=b->QK ↑w' b t us->XL P ops K l (QN f d (sP b)) w')(E:z.cells=us.toArray:=by rfl)(G:Z1 ops f ⟨d,.alloc t,ty,pS,af,gd⟩=true:=by rfl):XL P ops K (⟨d,.alloc t,ty,pS,af,gd⟩::l) f w:=xl G (YN E hK)
theorem JN {ad b:Nat}{us:LV}[Ag P t sz](E:QK ↑w b T us)(G:f ad=sP b:=by rfl)(I:us.length=sz:=by rfl):∃a,f ad=.pointer (some a)/\(loadVar t a).run P w=.ok (sT us) w:=⟨_,G,Z4 I (E.at (L:=[]) od).cells⟩
theorem UG {K:Fr->OZ->Prop}[Ag P t sz]{E G:O1}{b:Nat}{cs:LV}(us:LV)(I:QK ↑w b T cs)(J:ZK us)(hK:∀w',O3 [b] w w'->QK ↑w' b T us->K (QN f d undef) w')(hx:ev f E=sP b:=by rfl)(S:ev f G=sT us:=by rfl)(hl:us.length=sz:=by rfl)(U:cs.length=sz:=by rfl):XO P ⟨d,.store t E G,ty,pS,af,gd⟩ f w K:=ZJ I hx S hl U J hK
end
abbrev Yw (l:LI):Prop:=l.Pairwise (·<·)
def zu:Option Int->Int->Bool
 | none,_=>false
 | some b,a=>decide (a<=b)
def JO (n:Int):Option Int->LI->Int
 | _,[]=>0
 | pr,a::l=>if a<0\/n<=a then 2 else if zu pr a=true then 5 else JO n (some a) l
def pv {α:Type}(l:List α)(k:Nat):Option α:=if k=0 then none else l[k - 1]?
theorem Ke {l:List α}{k:Nat}(h:k<l.length):pv l (k+1)=some l[k]:=by simp[pv,h]
def edO:Option Ed->Ed->Bool
 | none,_=>false
 | some y,a=>decide (a.1<y.1\/(a.1=y.1/\a.2.1<=y.2.1))
def ckE (al:LI)(st:Int):Option Ed->List Ed->Int
 | _,[]=>0
 | pr,a::l=>if a.1<0\/st<=a.1\/a.2.2<0\/st<=a.2.2 then 2 else if a.2.1∉al then 9 else if edO pr a=true then 5 else ckE al st (some a) l
def XX (a:QD):Int :=
 if JO 32 none a.al≠0 then JO 32 none a.al else if a.st<0 then 2 else if 4096<a.st then 3 else if JO a.st none a.mr≠0 then JO a.st none a.mr else ckE a.al a.st none a.ed
def X3:LI->LI->Bool
 | [],_=>false
 | _::_,[]=>true
 | a::_,b::_=>decide (a<=b)
def tl (c:Bool)(l:LI):LI:=bif c then l.tail else l
def hx (a b:LI):Int:=bif X3 b a then b.headD 0 else a.headD 0
def yw (keep:Bool->Bool->Bool):Nat->LI->LI->LI
 | 0,_,_=>[]
 | n+1,a,b=>if a=[]/\b=[]then[]else(bif keep (X3 a b) (X3 b a) then[hx a b]else[])++yw keep n (tl (X3 a b) a) (tl (X3 b a) b)
def mrg (keep:Bool->Bool->Bool)(a b:LI):LI:=yw keep (a.length+b.length) a b
theorem zC {a b:LI}(h:¬(a=[]/\b=[])):(tl (X3 a b) a).length+(tl (X3 b a) b).length<a.length+b.length:=by
 cases a with
 | nil=>cases b with
  | nil=>simp at h
  | cons y b=>simp[X3,tl]
 | cons x a=>cases b with
  | nil=>simp[X3,tl]
  | cons y b =>
   simp only[X3,tl];by_cases E:x<=y <;> by_cases G:y<=x <;> simp[E,G] <;> omega
theorem ja (keep:Bool->Bool->Bool):∀(n:Nat) (a b:LI),a.length+b.length<=n->yw keep n a b=mrg keep a b:=by
 have key:∀(n m:Nat) (a b:LI),a.length+b.length<=n->a.length+b.length<=m->yw keep n a b=yw keep m a b:=by
  intro n;induction n with
  | zero =>
   intro m a b E _;have G:a=[]:=Ls oa;have hb:b=[]:=Ls oa;subst G hb;cases m <;> simp[yw]
  | succ n ih =>
   intro m a b E I;by_cases h:a=[]/\b=[]
   ·obtain⟨rfl,rfl⟩:=h;cases m <;> simp[yw]
   have J:=zC h;cases m with
   | zero=>omega
   | succ m=>rw[yw,yw,OR h,OR h,ih m _ _ oa oa]
 intro n a b h;exact key n _ a b h (Lp _)
theorem Kh (keep:Bool->Bool->Bool):mrg keep [] []=[]:=rfl
theorem J0 (keep:Bool->Bool->Bool){a b:LI}(h:¬(a=[]/\b=[])):
  mrg keep a b=(bif keep (X3 a b) (X3 b a) then[hx a b]else[])++mrg keep (tl (X3 a b) a) (tl (X3 b a) b):=by
 have E:=zC h;rw[<-ja keep (a.length+b.length - 1+1) a b oa,yw,OR h,ja keep _ _ _ oa]
theorem Qde (keep:Bool->Bool->Bool):∀(n:Nat) (a b:LI),a.length+b.length<=n->(mrg keep a b).length<=a.length+b.length:=by
 intro n;induction n with
 | zero =>
  intro a b h;have E:a=[]:=Ls oa;have hb:b=[]:=Ls oa;subst E hb;simp[Kh]
 | succ n ih =>
  intro a b G;by_cases h:a=[]/\b=[]
  ·obtain⟨rfl,rfl⟩:=h;simp[Kh]
  have I:=zC h;rw[J0 keep h];have:=ih (tl (X3 a b) a) (tl (X3 b a) b) oa;cases keep (X3 a b) (X3 b a) <;> simp <;> omega
theorem qF (keep:Bool->Bool->Bool)(a b:LI):(mrg keep a b).length<=a.length+b.length:=Qde keep _ a b (Lp _)
theorem zT (q:α->Bool)(es:List α)(lo hi:Nat)(S:lo<=hi)(T:hi<=es.length)(I:∀m (E:m<es.length),m<lo->q es[m]=false)(hb:∀m (E:m<es.length),lo<=m->m<hi->q es[m]=true)
  (J:∀m (E:m<es.length),hi<=m->q es[m]=false):(es.drop lo).take (hi - lo)=es.filter q:=by
 have e1:es=es.take lo++((es.drop lo).take (hi - lo)++es.drop hi):=by
  conv=>lhs;rw[<-MB lo es]
  congr 1;conv=>lhs;rw[<-MB (hi - lo) (es.drop lo)]
  rw[List.drop_drop];congr 2;omega
 have f1:(es.take lo).filter q=[]:=by
  rw[MJ];intro a G;obtain⟨m,E,rfl⟩:=LP G;rw[LA]at E;rw[M5,I m oa oa];simp
 have f3:(es.drop hi).filter q=[]:=by
  rw[MJ];intro a G;obtain⟨m,E,rfl⟩:=LP G;rw[Ml]at E;rw[List.getElem_drop,J (hi+m) oa oa];simp
 have f2:((es.drop lo).take (hi - lo)).filter q=(es.drop lo).take (hi - lo):=by
  rw[Nz];intro a G;obtain⟨m,E,rfl⟩:=LP G;rw[LA,Ml]at E;rw[M5,List.getElem_drop];exact hb (lo+m) oa oa oa
 conv=>rhs;rw[e1]
 rw[LR,LR,f1,f2,f3];simp
def QO (es:List Ed)(s:Int):List Ed:=es.filter λe=>decide (e.1=s)
structure Q8 (a:QD):Prop where
 al:∀e∈a.al,0<=e/\e<32
 ali:Yw a.al
 st0:0<=a.st
 st1:a.st<=4096
 mr:∀s∈a.mr,0<=s/\s<a.st
 mri:Yw a.mr
 ed:∀e∈a.ed,0<=e.1/\e.1<a.st/\e.2.1∈a.al/\0<=e.2.2/\e.2.2<a.st
 edi:a.ed.Pairwise λx y=>x.1<y.1\/(x.1=y.1/\x.2.1<y.2.1)
theorem Y4 (n:Int):∀(l:LI) (pr:Option Int),JO n pr l=0↔(∀x∈l,0<=x/\x<n)/\Yw l/\∀y,pr=some y->∀x∈l,y<x
 | [],pr=>by simp[JO]
 | a::l,pr=>by
  rw[JO];by_cases T:a<0\/n<=a
  ·rw[OS T];simp only[Oj];constructor
   ·intro h;cases h
   rintro⟨⟨h,_⟩,_⟩;omega
  rw[OR T];by_cases E:zu pr a=true
  ·rw[OS E];constructor
   ·intro h;cases h
   rintro⟨_,_,h⟩;cases pr with
   | none=>simp[zu]at E
   | some y=>simp[zu]at E;have:=h y O a Ll;omega
  rw[OR E,(Y4 n l (some a))];simp only[Oj,OA];constructor
  ·rintro⟨I,J,G⟩;refine⟨⟨oa,I⟩,⟨λb hb=>G a O b hb,J⟩,?_⟩;rintro y rfl;simp[zu]at E;exact⟨E,λz S=>oo (G a O z S)⟩
  rintro⟨⟨_,I⟩,⟨J,G⟩,_⟩;exact⟨I,G,λy U z S=>by cases U;exact J z S⟩
theorem Qcg (al:LI)(st:Int):∀(l:List Ed) (pr:Option Ed),ckE al st pr l=0↔(∀e∈l,0<=e.1/\e.1<st/\e.2.1∈al/\0<=e.2.2/\e.2.2<st)/\(l.Pairwise λx y=>x.1<y.1\/(x.1=y.1/\x.2.1<y.2.1)) /\
  ∀y,pr=some y->∀e∈l,y.1<e.1\/(y.1=e.1/\y.2.1<e.2.1)
 | [],pr=>by simp[ckE]
 | a::l,pr=>by
  rw[ckE];by_cases U:a.1<0\/st<=a.1\/a.2.2<0\/st<=a.2.2
  ·rw[OS U];simp only[Oj];constructor
   ·intro h;cases h
   rintro⟨⟨h,_⟩,_⟩;omega
  rw[OR U];by_cases G:a.2.1∉al
  ·rw[OS G];constructor
   ·intro h;cases h
   rintro⟨h,_⟩;exact OU (h a Ll).2.2.1 G
  rw[OR G];by_cases E:edO pr a=true
  ·rw[OS E];constructor
   ·intro h;cases h
   rintro⟨_,_,h⟩;cases pr with
   | none=>simp[edO]at E
   | some y=>simp[edO]at E;have:=h y O a Ll;omega
  rw[OR E,(Qcg al st l (some a))];simp only[Oj,OA];have V:a.2.1∈al:=Lt.1 G;constructor
  ·rintro⟨J,S,I⟩;refine⟨⟨⟨oa,oa,V,oa,oa⟩,J⟩,⟨λb hb=>I a O b hb,S⟩,?_⟩;rintro y rfl;simp[edO]at E;have Y:y.1<a.1\/y.1=a.1/\y.2.1<a.2.1:=oa
   exact⟨Y,λz T=>oo (I a O z T)⟩
  rintro⟨⟨_,J⟩,⟨S,I⟩,_⟩;exact⟨J,I,λy hy z T=>by cases hy;exact S z T⟩
theorem Zy (a:QD):XX a=0↔Q8 a:=by
 unfold XX;by_cases E:JO 32 none a.al≠0
 ·rw[OS E];exact⟨λh=>OU h E,λh=>OU ((Y4 32 a.al none).2 ⟨h.al,h.ali,λ_ h=>by cases h⟩) E⟩
 rw[OR E];have I:=(Y4 32 a.al none).1 (Lt.1 E);by_cases J:a.st<0
 ·rw[OS J];exact⟨λh=>(by cases h),λh=>(oo h.st0)⟩
 rw[OR J];by_cases S:4096<a.st
 ·rw[OS S];exact⟨λh=>(by cases h),λh=>(oo h.st1)⟩
 rw[OR S];by_cases G:JO a.st none a.mr≠0
 ·rw[OS G];exact⟨λh=>OU h G,λh=>OU ((Y4 a.st a.mr none).2 ⟨h.mr,h.mri,λ_ h=>by cases h⟩) G⟩
 rw[OR G,Qcg];have T:=(Y4 a.st a.mr none).1 (Lt.1 G);exact⟨λh=>⟨I.1,I.2.1,oa,oa,T.1,T.2.1,h.1,h.2.1⟩,λh=>⟨h.ed,h.edi,λ_ h=>by cases h⟩⟩
theorem Xr:∀(l:LI) (a n:Int),Yw l->(∀x∈l,a<=x/\x<n)->(l.length:Int)<=max 0 (n - a)
 | [],a,n,_,_=>by simp;omega
 | x::l,a,n,E,G=>by
  simp only[OA,Oj]at E G;have:=Xr l (x+1) n E.2 (λy I=>⟨oo (E.1 y I),(G.2 y I).2⟩);simp only[oQ];omega
theorem Q8.al_le {a:QD}(h:Q8 a):a.al.length<=32:=by have:=Xr a.al 0 32 h.ali h.al;omega
theorem Q8.mr_le {a:QD}(h:Q8 a):a.mr.length<=4096:=by have:=Xr a.mr 0 a.st h.mri h.mr;have:=h.st1;omega
theorem Q8.eds {a:QD}(h:Q8 a):a.ed.Pairwise λx y=>x.1<=y.1:=h.edi.imp λh=>oa
structure Cs where
 ord:LI
 num:LI
 mk':LI
 ed:List Ed
def Z7 (l:LI)(k:Int):Int:=l.getD k.toNat 0
def Zq (i:Nat)(c:Cs)(e:Ed):Cs :=
 if Z7 c.num e.2.2<0 then⟨c.ord++[e.2.2],c.num.set e.2.2.toNat c.ord.length,c.mk',c.ed++[((i:Int),e.2.1,(c.ord.length:Int))]⟩
 else⟨c.ord,c.num,c.mk',c.ed++[((i:Int),e.2.1,Z7 c.num e.2.2)]⟩
def Yi (a:QD)(i:Nat)(c:Cs):Cs:=if Z7 c.ord i∈a.mr then⟨c.ord,c.num,c.mk'++[(i:Int)],c.ed⟩else c
def qi (a:QD)(i:Nat)(c:Cs):Cs:=(QO a.ed (Z7 c.ord i)).foldl (Zq i) (Yi a i c)
def Xv (a:QD):Nat->Nat->Cs->Cs
 | 0,_,c=>c
 | f+1,i,c=>if i<c.ord.length then Xv a f (i+1) (qi a i c) else c
def YJ (a:QD):Cs:=⟨[0],(oG a.st.toNat (-1)).set 0 0,[],[]⟩
def XM (a:QD):QD:=if a.st=0 then⟨a.al,0,[],[]⟩else
 let c:=Xv a a.st.toNat 0 (YJ a);⟨a.al,c.ord.length,c.mk',c.ed⟩
def neg (l:LI):Nat:=(l.filter (·<0)).length
theorem V0:∀(l:LI) (k:Nat) (v:Int) (h:k<l.length),l[k]<0->0<=v->neg (l.set k v)+1=neg l
 | a::l,0,v,_,E,G=>by
  have I:a<0:=E;simp[neg,I,show ¬v<0 by omega]
 | a::l,k+1,v,h,E,G=>by
  have ih:=V0 l k v (ou h) E G;unfold neg at *;simp only[List.set_cons_succ,OF];split
  ·simp only[oQ];omega
  exact ih
structure VF (st:Int)(c:Cs):Prop where
 nl:c.num.length=st.toNat
 sum:c.ord.length+neg c.num=st.toNat
 ord:∀s∈c.ord,0<=s/\s<st
 num:∀v∈c.num,v<c.ord.length
 el:c.ed.length<=1000000000
theorem VF.le {st:Int}{c:Cs}(h:VF st c):c.ord.length<=st.toNat:=by have:=h.sum;omega
theorem V9 {l:LI}{k:Int}(h:k.toNat<l.length):Z7 l k=l[k.toNat]:=by unfold Z7;simp[oO,h]
theorem Qbd {st:Int}{c:Cs}{e:Ed}(h:VF st c)(S:0<=e.2.2)(T:e.2.2<st)(hl:c.ed.length+1<=1000000000):VF st (Zq i c e):=by
 have I:e.2.2.toNat<c.num.length:=by rw[h.nl];omega
 unfold Zq;split
 ·rename_i J;rw[V9 I]at J;refine⟨by simp[h.nl],?_,?_,?_,ou hl⟩
  ·have:=V0 c.num e.2.2.toNat c.ord.length I J oa;have:=h.sum;simp only[oM,oL];omega
  ·intro s E;simp only[oV,oF]at E;rcases E with E|rfl
   ·exact h.ord s E
   exact⟨S,T⟩
  intro v G;simp only[oM,oL];rcases Nu G with G|rfl
  ·have:=h.num v G;omega
  omega
 exact⟨h.nl,h.sum,h.ord,h.num,ou hl⟩
theorem Qbf (i:Nat)(c:Cs)(e:Ed):(Zq i c e).ed.length=c.ed.length+1:=by unfold Zq;split <;> simp
theorem Qib {a:QD}{st:Int}{c:Cs}(h:VF st c):VF st (Yi a i c):=by
 unfold Yi;split
 ·exact⟨h.nl,h.sum,h.ord,h.num,h.el⟩
 exact h
theorem ZD {es:List Ed}{e:Ed}(h:e∈QO es s):e∈es/\e.1=s:=by unfold QO at h;simpa using h
theorem Qe9 {a:QD}(S:0<a.st):VF a.st (YJ a):=by
 have I:0<a.st.toNat:=oa
 refine⟨by simp[YJ],?_,?_,?_,by simp[YJ]⟩
 ·have J:0<(oG a.st.toNat (-1:Int)).length:=by simpa using I
  have T:=V0 (oG a.st.toNat (-1)) 0 0 J od (Mx _);have U:neg (oG a.st.toNat (-1))=a.st.toNat:=by
   unfold neg;rw[Nz.2 (by intro b hb;have:=Ny hb;subst this;rfl)];simp
  simp only[YJ,oL];omega
 ·intro s G;simp[YJ]at G;subst G;omega
 intro v E;simp only[YJ,oL]at *;rcases Nu E with E|rfl
 ·have:=Ny E;omega
 omega
theorem jy {a:QD}{f:Nat}{c:Cs}(h:¬i<c.ord.length):Xv a f i c=c:=by
 cases f with
 | zero=>rfl
 | succ f=>rw[Xv,OR h]
theorem Q8.ed_le {a:QD}(h:Q8 a):a.ed.length<=131072:=by
 have I:Yw (a.ed.map λe=>e.1*32+e.2.1):=by
  refine L8.2 (List.Pairwise.imp_of_mem ?_ h.edi);intro x y hx J U;have E:=h.al _ (h.ed x hx).2.2.1;have G:=h.al _ (h.ed y J).2.2.1;omega
 have E:=Xr _ 0 131072 I (by
  intro v S;obtain⟨e,T,rfl⟩:=Ly.1 S;have G:=h.ed e T;have V:=h.al _ G.2.2.1;have:=h.st1;omega)
 simp only[Oq]at E;omega
theorem Ya (es:List Ed)(s:Int):(QO es s).length<=es.length:=LJ _ _
section
variable {K:Fr->OZ->Prop}{f:Fr}{l:xC}{C:xx}{pl:xq}{i0:Nat}
theorem O6 {g:α->LV}{x:O1}{e bys:Nat}[Sl P t e sz bys z](G:∀x,(g x).length=sz){L:LN}{es:List α}{v:O0}{k:IntKind}
  (h:Zs L ↑w v es.length sz (es.flatMap g)) (I:ev f x=v) (J:ev f y=.int k i) (hi:i<es.length)
  (hK:∀a,At L ↑w a (g es[i])->XL P ops K l (QN f d (.pointer (some a))) w) (S:Z1 ops f ⟨d,.indexAddr t x y,ty,pS,af,gd⟩=true:=by rfl):
  XL P ops K (⟨d,.indexAddr t x y,ty,pS,af,gd⟩::l) f w:=by
 obtain⟨a,cap,T,E⟩:=Zs.at h hi;rw[X5 g sz G es i hi]at E;refine xl S (xv (XC (I.D T) J oa oa) (hK _ ?_));simpa using E
theorem pig {g:α->LV}{x:O1}{e bys:Nat}[Sl P t e sz bys z](E:QR ops i0=⟨d,.indexAddr t x y,ty,pS,af,gd⟩)(I:∀x,(g x).length=sz){L:LN}{es:List α}{v:O0}{H:xz}{k:IntKind}
  (h:Zs L H v es.length sz (es.flatMap g)) (J:ev f x=v) (S:ev f y=.int k i) (hi:i<es.length)
  (hK:∀a,At L H a (g es[i])->XP P ops C K pl (QN f d (.pointer (some a))) w) (T:Z1 ops f (QR ops i0)=true:=by rfl):
  XP P ops C K ((i0,true)::pl) f w:=by
 obtain⟨a,cap,U,G⟩:=Zs.at h hi;rw[X5 g sz I es i hi]at G;refine Lg.p (λw'=>by rw[E];exact XC (J.D U) S oa oa) ?_ T;rw[E];refine hK _ ?_;simpa using G
end
theorem Zs.grow {X X' Y:LN}{v:O0}{cs:LV}(h:Zs X ↑w v n sz cs)(G:O3 Y w w')(I:∀b∈Y,b∈X)(hX:∀b∈X',b∈X\/↑w<=b):Zs X' ↑w' v n sz cs:=by
 have E:Zs (X++X') ↑w v n sz cs:=h.up (λb hb=>by
  rcases Le.1 hb with E|E
  ·exact .inl E
  exact hX b E)
 exact(E.J G (λb hb=>Le.2 (.inl (I b hb)))).up (λb hb=>.inl (Le.2 (.inr hb)))
structure AV where
 va:O0
 vm:O0
 ve:O0
 a:QD
abbrev Zx (p:AV):LV:=[p.va,sS p.a.st,p.vm,p.ve]
structure XN (L:LN)(H:xz)(v:O0)(ps:List AV):Prop where
 arr:Zs L H v ps.length 4 (ps.flatMap Zx)
 each:∀p∈ps,Zp L H p.va p.vm p.ve p.a
theorem XN.I {L:LN}{w w':OZ}{v:O0}{ps:List AV}(h:XN L ↑w v ps)(E:sW w w'):XN L ↑w' v ps:=⟨h.arr.I E,λp G=>(h.each p G).I E⟩
theorem XN.st {L:LN}{w w':OZ}{v:O0}{ps:List AV}(h:XN L ↑w v ps)(E:O3 L w w'):XN L ↑w' v ps:=⟨h.arr.st E,λp G=>(h.each p G).st E⟩
theorem XN.up {L L':LN}{H:xz}{v:O0}{ps:List AV}(h:XN L H v ps)(E:∀b∈L',b∈L\/H.size<=b):XN L' H v ps:=⟨h.arr.up E,λp G=>(h.each p G).up E⟩
abbrev TV:=O0×LI
abbrev YB (p:TV):LV:=[p.1]
structure Ju (L:LN)(H:xz)(v:O0)(ps:List TV):Prop where
 arr:Zs L H v ps.length 1 (ps.flatMap YB)
 each:∀p∈ps,Qu L H p.1 p.2
theorem Ju.I {L:LN}{w w':OZ}{v:O0}{ps:List TV}(h:Ju L ↑w v ps)(E:sW w w'):Ju L ↑w' v ps:=⟨h.arr.I E,λp G=>(h.each p G).I E⟩
theorem Ju.st {L:LN}{w w':OZ}{v:O0}{ps:List TV}(h:Ju L ↑w v ps)(E:O3 L w w'):Ju L ↑w' v ps:=⟨h.arr.st E,λp G=>(h.each p G).st E⟩
theorem Ju.up {L L':LN}{H:xz}{v:O0}{ps:List TV}(h:Ju L H v ps)(E:∀b∈L',b∈L\/H.size<=b):Ju L' H v ps:=⟨h.arr.up E,λp G=>(h.each p G).up E⟩
def Qcy (N:Nat)(H:xz)(v:O0)(l:List (LI)):Prop:=∃ps:List TV,ps.map (·.2)=l/\∀L:LN,(∀b∈L,b<N)->Ju L H v ps
theorem Qcy.S {M:Nat}{H:xz}{v:O0}{l:List (LI)}(h:Qcy N H v l)(E:M<=N):Qcy M H v l:=let⟨ps,G,I⟩:=h;⟨ps,G,λL J=>I L (λb hb=>LQ (J b hb) E)⟩
abbrev qq (e base:Nat)(w:OZ)(v:O0)(ps:List TV):Prop:=w.ownsRow base e 1 v ps.length (ps.flatMap YB)
theorem qq.snoc {e:Nat}{v:O0}{ps:List TV}{p:TV}(h:w.ownsRow base e 1 v (ps.length+1) (ps.flatMap YB++[p.1])):qq e base w v (ps++[p]):=by
 unfold qq;rw[Lc,LD];simpa using h
theorem UF {e:Nat}{v:O0}{cs:LV}(h:w.ownsRow base e sz v n cs)(G:0<n):∃g cap,v=sL g n cap:=by
 rcases h.2 with⟨_,I⟩|⟨g,cap,cur,E,_⟩
 ·omega
 exact⟨g,cap,E⟩
section
variable {K:Fr->OZ->Prop}{f:Fr}{l:xC}
theorem QbF [h1:Xx P t]{x:O1}{e cap:Nat}{cs:LV}{u:O0}(h:w.ownsRow base e 1 (sL g n cap) n cs)(hx:ev f x=.pointer (some ⟨g,0+i*1,none⟩))(G:ev f y=u)(hi:i<n)(I:u.oneCell'=true)
  (hK:∀w',O3 [g] w w'->w'.ownsRow base e 1 (sL g n cap) n (cs.set i u)->K (QN f d undef) w'):XO P ⟨d,.store t x y,ty,pS,af,gd⟩ f w K:=by
 obtain⟨hl,h⟩:=h;rcases h with⟨J,_⟩|⟨g',cap',cur,e1,hb,S,T,U,E,V⟩
 ·cases J
 cases e1
 have Y:QK ↑w g e cur.toList:=by unfold QK;simpa using S
 refine Qv (j:=i) Y (by rw[hx];simp) G (by simp[E];omega) I λw' hs ha=>hK w' hs ⟨ou hl,.inr ⟨g,cap,(cur.toList.set i u).toArray,rfl,hb,ha,T,U,ou E,?_⟩⟩;rw[<-V];simp[List.take_set]
end
section
variable {f:Fr}{κ:Type}[DecidableEq κ]
theorem UA [hm:Mp P t kt et z]{enc:κ->O0}[hk:jI P kt enc]{x:O1}{b:Nat}{m:List (κ×O0)}{k:κ}{u:O0}(h:ZO enc ↑w b m)(hx:ev f x=.map (some b))(E:ev f y=enc k)(G:O8 m k=some u):
  (execOp (ev f) ⟨d,.lookup t x y true,ty,pS,af,gd⟩).run P w=.ok (.value (.tuple #[u,.bool true])) w:=by
 have:=KE (P:=P) (t:=t) (d:=d) (ty:=ty) (pS:=pS) (af:=af) (gd:=gd) h hx E;rw[G]at this;exact this
theorem yW [hm:Mp P t kt et z]{enc:κ->O0}[hk:jI P kt enc]{x:O1}{b:Nat}{m:List (κ×O0)}{k:κ}(h:ZO enc ↑w b m)(hx:ev f x=.map (some b))(E:ev f y=enc k)(G:O8 m k=none):
  (execOp (ev f) ⟨d,.lookup t x y true,ty,pS,af,gd⟩).run P w=.ok (.value (.tuple #[z,.bool false])) w:=by
 have:=KE (P:=P) (t:=t) (d:=d) (ty:=ty) (pS:=pS) (af:=af) (gd:=gd) h hx E;rw[G]at this;exact this
end
def ckL:List QD->Int
 | []=>0
 | a::l=>if XX a≠0 then XX a else ckL l
def Vd (l:List QD):Int:=if 12<l.length then 3 else ckL l
theorem zZ:∀(l:List QD),ckL l=0↔∀a∈l,Q8 a
 | []=>by simp[ckL]
 | a::l=>by
  rw[ckL];by_cases h:XX a=0
  ·rw[OR (ou h),zZ l];simp[(Zy a).1 h]
  rw[OS h];simp only[Oj];exact⟨λe=>OU e h,λe=>OU ((Zy a).2 e.1) h⟩
def evs (l:List QD):LI:=l.foldl (λacc a=>mrg (· || ·) acc a.al) []
def Kt (m:List ((Int×Int)×O0))(es:List Ed):List ((Int×Int)×O0):=es.foldl (λm e=>O9 m (e.1,e.2.1) (sS e.2.2)) m
def xh:List Ed->Int->Int->Option Int
 | [],_,_=>none
 | e::l,s,v=>if e.1=s/\e.2.1=v then some e.2.2 else xh l s v
theorem jt {l:List Ed}{v:Int}(h:∀e∈l,¬(e.1=s/\e.2.1=v)):xh l s v=none:=by
 induction l with
 | nil=>rfl
 | cons e l ih =>
  rw[xh,OR (h e Ll)];exact ih λe E=>h e (Lj _ E)
theorem UQ:∀(es:List Ed) (m:List ((Int×Int)×O0)) (s v:Int),(es.Pairwise λx y=>x.1<y.1\/(x.1=y.1/\x.2.1<y.2.1)) ->
  O8 (Kt m es) (s,v)=match xh es s v with|some t=>some (sS t)|none=>O8 m (s,v)
 | [],m,s,v,_=>rfl
 | e::es,m,s,v,h=>by
  simp only[OA]at h;have ih:=UQ es (O9 m (e.1,e.2.1) (sS e.2.2)) s v h.2;unfold Kt at *;rw[LO,ih,xh];by_cases E:e.1=s/\e.2.1=v
  ·rw[OS E,jt (λx hx I=>oo (h.1 x hx))];simp only[Ja];rw[OS (by rw[E.1,E.2])]
  rw[OR E];cases xh es s v with
  | some t=>rfl
  | none =>
   simp only[Ja];rw[OR (λG=>E (ou G))]
def Yk (ev:Int):List QD->LI->Option (LI)
 | a::bs,t::ts=>if ev∉a.al then(Yk ev bs ts).map (t::·) else match xh a.ed t ev with|none=>none|some u=>(Yk ev bs ts).map (u::·)
 | _,_=>some []
def Jj:List QD->LI->Bool
 | a::bs,t::ts=>decide (t∈a.mr) && Jj bs ts
 | _,_=>true
structure Sy where
 tup:List (LI)
 mk':LI
 ed:List Ed
def syE (aa:List QD)(i:Nat)(t:LI)(s:Sy)(v:Int):Option Sy :=
 match Yk v aa t with
 | none=>some s
 | some u=>if u∈s.tup then some ⟨s.tup,s.mk',s.ed++[((i:Int),v,(s.tup.idxOf u:Int))]⟩
  else if s.tup.length=4096 then none else some ⟨s.tup++[u],s.mk',s.ed++[((i:Int),v,(s.tup.length:Int))]⟩
def Uv (aa:List QD)(i:Nat)(t:LI):LI->Sy->Option Sy
 | [],s=>some s
 | v::vs,s=>(syE aa i t s v).bind (Uv aa i t vs)
def ZZ (aa:List QD)(i:Nat)(t:LI)(s:Sy):Sy:=if Jj aa t=true then⟨s.tup,s.mk'++[(i:Int)],s.ed⟩else s
def UZ (s:Sy)(i:Nat):LI:=s.tup.getD i []
def syL (aa:List QD):Nat->Nat->Sy->Option Sy
 | 0,_,s=>some s
 | f+1,i,s=>if i<s.tup.length then(Uv aa i (UZ s i) (evs aa) (ZZ aa i (UZ s i) s)).bind (syL aa f (i+1)) else some s
def qU (aa:List QD):Sy:=⟨[oG aa.length 0],[],[]⟩
def xj (aa:List QD):Option (QD×List (LI)):=
 if ∃a∈aa,a.st=0 then some (⟨evs aa,0,[],[]⟩,[]) else(syL aa 4096 0 (qU aa)).map λs=>(⟨evs aa,s.tup.length,s.mk',s.ed⟩,s.tup)
theorem QgZ {aa:List QD}{f:Nat}{s:Sy}(h:¬i<s.tup.length):syL aa f i s=some s:=by
 cases f with
 | zero=>rfl
 | succ f=>rw[syL,OR h]
def Vt (aa:List QD)(t:LI):Prop:=t.length=aa.length/\∀i (h:i<t.length) (E:i<aa.length),0<=t[i]/\t[i]<aa[i].st
theorem Vt.cons {a:QD}{aa:List QD}{u:Int}{t:LI}(E:0<=u)(G:u<a.st)(h:Vt aa t):Vt (a::aa) (u::t):=by
 refine⟨by simp[h.1],λi I J=>?_⟩;cases i with
 | zero=>exact⟨E,G⟩
 | succ i=>exact h.2 i (ou I) (ou J)
theorem Qb5 {l:List Ed}{v u:Int}(h:xh l s v=some u):(s,v,u)∈l:=by
 induction l with
 | nil=>cases h
 | cons e l ih =>
  rw[xh]at h;split at h
  ·rename_i E;obtain⟨e1,e2⟩:=E;cases h
   obtain⟨a,b,c⟩:=e;subst e1 e2;exact Ll
  exact Lj _ (ih h)
theorem XH {v:Int}:∀{aa:List QD}{t u:LI},(∀a∈aa,Q8 a)->Vt aa t->Yk v aa t=some u->Vt aa u
 | [],t,u,_,h,E=>by
  cases t with
  | nil=>simp[Yk]at E;subst E;exact h
  | cons x t=>have:=h.1;simp at this
 | a::aa,[],u,_,h,E=>by have:=h.1;simp at this
 | a::aa,x::t,u,I,h,E=>by
  have hx:=h.2 0 od od;have J:Vt aa t:=⟨by have:=h.1;simpa using this,λi T U=>h.2 (i+1) (ou T) (ou U)⟩;have S:∀a∈aa,Q8 a:=λa V=>I a (Lj _ V);rw[Yk]at E;split at E
  ·obtain⟨Y,G,rfl⟩:=M9.1 E;exact Vt.cons hx.1 hx.2 (XH S J G)
  split at E
  ·cases E
  rename_i q hq;obtain⟨Y,G,rfl⟩:=M9.1 E;have:=(I a Ll).ed _ (Qb5 hq);exact Vt.cons this.2.2.2.1 this.2.2.2.2 (XH S J G)
structure UV (aa:List QD)(s:Sy):Prop where
 v:∀t∈s.tup,Vt aa t
 le:s.tup.length<=4096
theorem yJ {aa:List QD}{t:LI}{s:Sy}(h:UV aa s):UV aa (ZZ aa i t s):=by
 unfold ZZ;split
 ·exact⟨h.v,h.le⟩
 exact h
theorem Qg2 {aa:List QD}{t:LI}{s I:Sy}{v:Int}(J:∀a∈aa,Q8 a)(h:UV aa s)(G:Vt aa t)(E:syE aa i t s v=some I):UV aa I:=by
 unfold syE at E;split at E
 ·cases E;exact h
 rename_i u S;split at E
 ·cases E;exact⟨h.v,h.le⟩
 split at E
 ·cases E
 cases E
 have:=h.le;refine⟨λt G=>?_,by simp;omega⟩;simp only[oV,oF]at G;rcases G with G|rfl
 ·exact h.v t G
 exact(XH J G S)
structure VH where
 en:LI
 dis:LI
 mk':Bool
 ps:Bool
def Qop:VH:=⟨[],[],false,false⟩
def Qm2 (l:LI)(v:Int):LI:=mrg (· || ·) l [v]
def Qq6 (p s:QD)(x y:Int)(c:VH)(v:Int):VH :=
 match xh p.ed x v with
 | none=>c
 | some _=>match xh s.ed y v with
  | some _=>⟨Qm2 c.en v,c.dis,c.mk',c.ps⟩
  | none=>⟨c.en,Qm2 c.dis v,c.mk',c.ps⟩
def Qq7 (p s:QD)(x y:Int)(c:VH):VH:=⟨c.en,c.dis,decide (y∈s.mr),c.ps || decide (x∈p.mr)⟩
def Qq5 (p s:QD)(x y:Int)(c:VH):VH:=s.al.foldl (Qq6 p s x y) (Qq7 p s x y c)
def px (q:LI):Int:=q.getD 0 0
def py (q:LI):Int:=q.getD 1 0
def Qq4 (p s:QD)(l:List VH)(q:LI):List VH:=l.set (py q).toNat (Qq5 p s (px q) (py q) (l.getD (py q).toNat Qop))
def ctls (p s:QD)(pairs:List (LI)):List VH:=pairs.foldl (Qq4 p s) (oG s.st.toNat Qop)
def occs (n:Nat)(pairs:List (LI)):List Bool:=pairs.foldl (λo q=>o.set (py q).toNat true) (oG n false)
def meets (a b:LI):LI:=mrg (· && ·) a b
def QpQ (a b:VH):Bool:=decide ((meets a.en b.dis).length+(meets b.en a.dis).length=0) && (!a.ps || !b.ps || a.mk' == b.mk')
def O4 (l:LI)(i:Nat):Int:=l.getD i 0
def Qia (cl:LI)(x y:Nat):LI:=cl.map λc=>if c=O4 cl y then O4 cl x else c
def lget (l:List VH)(i:Nat):VH:=l.getD i Qop
def to0 (s:QD)(x:Nat)(v:Int):Int:=match xh s.ed x v with|some u=>u|none=>0
def clE (s:QD)(x y:Nat)(z:LI×Bool)(v:Int):LI×Bool :=
 if O4 z.1 (to0 s x v).toNat≠O4 z.1 (to0 s y v).toNat then(Qia z.1 (to0 s x v).toNat (to0 s y v).toNat,true) else z
def clY (s:QD)(l:List VH)(x:Nat)(z:LI×Bool)(y:Nat):LI×Bool :=
 if O4 z.1 x<0\/O4 z.1 x≠O4 z.1 y then z else(meets (lget l x).en (lget l y).en).foldl (clE s x y) z
def clX (s:QD)(l:List VH)(n:Nat)(z:LI×Bool)(x:Nat):LI×Bool:=(oN (x+1) (n - (x+1))).foldl (clY s l x) z
def pass (s:QD)(l:List VH)(cl:LI):LI×Bool:=(oN 0 cl.length).foldl (clX s l cl.length) (cl,false)
def Qjv (s:QD)(l:List VH):Nat->LI->LI
 | 0,cl=>cl
 | f+1,cl=>if(pass s l cl).2=true then Qjv s l f (pass s l cl).1 else(pass s l cl).1
def Ql3 (l:List VH)(cl:LI):Bool :=
 (oN 0 cl.length).all λx=>(oN 0 x).all λy=>!(decide (0<=O4 cl x/\O4 cl x=O4 cl y) && !QpQ (lget l x) (lget l y))
def Qqz (s:QD)(l:List VH)(cl:LI)(x y:Nat):LI :=
 if O4 cl x<0\/O4 cl y<0\/O4 cl x=O4 cl y then cl else
  let d:=Qjv s l (cl.length*cl.length+1) (Qia cl x y)
  if Ql3 l d=true then d else cl
def Qqy (s:QD)(l:List VH)(n:Nat)(cl:LI)(x:Nat):LI:=(oN (x+1) (n - (x+1))).foldl (λc y=>Qqz s l c x y) cl
def Qq9 (o:List Bool):LI:=(oN 0 o.length).map λi=>if o.getD i false=true then(i:Int) else -1
def Qq8 (s:QD)(l:List VH)(cl:LI):LI:=(oN 0 cl.length).foldl (Qqy s l cl.length) cl
def QqV (z:LI×LI)(c:Int):LI×LI :=
 if c∈z.1 then(z.1,z.2++[(z.1.idxOf c:Int) - 1]) else(z.1++[c],z.2++[(z.1.length:Int) - 1])
def nums (cl:LI):LI:=(cl.foldl QqV ([-1],[])).2
def QpV (p s:QD)(pairs:List (LI)):LI:=nums (Qq8 s (ctls p s pairs) (Qq9 (occs s.st.toNat pairs)))
end Go.Lg
namespace Go.Proofs
open Go.Proofs.Tryz
open Go.Lg
instance:Sl sV 32 183 4 4 (.agg #[.int .u8 0,.int .u8 0,.int .u8 0,.int .u8 0]):={}
instance:Sl sV 41 94 5 32 (.agg #[.string ByteArray.empty,.bool false,.bool false,.bool false,sS 0]):={}
instance:Sl sV 42 81 5 96 (.agg #[.string ByteArray.empty,nS,sS 0,nS,nS]):={}
instance:Sl sV 43 186 2 40 (.agg #[.string ByteArray.empty,nS]):={}
instance:Sl sV 44 191 3 48 (.agg #[.string ByteArray.empty,nS,sS 0]):={}
instance:Sl sV 47 3 1 8 (sS 0):={}
instance:Sl sV 51 179 3 24 (.agg #[sS 0,sS 0,sS 0]):={}
instance:Sl sV 54 47 1 24 (nS):={}
instance:Sl sV 64 53 4 80 (.agg #[nS,sS 0,nS,nS]):={}
instance:Sl sV 86 5 1 1 (.int .u8 0):={}
instance:Sl sV 87 173 4 32 (.agg #[sS 0,sS 0,sS 0,sS 0]):={}
instance:Sl sV 119 123 2 24 (.agg #[.string ByteArray.empty,.nilFunc]):={}
instance:Sl sV 135 55 1 8 (sS 0):={}
instance:Sl sV 144 323 4 32 (.agg #[sS 0,sS 0,sS 0,sS 0]):={}
instance:Sl sV 184 188 2 16 (.agg #[sS 0,sS 0]):={}
instance:Sl sV 189 193 2 16 (.agg #[sS 0,sS 0]):={}
instance:Sl sV 199 51 1 24 (nS):={}
instance:Sl sV 223 249 1 8 (.map none):={}
instance:Sl sV 240 239 3 56 (.agg #[sS 0,nS,nS]):={}
instance:Sl sV 254 253 4 32 (.agg #[sS 0,sS 0,sS 0,sS 0]):={}
instance:Sl sV 270 334 1 8 (.nilFunc):={}
instance:Sl sV 301 4 1 1 (.bool false):={}
instance:Sl sV 356 355 3 24 (.agg #[sS 0,sS 0,sS 0]):={}
instance:Sl sV 362 361 3 72 (.agg #[nS,nS,nS]):={}
instance:Sl sV 383 382 2 32 (.agg #[nS,sS 0]):={}
instance:Za sV 28 0 0:={}
instance:Za sV 28 1 1:={}
instance:Za sV 28 2 2:={}
instance:Za sV 36 0 0:={}
instance:Za sV 36 1 5:={}
instance:Za sV 36 2 6:={}
instance:Za sV 36 3 9:={}
instance:Za sV 36 4 90:={}
instance:Za sV 36 5 91:={}
instance:Za sV 36 6 93:={}
instance:Za sV 36 7 147:={}
instance:Za sV 36 8 148:={}
instance:Za sV 36 9 151:={}
instance:Za sV 38 0 0:={}
instance:Za sV 38 1 152:={}
instance:Za sV 46 0 0:={}
instance:Za sV 46 1 1:={}
instance:Za sV 46 2 2:={}
instance:Za sV 46 3 3:={}
instance:Za sV 46 4 4:={}
instance:Za sV 53 0 0:={}
instance:Za sV 53 1 1:={}
instance:Za sV 53 2 2:={}
instance:Za sV 53 3 3:={}
instance:Za sV 59 0 0:={}
instance:Za sV 59 1 1:={}
instance:Za sV 59 2 2:={}
instance:Za sV 59 3 3:={}
instance:Za sV 59 4 4:={}
instance:Za sV 59 5 5:={}
instance:Za sV 59 6 6:={}
instance:Za sV 59 7 7:={}
instance:Za sV 81 0 0:={}
instance:Za sV 81 1 1:={}
instance:Za sV 89 0 0:={}
instance:Za sV 89 1 4:={}
instance:Za sV 89 2 5:={}
instance:Za sV 89 3 6:={}
instance:Za sV 89 4 7:={}
instance:Za sV 94 0 0:={}
instance:Za sV 94 1 1:={}
instance:Za sV 94 2 2:={}
instance:Za sV 94 3 3:={}
instance:Za sV 94 4 4:={}
instance:Za sV 113 0 0:={}
instance:Za sV 113 1 5:={}
instance:Za sV 113 2 9:={}
instance:Za sV 113 3 10:={}
instance:Za sV 118 0 0:={}
instance:Za sV 118 1 8:={}
instance:Za sV 123 1 1:={}
instance:Za sV 146 0 0:={}
instance:Za sV 146 1 1:={}
instance:Za sV 146 2 2:={}
instance:Za sV 148 0 0:={}
instance:Za sV 148 1 3:={}
instance:Za sV 148 2 4:={}
instance:Za sV 148 3 8:={}
instance:Za sV 163 0 0:={}
instance:Za sV 163 1 1:={}
instance:Za sV 163 2 2:={}
instance:Za sV 166 0 0:={}
instance:Za sV 166 1 5:={}
instance:Za sV 166 2 9:={}
instance:Za sV 166 3 10:={}
instance:Za sV 166 4 14:={}
instance:Za sV 166 5 15:={}
instance:Za sV 166 6 18:={}
instance:Za sV 173 0 0:={}
instance:Za sV 179 0 0:={}
instance:Za sV 179 1 1:={}
instance:Za sV 179 2 2:={}
instance:Za sV 186 0 0:={}
instance:Za sV 186 1 1:={}
instance:Za sV 188 0 0:={}
instance:Za sV 188 1 1:={}
instance:Za sV 191 0 0:={}
instance:Za sV 191 1 1:={}
instance:Za sV 191 2 2:={}
instance:Za sV 193 0 0:={}
instance:Za sV 193 1 1:={}
instance:Za sV 201 0 0:={}
instance:Za sV 201 1 1:={}
instance:Za sV 201 2 2:={}
instance:Za sV 201 3 3:={}
instance:Za sV 225 0 0:={}
instance:Za sV 225 1 1:={}
instance:Za sV 225 2 2:={}
instance:Za sV 236 0 0:={}
instance:Za sV 236 1 4:={}
instance:Za sV 236 2 5:={}
instance:Za sV 236 3 6:={}
instance:Za sV 239 0 0:={}
instance:Za sV 239 1 1:={}
instance:Za sV 239 2 2:={}
instance:Za sV 251 0 0:={}
instance:Za sV 251 1 1:={}
instance:Za sV 251 2 2:={}
instance:Za sV 253 0 0:={}
instance:Za sV 253 1 2:={}
instance:Za sV 253 2 3:={}
instance:Za sV 261 0 0:={}
instance:Za sV 261 1 1:={}
instance:Za sV 304 0 0:={}
instance:Za sV 304 1 4:={}
instance:Za sV 323 0 0:={}
instance:Za sV 327 0 0:={}
instance:Za sV 327 1 4:={}
instance:Za sV 327 2 5:={}
instance:Za sV 327 3 6:={}
instance:Za sV 355 0 0:={}
instance:Za sV 355 1 1:={}
instance:Za sV 355 2 2:={}
instance:Za sV 361 0 0:={}
instance:Za sV 361 1 1:={}
instance:Za sV 361 2 2:={}
instance:Za sV 382 0 0:={}
instance:Za sV 382 1 1:={}
instance:Xx sV 3:={}
instance:Xx sV 4:={}
instance:Xx sV 5:={}
instance:Xx sV 9:={}
instance:Xx sV 24:={}
instance:Xx sV 32:={}
instance:Xx sV 33:={}
instance:Xx sV 41:={}
instance:Xx sV 42:={}
instance:Xx sV 43:={}
instance:Xx sV 44:={}
instance:Xx sV 47:={}
instance:Xx sV 51:={}
instance:Xx sV 54:={}
instance:Xx sV 55:={}
instance:Xx sV 64:={}
instance:Xx sV 86:={}
instance:Xx sV 87:={}
instance:Xx sV 121:={}
instance:Xx sV 128:={}
instance:Xx sV 144:={}
instance:Xx sV 152:={}
instance:Xx sV 159:={}
instance:Xx sV 164:={}
instance:Xx sV 184:={}
instance:Xx sV 189:={}
instance:Xx sV 199:={}
instance:Xx sV 223:={}
instance:Xx sV 242:={}
instance:Xx sV 249:={}
instance:Xx sV 259:={}
instance:Xx sV 275:={}
instance:Xx sV 301:={}
instance:Xx sV 325:={}
instance:Xx sV 334:={}
instance:Xx sV 356:={}
instance:Ag sV 23 5:={}
instance:Ag sV 28 27:={}
instance:Ag sV 36 152:={}
instance:Ag sV 38 153:={}
instance:Ag sV 46 5:={}
instance:Ag sV 53 4:={}
instance:Ag sV 59 8:={}
instance:Ag sV 81 5:={}
instance:Ag sV 89 8:={}
instance:Ag sV 94 5:={}
instance:Ag sV 113 11:={}
instance:Ag sV 123 2:={}
instance:Ag sV 148 9:={}
instance:Ag sV 156 2:={}
instance:Ag sV 163 3:={}
instance:Ag sV 173 4:={}
instance:Ag sV 179 3:={}
instance:Ag sV 183 4:={}
instance:Ag sV 186 2:={}
instance:Ag sV 188 2:={}
instance:Ag sV 191 3:={}
instance:Ag sV 193 2:={}
instance:Ag sV 201 4:={}
instance:Ag sV 225 3:={}
instance:Ag sV 239 3:={}
instance:Ag sV 304 5:={}
instance:Ag sV 323 4:={}
instance:Ag sV 361 3:={}
instance:Ag sV 382 2:={}
instance:Ze sV 3 (sS 0):={}
instance:Ze sV 46 (.agg #[nS,nS,nS,nS,nS]):={}
instance:Ze sV 47 (nS):={}
instance:Ze sV 53 (.agg #[nS,sS 0,nS,nS]):={}
instance:Ze sV 55 (sS 0):={}
instance:Ze sV 59 (.agg #[.bool false,nS,.bool false,nS,nS,.bool false,nS,sS 0]):={}
instance:Ze sV 81 (.agg #[.string ByteArray.empty,nS,sS 0,nS,nS]):={}
instance:Ze sV 89 (.agg #[nS,sS 0,nS,nS,nS,nS,nS,nS]):={}
instance:Ze sV 94 (.agg #[.string ByteArray.empty,.bool false,.bool false,.bool false,sS 0]):={}
instance:Ze sV 113 (.agg #[nS,nS,nS,nS,nS,nS,sS 0,nS,nS,nS,nS]):={}
instance:Ze sV 123 (.agg #[.string ByteArray.empty,.nilFunc]):={}
instance:Ze sV 148 (.agg #[nS,nS,nS,sS 0,nS,sS 0,nS,nS,nS]):={}
instance:Ze sV 152 (.pointer none):={}
instance:Ze sV 156 (.agg #[sS 0,sS 0]):={}
instance:Ze sV 163 (.agg #[nS,nS,nS]):={}
instance:Ze sV 173 (.agg #[sS 0,sS 0,sS 0,sS 0]):={}
instance:Ze sV 179 (.agg #[sS 0,sS 0,sS 0]):={}
instance:Ze sV 183 (.agg #[.int .u8 0,.int .u8 0,.int .u8 0,.int .u8 0]):={}
instance:Ze sV 186 (.agg #[.string ByteArray.empty,nS]):={}
instance:Ze sV 188 (.agg #[sS 0,sS 0]):={}
instance:Ze sV 191 (.agg #[.string ByteArray.empty,nS,sS 0]):={}
instance:Ze sV 193 (.agg #[sS 0,sS 0]):={}
instance:Ze sV 201 (.agg #[nS,nS,nS,nS]):={}
instance:Ze sV 225 (.agg #[nS,nS,nS]):={}
instance:Ze sV 239 (.agg #[sS 0,nS,nS]):={}
instance:Ze sV 261 (.agg #[.pointer none,nS]):={}
instance:Ze sV 301 (nS):={}
instance:Ze sV 304 (.agg #[nS,sS 0,nS,nS,nS]):={}
instance:Ze sV 323 (.agg #[sS 0,sS 0,sS 0,sS 0]):={}
instance:Ze sV 356 (nS):={}
instance:Ze sV 361 (.agg #[nS,nS,nS]):={}
instance:Ze sV 382 (.agg #[nS,sS 0]):={}
instance:Bs sV 46 [nS,nS,nS,nS,nS] [0,1,2,3,4]:={}
instance:Bs sV 53 [nS,sS 0,nS,nS] [0,1,2,3]:={}
instance:Bs sV 94 [.string ByteArray.empty,.bool false,.bool false,.bool false,sS 0] [0,1,2,3,4]:={}
instance:Bs sV 123 [.string ByteArray.empty,.nilFunc] [0,1]:={}
instance:Bs sV 143 [sS 0,sS 0] [0,1]:={}
instance:Bs sV 156 [sS 0,sS 0] [0,1]:={}
instance:Bs sV 163 [nS,nS,nS] [0,1,2]:={}
instance:Bs sV 173 [sS 0,sS 0,sS 0,sS 0] [0,1,2,3]:={}
instance:Bs sV 179 [sS 0,sS 0,sS 0] [0,1,2]:={}
instance:Bs sV 186 [.string ByteArray.empty,nS] [0,1]:={}
instance:Bs sV 188 [sS 0,sS 0] [0,1]:={}
instance:Bs sV 191 [.string ByteArray.empty,nS,sS 0] [0,1,2]:={}
instance:Bs sV 193 [sS 0,sS 0] [0,1]:={}
instance:Bs sV 225 [nS,nS,nS] [0,1,2]:={}
instance:Bs sV 239 [sS 0,nS,nS] [0,1,2]:={}
instance:Bs sV 251 [.map none,.map none,sS 0] [0,1,2]:={}
instance:Bs sV 300 [nS,nS] [0,1]:={}
instance:Bs sV 323 [sS 0,sS 0,sS 0,sS 0] [0,1,2,3]:={}
instance:Bs sV 355 [sS 0,sS 0,sS 0] [0,1,2]:={}
instance:Bs sV 361 [nS,nS,nS] [0,1,2]:={}
instance:Bs sV 382 [nS,sS 0] [0,1]:={}
instance:Ik sV 3 .i64:={}
instance:Bk sV 4:=⟨underlying4⟩
instance:Ik sV 5 .u8:={}
instance:St sV 9:=⟨underlying9⟩
instance:Ik sV 21 .i32:={}
instance:Ik sV 33 .i8:={}
instance:Ik sV 246 .u64:={}
instance:Ik sV 317 .u32:={}
instance:S3 sV 179:=⟨⟨_,_,_,underlying179,og,og,og,O,O,O,underlying3,underlying3,underlying3⟩,oc,oc⟩
instance:Mp sV 164 9 3 (sS 0):={}
instance:jI sV 9 Xl:=Qlu underlying9
instance:Mp sV 217 9 4 (.bool false):={}
instance:Mp sV 242 3 4 (.bool false):={}
instance:jI sV 3 Xq:=Qlv underlying3
instance:Mp sV 249 143 3 (sS 0):={}
instance:jI sV 143 Yl:=QbM underlying143 underlying3 oc
instance:Mp sV 255 156 4 (.bool false):={}
instance:jI sV 156 Yl:=QbM underlying156 underlying3 oc
instance:Mp sV 297 3 296 (.nilFunc):={}
instance:Mp sV 325 3 47 (nS):={}
instance:Mp sV 371 3 3 (sS 0):={}
instance:Fu sV 59 f59:=XW func59
instance:Fu sV 60 f60:=XW func60
instance:Fu sV 64 f64:=XW func64
instance:Fu sV 65 f65:=XW func65
instance:Fu sV 72 f72:=XW func72
instance:Fu sV 86 f86:=XW func86
instance:Fu sV 88 f88:=XW func88
instance:Fu sV 124 f124:=XW func124
instance:Fu sV 125 f125:=XW func125
instance:Fu sV 126 f126:=XW func126
instance:Fu sV 133 f133:=XW func133
instance:Fu sV 136 f136:=XW func136
instance:Fu sV 138 f138:=XW func138
instance:Fu sV 142 f142:=XW func142
instance:Fu sV 144 f144:=XW func144
instance:Fu sV 145 f145:=XW func145
instance:Fu sV 147 f147:=XW func147
instance:Fu sV 148 f148:=XW func148
instance:Fu sV 149 f149:=XW func149
instance:Fu sV 150 f150:=XW func150
instance:Fu sV 154 f154:=XW func154
instance:Fu sV 157 f157:=XW func157
instance:Fu sV 158 f158:=XW func158
instance:Fu sV 159 f159:=XW func159
instance:Fu sV 160 f160:=XW func160
instance:Fu sV 169 f169:=XW func169
instance:Fu sV 171 f171:=XW func171
instance:Fu sV 172 f172:=XW func172
instance:Fu sV 174 f174:=XW func174
instance:Fu sV 175 f175:=XW func175
instance:Fu sV 178 f178:=XW func178
instance:Fu sV 187 f187:=XW func187
instance:Fu sV 190 f190:=XW func190
instance:Fu sV 200 f200:=XW func200
instance:Fu sV 201 f201:=XW func201
instance:Fu sV 205 f205:=XW func205
instance:Fu sV 207 f207:=XW func207
instance:Fu sV 208 f208:=XW func208
instance:Fu sV 210 f210:=XW func210
instance:Fu sV 232 f232:=XW func232
instance:Fu sV 237 f237:=XW func237
instance:Fu sV 239 f239:=XW func239
instance:Fu sV 255 f255:=XW func255
instance:Fu sV 256 f256:=XW func256
instance:Fu sV 268 f268:=XW func268
instance:Fu sV 270 f270:=XW func270
instance:Fu sV 271 f271:=XW func271
instance:Fu sV 279 f279:=XW func279
instance:Fu sV 285 f285:=XW func285
instance:Fu sV 299 f299:=XW func299
instance:Fu sV 309 f309:=XW func309
theorem mixed:sV.follows .mixedOrders=true:=oc
theorem ZH {all:xC}{f:Fr}{Q:Exit->Fr->OZ->Prop}(L:LN)(pl:xq)(h:XP sV all (O3 L w) (λf w=>Q .normal f w) pl f { w with drawn:=w.drawn+1 })(E:Xi n all=true:=by rfl)(G:zf all pl=true:=by kernel_rfl):W sV n (.region id all.toArray true) Q f w:=VD (O3 L w) pl mixed E G (O3.X _ _) h
theorem brG {B:Func}(E:((((P.funcs[g]?).map Func.name).getD "") == "runtime.NumGoroutine")=false) (G:P.funcs[g]?=some { B with name:=((P.funcs[g]?).map Func.name).getD "" }):∃nm:String,(nm == "runtime.NumGoroutine")=false/\P.funcs[g]?=some { B with name:=nm }:=⟨_,E,G⟩
theorem lyS {p:Prop}(h:p:=by constructor <;> first|kernel_rfl|decide|(intro _;kernel_rfl)|(apply brG <;> kernel_rfl)|(constructor <;> first|kernel_rfl|decide|(intro _;kernel_rfl)|(apply brG <;> kernel_rfl))):p:=h
end Go.Proofs
namespace Go.Lg
def Rn (t e k:Nat):Go.Shelf.Ren:=⟨λn=>n,λ|22=>t|23=>e|25=>k|n=>n,λn=>n⟩
def fix {α:Type}(q:α->Bool):Nat->List α->Int
 | _,[]=>-1
 | i,e::l=>if q e=true then(i:Int) else fix q (i+1) l
theorem Yt (q:α->Bool)(i:Nat)(a:α)(l:List α):fix q i (a::l)=if q a=true then(i:Int) else fix q (i+1) l:=rfl
structure LdE {α:Type}(e:Nat)(c:α->LV)(el:α->O0):Prop where
 ld:∀{f:Fr} {w:OZ} {d:xD} {E:O1} {ty:Nat} {pS:String} {af:xA} {gd:xp} {L:LN} {a:Addr} {q:α},At L ↑w a (c q)->ev f E=.pointer (some a)->(execOp (ev f) ⟨d,.load e E,ty,pS,af,gd⟩).run sV w=.ok (.value (el q)) w
theorem ld1 {e:Nat}[Xx sV e]{c:α->LV}{el:α->O0}(E:∀q,c q=[el q]):LdE e c el:=⟨λh hx=>Qq (by rw[<-E];exact h) hx⟩
theorem ldA {e:Nat}[Ag sV e m]{c:α->LV}(E:∀q,(c q).length=m):LdE e c λq=>sT (c q):=⟨λh hx=>QF h hx (E _)⟩
abbrev V7 (n:Int):LV:=[sS n]
theorem QiE (n:Int):(V7 n).length=1:=rfl
theorem QmN:∀l:LI,l.flatMap V7=l.map (.int .i64)
 | []=>rfl
 | a::l=>by rw[LK,QmN l];rfl
theorem Qu.fl {L:LN}{H:xz}{v:O0}{l:LI}(h:Qu L H v l):Zs L H v l.length 1 (l.flatMap V7):=by rw[QmN];exact h
theorem Qex {c:α->LV}(h:∀q,ZK (c q))(l:List α):∀u∈l.flatMap c,u.oneCell'=true:=λu E=>by
 obtain⟨q,_,G⟩:=Ma.1 E;exact(h q).all u G
theorem Ue {α:Type}(q:α->Bool):∀(l:List α) (i:Nat),decide (0<=fix q i l)=l.any q
 | [],i=>rfl
 | a::l,i=>by
  rw[Yt,List.any_cons];cases h:q a with
  | true=>rw[OS rfl];simp
  | false=>rw[OR og,Ue q l (i+1)];rfl
def IxQ {α:Type}(q:α->Bool)(es:List α)(r:O0):Prop:=(r=sS (-1)/\∀m (E:m<es.length),q (es[m]'E)=false)\/∃(i:Nat) (hi:i<es.length),r=sS i/\q (es[i]'hi)=true/\∀m (E:m<i),q (es[m]'oa)=false
theorem QiR {α:Type}(q:α->Bool):∀(l:List α) (i:Nat),(fix q i l=-1/\∀m (E:m<l.length),q (l[m]'E)=false)\/∃k,∃G:k<l.length,fix q i l=((i+k:Nat):Int)/\q (l[k]'G)=true/\∀m (E:m<k),q (l[m]'oa)=false
 | [],i=>.inl ⟨O,λm E=>by cases E⟩
 | a::l,i=>by
  rw[Yt];cases h:q a with
  | true=>exact .inr ⟨0,od,rfl,h,λm E=>by cases E⟩
  | false =>
   rcases QiR q l (i+1) with⟨I,J⟩|⟨k,G,I,J,S⟩
   ·exact .inl ⟨I,λm E=>by cases m with|zero=>exact h|succ m=>exact J m (ou E)⟩
   exact .inr ⟨k+1,ou G,by rw[OR og,I];congr 1;omega,J,λm E=>by cases m with|zero=>exact h|succ m=>exact S m oa⟩
theorem QlE (q:α->Bool)(l:List α):IxQ q l (sS (fix q 0 l)):=by
 rcases QiR q l 0 with⟨E,G⟩|⟨k,I,E,G,J⟩
 ·exact .inl ⟨by rw[E],G⟩
 exact .inr ⟨k,I,by rw[E,LS],G,J⟩
section
variable {e bys:Nat}[hS:Sl sV t e m bys z]{L L':LN}{v:O0}
include hS in
theorem zU (hB:Bears sV n (SlBodyN.n41 (Rn t e 0))){k:Nat}{cs:LV}(h:Zs L ↑w v k m cs)(ho:∀u∈cs,u.oneCell'=true)(hb:bys<=128:=by decide):
  QS sV n [v] w λr w'=>sW w w'/\w'.ownsRow ↑w e m r k cs:=by
 obtain⟨nm,_,T⟩:=hB;obtain⟨ρ,hρ,ha⟩:∃ρ,Rn t e 0=ρ/\ρ.t 22=t:=⟨_,O,O⟩;rw[hρ]at T;clear hρ;subst ha;have hg:=h.le;refine QS.of_W T O (n:=8) O O od ?_;refine Qc<|Qb ?_;obtain⟨ao,cap,G⟩:=h.shape;refine Qe<|Ql<|x (QkM (show ev _ _=_ from G) O)<|xe<|Q0 rfl (λJ=>?_) (λJ=>?_)
 ·refine Qc<|Qb<|Qk ⟨[nS],La,O3.Y _ _,?_⟩;rcases h.2.2 with⟨E,I⟩|⟨a,c,E,_⟩
  ·have S:cs=[]:=Ls (by rw[h.1,I];simp);subst S I;exact QL _ _ _ _
  rw[E]at G;cases G;cases J
 rcases h.2.2 with⟨E,I⟩|⟨a,c,E,I,S⟩
 ·rw[E]at G;injection G with e1;subst e1;cases J
 refine Qf<|Qc<|Qo<|Qdc λb5 w1 U V Y=>Qa<|Qo<|QZ (base:=↑w) (Y.own (n:=0) (sz:=m) od oa V) rfl (show ev _ _=_ from E) h.1 (S.I U) ho oa (oo Y.lt) (λv2 w2 hc he hh=>Qb ?_) hb;refine Qk ⟨[v2],La,U.Q he V,?_⟩;simpa[tup]using hc
include hS in
theorem ixG {c:α->LV}{el:α->O0}{k:Nat}(Y:Bears sV n (SlBodyH.n6 (Rn t e k)))(hc:∀q,(c q).length=m)(hl:LdE e c el)[Fu sV gp fn]{cap:LV}{q:α->Bool}{l:List α}(h:Zs L ↑w v l.length m (l.flatMap c))
  (hk:∀e∈l,∀G:OZ,sW w G->QS sV gp ([el e]++cap) G λr w'=>r=.bool (q e)/\sW G w'):
  QS sV n [v,.func (.func gp) #[] cap.toArray] w λr w'=>r=sS (fix q 0 l)/\sW w w':=by
 obtain⟨nm,_,U⟩:=Y;obtain⟨ρ,hρ,ha,he⟩:∃ρ,Rn t e k=ρ/\ρ.t 22=t/\ρ.t 23=e:=⟨_,O,O,O⟩;rw[hρ]at U;clear hρ;subst ha he;have hm:=h.le;refine QS.of_W U O (n:=19) O O od ?_;refine Qc<|Qb<|Qe<|Ql<|QG h O<|Qa<|xe<|QX (α:=Nat) [(4,5),(8,18)] (λz=>[(8,sS z)]) (λz w'=>z<=l.length/\sW w w'/\fix q z (l.drop z)=fix q 0 l) (λz=>l.length - z) 0 La
  ⟨Lo _,O3.Y _ _,O⟩ ?_
 rintro k g G ⟨hk1,I,E⟩;refine Zi rfl O (λS=>?_) (λS=>?_)
 ·refine Qt ?_;have hg:l.length<=k:=by have hh:¬(k:Int)<(l.length:Int):=S;omega
  rw[Lr hg]at E;refine Qc<|Qb<|Qk ⟨[_],La,by rw[<-E];rfl,I⟩
 have J:k<l.length:=by have hh:(k:Int)<(l.length:Int):=S;omega
 rw[QY J,Yt]at E;refine Qf<|Qe<|Qn<|Ql<|Qb<|Ql<|Qa<|Qa<|O6 hc (h.I I) O O J λhn hj=>?_;refine x (hl.ld hj O)<|Qo<|xc (first:=[]) (capt:=cap) O<|(hk _ (Lk J) G I).S ?_;rintro r2 w2 ⟨rfl,V⟩;refine xe<|Q0 rfl (λT=>?_) (λT=>?_)
 ·rw[OS T]at E;refine Ql<|Qb<|Qk ⟨[_],La,by rw[<-E];rfl,I.D V⟩
 rw[OR (by rw[T];decide)]at E;refine Qf<|Qr<|QB O O<|Qa<|xe ?_;exact⟨k+1,oa,La,J,I.D V,E⟩
include hS in
theorem eqG [DecidableEq α]{c:α->LV}{el:α->O0}(hB:Bears sV n (SlBodyN.n33 (Rn t e 0)))(E:∀q,(c q).length=m)(hl:LdE e c el){l l':List α}(h:Zs L ↑w v l.length m (l.flatMap c))(G:Zs L' ↑w v' l'.length m (l'.flatMap c))
  (hn:∀{f:Fr} {w:OZ} {d:xD} {X Y:O1} {ty:Nat} {pS:String} {af:xA} {gd:xp} {a b:α},a∈l->b∈l'->ev f X=el a->ev f Y=el b->(execOp (ev f) ⟨d,.binOp .neq e X Y e,ty,pS,af,gd⟩).run sV w=.ok (.value (.bool (decide (a≠b)))) w):
  QS sV n [v,v'] w λr w'=>r=.bool (decide (l=l'))/\sW w w':=by
 obtain⟨nm,_,V⟩:=hB;obtain⟨ρ,hρ,hg,hh⟩:∃ρ,Rn t e 0=ρ/\ρ.t 22=t/\ρ.t 23=e:=⟨_,O,O,O⟩;rw[hρ]at V;clear hρ;subst hg hh;have hq:=h.le;refine QS.of_W V O (n:=26) O O od ?_;refine Qc<|Qb<|Qe<|Ql<|QG h O<|Qa<|QG G O<|ZL O O<|xe<|Zh rfl (λha=>?_) (λha=>?_)
 ·refine Qc<|Qb<|Qk ⟨[.bool false],La,?_,O3.Y _ _⟩;have:l≠l':=λe=>ha (by rw[e]);simp[tup,this]
 refine Qf<|Qe<|Ql<|QG h O<|Qa<|xe<|QX (α:=Nat) [(4,5),(13,25)] (λk=>[(13,sS k)]) (λk w'=>sW w w'/\k<=l.length/\(l=l'↔l.drop k=l'.drop k)) (λk=>l.length - k) 0 La ⟨O3.Y _ _,Lo _,od⟩ ?_;rintro k g w1 ⟨I,hk,J⟩
 replace h:=h.I I
 replace G:=G.I I;refine Zi rfl O (λhj=>?_) (λhj=>?_)
 ·refine Qt<|Qc<|Qb<|Qk ⟨[.bool true],La,?_,I⟩;rw[Lr oa,Lr oa]at J;simp[tup,J]
 have S:k<l.length:=oa
 have T:k<l'.length:=oa
 refine Qf<|Qe<|Qn<|Ql<|Qb<|Qe<|ZH [] (Y0 0 9 [])<|p Qx<|p Qx<|Lg.pig O E h O O S λhr ho=>pq (λ_ E=>hl.ld (ho.I E) O) <|
  p Qx<|p Qx<|Lg.pig O E G O O T λht hp=>pq (λ_ E=>hl.ld (hp.I E) O)<|p (λ_=>hn (Lk S) (Lk T) O O)<|pe ?_
 have he:=I.D (O3.X [] w1);refine Zh rfl (λU=>?_) (λU=>?_)
 ·refine Qc<|Qb<|Qk ⟨[.bool false],La,?_,he⟩;have:l≠l':=λe=>U (by subst e;rfl);simp[tup,this]
 refine Qf<|Qr<|QB O O<|Qa<|xe<|⟨k+1,oa,La,he,oa,?_⟩;rw[J,QY S,QY T,Lt.1 U];exact⟨λh=>(List.cons.inj h).2,λh=>by rw[h]⟩
end
def xd (es:List Ed)(s e:Int):Int:=match es with
 | []=>-1
 | x::es=>if x.1=s/\x.2.1=e then x.2.2 else xd es s e
section
def eqV:O0->O0->Bool
 | .int _ a,.int _ b=>a == b
 | .string a,.string b=>a == b
 | .bool a,.bool b=>a == b
 | _,_=>false
def tvB:LN->LV->LV->Bool
 | [],[],[]=>true
 | 0::ks,oB oC _::xs,oB oC _::ys=>tvB ks xs ys
 | 1::ks,.string _::xs,.string _::ys=>tvB ks xs ys
 | 2::ks,.bool _::xs,.bool _::ys=>tvB ks xs ys
 | _,_,_=>false
def zP:LV->LV->Bool
 | x::xs,y::ys=>eqV x y && zP xs ys
 | _,_=>true
inductive Fks (P:O2):Nat->List Field->LN->Prop
 | nil {o:Nat}:Fks P o [] []
 | int {o:Nat} {f:Field} {fs:List Field} {ks:LN} (hn:f.name ≠ "_") (ho:f.offset=o) (hu:P.underlying f.type=some (.int .i64)) (h:Fks P (o+1) fs ks):Fks P o (f::fs) (0::ks)
 | str {o:Nat} {f:Field} {fs:List Field} {ks:LN} (hn:f.name ≠ "_") (ho:f.offset=o) (hu:P.underlying f.type=some .string) (h:Fks P (o+1) fs ks):Fks P o (f::fs) (1::ks)
 | flag {o:Nat} {f:Field} {fs:List Field} {ks:LN} (hn:f.name ≠ "_") (ho:f.offset=o) (hu:P.underlying f.type=some .bool) (h:Fks P (o+1) fs ks):Fks P o (f::fs) (2::ks)
theorem Qer {k:Nat}{v:O0}{l:LV}(h:∀w,(isAgg t).run P w=.ok false w)(E:l[k]?=some v)(w:OZ):(part t l.toArray k).run P w=.ok v w:=by
 have e:l.toArray[k]?=some v:=by simpa using E
 simp[part,h w,e]
theorem zQ {d o:Nat}{f:Field}{fs:List Field}{x y:O0}{xs ys X Y:LV}(I:f.name ≠ "_") (J:f.offset=o) (E:∀w,(isAgg f.type).run P w=.ok false w) (S:∀m w,(Op.equalIn (m+1) f.type x y).run P w=.ok (eqV x y) w)
  (hX:X.drop o=x::xs) (G:Y.drop o=y::ys) (ih:X.drop (o+1)=xs->Y.drop (o+1)=ys->∀w,(Op.eqFields (d+1) X.toArray Y.toArray fs).run P w=.ok (zP xs ys) w) (w:OZ):
  (Op.eqFields (d+1) X.toArray Y.toArray (f::fs)).run P w=.ok (zP (x::xs) (y::ys)) w:=by
 have hx:X[o]?=some x:=by rw[<-List.head?_drop,hX];rfl
 have T:Y[o]?=some y:=by rw[<-List.head?_drop,G];rfl
 have U:X.drop (o+1)=xs:=by rw[<-List.tail_drop,hX];rfl
 have V:Y.drop (o+1)=ys:=by rw[<-List.tail_drop,G];rfl
 simp only[Op.eqFields,I,ne_eq,not_false_eq_true,if_true,Sem.run_bind,J,Qer E hx,Qer E T,S,Result.andThen_ok,Sem.run_ite,zP];cases hv:eqV x y with
 | false=>simp
 | true=>simpa using ih U V w
theorem Fks.run {d:Nat}{o:Nat}{fs:List Field}{ks:LN}(h:Fks P o fs ks):∀{xs ys X Y:LV},tvB ks xs ys=true->X.drop o=xs->Y.drop o=ys->∀w,(Op.eqFields (d+1) X.toArray Y.toArray fs).run P w=.ok (zP xs ys) w:=by
 induction h with
 | nil =>
  intro xs ys X Y E _ _ w;cases xs with
  | nil=>simp[Op.eqFields,zP]
  | cons x xs=>cases ys <;> simp[tvB]at E
 | @int o f fs ks I J G h ih =>
  intro xs ys X Y E hX S w
  match xs,ys,E with
  | oB oC a::xs,oB oC b::ys,E=>exact zQ I J (λw=>by simp[isAgg,run_underlying G]) (λm w=>by simp[Op.equalIn,run_underlying G,eqV]) hX S (λT U=>ih E T U) w
 | @str o f fs ks I J G h ih =>
  intro xs ys X Y E hX S w
  match xs,ys,E with
  | .string a::xs,.string b::ys,E=>exact zQ I J (λw=>by simp[isAgg,run_underlying G]) (λm w=>by simp[Op.equalIn,run_underlying G,eqV]) hX S (λT U=>ih E T U) w
 | @flag o f fs ks I J G h ih =>
  intro xs ys X Y E hX S w
  match xs,ys,E with
  | .bool a::xs,.bool b::ys,E=>exact zQ I J (λw=>by simp[isAgg,run_underlying G]) (λm w=>by simp[Op.equalIn,run_underlying G,eqV]) hX S (λT U=>ih E T U) w
class Sk (P:O2)(t:Nat)(ks:outParam (LN)):Prop where
 u:∃fs:List Field,P.underlying t=some (.struct fs.toArray)/\Fks P 0 fs ks
 s:P.stoodInHeld t=false
 g:P.eqGuardType P.depth t=false
theorem VO {ks:LN}[h:Sk P t ks]{xs ys:LV}(J:tvB ks xs ys=true)(w:OZ):(Op.equal t (sT xs) (sT ys)).run P w=.ok (zP xs ys) w:=by
 obtain⟨fs,E,S⟩:=h.u;have G:P.fieldsOf t=fs.toArray:=by unfold Program.fieldsOf;rw[E]
 have T:P.underlying t=some (.struct (P.fieldsOf t)):=by rw[G];exact E
 have I:=run_equalIn_struct (P:=P) w 9999 t xs.toArray ys.toArray T h.s;rw[G]at I;exact I.D (S.run (d:=9998) J O O w)
instance {t:Nat}[h:S3 P t]:Sk P t [0,0,0]:=let⟨f0,f1,f2,hu,E,G,I,J,o1,o2,S,T,u2⟩:=h.u;⟨⟨[f0,f1,f2],hu,.int E J S<|.int G o1 T<|.int I o2 u2 .nil⟩,h.s,h.g⟩
theorem Qjc (p q:Ed):zP (Qp p) (Qp q)=decide (p=q):=by
 rw[Bool.eq_iff_iff];simp only[Qp,zP,eqV,oI,beq_iff_eq,decide_eq_true_eq,Prod.ext_iff,and_true]
theorem jY [S3 P t](w:OZ)(p q:Ed):(Op.equal t (sT (Qp p)) (sT (Qp q))).run P w=.ok (decide (p=q)) w:=by
 rw[<-Qjc];exact VO O w
variable {f:Fr}
theorem Qbv {ks:LN}[h:Sk P t ks]{x:O1}{xs ys:LV}(G:tvB ks xs ys=true)(hx:ev f x=sT xs)(I:ev f y=sT ys):
  (execOp (ev f) ⟨d,.binOp .neq t x y E,ty,pS,af,gd⟩).run P w=.ok (.value (.bool (!zP xs ys))) w:=by
 have J:(eqGuard .neq t x y (sT xs) (sT ys)).run P w=.ok () w:=by simp[eqGuard,h.g]
 simp only[execOp,hx,I,Sem.run_bind,J,Result.andThen_ok,binOp,VO G,Sem.run_pure]
theorem VR [S3 P t]{x:O1}{p q:Ed}(hx:ev f x=sT (Qp p))(G:ev f y=sT (Qp q)):
  (execOp (ev f) ⟨d,.binOp .neq t x y E,ty,pS,af,gd⟩).run P w=.ok (.value (.bool (decide (¬p=q)))) w :=
 (Qbv O hx G).D (by rw[Qjc];simp)
end
theorem jk {L:LN}{v:O0}{l:LI}(h:Qu L ↑w v l)(n:Int):
  QS sV 139 [v,sS n] w λr w'=>w'=w/\r=sS (fix (λe=>decide (n=e)) 0 l):=by
 have T:=h.le;refine Zl func139 ?_;refine Qc<|Qb<|Qe<|Ql<|QG h O<|Qa<|xe<|QX (α:=Nat) [(4,5),(8,18)] (λk=>[(8,sS k)]) (λk w'=>w'=w/\k<=l.length/\fix (λe=>decide (n=e)) k (l.drop k)=fix (λe=>decide (n=e)) 0 l) (λk=>l.length - k) 0 La ⟨O,Lo _,O⟩ ?_;rintro k g U ⟨rfl,V,E⟩;refine Zi rfl O (λJ=>?_) (λJ=>?_)
 ·refine Qt<|Qc<|Qb ?_;rw[Lr oa]at E;exact Qk ⟨[sS (-1)],La,O,by rw[<-E];rfl⟩
 have I:k<l.length:=oa
 rw[QY I,Yt]at E;refine Qf<|Qe<|Qn<|Ql<|Qb<|Ql<|Qa<|Qa<|xii h O O I λY S=>x (Qq S O)<|x (Zd O O)<|xe<|Zh rfl (λG=>?_) (λG=>?_)
 ·refine Ql<|Qb ?_;rw[OS (OV G)]at E;exact Qk ⟨[sS k],La,O,by rw[<-E];rfl⟩
 refine Qf<|Qr<|QB O O<|Qa<|xe ?_;rw[OR (ou G)]at E;exact⟨k+1,oa,La,O,oa,E⟩
theorem QiD {L:LN}{v:O0}{l:LI}(h:Qu L ↑w v l)(n:Int):
  QS sV 139 [v,sS n] w λr w'=>w'=w/\∃i:Int,r=sS i/\(0<=i↔n∈l):=
 (jk h n).S λ_ _ ⟨E,G⟩=>⟨E,_,G,by have:=Ue (λe=>decide (n=e)) l 0;rw[<-decide_eq_true_iff (p:=0<=_),this];simp⟩
theorem ZG {L:LN}{v:O0}{l:LI}(h:Qu L ↑w v l)(n:Int):
  QS sV 61 [v,sS n] w λr w'=>r=.bool (decide (n∈l))/\w'=w:=by
 refine Zl func61 ?_;refine Qc<|Qb<|Ql<|Qa<|Qw<|(QiD h n).S ?_;rintro E G ⟨rfl,i,rfl,hi⟩;refine x (Yh O O)<|Qb<|Qk ⟨[.bool (decide (0<=i))],La,?_,O⟩;simp[tup,hi]
theorem UO {L L':LN}{v:O0}{l l':LI}(h:Qu L ↑w v l)(E:Qu L' ↑w v' l'):
  QS sV 99 [v,v'] w λr w'=>r=.bool (decide (l=l'))/\sW w w' :=
 eqG ⟨_,O,func99⟩ QiE (ld1 λ_=>O) (Qu.fl h) (Qu.fl E) λ_ _ hx G=>XI hx G
theorem Qf7 {L L':LN}{v:O0}{l l':List Ed}(h:Uq L ↑w v l)(E:Uq L' ↑w v' l'):
  QS sV 100 [v,v'] w λr w'=>r=.bool (decide (l=l'))/\sW w w' :=
 eqG (c:=Qp) ⟨_,O,func100⟩ (λ_=>O) (ldA λ_=>O) h E λ_ _ hx G=>VR hx G
theorem QiA (n:Int):QS sV 284 [sS n] w λr w'=>r=.bool false/\w'=w:=by
 refine Zl func284 ?_;refine Qc<|Qb<|Ql<|Qa<|ZL O O<|Qb<|Qk ⟨[.bool (decide (¬n=n))],La,by simp[tup],rfl⟩
theorem QfW (n:Int):QS sV 262 [sS n] w λr w'=>r=.bool false/\w'=w:=by
 refine Zl func262 ?_;refine Qc<|Qb<|Ql<|Qa<|ZL O O<|Qb<|Qk ⟨[.bool (decide (¬n=n))],La,by simp[tup],rfl⟩
theorem Qlq (m n:Int):QS sV 217 [sS m,sS n] w λr w'=>r=.bool (decide (m<n))/\w'=w:=by
 refine Zl func217 ?_;refine Qc<|Qb<|Ql<|Qw<|(QfW m).S ?_;rintro E G ⟨rfl,rfl⟩;refine Qa<|Zw<|Qz O<|Qa<|Qa<|Qa<|ZP O O<|Qz O<|Qb<|Qk ⟨[.bool (decide (m<n))],La,O,O⟩
theorem Yw.get {l:LI}(h:Yw l)(E:j<l.length)(G:i<j):l[i]<l[j]:=Mg.1 h i j oa E G
def lwB (l:LI)(n:Int):Nat:=(l.filter λx=>decide (x<n)).length
theorem QnG {l:LI}{n:Int}(_:Yw l)(hi:i<=l.length)(I:∀m (E:m<l.length),m<i->l[m]<n)(J:∀m (E:m<l.length),i<=m->n<=l[m]):lwB l n=i:=by
 unfold lwB;have e1:(l.take i).filter (λx=>decide (x<n))=l.take i:=Nz.2 λx hx=>by
  obtain⟨m,E,rfl⟩:=LP hx;rw[M5];have G:m<i/\m<l.length:=by rw[LA]at E;omega
  exact OV (I m G.2 G.1)
 have e2:(l.drop i).filter (λx=>decide (x<n))=[]:=MJ.2 λx hx=>by
  obtain⟨m,E,rfl⟩:=LP hx;rw[List.getElem_drop];have G:i+m<l.length:=by rw[Ml]at E;omega
  have:=J (i+m) G oa;simp;omega
 have S:l.filter (λx=>decide (x<n))=l.take i:=by
  conv=>lhs;rw[<-MB i l]
  rw[LR,e1,e2,LF]
 rw[S,LA];omega
theorem Qcp {L:LN}{v:O0}{l:LI}(h:Qu L ↑w v l)(hi:Yw l)(n:Int):
  QS sV 253 [v,sS n] w λr w'=>w'=w/\r=.tuple #[sS (lwB l n),.bool (decide (n∈l))]:=by
 have hu:=h.le;refine Zl func253 ?_;refine Qc<|x Qd<|Qb<|Ql<|QG h O<|Qb<|Ql<|x Qd<|Qb<|Qe<|QX (α:=Nat×Nat) [(7,9),(13,30)] (λz=>[(7,sS z.1),(8,sS z.2)])
  (λz w'=>w'=w/\z.1<=z.2/\z.2<=l.length/\(∀m (E:m<l.length),m<z.1->l[m]<n)/\(∀m (E:m<l.length),z.2<=m->n<=l[m])) (λz=>z.2 - z.1) (0,l.length) ov
  ⟨O,Lo _,Lp _,λm _ S=>OU S (NJ m),λm h1 S=>OU h1 (by simp only[]at S;omega)⟩ ?_
 rintro⟨i,j⟩ g w1 ⟨rfl,hv,hj,G,T⟩;refine Qe<|Ql<|Qa<|ZP O O<|xe<|Zn rfl (λhc=>?_) (λhc=>?_)
 ·have e:i=j:=oa
  subst e;refine Qt<|QW (α:=Bool) [(4,5),(31,53)] (λz=>[(4,sS i),(5,.bool z)]) (λz w'=>w'=w1/\z=decide (n∈l)) oh ?_ ?_
  ·refine Qr<|Qa<|Qa<|Qa<|xb (Ys O O) (λhe=>?_) (λhe=>?_)
   ·have I:i<l.length:=oa
    refine Qa<|Qa<|Qa<|xii h O O I λhw hf=>x (Qq hf O)<|Qa<|xb (Zd O O) (λU=>?_) (λU=>?_)
    ·refine Qa<|Zw<|Zw<|Zw<|Qz O<|Qz O<|x Qd<|Qb ?_;have:n∈l:=by rw[<-U];exact Lk I
     exact⟨true,ov,O,by simp[this]⟩
    refine Qa<|Qa<|Qa<|xii h O O I λhy hg=>x (Qq hg O)<|Qw<|(QiA _).S ?_;rintro r3 w3 ⟨rfl,rfl⟩;refine Qa<|YG<|Qz O<|Qz O<|Qz O<|x Qd<|Qb<|⟨false,ov,O,?_⟩;have:n∉l:=by
     intro E;obtain⟨m,J,V⟩:=LP E;by_cases hk:m<i
     ·have:=G m J hk;omega
     by_cases hn:m=i
     ·subst hn;exact U V
     have:=Yw.get hi J (show i<m by omega);have:=T i I (Lp _);omega
    simp[this]
   refine Qa<|Zw<|Zw<|Zw<|Zw<|Zw<|Jr<|xs O <|
    Qz rfl<|x Qd<|Qb<|⟨false,ov,O,?_⟩
   have:n∉l:=by
    intro E;obtain⟨m,J,V⟩:=LP E;have:=G m J oa;omega
   simp[this]
  rintro z g w7 ⟨rfl,rfl⟩;exact Qk ⟨[sS i,.bool (decide (n∈l))],ov,O,by rw[QnG hi (show i<=l.length by omega) G T];rfl⟩
 refine Qf<|Qn<|Ql<|Qa<|QB O O<|x (Yc O (by exact⟨oa,oa⟩))<|x (Qbu (n:=1) O O og)<|x (Yc O (by exact⟨oa,oa⟩))<|Qb ?_;have hh:(((i:Int)+(j:Int)) / 2 ^ 1)=(((i+j) / 2:Nat):Int):=oa
 rw[hh];generalize hq:(i+j) / 2=q;have ho:i<=q:=oa
 have hp:q<j:=oa
 have Y:q<l.length:=oa
 refine Ql<|Qa<|xii h O O Y λhz hr=>x (Qq hr O)<|Qa<|Qw<|(Qlq _ _).S ?_;rintro r8 w8 ⟨rfl,rfl⟩;refine xe<|Zn rfl (λha=>?_) (λha=>?_)
 ·refine Qr<|Qa<|Qb<|⟨(i,q),oe,ov,O,ho,oa,G,λm E hs=>?_⟩;by_cases e:q=m
  ·subst e;omega
  have:=Yw.get hi E (show q<m by simp only[]at hs;omega);omega
 refine Qr<|Qa<|QB O O<|Qb<|⟨(q+1,j),oe,ov,O,hp,hj,λm E ht=>?_,T⟩;by_cases e:m=q
 ·subst e;exact ha
 have:=Yw.get hi Y (show m<q by simp only[]at ht;omega);omega
theorem yb {L:LN}{v:O0}{l:LI}(h:Qu L ↑w v l)(hi:Yw l)(n:Int):
  QS sV 253 [v,sS n] w λr w'=>w'=w/\∃i:Int,r=.tuple #[sS i,.bool (decide (n∈l))]:=
 (Qcp h hi n).S λ_ _ ⟨E,G⟩=>⟨E,_,G⟩
theorem JQ {L:LN}{v:O0}{l:LI}(h:Qu L ↑w v l)(hi:Yw l)(n:Int):
  QS sV 188 [v,sS n] w λr w'=>r=.bool (decide (n∈l))/\w'=w:=by
 refine Zl func188 ?_;refine Qc<|Qb<|Ql<|Qa<|Qw<|(yb h hi n).S ?_;rintro E G ⟨rfl,i,rfl⟩;refine Qa<|QQ O O<|QQ O O<|x Qd<|Qb<|Ql<|Qb<|Qk ⟨[.bool (decide (n∈l))],La,O,O⟩
theorem U7 {L:LN}{v:O0}{l:LI}(h:Qu L ↑w v l)(n:Int):
  QS sV 202 [v,sS n] w λr w'=>r=sS (JO n none l)/\w'=w:=by
 have he:=h.le;refine Zl func202 ?_;refine Qc<|Qb<|Qe<|Ql<|QG h O<|Qa<|xe<|QX (α:=Nat) [(4,6),(9,34)] (λk=>[(9,sS k)]) (λk w'=>w'=w/\k<=l.length/\JO n (pv l k) (l.drop k)=JO n none l) (λk=>l.length - k) 0 La ⟨O,Lo _,O⟩ ?_;rintro k g U ⟨rfl,hk,E⟩;refine Zi rfl O (λV=>?_) (λV=>?_)
 ·refine Qt<|Qc<|Qb<|Qk ⟨[sS 0],La,?_,O⟩;rw[<-E,Lr oa];rfl
 have G:k<l.length:=oa
 rw[(QY G),JO]at E;refine Qf<|Qe<|Qn<|Ql<|xii h O O G λhf Y=>x (Qq Y O)<|x Qd<|Qb<|Qn<|QW (α:=Bool) [(14,21)] (λz=>[(14,.bool z)]) (λz w'=>w'=U/\z=decide (l[k]<0\/n<=l[k])) oh ?_ ?_
 ·refine Qr<|Qa<|xb (Ys O O) (λI=>?_) (λI=>?_)
  ·refine Qa<|Zw<|Qz O<|Qb<|⟨true,La,O,by simp[I]⟩
  refine Qa<|Qa<|Qa<|x (Yh O O)<|Qz O<|Qb<|⟨_,La,O,by simp[I]⟩
 rintro z g w2 ⟨rfl,rfl⟩;refine Zh rfl (λJ=>?_) (λJ=>?_)
 ·refine Qc<|Qb<|Qk ⟨[sS 2],La,?_,O⟩;rw[<-E,OS J];rfl
 rw[OR J]at E;refine QW (α:=Bool) [(22,33)] (λz=>[(22,.bool z)]) (λz w'=>w'=w2/\z=zu (pv l k) l[k]) oh ?_ ?_
 ·refine Qr<|Qa<|xb (Z5 O O) (λha=>?_) (λha=>?_)
  ·have hk1:((k:Int) - 1)=((k - 1:Nat):Int):=oa
   refine Qa<|Qa<|Qa<|Qa<|x (Jg O O ⟨oa,oa⟩)<|xii (i:=k - 1) h O (by show Value.int _ ((k:Int) - 1)=_;rw[hk1]) oa λhg hc=>x (Qq hc rfl)<|x (XY rfl rfl)<|Qz rfl<|Qb<|⟨_,⟨rfl,Z⟩,rfl,?_⟩;have:pv l k=some l[k - 1]:=by
    have S:k≠0:=oa
    simp[pv,S,show k - 1<l.length by omega]
   rw[this];rfl
  refine Qa<|Zw<|Zw<|Jr<|Qz O<|Qb ?_;have S:k=0:=oa
  exact⟨false,La,O,by simp[pv,S,zu]⟩
 rintro z g w3 ⟨rfl,rfl⟩;refine Q0 rfl (λT=>?_) (λT=>?_)
 ·refine Qc<|Qb<|Qk ⟨[sS 5],La,?_,O⟩;rw[<-E,OS T];rfl
 rw[OR (by simp[T])]at E;refine Qf<|Qr<|QB O O<|Qa<|xe ?_;exact⟨k+1,oa,La,O,oa,by rw[Ke G];exact E⟩
theorem yy {L:LN}{a:QD}(h:Zp L ↑w va vm ve a):
  QS sV 203 [.agg #[va,sS a.st,vm,ve]] w λr w'=>r=sS (ckE a.al a.st none a.ed)/\sW w w':=by
 obtain⟨S,_,I⟩:=h;have h6:=I.le;refine Zl func203 ?_;refine Qc<|Zc [va,sS a.st,vm,ve] λb1 w1 ha h7 J=>Qb ?_
 replace S:=S.I ha
 replace I:=I.I ha;refine Qe<|Qc<|Qs O J O O<|QG I O<|Qa<|xe<|QX (α:=Nat) [(2,5),(9,71)] (λk=>[(9,sS k)]) (λk w'=>sW w1 w'/\k<=a.ed.length/\ckE a.al a.st (pv a.ed k) (a.ed.drop k)=ckE a.al a.st none a.ed) (λk=>a.ed.length - k) 0 La
  ⟨O3.Y _ _,Lo _,O⟩ ?_
 rintro k g w2 ⟨T,hk,E⟩
 replace S:=S.I T
 replace I:=I.I T
 replace J:=J.I T;refine Zi rfl O (λhu=>?_) (λhu=>?_)
 ·refine Qt<|Qc<|Qb<|Qk ⟨[sS 0],La,?_,ha.D T⟩;rw[<-E,Lr oa];rfl
 have hc:k<a.ed.length:=oa
 rw[(QY hc),ckE]at E;refine Qf<|Qe<|Qn<|Ql<|xie I O O hc λh8 hv=>x (QF hv O O)<|QT [sS 0,sS 0,sS 0] λb4 w3 hw hy G=>x Qd <|
  Qo<|ZJ G O O O O ox λw4 hz G=>xe ?_
 have U:=hw.Q hz hy
 replace S:=S.I U
 replace I:=I.I U
 replace J:=J.I U;have V:=(ha.D T).D U;refine Qe<|Qn<|QW (α:=Bool) [(14,36)] (λz=>[(14,.bool z)]) (λz w'=>w'=w4/\z=decide (a.ed[k].1<0\/a.st<=a.ed[k].1\/a.ed[k].2.2<0\/a.st<=a.ed[k].2.2)) oh ?_ ?_
 ·refine Qr<|Qs O G O O<|xb (Ys O O) (λhe=>?_) (λhe=>?_)
  ·refine Qa<|Zw<|YG<|Qz O<|Qa<|Zw<|Qz O<|Qa<|Zw<|YG<|Qz O<|Qb<|⟨true,La,O,by simp[he]⟩
  refine Qa<|Qs O G O O<|Qs O J O O<|xb (Yh O O) (λhf=>?_) (λhf=>?_)
  ·refine Qz O<|Qa<|Zw<|Qz O<|Qa<|Zw<|YG<|Qz O<|Qb<|⟨true,La,O,by simp[hf]⟩
  refine Qz O<|Qa<|Qs O G O O<|xb (Ys O O) (λhg=>?_) (λhg=>?_)
  ·refine Qz O<|Qa<|Zw<|YG<|Qz O<|Qb<|⟨true,La,O,by simp[hg]⟩
  refine Qz O<|Qa<|Qs O G O O<|Qs O J O O<|x (Yh O O)<|Qz O<|Qb<|⟨_,La,O,by simp[he,hf,hg]⟩
 rintro z g w5 ⟨rfl,rfl⟩;refine Zh rfl (λhh=>?_) (λhh=>?_)
 ·refine Qc<|Qb<|Qk ⟨[sS 2],La,?_,V⟩;rw[<-E,OS hh];rfl
 rw[OR hh]at E;refine Qc<|Qs O J O O<|Qs O G O O<|Qw<|(ZG S _).S ?_;rintro r4 w6 ⟨rfl,rfl⟩;refine x (Zj O)<|Qb<|Q0 O (λhj=>?_) (λhj=>?_)
 ·have hn:a.ed[k].2.1∉a.al:=by simpa using hj
  refine Qc<|Qb<|Qk ⟨[sS 9],La,?_,V⟩;rw[<-E,OS hn];rfl
 have hn:¬(a.ed[k].2.1∉a.al):=by simpa using hj
 rw[OR hn]at E;refine Qf<|Qe<|Ql<|x (Zd O O)<|xe<|Zh rfl (λh1=>?_) (λh1=>?_)
 ·have h0:k=0:=oa
  rw[OR (by simp[pv,h0,edO])]at E;refine Qt<|Qr<|QB O O<|Qa<|xe ?_;exact⟨k+1,oa,La,T.D U,oa,by rw[Ke hc];exact E⟩
 have h0:k≠0:=oa
 have hk1:((k:Int) - 1)=((k - 1:Nat):Int):=oa
 have ht:k - 1<a.ed.length:=oa
 refine Qf<|Qc<|Qs O J O O<|Qa<|x (Jg O O ⟨oa,oa⟩)<|xie (i:=k - 1) I O (by show Value.int _ ((k:Int) - 1)=_;rw[hk1]) ht λh9 h2 =>
  x (QF h2 O O)<|QT [sS 0,sS 0,sS 0] λb5 w7 h3 h4 Y=>Qo<|ZJ Y O O O O ox λw8 h5 Y=>xe ?_
 have ho:=h3.Q h5 h4
 replace G:=G.I ho
 replace V:=V.D ho;have hp:pv a.ed k=some a.ed[k - 1]:=by simp[pv,h0,ht]
 rw[hp]at E;refine QW (α:=Bool) [(52,70)] (λz=>[(70,.bool z)]) (λz w'=>w'=w8/\z=edO (some a.ed[k - 1]) a.ed[k]) oh ?_ ?_
 ·refine Qr<|Qs O G O O<|Qs O Y O O<|xb (Ys O O) (λhq=>?_) (λhq=>?_)
  ·refine Qa<|Zw<|Zw<|Zw<|Zw<|Qz O<|xe ?_;exact⟨true,La,O,by simp[edO,hq]⟩
  refine Qa<|Qs O G O O<|Qs O Y O O<|xb (Zd O O) (λhr=>?_) (λhr=>?_)
  ·refine Qa<|Qs O G O O<|Qs O Y O O<|x (XY O O)<|Qz O<|Qz O<|xe ?_;exact⟨_,La,O,by simp[edO,hr]⟩
  refine Qa<|Zw<|YG<|Qz O<|Qz O<|xe ?_;exact⟨false,La,O,by simp[edO,hr,hq]⟩
 rintro z g w9 ⟨rfl,rfl⟩;refine Q0 rfl (λhs=>?_) (λhs=>?_)
 ·refine Qc<|Qb<|Qk ⟨[sS 5],La,?_,V⟩;rw[<-E,OS hs];rfl
 rw[OR (by simp[hs])]at E;refine Qf<|Qr<|QB O O<|Qa<|xe ?_;exact⟨k+1,oa,La,(T.D U).D ho,oa,by rw[Ke hc];exact E⟩
theorem YV {L:LN}{a:QD}(h:Zp L ↑w va vm ve a):
  QS sV 130 [.agg #[va,sS a.st,vm,ve]] w λr w'=>r=sS (XX a)/\sW w w':=by
 refine Zl func130 ?_;refine Qc<|Zc [va,sS a.st,vm,ve] λV Y E ha G=>Qb ?_
 replace h:=h.I E;refine Qe<|Qc<|Qs O G O O<|Qw<|(U7 h.al 32).S ?_;rintro r2 w2 ⟨rfl,rfl⟩;refine Qb<|Ql<|ZL O O<|xe<|Zh rfl (λI=>?_) (λI=>?_)
 ·refine Ql<|Qb<|Qk ⟨[sS (JO 32 none a.al)],La,?_,E⟩;rw[XX,OS I];rfl
 refine Qf<|Qe<|Qn<|Qc<|Qs O G O O<|ZP O O<|Qb<|Zh O (λJ=>?_) (λJ=>?_)
 ·refine Qc<|Qb<|Qk ⟨[sS 2],La,?_,E⟩;rw[XX,OR I,OS J];rfl
 refine Qc<|Qs O G O O<|x (Z5 O O)<|Qb<|Zh O (λS=>?_) (λS=>?_)
 ·refine Qc<|Qb<|Qk ⟨[sS 3],La,?_,E⟩;rw[XX,OR I,OR J,OS S];rfl
 refine Qf<|Qe<|Qc<|Qs O G O O<|Qs O G O O<|Qw<|(U7 h.mr a.st).S ?_;rintro r3 w3 ⟨rfl,rfl⟩;refine Qb<|Ql<|ZL O O<|xe<|Zh rfl (λT=>?_) (λT=>?_)
 ·refine Ql<|Qb<|Qk ⟨[sS (JO a.st none a.mr)],La,?_,E⟩;rw[XX,OR I,OR J,OR S,OS T];rfl
 refine Qf<|Qc<|Q3 G O O<|Qw<|(yy h).S ?_;rintro r4 w4 ⟨rfl,U⟩;refine Qb<|Qk ⟨[sS (ckE a.al a.st none a.ed)],La,?_,E.D U⟩;rw[XX,OR I,OR J,OR S,OR T];rfl
theorem ZT {L:LN}{v:O0}{l:LI}(h:Qu L ↑w v l):
  QS sV 64 [v] w λr w'=>sW w w'/\Qh 3 ↑w w' r l :=
 zU ⟨_,O,func64⟩ h (VW l)
theorem QbJ [Fu sV g fn]{keep:Bool->Bool->Bool}(hk:∀(p q:Bool) (w:OZ),QS sV g [.bool p,.bool q] w λr w'=>r=.bool (keep p q)/\w'=w)
  {L L':LN}   {a b:LI} (I:Qu L ↑w va a) (hb:Qu L' ↑w vb b) (hI:a.length+b.length<=1099511627776):
  QS sV 146 [va,vb,.func (.func g) #[] #[]] w λr w'=>sW w w'/\Qh 3 ↑w w' r (mrg keep a b):=by
 refine Zl func146 ?_;refine Qc<|Qb<|Qc<|Qb<|Qe<|QX (α:=(LI×O0)×(LI×O0)×(LI×O0)) [(0,1),(7,72)] (λz=>[(0,z.1.2),(1,z.2.1.2),(7,z.2.2.2)])
  (λz w'=>Qu L ↑w z.1.2 z.1.1/\Qu L' ↑w z.2.1.2 z.2.1.1/\Qh 3 ↑w w' z.2.2.2 z.2.2.1/\sW w w'/\z.2.2.1++mrg keep z.1.1 z.2.1.1=mrg keep a b/\z.2.2.1.length+z.1.1.length+z.2.1.1.length<=1099511627776)
  (λz=>z.1.1.length+z.2.1.1.length) ((a,va),(b,vb),([],nS)) ox ⟨I,hb,QL _ _ _ _,O3.Y _ _,O,by simp;omega⟩ ?_
 clear I hb;rintro⟨⟨a1,h3⟩,⟨E,h4⟩,⟨o,vo⟩⟩ g1 w1 ⟨I,hb,J,G,U,hl⟩;simp only[]at I hb J G U hl;refine Qe<|QW (α:=Bool) [(11,18)] (λz=>[(18,.bool z)]) (λz w'=>w'=w1/\z=decide (¬(a1=[]/\E=[]))) oh ?_ ?_
 ·refine Qr<|Qa<|QG I O<|xb (Z5 O O) (λhp=>?_) (λhp=>?_)
  ·refine Qa<|Zw<|Qz O<|xe ?_;have:a1≠[]:=by intro e;subst e;simp at hp
   exact⟨true,La,O,by simp[this]⟩
  refine Qa<|Qa<|QG hb O<|x (Z5 O O)<|Qz O<|xe ?_;have:a1=[]:=Ls oa;refine⟨_,La,O,?_⟩;cases E <;> simp[this]
 rintro z g2 w2 ⟨rfl,rfl⟩;refine Zn rfl (λhe=>?_) (λhe=>?_)
 ·refine Qt<|Ql<|Qb<|Qk ⟨[vo],La,G,?_⟩;obtain⟨rfl,rfl⟩:=Lt.1 he;rw[Kh,LF]at U;rw[<-U];exact J
 refine Qf ?_;rw[J0 keep he]at U;have hq:=zC he;have hJ:=I.le;have hK:=hb.le;refine Qn<|QW (α:=Bool) [(8,8),(19,35)] (λz=>[(8,.bool z)]) (λz w'=>sW w2 w'/\z=X3 a1 E) oh ?_ ?_
 ·refine ZH [] (Y0 0 18 [])<|p Qx<|p (λ_=>YR I O)<|pb (λ_=>Z5 O O) (λhr=>?_) (λhr=>?_)
  ·refine p Qx<|p Qx<|p (λ_=>YR hb O)<|pb (λ_=>Zd O O) (λh5=>?_) (λh5=>?_)
   ·refine p Qx<|ps<|ps<|ps<|ps<|ps<|ps<|ps<|p (YL O)<|p (YL O)<|p ZA<|pe ?_;refine⟨true,La,O3.X _ _,?_⟩;have:E=[]:=Ls oa;subst this;cases a1 with
    | nil=>simp at hr
    | cons y a1=>rfl
   have hA:0<a1.length:=oa
   have T:0<E.length:=oa
   refine p Qx<|p Qx<|pii O (i:=0) (I.I G) O O hA λhL h6=>pq (λ_ S=>Qq (h6.I S) O) <|
    p Qx<|pii O (i:=0) (hb.I G) O O T λhM h7=>pq (λ_ S=>Qq (h7.I S) O)<|p (λ_=>XY O O) <|
    p (YL rfl)<|p (YL O)<|p ZA<|pe ?_
   refine⟨_,La,O3.X _ _,?_⟩;cases a1 with
   | nil=>simp at hA
   | cons y a1=>cases E with
    | nil=>simp at T
    | cons z E=>rfl
  refine p Qx<|ps<|ps<|ps<|ps<|ps<|ps<|ps<|ps<|ps<|ps<|ps<|ps<|p (YL O)<|p ZA<|pe ?_;refine⟨false,La,O3.X _ _,?_⟩;have:a1=[]:=Ls oa;subst this;rfl
 rintro z g3 w3 ⟨ht,rfl⟩
 replace J:=Qm J ht
 replace G:=G.D ht;refine QW (α:=Bool) [(9,9),(36,52)] (λz=>[(9,.bool z)]) (λz w'=>sW w3 w'/\z=X3 E a1) oh ?_ ?_
 ·refine ZH [] (Y0 0 18 [])<|p Qx<|p (λ_=>YR hb O)<|pb (λ_=>Z5 O O) (λhu=>?_) (λhu=>?_)
  ·refine p Qx<|p Qx<|p (λ_=>YR I O)<|pb (λ_=>Zd O O) (λh8=>?_) (λh8=>?_)
   ·refine p Qx<|ps<|ps<|ps<|ps<|ps<|ps<|ps<|p (YL O)<|p (YL O)<|p ZA<|pe ?_;refine⟨true,La,O3.X _ _,?_⟩;have:a1=[]:=Ls oa;subst this;cases E with
    | nil=>simp at hu
    | cons y E=>rfl
   have hA:0<a1.length:=oa
   have T:0<E.length:=oa
   refine p Qx<|p Qx<|pii O (i:=0) (hb.I G) O O T λhN h9=>pq (λ_ S=>Qq (h9.I S) O) <|
    p Qx<|pii O (i:=0) (I.I G) O O hA λhO hC=>pq (λ_ S=>Qq (hC.I S) O)<|p (λ_=>XY O O) <|
    p (YL rfl)<|p (YL O)<|p ZA<|pe ?_
   refine⟨_,La,O3.X _ _,?_⟩;cases a1 with
   | nil=>simp at hA
   | cons y a1=>cases E with
    | nil=>simp at T
    | cons z E=>rfl
  refine p Qx<|ps<|ps<|ps<|ps<|ps<|ps<|ps<|ps<|ps<|ps<|ps<|ps<|p (YL O)<|p ZA<|pe ?_;refine⟨false,La,O3.X _ _,?_⟩;have:E=[]:=Ls oa;subst this;rfl
 rintro z g4 w4 ⟨hv,rfl⟩
 replace J:=Qm J hv
 replace G:=G.D hv;refine Qc<|Qb<|QW (α:=O0) [(0,0),(10,10),(53,58)] (λz=>[(0,z),(10,sS (bif X3 a1 E then a1.headD 0 else 0))]) (λz w'=>sW w4 w'/\Qu L ↑w z (tl (X3 a1 E) a1)) oh ?_ ?_
 ·refine Ql<|xe<|Q0 O (λV=>?_) (λV=>?_)
  ·have hA:0<a1.length:=by cases a1 with|nil=>simp[X3]at V|cons y a1=>simp
   refine ZH [] (Y0 0 7 [])<|p Qx<|pii O (i:=0) (I.I G) O O hA λhD hf=>pq (λ_ S=>Qq (hf.I S) O)<|p Qx <|
    Qnn rfl (lo:=1) I O O hA λv' hg=>p ZA<|p ZA<|pe ?_
   have hh:=Qu.drop hg;refine⟨v',⟨O,?_,Z⟩,O3.X _ _,?_⟩
   ·show sS a1[0]=_;rw[V];cases a1 with|nil=>simp at hA|cons y a1=>rfl
   rw[V];simpa[tl]using hh
  refine Qf<|⟨h3,⟨O,by show _=_;rw[V];rfl,Z⟩,O3.Y _ _,?_⟩;rw[V];exact I
 rintro hw g5 w5 ⟨hy,hz⟩
 replace J:=Qm J hy
 replace G:=G.D hy;refine QW (α:=O0) [(1,1),(10,10),(59,64)] (λz=>[(1,z),(10,sS (bif X3 E a1 then E.headD 0 else bif X3 a1 E then a1.headD 0 else 0))]) (λz w'=>sW w5 w'/\Qu L' ↑w z (tl (X3 E a1) E)) oh ?_ ?_
 ·refine Ql<|xe<|Q0 O (λY=>?_) (λY=>?_)
  ·have T:0<E.length:=by cases E with|nil=>simp[X3]at Y|cons y E=>simp
   refine ZH [] (Y0 0 7 [])<|p Qx<|pii O (i:=0) (hb.I G) O O T λhD hf=>pq (λ_ S=>Qq (hf.I S) O)<|p Qx <|
    Qnn rfl (lo:=1) hb O O T λv' hg=>p ZA<|p ZA<|pe ?_
   have hh:=Qu.drop hg;refine⟨v',⟨O,?_,Z⟩,O3.X _ _,?_⟩
   ·show sS E[0]=_;rw[Y];cases E with|nil=>simp at T|cons y E=>rfl
   rw[Y];simpa[tl]using hh
  refine Qf<|⟨h4,⟨O,by show _=_;rw[Y];rfl,Z⟩,O3.Y _ _,?_⟩;rw[Y];exact hb
 rintro h0 g6 w6 ⟨h1,h2⟩
 replace J:=Qm J h1
 replace G:=G.D h1;have hE:(bif X3 E a1 then E.headD 0 else bif X3 a1 E then a1.headD 0 else 0)=hx a1 E:=by
  unfold hx;cases e:X3 E a1 with
  | true=>rfl
  | false =>
   cases e2:X3 a1 E with
   | true=>rfl
   | false=>rw[e,e2]at hq;simp[tl]at hq
 refine Ql<|Qa<|Qa<|Qo<|xc (first:=[]) (capt:=[]) O<|(hk _ _ _).S ?_;rintro r7 w7 ⟨rfl,rfl⟩;refine xe<|Q0 rfl (λhj=>?_) (λhj=>?_)
 ·refine Qr ?_;rw[hj,cond_true]at U;refine Qa<|Qa<|Qo<|Yd (us:=[[sS (hx a1 E)]]) O O og od ⟨by rw[<-hE];rfl,O,Z⟩ λhP w8 hn hQ hF =>
   Qo<|QZ (news:=[sS (hx a1 E)]) (L:=[]) (Qm J hn) O O O (hF.at od) om oa (oq G.size hn.size) λv9 w9 hG hH hR=>Qb ?_
  have hge:=Qi J;refine⟨((tl (X3 a1 E) a1,hw),(tl (X3 E a1) E,h0),(o++[hx a1 E],v9)),oe,ox,hz,h2,?_,(G.D hn).O hH (λb hb=>.inr (hge b hb).1),by rw[LC];exact U,by simp only[oM,oL];omega⟩;exact Qh.snoc hG
 rw[hj,cond_false,Mr]at U;refine Qf ?_;exact⟨((tl (X3 a1 E) a1,hw),(tl (X3 E a1) E,h0),(o,vo)),oe,ox,hz,h2,J,G,U,oe⟩
theorem Qps (p q:Bool)(w:OZ):QS sV 147 [.bool p,.bool q] w λr w'=>r=.bool (p || q)/\w'=w:=by
 refine Zl func147 ?_;refine Qc<|Qb<|Qc ?_;cases p
 ·refine Qa<|Qa<|Qa<|Qz O<|Qb<|Qk ⟨[.bool q],La,O,O⟩
 refine Qa<|Qa<|Jr<|Qz O<|Qb<|Qk ⟨[.bool true],La,O,O⟩
theorem Qh9 (p q:Bool)(w:OZ):QS sV 237 [.bool p,.bool q] w λr w'=>r=.bool (p && !q)/\w'=w:=by
 refine Zl func237 ?_;refine Qc<|Qb<|Qc ?_;cases p
 ·refine Qa<|Qa<|YG<|Qz O<|Qb<|Qk ⟨[.bool false],La,O,O⟩
 refine Qa<|Qa<|Qa<|x (Zj O)<|Qz O<|Qb<|Qk ⟨[.bool (!q)],La,O,O⟩
theorem yf {L L':LN}{a b:LI}(E:Qu L ↑w va a)(hb:Qu L' ↑w vb b)(G:a.length+b.length<=1099511627776):
  QS sV 71 [va,vb] w λr w'=>sW w w'/\Qh 3 ↑w w' r (mrg (· || ·) a b):=by
 refine Zl func71 ?_;refine Qc<|Qb<|Ql<|Qa<|Qw<|(QbJ Qps E hb G).S ?_;rintro I T ⟨J,S⟩;refine Qb<|Qk ⟨[I],La,J,S⟩
theorem QjZ {L L':LN}{a b:LI}(E:Qu L ↑w va a)(hb:Qu L' ↑w vb b)(G:a.length+b.length<=1099511627776):
  QS sV 164 [va,vb] w λr w'=>sW w w'/\Qh 3 ↑w w' r (mrg (λp q=>p && !q) a b):=by
 refine Zl func164 ?_;refine Qc<|Qb<|Ql<|Qa<|Qw<|(QbJ Qh9 E hb G).S ?_;rintro I T ⟨J,S⟩;refine Qb<|Qk ⟨[I],La,J,S⟩
theorem jF {L L':LN}{a b:LI}(E:Qu L ↑w va a)(hb:Qu L' ↑w vb b)(G:a.length+b.length<=1099511627776):
  QS sV 90 [va,vb] w λr w'=>sW w w'/\r=.bool (decide (mrg (λp q=>p && !q) a b=[])):=by
 refine Zl func90 ?_;refine Qc<|Qb<|Ql<|Qa<|Qw<|(QjZ E hb G).S ?_;rintro S T ⟨I,J⟩;have U:=qF (λp q=>p && !q) a b;refine QG (Qh.ints (L:=[]) J oa od) rfl<|x (Zd rfl rfl)<|Qb<|Qk ⟨[.bool (decide (((mrg (λp q=>p && !q) a b).length:Int)=0))],⟨rfl,Z⟩,I,?_⟩;simp[tup]
theorem QjK [Fu sV g fn](V:∀(e:Ed) (s:Int) (w:OZ),0<=e.1->e.1<=1099511627776->0<=s->s<=1099511627776->QS sV g [sT (Qp e),sS s] w λr w'=>r=sS (e.1 - s)/\sW w w')
  {L:LN}  {v:O0} {es:List Ed} (h:Uq L ↑w v es) (hi:es.Pairwise (λa b=>a.1<=b.1)) (hb:∀e∈es,0<=e.1/\e.1<=1099511627776) (s:Int) (Y:0<=s) (ha:s<=1099511627776):
  QS sV 156 [v,sS s,.func (.func g) #[] #[]] w λr w'=>sW w w'/\∃(i:Nat) (b:Bool),r=.tuple #[sS i,.bool b]/\i<=es.length /\
   (∀m (E:m<es.length),m<i->es[m].1<s)/\(∀m (E:m<es.length),i<=m->s<=es[m].1):=by
 have h5:=h.le;have hc:∀{i j:Nat} (G:j<es.length) (J:i<j),es[i].1<=es[j].1:=λ{i j} G J=>Mg.1 hi i j oa G J;have he:∀m (E:m<es.length),0<=es[m].1/\es[m].1<=1099511627776:=λm E=>hb _ (Lk E);refine Zl func156 ?_;refine Qc<|x Qd<|Qb<|Ql<|QG h O<|Qb<|Ql<|x Qd<|Qb<|Qe<|QX (α:=Nat×Nat) [(9,11),(15,34)] (λz=>[(9,sS z.1),(10,sS z.2)])
  (λz w'=>sW w w'/\z.1<=z.2/\z.2<=es.length/\(∀m (E:m<es.length),m<z.1->es[m].1<s)/\(∀m (E:m<es.length),z.2<=m->s<=es[m].1)) (λz=>z.2 - z.1) (0,es.length) ov
  ⟨O3.Y _ _,Lo _,Lp _,λm _ S=>OU S (NJ m),λm h1 S=>OU h1 (by simp only[]at S;omega)⟩ ?_
 rintro⟨i,j⟩ g1 w1 ⟨I,J,G,hf,hg⟩;refine Qe<|Ql<|Qa<|ZP O O<|xe<|Zn rfl (λhr=>?_) (λhr=>?_)
 ·have e:i=j:=oa
  subst e;refine Qt<|QW (α:=Bool) [(6,7),(35,48)] (λz=>[(6,sS i),(7,.bool z)]) (λz w'=>sW w1 w') oh ?_ ?_
  ·refine Qr<|Qa<|Qa<|Qa<|xb (Ys O O) (λhs=>?_) (λhs=>?_)
   ·have hn:i<es.length:=oa
    have T:=he i hn;refine Qa<|Qa<|Qa<|Qa<|xie (h.I I) O O hn λh6 ht=>x (QF ht O O)<|Qa<|Qo<|xc (first:=[]) (capt:=[]) O<|(V es[i] s _ T.1 T.2 Y ha).S ?_;rintro r2 w2 ⟨rfl,hu⟩;refine x (Zd O O)<|Qz O<|x Qd<|Qb<|⟨_,ov,hu⟩
   refine Qa<|Zw<|Zw<|YG<|Qz O<|x Qd<|Qb<|⟨false,ov,O3.Y _ _⟩
  rintro z g3 w3 hv;exact Qk ⟨[sS i,.bool z],ov,I.D hv,i,z,O,G,hf,hg⟩
 refine Qf<|Qn<|Ql<|Qa<|QB O O<|x (Yc O (by exact⟨oa,oa⟩))<|x (Qbu (n:=1) O O og)<|x (Yc O (by exact⟨oa,oa⟩))<|Qb ?_;have hh:(((i:Int)+(j:Int)) / 2 ^ 1)=(((i+j) / 2:Nat):Int):=oa
 rw[hh];generalize T:(i+j) / 2=q;have hw:i<=q:=oa
 have hy:q<j:=oa
 have U:q<es.length:=oa
 have ho:=he q U;refine Ql<|Qa<|Qa<|xie (h.I I) O O U λh7 hz=>x (QF hz O O)<|Qa<|Qo<|xc (first:=[]) (capt:=[]) O<|(V es[q] s _ ho.1 ho.2 Y ha).S ?_;rintro r4 w4 ⟨rfl,hp⟩;refine ZP rfl O<|xe<|Zn rfl (λh2=>?_) (λh2=>?_)
 ·refine Qr<|Qa<|Qb<|⟨(i,q),oe,ov,I.D hp,hw,oa,hf,λm E h3=>?_⟩;by_cases e:q=m
  ·subst e;omega
  have:=hc E (show q<m by simp only[]at h3;omega);omega
 refine Qr<|Qa<|QB O O<|Qb<|⟨(q+1,j),oe,ov,I.D hp,hy,G,λm E h4=>?_,hg⟩;by_cases e:m=q
 ·subst e;omega
 have:=hc U (show m<q by simp only[]at h4;omega);omega
theorem Qk2 (e:Ed)(s:Int)(w:OZ)(I:0<=e.1)(J:e.1<=1099511627776)(S:0<=s)(T:s<=1099511627776):
  QS sV 157 [sT (Qp e),sS s] w λr w'=>r=sS (e.1 - s)/\sW w w':=by
 refine Zl func157 ?_;refine Qc<|Zc (Qp e) λU V E Y G=>Qb<|Qc<|Qs O G O O<|Qa<|x (Jg O O ⟨oa,oa⟩)<|Qb<|Qk ⟨[sS (e.1 - s)],La,O,E⟩
theorem Qk1 (e:Ed)(s:Int)(w:OZ)(I:0<=e.1)(J:e.1<=1099511627776)(S:0<=s)(T:s<=1099511627776):
  QS sV 158 [sT (Qp e),sS s] w λr w'=>r=sS (e.1 - s)/\sW w w':=by
 refine Zl func158 ?_;refine Qc<|Zc (Qp e) λU V E Y G=>Qb<|Qc<|Qs O G O O<|Qa<|x (Jg O O ⟨oa,oa⟩)<|Qb<|Qk ⟨[sS (e.1 - s)],La,O,E⟩
theorem Qad {L:LN}{st:Int}{es:List Ed}(h:Uq L ↑w ve es)(hi:es.Pairwise (λa b=>a.1<=b.1))(hb:∀e∈es,0<=e.1/\e.1<=1099511627776)(s:Int)(he:0<=s)(hp:s<1099511627776):
  QS sV 80 [.agg #[va,sS st,vm,ve],sS s] w λr w'=>sW w w'/\Uq L ↑w' r (QO es s):=by
 refine Zl func80 ?_;refine Qc<|Zc [va,sS st,vm,ve] λb2 w1 T hq E=>Qb ?_
 replace h:=h.I T;refine Qc<|Qs O E O O<|Qa<|Qw<|(QjK Qk2 h hi hb s he oa).S ?_;rintro r2 w2 ⟨J,lo,b,rfl,hr,U,hf⟩
 replace h:=h.I J
 replace E:=E.I J;refine Qa<|QQ O O<|QQ O O<|x Qd<|Qb<|Qc<|Qs O E O O<|Qa<|QB O O<|Qw<|(QjK Qk1 h hi hb (s+1) oa oa).S ?_;rintro r3 w3 ⟨S,hi',b',rfl,V,hg,Y⟩
 replace h:=h.I S
 replace E:=E.I S;refine Qa<|QQ O O<|QQ O O<|x Qd<|Qb ?_;have ha:lo<=hi':=by
  rcases OK hi' lo with hh|hge
  ·have I:=U hi' oa hh;have h2:=Y hi' oa (Lp _);omega
  exact hge
 refine Qc<|Qs O E O O<|Qa<|Qa<|Qqx h O O O ha V λv' hj=>Qb<|Qk ⟨[v'],La,(T.D J).D S,?_⟩;have hc:=zT (λe:Ed=>decide (e.1=s)) es lo hi' ha V (λm G hk=>by have:=U m G hk;simp;omega) (λm G I h2=>by have:=hf m G I;have:=hg m G h2;simp;omega) (λm G I=>by have:=Y m G I;simp;omega);have hn:(QO es s).length=hi' - lo:=by unfold QO;rw[<-hc,LA,Ml];omega
 show Zs L ↑w3 v' (QO es s).length 3 _;rw[hn];have e1:(QO es s).flatMap Qp=((es.flatMap Qp).drop (lo*3)).take ((hi' - lo)*3):=by
  unfold QO;rw[<-hc];have key:∀(l:List Ed) (k:Nat),(l.flatMap Qp).drop (k*3)=(l.drop k).flatMap Qp:=by
   intro l;induction l with
   | nil=>intro k;simp
   | cons a l ih=>intro k;cases k with
    | zero=>simp
    | succ k=>simp only[oT,List.drop_succ_cons,On,OJ];rw[MS,<-List.drop_drop,show(Qp a++l.flatMap Qp).drop 3=l.flatMap Qp from rfl,ih]
  have ho:∀(l:List Ed) (k:Nat),(l.flatMap Qp).take (k*3)=(l.take k).flatMap Qp:=by
   intro l;induction l with
   | nil=>intro k;simp
   | cons a l ih=>intro k;cases k with
    | zero=>simp
    | succ k =>
     simp only[oT,List.take_succ_cons,On,OJ];rw[NA,JD,<-ih,Lq (by simp[JD])];simp
  rw[key,ho]
 rw[e1];exact hj
structure Kq (b3 b22:Nat)(r3:O0)(wS:OZ)(c:Cs)(vo vk ve:O0)(w:OZ):Prop where
 st:O3 [b3,b22] wS w
 B3:QK ↑w b3 53 [r3,sS 0,vk,ve]
 B22:QK ↑w b22 3 (c.num.map (Value.int .i64))
 o:Qh 3 ↑wS w vo c.ord
 k:Qh 3 ↑wS w vk c.mk'
 e:Z8 179 ↑wS w ve c.ed
 d1:Dj vo vk
 d2:Dj vo ve
 d3:Dj vk ve
theorem Kq.I {b3 b22:Nat}{r3:O0}{wS:OZ}{c:Cs}{vo vk ve:O0}{w w':OZ}(h:Kq b3 b22 r3 wS c vo vk ve w)(E:sW w w'):Kq b3 b22 r3 wS c vo vk ve w' :=
 ⟨h.st.D E,h.B3.I E,h.B22.I E,Qm h.o E,Qm h.k E,Qm h.e E,h.d1,h.d2,h.d3⟩
section
variable {b3 b22:Nat}{r3:O0}{wS:OZ}{c:Cs}{w'':OZ}
theorem Kq.setK (h:Kq b3 b22 r3 wS c vo vk ve w)(V:b3<wS.heap.size)(T:b22<wS.heap.size)(ne:b3≠b22){G:O0}{m:LI}(I:O3 (ob vk) w w')(J:Qh 3 ↑wS w' G m)
  (S:∀b∈ob G,b∈ob vk\/↑w<=b) (E:O3 [b3] w' w'') (U:QK ↑w'' b3 53 [r3,sS 0,G,ve]):Kq b3 b22 r3 wS ⟨c.ord,c.num,m,c.ed⟩ vo G ve w'':=by
 refine⟨(h.st.O I (λb hb=>.inr ((Qi h.k) b hb).1)).O E (λb hb=>.inl (by simp at hb;simp[hb])),U,(h.B22.J I (QJ h.k T)).J E (by simp;omega),
  Qg (Qg h.o I h.d1) E (λb hb=>by have:=(Qi h.o b hb).1;simp;omega),Qg J E (λb hb=>by have:=(Qi J b hb).1;simp;omega),
  Qg (Qg h.e I h.d3.symm) E (λb hb=>by have:=(Qi h.e b hb).1;simp;omega),h.d1.grow S (QU h.o),h.d2,(h.d3.symm.grow S (QU h.e)).symm⟩
theorem Kq.setE (h:Kq b3 b22 r3 wS c vo vk ve w)(V:b3<wS.heap.size)(T:b22<wS.heap.size)(ne:b3≠b22){G:O0}{m:List Ed}(I:O3 (ob ve) w w')(J:Z8 179 ↑wS w' G m)
  (S:∀b∈ob G,b∈ob ve\/↑w<=b) (E:O3 [b3] w' w'') (U:QK ↑w'' b3 53 [r3,sS 0,vk,G]):Kq b3 b22 r3 wS ⟨c.ord,c.num,c.mk',m⟩ vo vk G w'':=by
 refine⟨(h.st.O I (λb hb=>.inr ((Qi h.e) b hb).1)).O E (λb hb=>.inl (by simp at hb;simp[hb])),U,(h.B22.J I (QJ h.e T)).J E (by simp;omega),
  Qg (Qg h.o I h.d2) E (λb hb=>by have:=(Qi h.o b hb).1;simp;omega),Qg (Qg h.k I h.d3) E (λb hb=>by have:=(Qi h.k b hb).1;simp;omega),
  Qg J E (λb hb=>by have:=(Qi J b hb).1;simp;omega),h.d1,h.d2.grow S (QU h.o),h.d3.grow S (QU h.k)⟩
theorem Kq.setN (h:Kq b3 b22 r3 wS c vo vk ve w)(I:b22<wS.heap.size)(ne:b3≠b22){m:LI}(E:O3 [b22] w w')(G:QK ↑w' b22 3 (m.map (Value.int .i64))):Kq b3 b22 r3 wS ⟨c.ord,m,c.mk',c.ed⟩ vo vk ve w' :=
 ⟨h.st.O E (λb hb=>.inl (by simp at hb;simp[hb])),h.B3.J E (by simp;omega),G,Qg h.o E (λb hb=>by have:=(Qi h.o b hb).1;simp;omega),
  Qg h.k E (λb hb=>by have:=(Qi h.k b hb).1;simp;omega),Qg h.e E (λb hb=>by have:=(Qi h.e b hb).1;simp;omega),h.d1,h.d2,h.d3⟩
theorem Kq.setO (h:Kq b3 b22 r3 wS c vo vk ve w)(J:b3<wS.heap.size)(S:b22<wS.heap.size){G:O0}{m:LI}(E:O3 (ob vo) w w')(T:Qh 3 ↑wS w' G m)
  (I:∀b∈ob G,b∈ob vo\/↑w<=b):Kq b3 b22 r3 wS ⟨m,c.num,c.mk',c.ed⟩ G vk ve w' :=
 ⟨h.st.O E (λb hb=>.inr (Qi h.o b hb).1),h.B3.J E (QJ h.o J),h.B22.J E (QJ h.o S),T,Qg h.k E h.d1.symm,Qg h.e E h.d2.symm,
  (h.d1.symm.grow I (QU h.k)).symm,(h.d2.symm.grow I (QU h.e)).symm,h.d3⟩
end
def Yp (c:Cs)(e:Ed):Cs:=if Z7 c.num e.2.2<0 then⟨c.ord++[e.2.2],c.num.set e.2.2.toNat c.ord.length,c.mk',c.ed⟩else c
theorem Qlb (c:Cs)(e:Ed):(Yp c e).num.length=c.num.length:=by unfold Yp;split <;> simp
theorem qW {c:Cs}{e:Ed}(h:e.2.2.toNat<c.num.length):Zq i c e=⟨(Yp c e).ord,(Yp c e).num,(Yp c e).mk',(Yp c e).ed++[((i:Int),e.2.1,Z7 (Yp c e).num e.2.2)]⟩:=by
 unfold Zq Yp;split
 ·simp[Z7,oO,h]
 rfl
theorem Kk {L:LN}{a:QD}(h:Zp L ↑w va vm ve a)(hok:Q8 a):
  QS sV 241 [.agg #[va,sS a.st,vm,ve]] w λr w'=>sW w w'/\Y5 ↑w ↑w' r (XM a):=by
 have hst0:=hok.st0;have hst1:=hok.st1;refine Zl func241 ?_;refine Qc<|Zc [va,sS a.st,vm,ve] λb1 w1 gk hb1 hj=>QT [nS,sS 0,nS,nS] λb2 w2 hf hb2 ho=>xe ?_;have hl1:=hj.lt;have hl2:=ho.lt;refine Qc<|Qs O (hj.I hf) O O<|Qw<|(ZT ((h.al.I gk).I hf)).S ?_;rintro r3 w3 ⟨V,J⟩;have hz3:=V.size;refine x (QC ⟨(Qh.ints (L:=[]) J h.al.le od).cells,Z⟩)<|QT [nS,sS 0,nS,nS] λb3 w4 ko kq hp =>
  Q5 [r3,sS 0,nS,nS] hp ⟨(Qh.ints (L:=[]) J h.al.le od).one,rfl,rfl,rfl,Z⟩ λw5 kr hp=>xe ?_
 have I:sW w3 w5:=ko.Q kr kq;have hl3:=hp.lt;have gl:sW w w5:=((gk.D hf).D V).D I;refine Qe<|Qc<|Q7 O<|x (Qj (((hj.I hf).I V).I I) O O)<|x (Zd O O)<|xe<|Zh rfl (λhJ=>?_) (λhJ=>?_)
 ·refine Qc<|Q3 hp O O<|Q5 [r3,sS 0,nS,nS] ((ho.I V).I I) ⟨(Qh.ints (L:=[]) J h.al.le od).one,rfl,rfl,rfl,Z⟩ λw6 gm ho=>xe ?_;refine Qk ⟨[.agg #[r3,sS 0,nS,nS]],⟨JN ho,Z⟩,gl.Q gm oa,?_⟩;have kt:=Qg (Qm J I) gm (λb hb=>by have:=(Qi J b hb).1;simp;omega);unfold XM;rw[OS hJ];exact⟨r3,_,_,O,λL' hr=>⟨Qh.ints kt h.al.le (λb hb=>oo (hr b hb)),Zs.nil _ _ _,Zs.nil _ _ _⟩⟩
 have ku:0<a.st:=oa
 obtain⟨n,hn⟩:∃n:Nat,a.st=n:=⟨a.st.toNat,oa⟩;have kv:a.st.toNat=n:=oa
 refine Qf<|Qc<|Q7 O<|x (Qj (((hj.I hf).I V).I I) O O)<|Qo<|YS (n:=n) (OT sS hn) (OT sS hn) oa λb22 w7 ht hb22 hK=>Qb ?_;have hl22:=hK.lt;have kw:=gl.D ht;rw[show(oG n (sS 0).cells.toList).flatten=((oG n 0).map (Value.int .i64)) by rw[show(sS 0).cells.toList=[sS 0] from rfl,Qbs,List.map_replicate]]at hK;have kx:sW w3 w7:=I.D ht;refine Qe<|Ql<|x (yX O)<|Qa<|xe<|QX (α:=Nat) [(5,5),(25,31)] (λk=>[(25,sS k)]) (λk w'=>O3 [b22] w7 w'/\k<=n/\QK ↑w' b22 3 ((oG k (-1)++oG (n - k) 0).map (Value.int .i64))) (λk=>n - k) 0 La
  ⟨O3.Y _ _,Lo _,ou hK⟩ ?_
 rintro k g w8 ⟨hL,hk,hM⟩;refine Zi rfl O (λkz=>?_) (λkz=>?_)
 rotate_left
 ·have T:k<n:=oa
  refine Qf<|Qe<|Qn<|Ql<|Qb<|Qr<|Qa<|Qa<|x (QE O O T)<|Qo<|JX hM O O (by simp;omega) λw9 h5 gn=>xe ?_;refine Qr<|QB O O<|Qa<|xe<|⟨k+1,oa,La,hL.V h5,oa,?_⟩;have e:(oG k (-1:Int)++oG (n - k) 0).set k (-1)=oG (k+1) (-1)++oG (n - (k+1)) 0:=by
   rw[List.set_append_right _ _ od];obtain⟨m,hm⟩:∃m,n - k=m+1:=⟨n - k - 1,oa⟩;rw[hm,show n - (k+1)=m by omega,List.replicate_succ,List.replicate_succ' (n:=k)];simp
  rw[e]at gn;exact gn
 have k0:n=k:=oa
 subst k0;simp only[Nat.sub_self,List.replicate_zero,Ol]at hM;refine Qt<|Ql<|x (QE (i:=0) O O oa)<|Qo<|JX (i:=0) hM O O (by simp;omega) λwS h5 k4=>xe ?_;have hzS:w8.heap.size<=wS.heap.size:=h5.size;have hz8:=hL.size;have hv:O3 [b22] w7 wS:=hL.V h5;have hN:sW w wS:=kw.Q hv oa;have hA:Zp [b3,b22] ↑wS va vm ve a:=(h.up (λb hb=>.inr (by simp at hb;omega))).I hN;have go:QK ↑wS b1 53 [va,sS a.st,vm,ve]:=((((hj.I hf).I V).I I).I ht).J hv (by simp;omega);have k5:QK ↑wS b2 53 [nS,sS 0,nS,nS]:=(((ho.I V).I I).I ht).J hv (by simp;omega);have k6:QK ↑wS b3 53 [r3,sS 0,nS,nS]:=(hp.I ht).J hv (by simp;omega);have k9:Qh 3 ↑w2 wS r3 a.al:=Qg (Qm J kx) hv (λb hb=>by have:=QU J b hb;simp;omega);have ma:∀b∈ob r3,b<w3.heap.size:=QU J;have hw:b3<wS.heap.size:=oa
 have hy:b22<wS.heap.size:=oa
 have hO:b3≠b22:=oa
 refine Qc<|Qo<|Q2 [[sS 0]] λgq mc hP hb34 mf=>Qb ?_;have mg:Qh 3 ↑wS mc (sL gq 1 1) [0]:=mf.own (n:=1) (sz:=1) O oa oa;refine Qe<|Qc<|Qb ?_;have hedle:=hok.ed_le;have mh:∀e∈a.ed,0<=e.1/\e.1<=1099511627776:=λe he=>oo (hok.ed e he)
 refine QX (α:=Nat×Cs×O0×O0×O0) [(6,9),(11,11),(35,100)] (λz=>[(6,z.2.2.1),(7,sS z.1)])
  (λz w'=>Kq b3 b22 r3 wS z.2.1 z.2.2.1 z.2.2.2.1 z.2.2.2.2 w'/\z.1<=z.2.1.ord.length/\VF a.st z.2.1/\z.2.1.mk'.length<=z.1/\z.2.1.ed.length<=z.1*131072/\Xv a (a.st.toNat - z.1) z.1 z.2.1=Xv a a.st.toNat 0 (YJ a))
  (λz=>a.st.toNat - z.1) (0,YJ a,sL gq 1 1,nS,nS) ov
  ⟨⟨hP.any,k6.I hP,by show QK _ _ _ (OQ _ ((oG a.st.toNat (-1)).set 0 0));rw[kv];exact k4.I hP,mg,QL _ _ _ _,QL _ _ _ _,Dj.nil' _,Dj.nil' _,Dj.nil' _⟩,Lo _,Qe9 ku,Lo _,Lo _,O⟩ ?_
 rintro⟨i,c,vo,vk,S⟩ g2 mj ⟨hI,hi,E,mo,mq,hQ⟩;simp only[]at hI hi E mo mq hQ;have hcle:=E.le;have hR:=Qh.ints (L:=[]) hI.o oa od;have ms:=hA.st hI.st;have mt:=go.J hI.st (by simp;omega);refine Qe<|Ql<|Qa<|QG hR O<|ZP O O<|xe<|Zn rfl (λmu=>?_) (λmu=>?_)
 ·have mv:c=Xv a a.st.toNat 0 (YJ a):=by rw[<-hQ,jy oa]
  refine Qt<|Ql<|QG hR O<|Q7 O<|Qo<|Qv hI.B3 O O od rfl λmw h6 my=>xe ?_;refine Qc ?_;have mz:=Qh.ints (L:=[]) hI.k oa od;have m0:=Z8.eds (L:=[]) hI.e (oo E.el) od;have m1:=Qh.ints (L:=[]) J h.al.le od;refine Q3 my O O<|Q5 [r3,sS c.ord.length,vk,S] (((k5.J hI.st (by simp;omega))).J h6 (by simp;omega)) ⟨m1.one,O,mz.one,m0.one,Z⟩ λm2 h7 m3=>xe ?_;have gr:O3 [b3,b22] wS mw:=hI.st.O h6 (λb hb=>.inl (by simp at hb;simp[hb]));have m4:sW w m2:=(hN.O gr (λb hb=>.inr (by simp at hb;omega))).Q h7 oa;refine Qk ⟨[.agg #[r3,sS c.ord.length,vk,S]],⟨JN m3,Z⟩,m4,?_⟩;unfold XM;rw[OR hJ];simp only[];rw[<-mv];have k1:=Qg (Qg hI.k h6 (λb hb=>by have:=(Qi hI.k b hb).1;simp;omega)) h7 (λb hb=>by have:=(Qi hI.k b hb).1;simp;omega);have k2:=Qg (Qg hI.e h6 (λb hb=>by have:=(Qi hI.e b hb).1;simp;omega)) h7 (λb hb=>by have:=(Qi hI.e b hb).1;simp;omega);have k3:=Qg (Qg k9 gr (λb hb=>by have:=ma b hb;simp;omega)) h7 (λb hb=>by have:=(Qi J b hb).1;simp;omega);exact⟨r3,vk,S,O,λL' hr=>⟨Qh.ints k3 h.al.le (λb hb=>oo (hr b hb)),Qh.ints k1 (by show c.mk'.length<=_;omega) (λb hb=>oo (hr b hb)),Z8.eds k2 (by show c.ed.length<=_;have:=E.el;omega) (λb hb=>oo (hr b hb))⟩⟩
 have T:i<c.ord.length:=oa
 refine Qf<|Qe<|Qn<|QW (α:=O0) [(8,9),(41,57)] (λz=>[]) (λz w'=>Kq b3 b22 r3 wS (Yi a i c) vo z S w') oh ?_ ?_
 ·refine Qe<|ZH [] (Y0 0 12 [6])<|p (QH O)<|pq (λ_ E=>Qj (mt.I E) O O)<|p Qx<|p Qx<|pii O hR O O T λa46 m5 =>
   pq (λ_ E=>Qq (m5.I E) O)<|pk<|xg<|(yb (ms.mr.I (O3.X _ _)) hok.mri _).S ?_
  rintro r14 w14 ⟨rfl,j14,rfl⟩;refine⟨O3.X _ _,?_⟩;refine p Qx<|p (λ_=>QV O O)<|p (λ_=>QV O O)<|p ZA<|p ZA<|pe ?_;have hS:=hI.I (O3.X [] mj);refine Ql<|xe ?_;have h8:Z7 c.ord i=c.ord[i]:=V9 (ou T);refine Zn O (λhT=>?_) (λhT=>?_)
  ·refine Qf<|⟨vk,Z,?_⟩;unfold Yi;rw[h8,OR hT];exact hS
  refine Qr<|Qs O hS.B3 O O<|Qa<|Qo<|Q2 [[sS i]] λb55 w15 m6 hb55 m7=>?_;have hz:=hS.I m6;refine Qo<|QZ (news:=[sS i]) (L:=[]) hz.k O O O (m7.at od) om oa hz.st.size λgs m8 m9 gt pc=>?_;have gu:Qh 3 ↑wS m8 gs (c.mk'++[(i:Int)]):=Qh.snoc m9;refine Q7 O<|Qo<|Qv (hz.B3.J gt (QJ hz.k hw)) O O od (Qh.ints (L:=[]) gu (by simp;omega) od).one λw17 pd pf=>xe ?_;refine⟨gs,Z,?_⟩;unfold Yi;rw[h8,OS hT];exact hz.setK hw hy hO gt gu pc pd pf
 rintro hU g3 h0 hg;have pg:VF a.st (Yi a i c):=Qib E;have hV:(Yi a i c).ord=c.ord:=by unfold Yi;split <;> rfl
 have ph:(Yi a i c).ed=c.ed:=by unfold Yi;split <;> rfl
 have pj:(Yi a i c).mk'.length<=i+1:=by
  unfold Yi;split
  ·simp only[oM,oL];omega
  omega
 have gv:Qu [] ↑h0 vo (Yi a i c).ord:=Qh.ints (L:=[]) hg.o (by rw[hV];omega) od;rw[hV]at gv;have pn:sW w h0:=hN.O hg.st (λb hb=>.inr (by simp at hb;omega));have po:Zp (b3::b22::(ob vo++ob S)) ↑h0 va vm ve a:=(h.up (λb hb=>.inr (by
  simp only[oK,oV]at hb;rcases hb with rfl|rfl|hb|hb
  ·omega
  ·omega
  ·have:=(Qi hg.o b hb).1;omega
  have:=(Qi hg.e b hb).1;omega))).I pn
 have pp:=go.J hg.st (by simp;omega);have hs:=E.ord c.ord[i] (Lk T);refine Qe<|ZH [] [oz 0,oz 1,oz 2,oz 3,oz 4,oz 7,oA 5,oz 6]<|pq (λ_ E=>Zb (pp.I E) O O)<|p Qx<|p Qx<|pii O gv O O T λa61 pt =>
  pq (λ_ E=>Qq (pt.I E) O)<|p Qx<|pk<|xg<|(Qad (po.ed.I (O3.X _ _)) hok.eds mh c.ord[i] hs.1 oa).S ?_
 rintro r19 hh ⟨pu,gx⟩;have gy:sW h0 hh:=(O3.X [] h0).D pu;refine⟨gy,?_⟩;refine p (λ_=>YR gx O)<|pe ?_;have pw:=hg.I gy;have h8:Z7 c.ord i=c.ord[i]:=V9 (ou T);have hol:=Ya a.ed c.ord[i];have pz:qi a i c=(QO a.ed c.ord[i]).foldl (Zq i) (Yi a i c):=by unfold qi;rw[h8]
 generalize p0:QO a.ed c.ord[i]=os at *;have p4:∀e∈os,0<=e.2.2/\e.2.2<a.st:=λe he=>by rw[<-p0]at he;have:=hok.ed e (ZD he).1;omega
 refine QX (α:=Nat×Cs×O0×O0) [(6,6),(11,11),(65,100)] (λz=>[(6,z.2.2.1),(65,sS z.1)])
  (λz w'=>Kq b3 b22 r3 wS z.2.1 z.2.2.1 hU z.2.2.2 w'/\O3 (b3::b22::(ob vo++ob S)) hh w'/\(∀b∈ob z.2.2.1,b∈ob vo\/↑hh<=b)/\(∀b∈ob z.2.2.2,b∈ob S\/↑hh<=b)/\z.1<=os.length/\VF a.st z.2.1/\z.2.1.mk'=(Yi a i c).mk'/\z.2.1.ed.length=c.ed.length+z.1/\c.ord.length<=z.2.1.ord.length/\(os.drop z.1).foldl (Zq i) z.2.1=qi a i c)
  (λz=>os.length - z.1) (0,Yi a i c,vo,S) ov
  ⟨pw,O3.Y _ _,λ_ hb=>.inl hb,λ_ hb=>.inl hb,Lo _,pg,O,by simp[ph],by simp[hV],by rw[pz];rfl⟩ ?_
 rintro⟨k,d,gz,h9⟩ g4 p5 ⟨Y,hB,hC,hW,p6,U,hX,hY,p7,h2⟩;simp only[]at Y hB hC hW p6 U hX hY p7 h2;refine Zi rfl O (λp8=>?_) (λp8=>?_)
 ·rw[Lr oa,ND]at h2;subst h2;refine Qt<|Qr<|Qa<|QB O O<|Qb ?_;have p9:=U.le;refine⟨(i+1,qi a i c,gz,hU,h9),oe,ov,Y,oe,U,by simp only[];rw[hX];exact pj,oe,?_⟩;simp only[];rw[<-hQ];obtain⟨m,hm⟩:∃m,a.st.toNat - i=m+1:=⟨a.st.toNat - i - 1,oa⟩;rw[hm,Xv,OS T,show a.st.toNat - (i+1)=m by omega]
 have hZ:k<os.length:=oa
 have qf:=QY hZ;rw[qf,LO]at h2;have g0:=p4 os[k] (Lk hZ);have qj:=gx.st hB;have p9:=U.le;have hzS4:=hB.size;have hI4z:=Y.st.size;have ql:=Qh.ints (L:=[]) Y.o oa od;obtain⟨q,hq⟩:∃q:Nat,os[k].2.2=q:=⟨os[k].2.2.toNat,oa⟩;have ga:os[k].2.2.toNat=q:=oa
 have gb:q<n:=oa
 have gc:q<d.num.length:=by rw[U.nl];omega
 have g6:Z7 d.num os[k].2.2=d.num[q]:=by rw[V9 oa];simp only[ga]
 have q0:=QU Y.e;have q4:=QU Y.o;refine Qf<|Qe<|Qn<|Qc<|xie qj O O hZ λa67 q5=>x (QF q5 O O)<|QT [sS 0,sS 0,sS 0] λb11 w21 j1 j2 ha=>Q5 (Qp os[k]) ha ox λj3 j4 ha=>xe ?_;have g7:sW p5 j3:=j1.Q j4 j2;have hD:=Y.I g7;have hl11:=ha.lt;have I:=hB.D g7;refine QW (α:=O0) [(6,6),(69,85)] (λz=>[(6,z)]) (λz w'=>Kq b3 b22 r3 wS (Yp d os[k]) z hU h9 w'/\O3 (b3::b22::(ob vo++ob S)) hh w'/\(∀b∈ob z,b∈ob vo\/↑hh<=b)/\QK ↑w' b11 179 (Qp os[k])) oh ?_ ?_
 ·refine Ql<|Qs O ha O O<|x (QE O (OT sS hq) gb)<|x (qC hD.B22 O gc)<|ZP O O<|xe<|Zn O (λge=>?_) (λge=>?_)
  ·refine Qf<|⟨gz,La,?_,I,hC,ha⟩;unfold Yp;rw[g6,OR ge];exact hD
  refine Ql<|Qs O ha O O<|Qa<|QG ql O<|x (QE O (OT sS hq) gb)<|Qo<|JX hD.B22 O O gc λw23 hE za=>xe ?_;have z0:=hD.setN hy hO hE za;have g8:=ha.J hE (by simp;omega);refine Qr<|Qa<|Qs O g8 O O<|Qo<|Yd (us:=[[sS os[k].2.2]]) O O og od ⟨rfl,rfl,Z⟩ λb84 w24 hF hb84 z2=>?_;have gg:=z0.I hF;refine Qo<|QZ (news:=[sS os[k].2.2]) (L:=[]) gg.o O O O (z2.at od) om (by show d.ord.length+1<=_;omega) gg.st.size λg9 z3 z4 gh ka=>Qb ?_;have z5:Qh 3 ↑wS z3 g9 (d.ord++[os[k].2.2]):=Qh.snoc z4;have hz23:=hE.size;have hz24:=hF.size;refine⟨g9,La,?_,?_,?_,(g8.I hF).J gh (λhb=>oo (q4 _ hb))⟩
  ·unfold Yp;rw[g6,OS ge,ga];exact gg.setO hw hy gh z5 ka
  ·refine((I.O hE (λb hb=>.inl ?_)).D hF).O gh (λb hb=>?_)
   ·simp at hb;simp[hb]
   rcases hC b hb with G|G
   ·exact .inl (by simp[G])
   exact .inr G
  intro b hb;rcases ka b hb with G|G
  ·exact hC b G
  exact .inr oa
 rintro vo3 g5 kb ⟨h3,kc,hv8,ke⟩;have gi:Zq i d os[k]=⟨(Yp d os[k]).ord,(Yp d os[k]).num,(Yp d os[k]).mk',(Yp d os[k]).ed++[((i:Int),os[k].2.1,Z7 (Yp d os[k]).num os[k].2.2)]⟩:=qW oa;have hnl:q<(Yp d os[k]).num.length:=by rw[Qlb];exact gc
 have hg2:Z7 (Yp d os[k]).num os[k].2.2=(Yp d os[k]).num[q]:=by rw[V9 oa];simp only[ga]
 have kf:=QJ h3.e hw;have hne22:=QJ h3.e hy;have kg:b11∉ob h9:=λhb=>oo (q0 _ hb)
 have kh:(Yp d os[k]).ed=d.ed:=by unfold Yp;split <;> rfl
 have hc5:VF a.st (Zq i d os[k]):=Qbd U g0.1 g0.2 (by rw[hY];omega);refine ZH (ob h9) (Y0 0 15 [11,12,14])<|p (QH O)<|pq (λ_ E=>Qj (h3.B3.J E kf) O O)<|p Qx<|p (QH O)<|pq (λ_ E=>Qj (ke.J E kg) O O) <|
  p Qx<|p (QH O)<|pq (λ_ E=>Qj (ke.J E kg) O O)<|p (λ_=>QE O (OT sS hq) gb) <|
  pq (λ_ E=>qC (h3.B22.J E hne22) O hnl)<|p (λ_=>QC ⟨O,O,O,Z⟩)<|pk<|Q2 [Qp ((i:Int),os[k].2.1,(Yp d os[k]).num[q])] λb97 w27 hs27 hb97 hB97=>?_
 have h4:sW kb w27:=(O3.X [] kb).D hs27;refine⟨h4.any,?_⟩;have hG:=h3.I h4;refine pk<|QZ (news:=Qp ((i:Int),os[k].2.1,(Yp d os[k]).num[q])) (L:=[]) hG.e O O O (hB97.at od) (λu hu=>by simp only[Qp,oK,oH,or_false]at hu;rcases hu with rfl|rfl|rfl <;> rfl) (by rw[kh];have:=U.el;omega) hG.st.size λki w28 ho28 hH kj=>?_
 refine⟨h4.any.V hH,?_⟩;have kk:Z8 179 ↑wS w28 ki ((Yp d os[k]).ed++[((i:Int),os[k].2.1,(Yp d os[k]).num[q])]):=Z8.snoc ho28;refine p (QH O)<|pkk<|Qv (hG.B3.J hH kf) O O od (Z8.eds (L:=[]) kk (by simp[kh];have:=U.el;omega) od).one λw29 kn hB29=>pe ?_;have gj:=hG.setE hw hy hO hH kk kj kn hB29;rw[<-hg2]at gj;rw[<-gi]at gj;refine Qr<|QB O O<|Qa<|xe ?_;have hz26:=kc.size;have hz27:=h4.size;refine⟨(k+1,Zq i d os[k],vo3,ki),oe,ov,gj,?_,hv8,?_,oe,hc5,?_,?_,?_,h2⟩
 ·refine(((kc.D h4)).O hH (λb hb=>?_)).O kn (λb hb=>.inl (by simp at hb;simp[hb]));rcases hW b hb with G|G
  ·exact .inl (by simp[G])
  exact .inr G
 ·intro b hb;rcases kj b hb with G|G
  ·exact hW b G
  exact .inr oa
 ·simp only[];rw[<-hX,gi];simp only[];unfold Yp;split <;> rfl
 ·simp only[];rw[Qbf,hY];omega
 simp only[];rw[gi];simp only[];unfold Yp;split
 ·simp only[oM];omega
 omega
end Go.Lg
namespace Go.Proofs
open Go.Proofs.Tryz
open Go.Shelf
def Tryz.lays169_ren:Go.Shelf.Ren:=⟨λ|169=>150|n=>n,λ|70=>259|9=>9|0=>0|72=>261|37=>86|127=>332|3=>3|5=>5|n=>n,λ|n=>n⟩
theorem Tryz.lays169:Go.Proofs.Lays.n169 sV Tryz.lays169_ren:=lyS
theorem Tryz.Builder_Extra_169:Builder.Extra sV Tryz.lays169_ren:=lyS
open Go.RowKit in
open Go.RowKit in
open Go.RowKit in
theorem Tryz.Builder_String_any (B b:Nat)(l:List UInt8)(w:OZ)(h:Lib.IsBuilder 261 5 B b (Lib.byteCells l) w)(E:B<=↑w):
  Calls sV 150 #[sP b] w λe w'=>e=.returned (.string ⟨l.toArray⟩)/\Below B w w':=Any.Builder_String_any Tryz.lays169 Tryz.Builder_Extra_169 B b l w h E
def Tryz.laysM171_ren:Go.Shelf.Ren:=⟨λ|171=>149|243=>229|246=>267|283=>295|284=>296|285=>297|286=>298|129=>221|317=>314|318=>315|319=>316|320=>317|337=>323|338=>324|n=>n,λ|3=>3|9=>9|2=>2|4=>4|171=>396|0=>0|53=>319|37=>86|5=>5|173=>398|212=>410|51=>317|20=>20|213=>411|46=>246|232=>417|233=>418|n=>n,λ|17=>0|18=>1|19=>2|n=>n⟩
theorem Tryz.laysM171:Go.Proofs.LaysM.n171 sV Tryz.laysM171_ren:=lyS
open Go.RowKit Go.Sort Go.Lib in
theorem Tryz.strconv_Itoa (n:Int)(E:-9223372036854775808<=n)(G:n<=9223372036854775807)(w:OZ)(I:Lib.TabIs sV w "internal/strconv.uint64pow10" .u64 Lib.pow10Tab):
  Calls sV 149 #[sS n] w λe w'=>e=.returned (.string ⟨(Lib.itoa n).toArray⟩)/\∃k os,w'=grow (w.drewN k) os:=Any.strconv_Itoa Tryz.laysM171 n E G w I
def Tryz.lays171_ren:Go.Shelf.Ren:=⟨λ|171=>149|243=>229|246=>267|283=>295|284=>296|285=>297|286=>298|129=>221|317=>314|318=>315|319=>316|320=>317|337=>323|338=>324|n=>n,λ|3=>3|9=>9|2=>2|4=>4|171=>396|0=>0|53=>319|37=>86|5=>5|173=>398|212=>410|51=>317|20=>20|213=>411|46=>246|232=>417|233=>418|n=>n,λ|17=>0|18=>1|19=>2|n=>n⟩
theorem Tryz.lays171:Go.Proofs.Lays.n171 sV Tryz.lays171_ren:=lyS
open Go.RowKit Go.Sort Go.Lib in
theorem Tryz.strconv_Itoa_small (i:Nat)(hi:i<100)(w:OZ):
  Calls sV 149 #[sS i] w λe w'=>e=.returned (.string ⟨(Lib.decDigits i).toArray⟩)/\w'=w:=Any.strconv_Itoa_small Tryz.lays171 i hi w
end Go.Proofs
namespace Go.Lg
open Go.RowKit
section
variable {K:Fr->OZ->Prop}{f:Fr}
theorem Qeo {te:Nat}(G:P.underlying t=some (.pointer te)){x:O1}{a:Option Addr}(hx:ev f x=.pointer a)(I:ev f y=.pointer none):
  (execOp (ev f) ⟨d,.binOp .eql t x y E,ty,pS,af,gd⟩).run P w=.ok (.value (.bool a.isNone)) w:=by
 have J:(eqGuard .eql t x y (.pointer a) (.pointer none)).run P w=.ok () w:=by simp[eqGuard]
 have key:∀m,(Op.equalIn (m+1) t (.pointer a) (.pointer none)).run P w=.ok a.isNone w:=by
  intro m;unfold Op.equalIn;cases a <;> simp[run_underlying G]
 have S:(Op.equal t (.pointer a) (.pointer none)).run P w=.ok a.isNone w:=key 9999;simp only[execOp,hx,I,Sem.run_bind,J,Result.andThen_ok,binOp,S,Sem.run_pure]
theorem QfD {te:Nat}{j:TypeInfo}(G:P.underlying t=some (.pointer te))(I:P.info? te=some j){x:O1}{a:Addr}(hx:ev f x=.pointer (some a))(J:ev f y=.pointer (some a)):
  (execOp (ev f) ⟨d,.binOp .neq t x y E,ty,pS,af,gd⟩).run P w=.ok (.value (.bool false)) w:=by
 have S:(eqGuard .neq t x y (.pointer (some a)) (.pointer (some a))).run P w=.ok () w:=by simp[eqGuard]
 simp only[execOp,hx,J,Sem.run_bind,S,Result.andThen_ok,Lib.run_neq_ptr_same w a G I,Sem.run_pure]
theorem qD {x:O1}{v:O0}(hx:ev f x=v)(h:(convert t E v).run P w=.ok v' w):
  (execOp (ev f) ⟨d,.convert t E x,ty,pS,af,gd⟩).run P w=.ok (.value v') w:=by
 simp[execOp,hx,h]
theorem Qhu {e:Array O0->Sem O0}{x:O1}{v:O0}{ts:Array Nat}(G:P.funcs[g]?=some fn)(I:(fn.name == "runtime.NumGoroutine")=false)
  (hb:fn.body.isNone=true) (J:Extern.findNext fn=none) (S:Extern.find fn=some e) (h:(e #[ev f x]).run P w=.ok v w):
  (execOp (ev f) ⟨d,.call ⟨.value (.func g),#[x],ts⟩,ty,pS,af,gd⟩).run P w=.ok (.value v) w:=by
 have E:=run_callFunc_extern G I hb J S #[ev f x] w;rw[h]at E;have T:ev f (.func g)=.func (.func g) #[] #[]:=rfl;simp[execOp,resolve,T,Deferred.ofValue,invoke,E,Result.andThen]
theorem Qnu {e u:Nat}[h:Sl P t e 1 1 (.int .u8 0)](E:P.underlying u=some .string){s:O1}{v:O0}{cs:LV}(G:w.ownsRow base e 1 v n cs)(I:ev f s=v)
  {b:ByteArray} (J:ev f y=.string b) (hb:n+b.size<=1099511627776) (S:base<=↑w)
  (hK:∀v' w',w'.ownsRow base e 1 v' (n+b.size) (cs++Lib.strCells b)->O3 (ob v) w w'->K (QN f d v') w'):
  XO P ⟨d,.call ⟨.builtin .append,#[s,y],#[t,u]⟩,ty,pS,af,gd⟩ f w K:=by
 obtain⟨i,hi,T,U,V⟩:=Sl.info h;obtain⟨v',w',Y,h2,h3,_⟩:=Lib.run_append_own_string (P:=P) w base t u ty e i h.u E hi T U V v n cs G b (by simp only[maxLen];omega) oa S;have ha:(execOp (ev f) ⟨d,.call ⟨.builtin .append,#[s,y],#[t,u]⟩,ty,pS,af,gd⟩).run P w=.ok (.value v') w':=by
  simp[execOp,resolve,invoke,builtin,I,J,Y]
 exact xv ha (hK v' w' h2 (by rw[Qaf];exact O3.of_grown h3))
theorem Qhs {x:O1}{u:Nat}(E:P.underlying u=some .string){b:ByteArray}(hx:ev f x=.string b):
  (execOp (ev f) ⟨d,.call ⟨.builtin .len,#[x],#[u]⟩,ty,pS,af,gd⟩).run P w=.ok (.value (sS b.size)) w:=by
 simp[execOp,resolve,invoke,builtin,Builtin.len_,hx,run_underlying E,goInt]
end
def Bl (p:O0)(b:Nat)(E:List UInt8)(w:OZ):Prop:=∃v,QK ↑w b 261 [p,v]/\w.ownsRow (b+1) 5 1 v E.length (Lib.byteCells E)
def me (b:Nat):O0:=sP b
theorem QlG (h:(P.info? t).map (·.size)=some n):∃j,P.info? t=some j/\j.size=n:=by
 simpa using h
theorem jB {b:Nat}{cs:LV}(h:QK ↑w b T cs):w.shape? b=some (T,cs.length):=by
 unfold QK at h;simp[World.shape?,h]
theorem Kj {G:OZ}{b:Nat}{S:List UInt8}{p:O0}(T:sW G w)(hb:↑G<=b)(V:p=.pointer none\/p=me b)(h:Bl p b S w):
  QS sV 228 [me b] w λr w'=>r=.tuple #[]/\sW G w'/\Bl (me b) b S w':=by
 obtain⟨v,E,I⟩:=h;obtain⟨j,J,Y⟩:=QlG (P:=sV) (t:=261) (n:=2) oc;refine Zl func228 ?_;refine Qc ?_;rcases V with rfl|rfl
 ·refine Qa<|ZY O<|Qs O E O O<|x (Qeo underlying259 O O)<|xe<|yd O ?_;refine Qr<|Qa<|Qa<|x (qD (v':=me b) O (Lib.run_to_unsafe w ⟨b,0,none⟩ underlying259 underlying372 J (by rw[Y];decide) (jB E) od)) <|
   x (Qhu (v:=me b) func266 oc oc oc (e:=Extern.AbiNoEscape.same) oc O) <|
   x (qD (v':=me b) O (Lib.run_from_unsafe w ⟨b,0,none⟩ underlying372 underlying259 J (jB E) oc))<|x (Vu O) <|
   Q7 rfl<|Qo<|Qv E O O od rfl λw2 U ha=>xe ?_
  exact⟨[],Z,O,T.Q U hb,v,ha,Qg I U (λc hc=>by have:=(Qi I c hc).1;simp;omega)⟩
 refine Qa<|ZY O<|Qs O E O O<|x (Qeo underlying259 O O)<|xe<|Zz O<|Ql<|ZY O<|Qs O E O O<|Qa<|x (QfD underlying259 J O O)<|xe<|Zz O<|Qf ?_;exact⟨[],Z,O,T,v,E,I⟩
theorem Ka {J:OZ}{b:Nat}{E:List UInt8}{p:O0}(h0:sW J w)(hb:↑J<=b)(hp:p=.pointer none\/p=me b)(h:Bl p b E w)(c:UInt8)(hl:E.length+1<=1000000000):
  QS sV 187 [me b,.int .u8 c.toNat] w λ_ w'=>sW J w'/\Bl (me b) b (E++[c]) w':=by
 refine Zl func187 ?_;refine Qc<|Qb<|Ql<|Qw<|(Kj h0 hb hp h).S ?_;rintro r1 w1 ⟨rfl,he,v,S,T⟩;refine xe ?_;have hj:=S.lt;refine Ql<|Qa<|ZY O<|Qs O S O O<|Qa<|Qo<|Q2 [[.int .u8 c.toNat]] λhk w2 I hm hf=>?_;have hn:=I.size;refine Qo<|QZ (news:=[.int .u8 c.toNat]) (L:=[]) (Qm T I) O O O (hf.at od) om oa oa λV w3 hg Y hq=>?_;have U:w3.ownsRow (b+1) 5 1 V (E++[c]).length (Lib.byteCells (E++[c])):=by simpa[Lib.byteCells]using hg
 refine ZY rfl<|Q7 O<|Qo<|Qv ((S.I I).J Y (λG=>oo (Qi T b G).1)) O O od (QM (L:=[]) U (by simp;omega) od).one λw4 ha hh=>xe ?_;refine Qc<|Qb<|Qk ⟨[.nilIface],La,(((he.D I).O Y (λc G=>.inr ?_)).Q ha hb),V,hh,Qg U ha (λc G=>by have:=(Qi U c G).1;simp;omega)⟩;have:=(Qi T c G).1;omega
theorem Je {I:OZ}{b:Nat}{E:List UInt8}{p:O0}(h0:sW I w)(hb:↑I<=b)(hp:p=.pointer none\/p=me b)(h:Bl p b E w)(s:ByteArray)(hl:E.length+s.size<=1000000000):
  QS sV 148 [me b,.string s] w λ_ w'=>sW I w'/\Bl (me b) b (E++s.data.toList) w':=by
 refine Zl func148 ?_;refine Qc<|x Qd<|Qb<|Ql<|Qw<|(Kj h0 hb hp h).S ?_;rintro r1 w1 ⟨rfl,he,v,J,S⟩;refine xe ?_;have hh:=J.lt;refine Ql<|Qa<|ZY O<|Qs O J O O<|Qa<|Qo<|Qnu underlying9 S O O oa oa λU w3 hf V=>?_;have Y:s.size=s.data.toList.length:=rfl;have T:w3.ownsRow (b+1) 5 1 U (E++s.data.toList).length (Lib.byteCells (E++s.data.toList)):=by
  rw[Lc,<-Y,show Lib.byteCells (E++s.data.toList)=Lib.byteCells E++Lib.strCells s by simp[Lib.byteCells,Lib.strCells_eq]];exact hf
 refine ZY rfl<|Q7 O<|Qo<|Qv (J.J V (λG=>oo (Qi S b G).1)) O O od (QM (L:=[]) T (by rw[Lc,<-Y];omega) od).one λw4 ha hg=>xe ?_;refine Ql<|x (Qhs underlying9 O)<|x Qd<|Qb<|Qk ⟨[sS s.size,.nilIface],ov,((he.O V (λc G=>.inr ?_)).Q ha hb),U,hg,Qg T ha (λc G=>by have:=(Qi T c G).1;simp;omega)⟩;have:=(Qi S c G).1;omega
theorem KZ {J:OZ}{b:Nat}{I:List UInt8}{p:O0}(E:sW J w)(hb:↑J<=b)(V:p=.pointer none\/p=me b)(h:Bl p b I w):
  QS sV 150 [me b] w λr w'=>r=.string ⟨I.toArray⟩/\sW J w':=by
 obtain⟨v,S,T⟩:=h;have ha:=S.lt;have U:Lib.BuilderAt 261 5 b b p (Lib.byteCells I) w:=⟨Lp _,v,S,by rw[Lib.byteCells_length];exact Q9 T oa,λe=>by
  have:b∈ob v:=by rw[Qaf,e];simp
  have:=(Qi T b this).1;omega⟩
 unfold QS;refine Calls.mono (Tryz.Builder_String_any b b I w (by rcases V with rfl|rfl;exact .inl U;exact .inr U) oa) ?_
 rintro e w' ⟨rfl,G⟩;exact⟨O,⟨G.os.D E.os,G.tape.D E.tape,G.output.D E.output,Lx E.size G.size,λk Y hL=>(G.block k oa).D (E.block k Y hL)⟩⟩
def Tb (w:OZ):Prop:=Lib.TabIs sV w "internal/strconv.uint64pow10" .u64 Lib.pow10Tab
theorem QgQ {name:String}{v:Array O0}(h:w.var? P name=some v)(I:sW w w'):w'.var? P name=some v:=by
 unfold World.var? at *;rw[MM]at *;obtain⟨g,J,E⟩:=h;refine⟨g,J,?_⟩;cases G:w.heap[g]? with
 | none=>rw[G]at E;cases E
 | some o =>
  have S:g<w.heap.size:=(LH.1 G).1;rw[I.block g S od];exact E
theorem Tb.I (h:Tb w)(E:sW w w'):Tb w':=QgQ h E
def Kb (w:OZ)(m:Int):Prop:=m<=100\/(m<=1000000/\Tb w)
theorem Kb.I {w w':OZ}{m:Int}(h:Kb w m)(E:sW w w'):Kb w' m:=h.imp id λh=>⟨h.1,h.2.I E⟩
theorem Kb.le {m:Int}(h:Kb w m):m<=1000000:=by rcases h with h|h <;> omega
theorem QcV {k:Nat}{os:xz}:sW w (Sort.grow (w.drewN k) os):=by
 refine⟨O,O,O,?_,λi hi _=>?_⟩
 ·show ↑w<=(w.heap++os).size;simp
 show(w.heap++os)[i]?=w.heap[i]?;rw[Array.getElem?_append_left hi]
theorem Qav {m:Int}(i:Nat)(hi:(i:Int)<m)(w:OZ)(E:Kb w m):QS sV 149 [sS i] w λr w'=>r=.string ⟨(Lib.decDigits i).toArray⟩/\sW w w':=by
 unfold QS;rcases E with E|E
 ·refine Calls.mono (Tryz.strconv_Itoa_small i oa w) ?_;rintro e w' ⟨rfl,rfl⟩;exact⟨O,O3.Y _ _⟩
 refine Calls.mono (Tryz.strconv_Itoa i oa oa w E.2) ?_;rintro e w' ⟨rfl,k,os,rfl⟩;refine⟨?_,QcV⟩;unfold Lib.itoa;rw[OR oa,ML]
def YM (l:LI):List UInt8:=l.flatMap λn=>Lib.decDigits n.toNat++[32]
theorem J1:∀(k u:Nat),u<10 ^ k->(Lib.decDigits u).length<=max 1 k
 | 0,u,h=>by
  unfold Lib.decDigits;rw[dif_pos (by simp at h;omega)];simp
 | k+1,u,h=>by
  unfold Lib.decDigits;split
  ·simp
  rename_i E;have ih:=J1 k (u / 10) (by rw[OM]at h;omega);rw[Lc];simp only[oL];have G:k≠0:=λe=>by subst e;simp at h;omega
  omega
theorem Bl.I {w w':OZ}{p:O0}{b:Nat}{E:List UInt8}(h:Bl p b E w)(G:sW w w'):Bl p b E w':=by
 obtain⟨v,I,J⟩:=h;exact⟨v,I.I G,Qm J G⟩
theorem Qaq {L:LN}{v:O0}{l:LI}{m:Int}(h:Qu L ↑w v l)(U:Kb w m)(hb:∀n∈l,0<=n/\n<m)(hl:l.length<=1000000):
  QS sV 120 [v] w λr w'=>r=.string ⟨(YM l).toArray⟩/\sW w w':=by
 refine Zl func120 ?_;refine Qc<|Qb<|Qc<|QT [.pointer none,nS] λI w1 ha J hc=>xe ?_;refine Qe<|Ql<|QG h O<|Qa<|xe<|QX (α:=Nat×O0) [(5,5),(8,16)] (λz=>[(8,sS z.1)]) (λz w'=>z.1<=l.length/\sW w w'/\(z.2=.pointer none\/z.2=me I)/\Bl z.2 I (YM (l.take z.1)) w'/\(YM (l.take z.1)).length<=8*z.1) (λz=>l.length - z.1) (0,.pointer none) La
  ⟨Lo _,ha,.inl O,⟨_,hc,QL _ _ _ _⟩,Lp _⟩ ?_
 rintro⟨k,p⟩ g w2 ⟨hk,E,S,G,he⟩;simp only[]at hk S G he;refine Zi rfl O (λh9=>?_) (λh9=>?_)
 ·refine Qt<|Qc ?_;rw[Lq oa]at G;refine Kz<|(KZ E J S G).S ?_;rintro r3 w3 ⟨rfl,hf⟩;refine Qb<|Qk ⟨[.string ⟨(YM l).toArray⟩],La,O,hf⟩
 have T:k<l.length:=oa
 have hr:=hb l[k] (Lk T);obtain⟨q,hq⟩:∃q:Nat,l[k]=q:=⟨l[k].toNat,oa⟩;have hg:l[k].toNat=q:=oa
 have hs:=J1 7 q (oo U.le);have V:YM (l.take (k+1))=YM (l.take k)++Lib.decDigits q++[32]:=by
  rw[Lh T];unfold YM;rw[LD,M6,hg,LC]
 refine Qf<|Qe<|Qn<|Qc<|xii (h.I E) O O T λht hh=>x (Qq hh O)<|Qb<|Ql<|Qo<|xf ?_;refine(show QS _ _ [sS l[k]] _ _ by rw[hq];exact(Qav q oa w2 (U.I E))).S ?_;rintro r4 w4 ⟨rfl,Y⟩;refine Kz<|(Je (E.D Y) J S (G.I Y) ⟨(Lib.decDigits q).toArray⟩ (by show _+(Lib.decDigits q).toArray.size<=_;simp;omega)).S ?_;rintro r5 w5 ⟨hj,hm⟩;refine xe<|Qr<|Kz<|(Ka hj J (.inr O) hm 32 (by simp;omega)).S ?_;rintro r6 w6 ⟨hn,ho⟩;refine xe<|Qr<|QB O O<|Qa<|xe<|⟨(k+1,me I),oe,La,oe,hn,.inr O,?_,?_⟩
 ·simp only[];rw[V];simpa using ho
 simp only[];rw[V];simp;omega
theorem VA (p:AV):(Zx p).length=4:=rfl
theorem Kc (p:TV):(YB p).length=1:=rfl
theorem XN.le {L:LN}{H:xz}{v:O0}{ps:List AV}(h:XN L H v ps):ps.length<=1099511627776:=h.arr.le
theorem Qjy {l:List QD}{k:Nat}(h:k<l.length):ckL (l.drop k)=if XX l[k]≠0 then XX l[k]else ckL (l.drop (k+1)):=by
 rw[L6 h,ckL]
theorem QfI {L:LN}{v:O0}{ps:List AV}(h:XN L ↑w v ps):
  QS sV 117 [v] w λr w'=>r=sS (Vd (ps.map (·.a)))/\sW w w':=by
 have hm:=XN.le h;refine Zl func117 ?_;refine Qc<|Qb<|Qe<|Ql<|QG h.arr O<|x (Z5 O O)<|xe<|Zh rfl (λU=>?_) (λU=>?_)
 ·refine Qc<|Qb<|Qk ⟨[sS 3],La,?_,O3.Y _ _⟩;unfold Vd;rw[OS (by simp;omega)];rfl
 refine Qf ?_;have V:Vd (ps.map (·.a))=ckL (ps.map (·.a)):=by unfold Vd;rw[OR (by simp;omega)]
 rw[V];refine Qe<|Ql<|QG h.arr O<|Qa<|xe<|QX (α:=Nat) [(2,2),(4,5),(11,20)] (λz=>[(11,sS z)]) (λz w'=>z<=ps.length/\sW w w'/\ckL (ps.map (·.a))=ckL ((ps.map (·.a)).drop z)) (λz=>ps.length - z) 0 La
  ⟨Lo _,O3.Y _ _,O⟩ ?_
 rintro k g Y ⟨hk,E,hck⟩;refine Zi rfl O (λha=>?_) (λha=>?_)
 ·refine Qt<|Qc<|Qb<|Qk ⟨[sS 0],La,?_,E⟩;rw[hck,Lr (by simp;omega)];rfl
 have G:k<ps.length:=oa
 have hc:k<(ps.map (·.a)).length:=by simpa using G
 rw[Qjy hc,MR]at hck;refine Qf<|Qe<|Qn<|Qc<|O6 VA (h.I E).arr O O G λhn he=>x (QF he O O)<|QT [nS,sS 0,nS,nS] λb4 w2 hf hg I=>?_;have hA:=h.each ps[k] (Lk G);refine Q5 (Zx ps[k]) I ⟨hA.al.one,O,hA.mr.one,hA.ed.one,Z⟩ λw3 hh I=>xe ?_;have S:sW Y w3:=hf.Q hh hg;refine Qc<|Q3 I O O<|Qw<|(YV ((hA.I E).I S)).S ?_;rintro r4 w4 ⟨rfl,hj⟩;refine Qb ?_;have T:=(E.D S).D hj;refine Ql<|ZL O O<|xe<|Zh rfl (λJ=>?_) (λJ=>?_)
 ·refine Ql<|Qb<|Qk ⟨[sS (XX ps[k].a)],La,?_,T⟩;rw[hck,OS J];rfl
 refine Qf<|Qr<|QB O O<|Qa<|xe<|⟨k+1,oa,La,G,T,?_⟩;rw[hck,OR J]
theorem Qi6 {l:List QD}{k:Nat}(h:k<l.length):evs (l.take (k+1))=mrg (· || ·) (evs (l.take k)) l[k].al:=by
 unfold evs;rw[Lh h,Mh];rfl
theorem QaF (l:List QD)(h:∀a∈l,a.al.length<=32):(evs l).length<=32*l.length:=by
 have key:∀(l:List QD) (acc:LI),(∀a∈l,a.al.length<=32)->(l.foldl (λacc a=>mrg (· || ·) acc a.al) acc).length<=acc.length+32*l.length:=by
  intro l;induction l with
  | nil=>intro acc _;simp
  | cons a l ih =>
   intro acc h;have G:=ih (mrg (· || ·) acc a.al) (λa E=>h a (Lj _ E));have I:=qF (· || ·) acc a.al;have J:=h a Ll;simp only[List.foldl_cons,oQ];omega
 have:=key l [] h;unfold evs;simpa using this
theorem Qf5 {L:LN}{v:O0}{ps:List AV}(h:XN L ↑w v ps)(hn:ps.length<=12)(T:∀p∈ps,p.a.al.length<=32):
  QS sV 186 [v] w λr w'=>sW w w'/\Qh 3 ↑w w' r (evs (ps.map (·.a))):=by
 refine Zl func186 ?_;refine Qc<|Qb<|Qc<|Qb<|Qe<|Ql<|QG h.arr O<|Qa<|xe<|QX (α:=Nat×O0) [(3,3),(5,5),(8,16)] (λz=>[(3,z.2),(8,sS z.1)]) (λz w'=>z.1<=ps.length/\sW w w'/\Qh 3 ↑w w' z.2 (evs ((ps.map (·.a)).take z.1))) (λz=>ps.length - z.1) (0,nS) ov
  ⟨Lo _,O3.Y _ _,QL _ _ _ _⟩ ?_
 rintro⟨k,vo⟩ g V ⟨Y,I,G⟩;simp only[]at Y G;have hm:=QaF ((ps.map (·.a)).take k) (λa ha=>by obtain⟨p,hp,rfl⟩:=Ly.1 (L2 ha);exact T p hp);have hq:((ps.map (·.a)).take k).length<=12:=by simp;omega
 refine Zi rfl O (λh9=>?_) (λh9=>?_)
 ·refine Qt<|Ql<|Qb<|Qk ⟨[vo],La,I,?_⟩;rw[Lq (by simp;omega)]at G;exact G
 have E:k<ps.length:=oa
 refine Qf<|Qe<|Qn<|Qc<|O6 VA (h.I I).arr O O E λhr hc=>x (QF hc O O)<|QT [nS,sS 0,nS,nS] λb5 w2 he hf J=>?_;have hA:=h.each ps[k] (Lk E);have hs:=T ps[k] (Lk E);refine Q5 (Zx ps[k]) J ⟨hA.al.one,O,hA.mr.one,hA.ed.one,Z⟩ λw3 hg J=>xe ?_;have U:sW V w3:=he.Q hg hf;have S:=I.D U;refine Qr<|Qa<|Qs O J O O<|Qw<|(yf (Qh.ints (L:=[]) (Qm G U) oa od) (hA.al.I S) oa).S ?_;rintro r4 w4 ⟨hh,hj⟩;refine Qb<|Qr<|QB O O<|Qa<|xe<|⟨(k+1,r4),oe,ov,E,S.D hh,?_⟩;simp only[];rw[Qi6 (ou E),MR];exact Q9 hj S.size
abbrev QeG (b:Nat):LV:=[.map (some b)]
structure KX (L:LN)(H:xz)(vl ve vs:O0)(ps:List AV)(ms:LN):Prop where
 al:XN L H vl ps
 ev:Qu L H ve (evs (ps.map (·.a)))
 ml:ms.length=ps.length
 sl:Zs L H vs ms.length 1 (ms.flatMap QeG)
 mp:∀i (h:i<ms.length) (h':i<ps.length),ZO Yl H ms[i] (Kt [] ps[i].a.ed)/\ms[i]∉L
theorem KX.I {L:LN}{w w':OZ}{vl ve vs:O0}{ps:List AV}{G:LN}(h:KX L ↑w vl ve vs ps G)(E:sW w w'):KX L ↑w' vl ve vs ps G :=
 ⟨h.al.I E,h.ev.I E,h.ml,h.sl.I E,λi I J=>⟨(h.mp i I J).1.I E,(h.mp i I J).2⟩⟩
theorem KX.st {L:LN}{w w':OZ}{vl ve vs:O0}{ps:List AV}{J:LN}(h:KX L ↑w vl ve vs ps J)(E:O3 L w w'):KX L ↑w' vl ve vs ps J :=
 ⟨h.al.st E,h.ev.st E,h.ml,h.sl.st E,λi G I=>⟨(h.mp i G I).1.J E (h.mp i G I).2,(h.mp i G I).2⟩⟩
theorem KX.up {L L':LN}{H:xz}{vl ve vs:O0}{ps:List AV}{J:LN}(h:KX L H vl ve vs ps J)(E:∀b∈L',b∈L\/H.size<=b):KX L' H vl ve vs ps J :=
 ⟨h.al.up E,h.ev.up E,h.ml,h.sl.up E,λi G I=>⟨(h.mp i G I).1,λT=>by rcases E _ T with S|S;exact(h.mp i G I).2 S;have:=(h.mp i G I).1.lt;omega⟩⟩
theorem zR {m:List ((Int×Int)×O0)}{es:List Ed}{k:Nat}(h:k<es.length):Kt m (es.take (k+1))=O9 (Kt m (es.take k)) (es[k].1,es[k].2.1) (sS es[k].2.2):=by
 unfold Kt;rw[Lh h,Mh];rfl
theorem Qk3 {L:LN}{ps:List AV}(h:XN L ↑w vl ps)(hn:ps.length<=12)(hF:∀p∈ps,p.a.al.length<=32)(hL:∀b∈L,b<↑w):
  QS sV 118 [vl] w λr w'=>sW w w'/\∃ve vs E,r=.agg #[vl,ve,vs]/\KX L ↑w' vl ve vs ps E/\Qh 3 ↑w w' ve (evs (ps.map (·.a))):=by
 refine Zl func118 ?_;refine Qc<|QT [nS,nS,nS] λb2 w1 hv hR hw=>xe ?_;refine Ql<|Qa<|Qw<|(Qf5 (h.I hv) hn hF).S ?_;rintro ve w2 ⟨Y,hc⟩;have hS:=QaF (ps.map (·.a)) (λa ha=>by obtain⟨p,hp,rfl⟩:=Ly.1 ha;exact hF p hp);have kb:(evs (ps.map (·.a))).length<=1000:=by simp at hS;omega
 have hy:=Qh.ints (L:=[]) hc oa od;refine x (QC ⟨h.arr.cells,hy.cells,Z⟩)<|QT [nS,nS,nS] λb3 w3 hT hU he =>
  Q5 [vl,ve,nS] he ⟨h.arr.one,hy.one,O,Z⟩ λG hV he=>xe ?_
 have hW:=hv.size;have kc:=Y.size;have hf:sW w2 G:=hT.Q hV hU;have ke:=hw.lt;have kf:=he.lt;have hX:sW w G:=(hv.D Y).D hf;have hY:=Qm hc hf;refine Qe<|Ql<|QG h.arr O<|Qa<|xe ?_;have hZ:=QU hc;refine QX (α:=Nat×LN×O0) [(5,6),(8,8),(15,42)] (λz=>[(15,sS z.1)])
  (λz w'=>z.1<=ps.length/\z.2.1.length=z.1/\O3 [b3] G w'/\QK ↑w' b3 225 [vl,ve,z.2.2]/\w'.ownsRow ↑G 249 1 z.2.2 z.2.1.length (z.2.1.flatMap QeG) /\
   (∀i (h:i<z.2.1.length) (h':i<ps.length),ZO Yl ↑w' z.2.1[i] (Kt [] ps[i].a.ed)/\↑G<=z.2.1[i]/\z.2.1[i]∉ob z.2.2)) (λz=>ps.length - z.1) (0,[],nS) La
  ⟨Lo _,O,O3.Y _ _,he,QL _ _ _ _,λi h=>by simp at h⟩ ?_
 rintro⟨k,E,vs⟩ g w5 ⟨hk,hg,I,hz,J,hh⟩;simp only[]at hk hg I hz J hh;have ho:sW w w5:=hX.Q I oa;have kg:=I.size;have hr:=Qi J;refine Zi rfl O (λga=>?_) (λga=>?_)
 ·have gb:k=ps.length:=oa
  subst gb;refine Qt<|Qc ?_;have gc:=QM (L:=[]) J oa od;refine Q3 hz O O<|Q5 [vl,ve,vs] (((hw.I Y).I hf).J I (by simp;omega)) ⟨h.arr.one,hy.one,gc.one,Z⟩ λw6 hs ge=>xe ?_;have hG:=ho.Q hs hR;have hH:Qh 3 ↑w1 w6 ve _:=Qg (Qg hY I (λb hb=>by have:=hZ b hb;simp;omega)) hs (λb hb=>by have:=(Qi hc b hb).1;simp;omega);have hI:=Qg J hs (λb hb=>by have:=(hr b hb).1;simp;omega);refine Qk ⟨[.agg #[vl,ve,vs]],⟨JN ge,Z⟩,hG,ve,vs,E,O,⟨h.I hG,Qh.ints hH oa (λb hb=>oo (hL b hb)),hg,QM hI oa (λb hb h0=>oq (hL b h0) (Qi hI b hb).1),λi h1 h2=>⟨?_,λh0=>oq (hL _ h0) (hh i h1 h2).2.1⟩⟩,Q9 hH hW⟩;obtain⟨S,m2,_⟩:=hh i h1 h2;exact S.J hs (λhb=>by
   simp only[oF]at hb;have h7:=(((hw.I Y).I hf).J I (by simp;omega));rw[hb]at S;obtain⟨es,c,m4,_⟩:=S;unfold QK at h7;rw[h7]at m4;cases m4)
 have h3:k<ps.length:=oa
 have hA:=h.each ps[k] (Lk h3);refine Qf<|Qe<|Qn<|Qc<|O6 VA (h.I ho).arr O O h3 λkh gg=>x (QF gg O O)<|QT [nS,sS 0,nS,nS] λb5 w7 gh gi gj =>
  Q5 (Zx ps[k]) gj ⟨hA.al.one,O,hA.mr.one,hA.ed.one,Z⟩ λw8 gk hJ=>xe ?_
 have gl:sW w5 w8:=gh.Q gk gi;have ki:=hJ.lt;refine Qc<|Qo<|ZU Yl λbm w9 hK kj hM=>Qb ?_;have kk:=hM.lt;have hN:=gl.D hK;have gm:=ho.D hN;refine Qe<|Qc<|Qs O (hJ.I hK) O O<|QG hA.ed O<|Qa<|xe ?_;have gn:=(hA.ed.up (L':=[bm]) (λb hb=>.inr (by simp at hb;have:=ho.size;omega))).I gm;have kn:=hA.ed.le;refine QX (α:=Nat) [(8,8),(23,35)] (λz=>[(23,sS z)]) (λz w'=>z<=ps[k].a.ed.length/\O3 [bm] w9 w'/\ZO Yl ↑w' bm (Kt [] (ps[k].a.ed.take z))) (λz=>ps[k].a.ed.length - z) 0 La
  ⟨Lo _,O3.Y _ _,hM⟩ ?_
 rintro j g2 T ⟨hj,ht,h4⟩;have ko:=ht.size;refine Zi rfl O (λgo=>?_) (λgo=>?_)
 ·refine Qt ?_;rw[Lq oa]at h4;have h6:sW w5 T:=hN.Q ht oa;have hO:QK ↑T b3 225 [vl,ve,vs]:=hz.I h6;refine Qr<|Qs O hO O O<|Qa<|Qo<|Q2 [[.map (some bm)]] λkq gq hu kr gr=>?_;have h8:=h6.D hu;have gs:=Qm J h8;have kt:=h8.size;refine Qo<|QZ (news:=[.map (some bm)]) (L:=[]) gs O O O (gr.at od) om oa oa λh9 gt gu hB hP=>?_;have hC:gt.ownsRow ↑G 249 1 h9 (E++[bm]).length ((E++[bm]).flatMap QeG):=by
   rw[Lc,LD];simpa using gu
  have gv:=(hO.I hu).J hB (QJ J oa);refine Q7 O<|Qo<|Qv gv O O od (QM (L:=[]) hC (by simp;omega) od).one λgx hD gy=>xe ?_;refine Qr<|QB O O<|Qa<|xe ?_;have gz:∀b∈ob h9,↑G<=b:=λb hb=>(Qi hC b hb).1;have ku:T.heap.size<=gq.heap.size:=hu.size;refine⟨(k+1,E++[bm],h9),oe,La,h3,by simp[hg],?_,gy,Qg hC hD (λb hb=>by have:=gz b hb;simp;omega),?_⟩
  ·exact((I.D h8).O hB (λb hb=>.inr (hr b hb).1)).V hD
  intro i h1 h2;simp only[oM,oL]at h1;have keep:∀(c:Nat) (m:List ((Int×Int)×O0)),ZO Yl ↑T c m->c≠b3->c∉ob vs->ZO Yl ↑gx c m:=λc m hm g0 g3 =>
   ((hm.I hu).J hB g3).J hD (ou g0)
  by_cases hi:i<E.length
  ·obtain⟨S,m2,m3⟩:=hh i hi h2;simp only[List.getElem_append_left hi];refine⟨keep _ _ (S.I h6) oa m3,m2,λhb=>?_⟩;have kv:=S.lt;rcases hP _ hb with U|U
   ·exact m3 U
   omega
  have hi':i=E.length:=oa
  subst hi';simp only[List.getElem_append_right (Oz _),Nat.sub_self,List.getElem_singleton];have hq:E.length=k:=hg;have e2:ps[E.length]=ps[k]:=by simp only[hq]
  rw[e2];refine⟨keep _ _ h4 oa (λhb=>oo (hr _ hb).2),oa,λhb=>?_⟩;rcases hP _ hb with U|U
  ·have:=(hr _ U).2;omega
  omega
 have hE:j<ps[k].a.ed.length:=oa
 refine Qf<|Qe<|Qn<|Qc<|xie (gn.st ht) O O hE λkw g4=>x (QF g4 O O)<|QT [sS 0,sS 0,sS 0] λb8 kx g5 g6 V=>Q5 (Qp ps[k].a.ed[j]) V ox λg7 g8 V=>xe ?_;have hQ:sW T g7:=g5.Q g8 g6;refine Qr<|Qa<|Qs O V O O<|Qs O V O O<|x (QC ⟨O,O,Z⟩)<|x (VT O) <|
  ZB V rfl O<|Qo<|YH (k:=(ps[k].a.ed[j].1,ps[k].a.ed[j].2.1)) (h4.I hQ) O O λkz g9 ka=>xe ?_
 refine Qr<|QB O O<|Qa<|xe<|⟨j+1,oa,La,hE,(ht.D hQ).V g9,?_⟩;rw[zR hE];exact ka
theorem Qdo {L:LN}{ps:List AV}{ms:LN}(h:KX L ↑w vl ve vs ps ms)(hn:ps.length<=12):
  QS sV 119 [.agg #[vl,ve,vs]] w λr w'=>sW w w' /\
   if ∃p∈ps,p.a.st=0 then r=.tuple #[nS,.bool false]else ∃v,r=.tuple #[v,.bool true]/\Qh 3 ↑w w' v (oG ps.length 0):=by
 refine Zl func119 ?_;refine Qc<|Zc [vl,ve,vs] λb1 w1 G hm T=>x Qd<|Qb<|Qe<|Qc<|Qs O T O O<|QG h.al.arr O<|Qa<|xe<|QX (α:=Nat) [(2,3),(5,5),(9,16)] (λz=>[(9,sS z)]) (λz w'=>z<=ps.length/\sW w1 w'/\∀i (h:i<ps.length),i<z->ps[i].a.st≠0) (λz=>ps.length - z) 0 La
  ⟨Lo _,O3.Y _ _,λi _ h=>oa⟩ ?_
 rintro k g w2 ⟨hk,E,U⟩;refine Zi rfl O (λha=>?_) (λha=>?_)
 ·refine Qt<|Qc<|Qs O (T.I E) O O<|QG h.al.arr O<|Qo<|YS (n:=ps.length) O O oa λhc w3 he ho V=>x Qd<|Qb ?_;rw[show(oG ps.length (sS 0).cells.toList).flatten=((oG ps.length 0).map (Value.int .i64)) by rw[show(sS 0).cells.toList=[sS 0] from rfl,Qbs,List.map_replicate]]at V;have hz:=(G.D E).size;refine Qk ⟨[sL hc ps.length ps.length,.bool true],ov,(G.D E).D he,?_⟩;rw[OR (by
   rintro⟨p,hp,h0⟩;obtain⟨i,hi,rfl⟩:=LP hp;exact U i hi oa h0)]
  refine⟨_,O,?_⟩;have:=V.own (n:=ps.length) (sz:=1) (base:=↑w) od oa oa;unfold Qh;rw[List.length_replicate];exact this
 have I:k<ps.length:=oa
 have hA:=h.al.each ps[k] (Lk I);refine Qf<|Qe<|Qn<|Qc<|O6 VA ((h.al.I G).I E).arr O O I λhq hf=>x (QF hf O O)<|QT [nS,sS 0,nS,nS] λb5 w4 hg hh J =>
  Q5 (Zx ps[k]) J ⟨hA.al.one,O,hA.mr.one,hA.ed.one,Z⟩ λw5 hj J=>xe ?_
 have Y:sW w2 w5:=hg.Q hj hh;refine Qc<|Qs O J O O<|x (Zd O O)<|xe<|Zh rfl (λS=>?_) (λS=>?_)
 ·refine Qc<|x Qd<|Qb<|Qk ⟨[nS,.bool false],ov,(G.D E).D Y,?_⟩;rw[OS ⟨ps[k],Lk I,S⟩];rfl
 refine Qf<|Qr<|QB O O<|Qa<|xe<|⟨k+1,oa,La,I,E.D Y,λi hi hr=>?_⟩;by_cases e:i=k
 ·subst e;exact S
 exact U i hi oa
theorem Qdf {aa:List QD}{ts:LI}{k:Nat}(h:k<aa.length)(E:k<ts.length):Jj (aa.drop k) (ts.drop k)=(decide (ts[k]∈aa[k].mr) && Jj (aa.drop (k+1)) (ts.drop (k+1))):=by
 rw[L6 h,L6 E,Jj]
theorem QfP {L:LN}{ps:List AV}{ms:LN}{ts:LI}(h:KX L ↑w vl ve vs ps ms)(ht:Qu L ↑w vt ts)(hl:ts.length=ps.length)(hi:∀p∈ps,Yw p.a.mr)(hn:ps.length<=12):
  QS sV 121 [.agg #[vl,ve,vs],vt] w λr w'=>r=.bool (Jj (ps.map (·.a)) ts)/\sW w w':=by
 refine Zl func121 ?_;refine Qc<|Zc [vl,ve,vs] λb2 w1 he hr hf=>Qb<|Qe<|Qc<|Qs O hf O O<|QG h.al.arr O<|Qa<|xe<|QX (α:=Nat) [(4,6),(10,23)] (λz=>[(10,sS z)]) (λz w'=>z<=ps.length/\sW w w'/\Jj (ps.map (·.a)) ts=Jj ((ps.map (·.a)).drop z) (ts.drop z)) (λz=>ps.length - z) 0 La
  ⟨Lo _,he,O⟩ ?_
 rintro k g w2 ⟨hk,I,G⟩;refine Zi rfl O (λhg=>?_) (λhg=>?_)
 ·refine Qt<|Qc<|Qb<|Qk ⟨[.bool true],La,?_,I⟩;rw[G,Lr (by simp;omega)];rfl
 have E:k<ps.length:=oa
 have V:k<ts.length:=oa
 have hA:=h.al.each ps[k] (Lk E);rw[Qdf (ou E) V,MR]at G;refine Qf<|Qe<|Qn<|Ql<|O6 VA (h.al.I I).arr O O E λhs hh=>x (QF hh O O)<|QT [nS,sS 0,nS,nS] λb6 w3 hj hm J=>x Qd <|
  Q5 (Zx ps[k]) J ⟨hA.al.one,O,hA.mr.one,hA.ed.one,Z⟩ λY ho J=>xe ?_
 have hp:sW w2 Y:=hj.Q ho hm;have S:=I.D hp;refine Qe<|ZH [] (Y0 0 8 [6])<|p (QH O)<|pq (λ_ T=>Qj (J.I T) O O)<|p Qx<|p Qx<|pii O (ht.I S) O O V λhu hq =>
  pq (λ_ T=>Qq (hq.I T) O)<|pk<|xg<|(JQ ((hA.mr.I S).I (O3.X _ _)) (hi ps[k] (Lk E)) _).S ?_
 rintro r5 w5 ⟨rfl,rfl⟩;refine⟨O3.X _ _,?_⟩;refine p (λ_=>Zj O)<|pe ?_;have ha:=S.D (O3.X [] Y);refine Q0 rfl (λU=>?_) (λU=>?_)
 ·refine Qc<|Qb<|Qk ⟨[.bool false],La,?_,ha⟩;rw[G,show decide (ts[k]∈ps[k].a.mr)=false by simpa using U];rfl
 refine Qf<|Qr<|QB O O<|Qa<|xe<|⟨k+1,oa,La,E,ha,?_⟩;rw[G,show decide (ts[k]∈ps[k].a.mr)=true by simpa using U,Nx]
theorem QcW {aa:List QD}{ts:LI}{k:Nat}{v:Int}(h:k<aa.length)(E:k<ts.length):Yk v (aa.drop k) (ts.drop k) =
  if v∉aa[k].al then(Yk v (aa.drop (k+1)) (ts.drop (k+1))).map (ts[k]::·) else match xh aa[k].ed ts[k] v with|none=>none|some u=>(Yk v (aa.drop (k+1)) (ts.drop (k+1))).map (u::·):=by
 rw[L6 h,L6 E];show(if v∉aa[k].al then _ else _)=_
 split
 ·rfl
 cases xh aa[k].ed ts[k] v <;> rfl
theorem Qhx {L:LN}{ps:List AV}{Y:LN}{ts:LI}(h:KX L ↑w vl ve vs ps Y)(ht:Qu L ↑w vt ts)(hl:ts.length=ps.length)(hi:∀p∈ps,Yw p.a.al)
  (hz:∀p∈ps,p.a.ed.Pairwise λx y=>x.1<y.1\/(x.1=y.1/\x.2.1<y.2.1)) (hn:ps.length<=12) (v:Int):
  QS sV 122 [.agg #[vl,ve,vs],vt,sS v] w λr w'=>sW w w' /\
   match Yk v (ps.map (·.a)) ts with|none=>r=.tuple #[nS,.bool false]|some u=>∃v',r=.tuple #[v',.bool true]/\Qh 3 ↑w w' v' u:=by
 refine Zl func122 ?_;refine Qc<|Zc [vl,ve,vs] λb3 w1 ha hL hf=>x Qd<|Qb<|Ql<|Qw<|(ZT (ht.I ha)).S ?_;rintro vx w2 ⟨hg,hr⟩;refine Qb ?_;have h0:=ha.size;have hM:=hf.lt;have hh:=ha.D hg;refine Qe<|Qc<|Qs O (hf.I hg) O O<|QG h.al.arr O<|Qa<|xe ?_;have hge:=Qi hr;have h1:KX (ob vx) ↑w2 vl ve vs ps Y:=((h.up (L':=ob vx) (λb hb=>.inr (oo (hge b hb).1))).I hh);have h2:Qu (ob vx) ↑w2 vt ts:=((ht.up (L':=ob vx) (λb hb=>.inr (oo (hge b hb).1))).I hh);refine QX (α:=Nat×LI) [(6,7),(9,12),(18,49)] (λz=>[(18,sS z.1)])
  (λz w'=>z.1<=ps.length/\z.2.length=z.1/\O3 (ob vx) w2 w'/\Qh 3 ↑w1 w' vx (z.2++ts.drop z.1)/\Yk v (ps.map (·.a)) ts=(Yk v ((ps.map (·.a)).drop z.1) (ts.drop z.1)).map (z.2++·)) (λz=>ps.length - z.1) (0,[]) La
  ⟨Lo _,O,O3.Y _ _,hr,od⟩ ?_
 rintro⟨k,pre⟩ g w3 ⟨hk,U,S,T,E⟩;simp only[]at hk U T E;have hj:sW w w3:=hh.O S (λb hb=>.inr (oo (hge b hb).1));refine Zi rfl O (λh3=>?_) (λh3=>?_)
 ·refine Qt<|Ql<|x Qd<|Qb<|Qk ⟨[vx,.bool true],ov,hj,?_⟩;rw[Lr (by simp;omega),Lr oa]at E;rw[Lr oa]at T;rw[E];simp only[Yk,OC];exact⟨vx,O,Q9 T h0⟩
 have G:k<ps.length:=oa
 have hm:k<ts.length:=oa
 have hs:k<Y.length:=by rw[h.ml];exact G
 have hA:=h.al.each ps[k] (Lk G);rw[QcW (ou G) hm,MR]at E;have hu:=h1.st S;have h4:=h2.st S;refine Qf<|Qe<|Qn<|Ql<|O6 VA hu.al.arr O O G λhN h5=>x (QF h5 O O)<|QT [nS,sS 0,nS,nS] λb10 w4 h6 h7 ho=>x Qd <|
  Q5 (Zx ps[k]) ho ⟨hA.al.one,O,hA.mr.one,hA.ed.one,Z⟩ λw5 h8 ho=>xe ?_
 have I:sW w3 w5:=h6.Q h8 h7;have h9:=hj.D I;refine Qe<|Qc<|Qs O ho O O<|Qa<|Qw<|(JQ (hA.al.I h9) (hi ps[k] (Lk G)) v).S ?_;rintro r6 w6 ⟨rfl,rfl⟩;refine x (Zj O)<|xe ?_;have hv:=QY hm;refine Q0 rfl (λhp=>?_) (λhp=>?_)
 ·have hB:v∉ps[k].a.al:=by simpa using hp
  refine Qt<|Qr<|QB O O<|Qa<|xe<|⟨(k+1,pre++[ts[k]]),oe,La,G,by simp[U],S.D I,?_,?_⟩
  ·simp only[Of,Oo];rw[<-hv];exact Qm T I
  simp only[];rw[E,OS hB,Option.map_map];congr 1;funext l;simp
 have hC:¬(v∉ps[k].a.al):=by simpa using hp
 rw[OR hC]at E;refine Qf ?_;have hD:=(hf.I hg).J S (λhb=>oo (hge b3 hb).1);have hw:=hu.I I;obtain⟨hE,hO⟩:=hw.mp k hs G;refine Qe<|ZH [] (Y0 0 17 [])<|p (QH O)<|pq (λ_ J=>Qj ((hD.I I).I J) O O)<|p Qx<|pig O (g:=QeG) (λ_=>O) hw.sl O O hs λhP hF =>
  pq (λ_ J=>Qq (hF.I J) O)<|p Qx<|p Qx<|pii O (h4.I I) O O hm λhQ hG=>pq (λ_ J=>Qq (hG.I J) O) <|
  p Qx<|p (λ_=>QC ⟨O,O,Z⟩)<|pq (λ_ J=>KE (k:=(ts[k],v)) (hE.I J) O O)<|?_
 rw[UQ ps[k].a.ed [] ts[k] v (hz ps[k] (Lk G))];have hq:sW w3 { w6 with drawn:=w6.drawn+1 }:=I.D (O3.X [] w6)
 cases he:xh ps[k].a.ed ts[k] v with
 | none =>
  rw[he]at E;refine p Qx<|p (λ_=>QV O O)<|p (λ_=>QV O O)<|p ZA<|p ZA<|pe ?_;refine Qe<|Ql<|x (Zj O)<|xe<|yd O ?_;refine Qc<|x Qd<|Qb<|Qk ⟨[nS,.bool false],ov,hj.D hq,?_⟩;rw[E];rfl
 | some u =>
  rw[he]at E;refine p Qx<|p (λ_=>QV O O)<|p (λ_=>QV O O)<|p ZA<|p ZA<|pe ?_;refine Qe<|Ql<|x (Zj O)<|xe<|Zz O<|Qf ?_;have hy:=Qm T hq;have hR:(pre++ts.drop k).length=ts.length:=by simp;omega
  obtain⟨gx,cx,V⟩:=UF T oa;have hH:ob vx=[gx]:=by rw[V];rfl
  refine Qr<|Qa<|Qa<|Qa<|x (QE V O oa)<|Qo<|QbF (u:=sS u) (by rw[V]at hy;exact hy) O O oa O λw7 hI hJ=>xe ?_;refine Qr<|QB O O<|Qa<|xe ?_;have hK:(pre++ts.drop k).set k u=(pre++[u])++ts.drop (k+1):=by
   rw[hv,List.set_append_right _ _ oa,U,Nat.sub_self,List.set_cons_zero,LC];rfl
  refine⟨(k+1,pre++[u]),oe,La,G,by simp[U],(S.D hq).O hI (λb hb=>.inl (by rw[hH];exact hb)),?_,?_⟩
  ·simp only[];rw[<-hK];unfold Qh;rw[MV,Nw,V];exact hJ
  simp only[];rw[E,Option.map_map];congr 1;funext l;simp
theorem Xg (h:n<256):(UInt8.ofNat n).toNat=n:=by
 simp[Nat.mod_eq_of_lt h]
theorem Qca (u:Nat):(32:UInt8)∉Lib.decDigits u:=by
 induction u using Nat.strongRecOn with
 | _ u ih =>
  unfold Lib.decDigits;split
  ·intro h;simp only[oF]at h;have:=OT UInt8.toNat h;rw[Xg oa]at this;have E:(32:UInt8).toNat=32:=rfl;omega
  intro h;rcases Le.1 h with h|h
  ·exact ih _ oa h
  simp only[oF]at h;have:=OT UInt8.toNat h;rw[Xg oa]at this;have E:(32:UInt8).toNat=32:=rfl;omega
def dval (l:List UInt8):Nat:=l.foldl (λa b=>a*10+(b.toNat - 48)) 0
theorem Qb8 (u:Nat):dval (Lib.decDigits u)=u:=by
 induction u using Nat.strongRecOn with
 | _ u ih =>
  unfold Lib.decDigits;split
  ·simp only[dval,List.foldl_cons,List.foldl_nil];rw[Xg oa];omega
  have:=ih (u / 10) oa;unfold dval at *;rw[Mh,this];simp only[List.foldl_cons,List.foldl_nil];rw[Xg oa];omega
theorem Qef:∀{a b r r':List UInt8},(32:UInt8)∉a->(32:UInt8)∉b->a++32::r=b++32::r'->a=b/\r=r'
 | [],[],_,_,_,_,h=>ou h
 | [],y::b,_,_,_,hb,h=>by simp at h;exact OU h.1 (by intro e;exact hb (by simp[e]))
 | x::a,[],_,_,E,_,h=>by simp at h;exact OU h.1 (by intro e;exact E (by simp[e]))
 | x::a,y::b,_,_,E,hb,h=>by
  simp only[oZ,List.cons.injEq]at h;have:=Qef (λe=>E (Lj _ e)) (λe=>hb (Lj _ e)) h.2;exact⟨by rw[h.1,this.1],this.2⟩
theorem V4:∀{l l':LI},(∀n∈l,0<=n)->(∀n∈l',0<=n)->YM l=YM l'->l=l'
 | [],[],_,_,_=>rfl
 | [],y::b,_,_,h=>by simp[YM]at h
 | x::a,[],_,_,h=>by simp[YM]at h
 | x::a,y::b,G,hb,h=>by
  have I:Lib.decDigits x.toNat++32::YM a=Lib.decDigits y.toNat++32::YM b:=by simpa[YM]using h
  obtain⟨J,S⟩:=Qef (Qca _) (Qca _) I;have T:x.toNat=y.toNat:=by rw[<-Qb8 x.toNat,<-Qb8 y.toNat,J]
  have U:=G x Ll;have V:=hb y Ll;rw[(V4 (λn E=>G n (Lj _ E)) (λn E=>hb n (Lj _ E)) S),show x=y by omega]
def Kw (l:LI):ByteArray:=⟨(YM l).toArray⟩
theorem Qip {l l':LI}(E:∀n∈l,0<=n)(G:∀n∈l',0<=n)(h:Kw l=Kw l'):l=l':=by
 refine V4 E G ?_;have:=OT (λb:ByteArray=>b.data.toList) h;simpa[Kw]using this
def UW (n:Nat)(m:List (ByteArray×O0))(tup:List (LI)):Prop :=
 ∀u:LI,u.length=n->(∀x∈u,0<=x)->O8 m (Kw u)=if u∈tup then some (sS (tup.idxOf u:Int)) else none
theorem UW.add {m:List (ByteArray×O0)}{tup:List (LI)}(h:UW n m tup){u:LI}(I:u∉tup)(J:∀x∈u,0<=x):UW n (O9 m (Kw u) (sS (tup.length:Int))) (tup++[u]):=by
 intro v S G;rw[Ja];by_cases e:u=v
 ·subst e;rw[OS rfl,OS od,Mc,OR I];simp
 rw[OR (λT=>e (Qip J G T)),h v S G];by_cases E:v∈tup
 ·rw[OS E,OS (by simp[E]),Mc,OS E]
 rw[OR E,OR (by simp[E,Ne.symm e])]
structure qr (N b2 b38 b37:Nat)(ve:O0)(wS:OZ)(s:Sy)(m:List (ByteArray×O0))(qs:List TV)(vt vk vd:O0)(w:OZ):Prop where
 st:O3 [b2,b38,b37] wS w
 A:QK ↑w b2 53 [ve,sS 0,vk,vd]
 M:ZO Xl ↑w b38 m
 t:qq 47 N w vt qs
 tb:∀b∈ob vt,b=b37\/↑wS<=b
 k:Qh 3 ↑wS w vk s.mk'
 e:Z8 179 ↑wS w vd s.ed
 q:qs.map (·.2)=s.tup
 el:∀p∈qs,Qh 3 N w p.1 p.2
 sep:∀p∈qs,∀b∈ob p.1,b≠b38/\b∉ob vt/\b∉ob vk/\b∉ob vd
 d1:Dj vt vk
 d2:Dj vt vd
 d3:Dj vk vd
section
variable {b2 b38 b37:Nat}{wS:OZ}{s:Sy}{m:List (ByteArray×O0)}{qs:List TV}{vd:O0}{w'':OZ}
theorem qr.I (h:qr N b2 b38 b37 ve wS s m qs vt vk vd w)(E:sW w w'):qr N b2 b38 b37 ve wS s m qs vt vk vd w' :=
 ⟨h.st.D E,h.A.I E,h.M.I E,Qm h.t E,h.tb,Qm h.k E,Qm h.e E,h.q,λp G=>Qm (h.el p G) E,h.sep,h.d1,h.d2,h.d3⟩
structure SyN (N b2 b38 b37:Nat)(wS:OZ):Prop where
 l2:b2<N
 l38:b38<wS.heap.size
 l37:b37<wS.heap.size
 n37:N<=b37
 n38:b37<b38
 nS:N<=↑wS
theorem qr.setK (h:qr N b2 b38 b37 ve wS s m qs vt vk vd w)(n:SyN N b2 b38 b37 wS){J:O0}{l:LI}(I:O3 (ob vk) w w')(T:Qh 3 ↑wS w' J l)
  (S:∀b∈ob J,b∈ob vk\/↑w<=b) (G:O3 [b2] w' w'') (V:QK ↑w'' b2 53 [ve,sS 0,J,vd]):qr N b2 b38 b37 ve wS ⟨s.tup,l,s.ed⟩ m qs vt J vd w'':=by
 have l2:=n.l2;have l38:=n.l38;have n37:=n.n37;have n38:=n.n38;have nS:=n.nS;refine⟨(h.st.O I (λb hb=>.inr ((Qi h.k) b hb).1)).O G (λb hb=>.inl (by simp at hb;simp[hb])),V,(h.M.J I (QJ h.k oa)).J G (by simp;omega),
  Qg (Qg h.t I h.d1) G (λb hb=>by have:=(Qi h.t b hb).1;simp;omega),h.tb,Qg T G (λb hb=>by have:=(Qi T b hb).1;simp;omega),
  Qg (Qg h.e I h.d3.symm) G (λb hb=>by have:=(Qi h.e b hb).1;simp;omega),h.q,
  λp E=>Qg (Qg (h.el p E) I (λb hb=>(h.sep p E b hb).2.2.1)) G (λb hb=>by have:=(Qi (h.el p E) b hb).1;simp;omega),
  λp E b hb=>⟨(h.sep p E b hb).1,(h.sep p E b hb).2.1,λY=>?_,(h.sep p E b hb).2.2.2⟩,h.d1.grow S (QU h.t),h.d2,(h.d3.symm.grow S (QU h.e)).symm⟩
 rcases S b Y with U|U
 ·exact(h.sep p E b hb).2.2.1 U
 have:=QU (h.el p E) b hb;omega
theorem qr.setE (h:qr N b2 b38 b37 ve wS s m qs vt vk vd w)(n:SyN N b2 b38 b37 wS){J:O0}{l:List Ed}(I:O3 (ob vd) w w')(T:Z8 179 ↑wS w' J l)
  (S:∀b∈ob J,b∈ob vd\/↑w<=b) (G:O3 [b2] w' w'') (V:QK ↑w'' b2 53 [ve,sS 0,vk,J]):qr N b2 b38 b37 ve wS ⟨s.tup,s.mk',l⟩ m qs vt vk J w'':=by
 have l2:=n.l2;have l38:=n.l38;have n37:=n.n37;have n38:=n.n38;have nS:=n.nS;refine⟨(h.st.O I (λb hb=>.inr ((Qi h.e) b hb).1)).O G (λb hb=>.inl (by simp at hb;simp[hb])),V,(h.M.J I (QJ h.e oa)).J G (by simp;omega),
  Qg (Qg h.t I h.d2) G (λb hb=>by have:=(Qi h.t b hb).1;simp;omega),h.tb,Qg (Qg h.k I h.d3) G (λb hb=>by have:=(Qi h.k b hb).1;simp;omega),
  Qg T G (λb hb=>by have:=(Qi T b hb).1;simp;omega),h.q,
  λp E=>Qg (Qg (h.el p E) I (λb hb=>(h.sep p E b hb).2.2.2)) G (λb hb=>by have:=(Qi (h.el p E) b hb).1;simp;omega),
  λp E b hb=>⟨(h.sep p E b hb).1,(h.sep p E b hb).2.1,(h.sep p E b hb).2.2.1,λY=>?_⟩,h.d1,h.d2.grow S (QU h.t),h.d3.grow S (QU h.k)⟩
 rcases S b Y with U|U
 ·exact(h.sep p E b hb).2.2.2 U
 have:=QU (h.el p E) b hb;omega
theorem qr.setM (h:qr N b2 b38 b37 ve wS s m qs vt vk vd w)(n:SyN N b2 b38 b37 wS){G:List (ByteArray×O0)}(E:O3 [b38] w w')(J:ZO Xl ↑w' b38 G):qr N b2 b38 b37 ve wS s G qs vt vk vd w':=by
 have l2:=n.l2;have l38:=n.l38;have n37:=n.n37;have n38:=n.n38;have nS:=n.nS;exact⟨h.st.O E (λb hb=>.inl (by simp at hb;simp[hb])),h.A.J E (by simp;omega),J,Qg h.t E (λb hb=>by have:=h.tb b hb;simp;omega),h.tb,
  Qg h.k E (λb hb=>by have:=(Qi h.k b hb).1;simp;omega),Qg h.e E (λb hb=>by have:=(Qi h.e b hb).1;simp;omega),h.q,
  λp I=>Qg (h.el p I) E (λb hb=>by have:=(h.sep p I b hb).1;simpa using this),h.sep,h.d1,h.d2,h.d3⟩
theorem qr.setT (h:qr N b2 b38 b37 ve wS s m qs vt vk vd w)(n:SyN N b2 b38 b37 wS){J:O0}{u:LI}(hx:Qh 3 ↑wS w vx u)(T:∀b∈ob vx,b∉ob vt/\b∉ob vk/\b∉ob vd)(G:O3 (ob vt) w w')
  (V:qq 47 N w' J (qs++[(vx,u)])) (S:∀b∈ob J,b∈ob vt\/↑w<=b):qr N b2 b38 b37 ve wS ⟨s.tup++[u],s.mk',s.ed⟩ m (qs++[(vx,u)]) J vk vd w':=by
 have l2:=n.l2;have l38:=n.l38;have n37:=n.n37;have n38:=n.n38;have nS:=n.nS;have he:=h.st.size;have nott:∀c,c<↑w->c∉ob vt->c∉ob J:=λc hc Y ha=>by
  rcases S c ha with I|I
  ·exact Y I
  omega
 refine⟨h.st.O G (λb hb=>by have:=h.tb b hb;simp;omega),h.A.J G (λhb=>oo (h.tb b2 hb)),h.M.J G (λhb=>oo (h.tb b38 hb)),V,
  λb hb=>?_,Qg h.k G h.d1.symm,Qg h.e G h.d2.symm,by rw[Lv,h.q];rfl,λp E=>?_,λp E b hb=>?_,(h.d1.symm.grow S (QU h.k)).symm,(h.d2.symm.grow S (QU h.e)).symm,h.d3⟩
 ·rcases S b hb with I|I
  ·exact h.tb b I
  exact .inr oa
 ·rcases Le.1 E with E|E
  ·exact Qg (h.el p E) G (λb hb=>(h.sep p E b hb).2.1)
  simp only[oF]at E;subst E;exact Q9 (Qg hx G (λb hb=>(T b hb).1)) nS
 rcases Le.1 E with E|E
 ·have:=h.sep p E b hb;exact⟨this.1,nott b (QU (h.el p E) b hb) this.2.1,this.2.2⟩
 simp only[oF]at E;subst E;have I:=(Qi hx b hb);have U:=T b hb;exact⟨oa,nott b I.2 U.1,U.2⟩
end
theorem QqT (o:Option α):o=none\/∃t,o=some t:=by cases o;exact .inl O;exact .inr ⟨_,O⟩
def zA:O0:=.agg #[nS,sS 0,nS,nS]
def Zo:O0:=nS
def Yq (N:Nat)(H:xz)(aa:List QD)(va vt:O0)(c:Int):Prop :=
 if Vd aa≠0 then c=Vd aa/\va=zA/\vt=Zo else match xj aa with
  | none=>c=3/\va=zA/\vt=Zo
  | some z=>c=0/\Y5 N H va z.1/\Qcy N H vt z.2
def YP (s:Sy)(u:LI):Sy:=if u∈s.tup then s else⟨s.tup++[u],s.mk',s.ed⟩
theorem Qg4 (s:Sy)(u:LI):(YP s u).mk'=s.mk':=by unfold YP;split <;> rfl
theorem Qg5 (s:Sy)(u:LI):(YP s u).ed=s.ed:=by unfold YP;split <;> rfl
theorem Qky {aa:List QD}{t u:LI}{s:Sy}{v:Int}(h:Yk v aa t=some u)(hl:u∈s.tup\/s.tup.length≠4096):
  syE aa i t s v=some ⟨(YP s u).tup,(YP s u).mk',(YP s u).ed++[((i:Int),v,((YP s u).tup.idxOf u:Int))]⟩:=by
 unfold syE YP;rw[h];simp only[];by_cases E:u∈s.tup
 ·simp only[OS E]
 simp only[OR E];rw[OR (by rcases hl with G|G;exact OU G E;exact G),Mc,OR E];simp
theorem Qg3 {aa:List QD}{t u:LI}{s:Sy}{v:Int}(h:Yk v aa t=some u)(E:u∉s.tup)(hl:s.tup.length=4096):syE aa i t s v=none:=by
 unfold syE;rw[h];simp only[];rw[OR E,OS hl]
theorem Qg1 {aa:List QD}{t:LI}{s:Sy}{v:Int}(h:Yk v aa t=none):syE aa i t s v=some s:=by
 unfold syE;rw[h]
theorem QmD {s:Sy}{qs:List TV}(E:qs.map (·.2)=s.tup)(h:i<qs.length):UZ s i=qs[i].2:=by
 unfold UZ;rw[<-E];simp[oO,h]
theorem Vt.bd {aa:List QD}{t:LI}(h:Vt aa t){m:Int}(E:∀a∈aa,a.st<=m):∀x∈t,0<=x/\x<m:=by
 intro x hx;obtain⟨i,hi,rfl⟩:=LP hx;have hi':i<aa.length:=by rw[<-h.1];exact hi
 have:=h.2 i hi hi';have:=E aa[i] (Lk hi');omega
theorem Um {L:LN}{ps:List AV}{km:Int}(h:XN L ↑w vl ps)(gl:Kb w km)(ke:0<km)(m6:∀p∈ps,p.a.st<=km):
  QS sV 49 [vl] w λr w'=>sW w w'/\∃va vt c,r=.tuple #[va,vt,sS c]/\Yq ↑w ↑w' (ps.map (·.a)) va vt c:=by
 refine Zl func49 ?_;generalize U:ps.map (·.a)=aa;refine Qc<|QT [nS,sS 0,nS,nS] λJ w1 hQ hB gm=>x Qd<|Qb ?_;have hl2:=gm.lt;refine Qe<|Ql<|Qw<|(QfI (h.I hQ)).S ?_;rintro r2 w2 ⟨rfl,hr⟩;refine Qb ?_;rw[U];refine Ql<|ZL O O<|xe<|Zh rfl (λh5=>?_) (λh5=>?_)
 ·refine Qc<|x (QC Z)<|Qa<|Q5 [nS,sS 0,nS,nS] (gm.I hr) oy λw3 m7 m8=>x Qd<|Qb<|Qk ⟨[zA,Zo,sS (Vd aa)],⟨JN m8,O,O,Z⟩,(hQ.D hr).Q m7 hB,zA,Zo,Vd aa,O,?_⟩;unfold Yq;rw[OS h5];exact⟨O,O,O⟩
 have hck:Vd aa=0:=Lt.1 h5;have hn:ps.length<=12:=by
  unfold Vd at hck;split at hck
  ·cases hck
  rename_i h1;rw[<-U]at h1;simp at h1;exact h1
 have hC:∀a∈aa,Q8 a:=by
  unfold Vd at hck;split at hck
  ·cases hck
  exact(zZ aa).1 hck
 have hok:∀p∈ps,Q8 p.a:=λp E=>hC p.a (by rw[<-U];exact LG E);have m9:∀p∈ps,p.a.al.length<=32:=λp E=>(hok p E).al_le;have pc:∀a∈aa,a.st<=km:=λa ha=>by rw[<-U]at ha;obtain⟨p,E,rfl⟩:=Ly.1 ha;exact m6 p E
 have hD:aa.length=ps.length:=by rw[<-U];simp
 refine Qf<|Ql<|Qw<|(Qk3 (L:=[J]) (((h.up (λb hb=>.inr (by simp at hb;omega))).I hQ).I hr) hn m9 (λb hb=>by simp at hb;have:=hr.size;omega)).S ?_;rintro r4 w4 ⟨gn,ve,vs,ms,rfl,kf,ho⟩;rw[U]at ho;have hel:=QaF aa (λa ha=>(hC a ha).al_le);have hevl:(evs aa).length<=1000:=oa
 have hR:=Qh.ints (L:=[]) ho oa od;refine QT [nS,nS,nS] λb6 w5 pd pf hE=>Q5 [vl,ve,vs] hE ⟨h.arr.one,hR.one,kf.sl.one,Z⟩ λw6 pg hE=>xe ?_;have hS:sW w4 w6:=pd.Q pg pf;have hz2:=hr.size;have hz4:=gn.size;have hl6:=hE.lt;refine Qc<|Qs O hE O O<|Q7 O<|Qo<|Qv (((gm.I hr).I gn).I hS) O O od hR.one λw7 hF ph=>xe ?_;have hz7:=hF.size;have go:sW w w7:=((((hQ.D hr).D gn).D hS).Q hF hB);have kg:KX [J] ↑w7 vl ve vs ps ms:=(kf.I hS).st hF;have kh:Qh 3 ↑w2 w7 ve (evs aa):=Qg (Qm ho hS) hF (λb hb=>by have:=(Qi ho b hb).1;simp;omega);have ki:=hE.J hF (by simp;omega);refine Qc<|Q3 ki O O<|Qw<|(Qdo kg hn).S ?_;rintro r8 w8 ⟨hk,hU⟩;have hz8:=hk.size;have gq:=ph.I hk;have hV:(∃p∈ps,p.a.st=0)↔(∃a∈aa,a.st=0):=by
  rw[<-U];constructor
  ·rintro⟨p,E,h0⟩;exact⟨p.a,LG E,h0⟩
  rintro⟨a,ha,h0⟩;obtain⟨p,E,rfl⟩:=Ly.1 ha;exact⟨p,E,h0⟩
 by_cases hz:∃p∈ps,p.a.st=0
 ·rw[OS hz]at hU;subst hU;refine Qa<|QQ O O<|QQ O O<|x Qd<|Qb<|Qe<|Ql<|x (Zj O)<|xe<|yd O ?_;refine Qc<|Q3 gq O O<|Q5 [ve,sS 0,nS,nS] gq ⟨hR.one,O,O,O,Z⟩ λw9 kj pj=>x Qd<|Qb<|Qk ⟨[.agg #[ve,sS 0,nS,nS],Zo,sS 0],⟨JN pj,O,O,Z⟩,(go.D hk).Q kj hB,_,Zo,0,O,?_⟩;unfold Yq;rw[OR h5];unfold xj;rw[OS (hV.1 hz)];refine⟨O,⟨ve,_,_,O,λL' hm=>⟨Qh.ints (Qg (Qm kh hk) kj (λb hb=>by have:=(Qi ho b hb).1;simp;omega)) (by show(evs aa).length<=_;omega) (λb hb=>oo (hm b hb)),Zs.nil _ _ _,Zs.nil _ _ _⟩⟩,[],O,λL' hm=>⟨Zs.nil _ _ _,λp E=>by cases E⟩⟩
 rw[OR hz]at hU;obtain⟨vf,rfl,gr⟩:=hU;have kk:=Qh.ints (L:=[]) gr (by simp;omega) od;refine Qa<|QQ O O<|QQ O O<|x Qd<|Qb<|Qe<|Ql<|x (Zj O)<|xe<|Zz rfl<|Qf<|Ql<|Qo<|Yd (us:=[[vf]]) O O og od ⟨kk.cells,rfl,Z⟩ λV w10 gs hb37 kn=>Qb ?_;have hl37:=kn.lt;refine Qc<|Qo<|ZU Xl λhg w11 hW hb38 ko=>?_;have hl38:=ko.lt;refine Qa<|Qw<|(Qaq ((kk.I gs).I hW) (gl.I ((go.D hk).D (gs.D hW))) (λn hn=>oo (Ny hn)) (by simp;omega)).S ?_;rintro r12 pn ⟨rfl,hX⟩;have hz12:=hX.size;refine Qo<|Yo (k:=Kw (oG ps.length 0)) (ko.I hX) O O λwS gt po=>Qa<|Qb ?_;have hzS:=gt.size;have pp:sW w8 pn:=(gs.D hW).D hX;have h6:sW w8 wS:=pp.Q gt oa;have hY:sW w wS:=(go.D hk).D h6;have pt:∀b∈[J,hg,V],b∈[J]\/↑w8<=b:=λb hb=>by
  simp only[oK,oH,or_false]at hb;rcases hb with rfl|rfl|rfl
  ·exact .inl od
  ·exact .inr oa
  exact .inr oa
 have gu:KX [J,hg,V] ↑wS vl ve vs ps ms:=((kg.I hk).up pt).I h6;have gv:QK ↑wS b6 225 [vl,ve,vs]:=(ki.I hk).I h6;have pu:Qh 3 ↑w2 wS ve (evs aa):=Qm (Qm kh hk) h6;have hG:SyN ↑w1 J hg V wS:=⟨oa,oa,oa,oa,oa,oa⟩;have pw:qr ↑w1 J hg V ve wS (qU aa) (O9 [] (Kw (oG ps.length 0)) (sS 0)) [(vf,oG ps.length 0)] (sL V 1 1) Zo Zo wS:=by
  refine⟨O3.Y _ _,gq.I h6,po,?_,λb hb=>by simp[ob]at hb;exact .inl hb,QL _ _ _ _,QL _ _ _ _,by simp[qU,hD],λp E=>?_,λp E b hb=>?_,Dj.nil' _,Dj.nil' _,Dj.nil' _⟩
  ·exact(((kn.I hW).I hX).J gt (by simp;omega)).own (n:=1) (sz:=1) O oa oa
  ·simp only[oF]at E;subst E;exact Q9 (Qm gr h6) oa
  simp only[oF]at E;subst E;have:=(Qi gr) b hb;refine⟨oa,?_,by simp[ob,Zo],by simp[ob,Zo]⟩;simp[ob];omega
 have pz:UW ps.length (O9 [] (Kw (oG ps.length 0)) (sS 0)) (qU aa).tup:=by
  have ke:UW ps.length [] []:=λu _ _=>O;have:=ke.add (u:=oG ps.length 0) od (λx hx=>oo (Ny hx));simpa[qU,hD]using this
 have p0:UV aa (qU aa):=by
  refine⟨λt ht=>?_,by simp[qU]⟩;simp only[qU,oF]at ht;subst ht;refine⟨od,λi h1 h2=>?_⟩;have h3:=(hC aa[i] (Lk h2)).st0;have h4:aa[i].st≠0:=λe=>hz (hV.2 ⟨aa[i],Lk h2,e⟩);simp only[List.getElem_replicate];omega
 generalize hT:syL aa 4096 0 (qU aa)=T;have p4:∀s,T=some s->xj aa=some (⟨evs aa,s.tup.length,s.mk',s.ed⟩,s.tup):=λs hs=>by
  unfold xj;rw[OR (λe=>hz (hV.2 e)),hT,hs];rfl
 have p5:T=none->xj aa=none:=λhs=>by unfold xj;rw[OR (λe=>hz (hV.2 e)),hT,hs];rfl
 refine Qe<|Qc<|Qb ?_;have gx:b6∉[J,hg,V]:=by simp;omega
 refine QX (α:=Nat×Sy×List (ByteArray×O0)×List TV×O0×O0×O0) [(3,4),(10,10),(12,16),(42,111)] (λz=>[(3,z.2.2.2.2.1),(10,sS z.1)])
  (λz w'=>qr ↑w1 J hg V ve wS z.2.1 z.2.2.1 z.2.2.2.1 z.2.2.2.2.1 z.2.2.2.2.2.1 z.2.2.2.2.2.2 w'/\UV aa z.2.1/\UW ps.length z.2.2.1 z.2.1.tup/\z.1<=z.2.1.tup.length/\z.2.1.mk'.length<=z.1/\z.2.1.ed.length<=z.1*1000/\syL aa (4096 - z.1) z.1 z.2.1=T)
  (λz=>4096 - z.1) (0,qU aa,_,_,_,Zo,Zo) ov ⟨pw,p0,pz,Lo _,Lo _,Lo _,hT⟩ ?_
 rintro⟨i,s,m,qs,vt,vk,vd⟩ g hZ ⟨hI,ga,kq,hi,p6,kr,gy⟩;simp only[]at hI ga kq hi p6 kr gy;have hle:=ga.le;have p7:qs.length=s.tup.length:=by rw[<-hI.q];simp
 have kt:∀p∈qs,Vt aa p.2:=λp E=>ga.v p.2 (by rw[<-hI.q];exact LG E);have ku:∀p∈qs,p.2.length<=12:=λp E=>oo (kt p E).1
 have htA:=QM (L:=[]) hI.t oa od;refine Qe<|Ql<|Qa<|QG htA O<|ZP O O<|xe<|Zn rfl (λp8=>?_) (λp8=>?_)
 ·have p9:T=some s:=by rw[<-gy,QgZ oa]
  refine Qt<|Ql<|QG htA O<|Q7 O<|Qo<|Qv hI.A O O od rfl λw15 qf kv=>xe ?_;refine Qc<|Q3 kv O O<|Qa<|Q5 [ve,sS qs.length,vk,vd] kv ⟨hR.one,O,(Qh.ints (L:=[]) hI.k oa od).one,(Z8.eds (L:=[]) hI.e oa od).one,Z⟩ λgz qj ql=>x Qd<|Qb ?_;have h7:O3 [J] hZ gz:=qf.V qj;have q0:sW w gz:=(hY.O hI.st (λb hb=>.inr (by simp at hb;omega))).Q h7 hB;refine Qk ⟨[.agg #[ve,sS qs.length,vk,vd],vt,sS 0],⟨JN ql,O,O,Z⟩,q0,_,vt,0,O,?_⟩;unfold Yq;rw[OR h5,p4 s p9];have e1:(qs.length:Int)=s.tup.length:=by rw[p7]
  have k0:Qh 3 ↑w2 gz ve (evs aa):=Qg (Qg pu hI.st (λb hb=>by have:=(Qi ho b hb).1;have:=(QU ho) b hb;simp;omega)) h7 (λb hb=>by have:=(Qi ho b hb).1;simp;omega);have k1:=Qg hI.k h7 (λb hb=>by have:=(Qi hI.k b hb).1;simp;omega);have k2:=Qg hI.e h7 (λb hb=>by have:=(Qi hI.e b hb).1;simp;omega);have k3:=Qg hI.t h7 (λb hb=>by have:=(Qi hI.t b hb).1;simp;omega);refine⟨O,⟨ve,vk,vd,by rw[e1],λL' hm=>⟨Qh.ints k0 (by show(evs aa).length<=_;omega) (λb hb=>oo (hm b hb)),Qh.ints k1 (by show s.mk'.length<=_;omega) (λb hb=>oo (hm b hb)),Z8.eds k2 (by show s.ed.length<=_;omega) (λb hb=>oo (hm b hb))⟩⟩,qs,hI.q,λL' hm=>⟨?_,λp E=>?_⟩⟩
  ·exact QM k3 oa (λb hb q4=>oq (Qi hI.t b hb).1 (hm b q4))
  exact Qh.ints (Qg (hI.el p E) h7 (λb hb=>by have:=(Qi (hI.el p E) b hb).1;simp;omega)) (oo (ku p E)) (λb hb=>oo (hm b hb))
 have q5:i<s.tup.length:=oa
 have Y:i<qs.length:=oa
 have kw:=QmD hI.q Y;have h8:=kt (qs[i]'Y) (Lk Y);obtain⟨t,g0⟩:∃t,(qs[i]'Y).2=t:=⟨_,O⟩;rw[g0]at kw h8;refine Qf ?_;have j1:(Uv aa i t (evs aa) (ZZ aa i t s)).bind (syL aa (4096 - (i+1)) (i+1))=T:=by
  rw[<-gy];obtain⟨f,hf⟩:∃f,4096 - i=f+1:=⟨4096 - i - 1,oa⟩;rw[hf,syL,OS q5,kw,show 4096 - (i+1)=f by omega]
 have j2:=gu.st hI.st;have j3:KX [] ↑hZ vl ve vs ps ms:=j2.up (λ_ hb=>by cases hb);have j4:=gv.J hI.st gx;have za:Qu [] ↑hZ (qs[i]'Y).1 t:=by rw[<-g0];exact Qh.ints (hI.el (qs[i]'Y) (Lk Y)) (oo (ku (qs[i]'Y) (Lk Y))) od
 refine Qe<|Qn<|QW (α:=O0) [(48,59)] (λz=>[]) (λz w'=>qr ↑w1 J hg V ve wS (ZZ aa i t s) m qs vt z vd w') oh ?_ ?_
 ·refine Qe<|ZH [] (Y0 0 6 [5])<|pq (λ_ hc=>Zb (j4.I hc) O O)<|p Qx<|p Qx<|pig O Kc htA O O Y λa51 z0 =>
   pq (λ_ hc=>Qq (z0.I hc) O)<|pk<|xg<|(QfP (j3.I (O3.X _ _)) (za.I (O3.X _ _)) (by rw[h8.1,hD]) (λp E=>(hok p E).mri) hn).S ?_
  rintro r17 w17 ⟨rfl,z2⟩;have kx:=(O3.X [] hZ).D z2;refine⟨kx,?_⟩;refine pe ?_;have g2:=hI.I kx;refine Q0 O (λhH=>?_) (λhH=>?_)
  rotate_left
  ·refine Qf<|⟨vk,Z,?_⟩;rw[U]at hH;unfold ZZ;rw[OR (by rw[hH];simp)];exact g2
  refine Qr<|Qs O g2.A O O<|Qa<|Qo<|Q2 [[sS i]] λb57 w18 z3 hb57 z4=>?_;have hJ:=g2.I z3;refine Qo<|QZ (news:=[sS i]) (L:=[]) hJ.k O O O (z4.at od) om oa hJ.st.size λkz z5 ho19 k4 hn19=>?_;have k5:Qh 3 ↑wS z5 kz (s.mk'++[(i:Int)]):=Qh.snoc ho19;refine Q7 O<|Qo<|Qv (hJ.A.J k4 (QJ hJ.k oa)) O O od (Qh.ints (L:=[]) k5 (by simp;omega) od).one λw20 hs20 hB20=>xe ?_;refine⟨kz,Z,?_⟩;rw[U]at hH;unfold ZZ;rw[OS hH];exact hJ.setK hG k4 k5 hn19 hs20 hB20
 rintro gb g3 w21 k6;have hsk2:UV aa (ZZ aa i t s):=yJ ga;have htup2:(ZZ aa i t s).tup=s.tup:=by unfold ZZ;split <;> rfl
 have hed2:(ZZ aa i t s).ed=s.ed:=by unfold ZZ;split <;> rfl
 have hmk2:(ZZ aa i t s).mk'.length<=i+1:=by
  unfold ZZ;split
  ·simp only[oM,oL];omega
  omega
 have k9:Qu [J,hg,V] ↑wS ve (evs aa):=by have:=gu.ev;rw[U]at this;exact this
 refine Qc<|Qs O (gv.J k6.st gx) O O<|QG k9 O<|Qa<|xe<|QX (α:=Nat×Sy×List (ByteArray×O0)×List TV×O0×O0) [(3,4),(12,16),(63,111)] (λz=>[(3,z.2.2.2.2.1),(63,sS z.1)])
  (λz w'=>qr ↑w1 J hg V ve wS z.2.1 z.2.2.1 z.2.2.2.1 z.2.2.2.2.1 gb z.2.2.2.2.2 w'/\UV aa z.2.1/\UW ps.length z.2.2.1 z.2.1.tup/\z.1<=(evs aa).length/\z.2.1.mk'=(ZZ aa i t s).mk'/\z.2.1.ed.length<=i*1000+z.1 /\
   (∃h:i<z.2.2.2.1.length,(z.2.2.2.1[i]'h).2=t)/\(Uv aa i t ((evs aa).drop z.1) z.2.1).bind (syL aa (4096 - (i+1)) (i+1))=T)
  (λz=>(evs aa).length - z.1) (0,ZZ aa i t s,m,qs,vt,vd) ov
  ⟨k6,hsk2,by rw[htup2];exact kq,Lo _,O,by rw[hed2];simpa using kr,⟨Y,g0⟩,j1⟩ ?_
 rintro⟨j,G,m4,hh,gc,ge⟩ g4 hK ⟨S,hL,hv,hj,gg,ma,⟨hq,h9⟩,he⟩;simp only[]at S hL hv hj gg ma he hq h9;have mc:hh.length=G.tup.length:=by rw[<-S.q];simp
 have hle4:=hL.le;refine Zi rfl O (λh64=>?_) (λh64=>?_)
 ·rw[Lr oa,Uv]at he;refine Qt<|Qr<|Qa<|QB O O<|Qb<|⟨(i+1,G,m4,hh,gc,gb,ge),oe,ov,S,hL,hv,oe,by simp only[];rw[gg];exact hmk2,oe,he⟩
 have gh:j<(evs aa).length:=oa
 rw[QY gh,Uv]at he;obtain⟨v,mf⟩:∃v,(evs aa)[j]=v:=⟨_,O⟩;rw[mf]at he;refine Qf<|Qe<|Qn<|Qc<|xii (k9.st S.st) O O gh λa65 mg=>?_;rw[mf]at mg;refine x (Qq mg O)<|Qb ?_;have hB622:=gv.J S.st gx;have htA4:=QM (L:=[]) S.t oa od;have htI4:Qu [] ↑hK (hh[i]'hq).1 t:=by rw[<-h9];exact Qh.ints (S.el (hh[i]'hq) (Lk hq)) (by rw[h9,h8.1];omega) od
 refine Qe<|ZH [] (Y0 0 12 [6])<|pq (λ_ hc=>Zb (hB622.I hc) O O)<|p Qx<|p Qx<|pig O Kc htA4 O O hq λa71 h71 =>
  pq (λ_ hc=>Qq (h71.I hc) O)<|p Qx<|pk<|xg<|(Qhx (((gu.st S.st).up (L':=[]) (λ_ hb=>by cases hb)).I (O3.X _ _)) (htI4.I (O3.X _ _)) (by rw[h8.1,hD]) (λp E=>(hok p E).ali) (λp E=>(hok p E).edi) hn _).S ?_
 rintro r23 w23 ⟨hs23,hM⟩;rw[U]at hM;have mh:=(O3.X [] hK).D hs23;refine⟨mh,?_⟩;have hN:=S.I mh;have hz22:=S.st.size;rcases QqT (Yk v aa t) with hw|⟨u,hw⟩
 ·rw[hw]at hM;subst hM;rw[Qg1 hw]at he;refine p Qx<|p (λ_=>QV O O)<|p (λ_=>QV O O)<|p ZA<|p ZA<|pe ?_;refine Qe<|Ql<|x (Zj O)<|xe<|yd O ?_;refine Qt<|Qr<|QB O O<|Qa<|xe ?_;exact⟨(j+1,G,m4,hh,gc,ge),oe,ov,hN,hL,hv,gh,gg,oe,⟨hq,h9⟩,he⟩
 rw[hw]at hM;obtain⟨vx,rfl,g5⟩:=hM;have mj:=XH hC h8 hw;have mo:u.length=ps.length:=by rw[mj.1,hD]
 have g8:=mj.bd pc;have g9:∀x∈u,0<=x:=λx hx=>(g8 x hx).1;refine p Qx<|p (λ_=>QV O O)<|p (λ_=>QV O O)<|p ZA<|p ZA<|pe ?_;refine Qe<|Ql<|x (Zj O)<|xe<|Zz O<|Qf ?_;have gi:=Qh.ints (L:=[]) g5 oa od;have mq:=Qi g5;refine QW (α:=Unit) [(15,16),(79,85)] (λz=>[(15,sS (if u∈G.tup then(G.tup.idxOf u:Int) else 0)),(16,.bool (decide (u∈G.tup)))]) (λz w'=>sW w23 w') oh ?_ ?_
 ·refine Qr<|Qa<|Qa<|Qw<|(Qaq gi (gl.I (hY.O hN.st (λb hb=>.inr (by simp at hb;omega)))) g8 oa).S ?_;rintro r24 w24 ⟨rfl,gj⟩;by_cases I:u∈G.tup
  ·refine x (UA (k:=Kw u) ((hN.I gj).M) O O (by rw[hv u mo g9,OS I]))<|Qa<|QQ rfl rfl<|QQ rfl rfl<|x Qd<|Qb<|⟨(),⟨OT sS (OS I).symm,OT Value.bool (OV I).symm,Z⟩,gj⟩
  refine x (yW (k:=Kw u) ((hN.I gj).M) O O (by rw[hv u mo g9,OR I]))<|Qa<|QQ rfl rfl<|QQ rfl rfl<|x Qd<|Qb<|⟨(),⟨OT sS (OR I).symm,OT Value.bool (OX I).symm,Z⟩,gj⟩
 rintro _ g6 w25 ka;have hA:=hN.I ka;have hxA25:=gi.I ka;have hadd:∀b∈ob vx,b∉ob gc/\b∉ob gb/\b∉ob ge:=λb hb=>by
  have h1:=(mq b hb).1;have h1':↑hK<=b:=h1;exact⟨λhO=>oo (QU S.t b hO),λhO=>oo (QU S.k b hO),λhO=>oo (QU S.e b hO)⟩
 refine QW (α:=List (ByteArray×O0)×List TV×O0) [(3,4),(15,15),(86,101)] (λz=>[(3,z.2.2),(15,sS ((YP G u).tup.idxOf u:Int))])
  (λz w'=>qr ↑w1 J hg V ve wS (YP G u) z.1 z.2.1 z.2.2 gb ge w'/\(u∈G.tup\/G.tup.length≠4096)/\UW ps.length z.1 (YP G u).tup/\∃h:i<z.2.1.length,(z.2.1[i]'h).2=t) oh ?_ ?_
 ·refine Ql<|x (Zj O)<|xe<|Q0 O (λkb=>?_) (λkb=>?_)
  rotate_left
  ·have I:u∈G.tup:=by simpa using kb
   refine Qf ?_;have e1:YP G u=G:=by unfold YP;rw[OS I]
   have e2:(if u∈G.tup then(G.tup.idxOf u:Int) else 0)=((YP G u).tup.idxOf u:Int):=by rw[e1,OS I]
   refine⟨(m4,hh,gc),⟨O,OT sS e2,Z⟩,?_,.inl I,?_,hq,h9⟩
   ·rw[e1];exact hA
   rw[e1];exact hv
  have I:u∉G.tup:=by simpa using kb
  have mt:=QM (L:=[]) hA.t oa od;refine Qe<|Ql<|QG mt O<|x (Zd O O)<|xe<|Zh O (λh90=>?_) (λh90=>?_)
  ·refine Qc<|x (QC Z)<|Q5 [nS,sS 0,nS,nS] hA.A oy λw26 gk hB26=>x Qd<|Qb<|Qk ⟨[zA,Zo,sS 3],⟨JN hB26,O,O,Z⟩,(hY.O hA.st (λb hb=>.inr (by simp at hb;omega))).Q gk hB,zA,Zo,3,O,?_⟩;unfold Yq;rw[Qg3 hw I oa]at he;rw[OR h5,p5 he.symm];exact⟨rfl,O,O⟩
  have hl4:G.tup.length≠4096:=oa
  refine Qf<|Ql<|QG mt O<|Qb<|Ql<|Qa<|Qw<|(Qaq hxA25 (gl.I (hY.O hA.st (λb hb=>.inr (by simp at hb;omega)))) g8 oa).S ?_;rintro r26 w26 ⟨rfl,gk⟩;have mu:=hA.I gk;refine Qa<|Qo<|YH (k:=Kw u) mu.M O O λw27 mv hm27=>xe ?_;have hx27:=Qg (Qm (Qm g5 ka) gk) mv (λb hb=>by have:=(mq b hb).1;have h1':↑hK<=b:=this;simp;omega);refine Qr<|Qa<|Qa<|Qo<|Yd (us:=[[vx]]) O O og od ⟨gi.cells,rfl,Z⟩ λb100 w28 mw hb100 hB100=>?_;have kc:=(mu.setM hG mv hm27).I mw;refine Qo<|QZ (news:=[vx]) (L:=[]) kc.t O O O (hB100.at od) (λy hy=>by simp only[oF]at hy;subst hy;exact gi.one) oa (oq kc.st.size hG.nS) λmy w29 ho29 hs29 hn29=>Qb ?_;have hk29:qq 47 ↑w1 w29 my (hh++[(vx,u)]):=qq.snoc ho29;have hIA:=kc.setT hG (u:=u) (Q9 (Qm hx27 mw) (by show wS.heap.size<=↑hK;omega)) hadd hs29 hk29 hn29;have e1:YP G u=⟨G.tup++[u],G.mk',G.ed⟩:=by unfold YP;rw[OR I]
  have e2:(hh.length:Int)=((YP G u).tup.idxOf u:Int):=by
   rw[e1];simp only[];rw[Mc,OR I,<-mc];simp
  refine⟨(O9 m4 (Kw u) (sS (hh.length:Int)),hh++[(vx,u)],my),⟨O,OT sS e2,Z⟩,?_,.inr hl4,?_,by simp;omega,?_⟩
  ·rw[e1];exact hIA
  ·rw[e1];simp only[];rw[mc];exact hv.add I g9
  simp only[];rw[Mq hq];exact h9
 rintro⟨m5,qs5,vt5⟩ g7 w30 ⟨mz,hlim,hkn5,hlt5,ht5⟩;have hed5:(YP G u).ed.length<=i*1000+j:=by rw[Qg5];exact ma
 have m0:=Qky (aa:=aa) (i:=i) (s:=G) hw hlim;rw[m0]at he;refine Qr<|Qs O mz.A O O<|Qa<|Qa<|Qa<|x (QC ⟨O,O,O,Z⟩)<|Qo<|Q2 [Qp ((i:Int),v,((YP G u).tup.idxOf u:Int))] λb108 w31 hs31 hb108 hB108=>?_;have hP:=mz.I hs31;refine Qo<|QZ (news:=Qp ((i:Int),v,((YP G u).tup.idxOf u:Int))) (L:=[]) hP.e O O O (hB108.at od) (λy hy=>by simp only[Qp,oK,oH,or_false]at hy;rcases hy with rfl|rfl|rfl <;> rfl) oa hP.st.size λm1 w32 ho32 m2 hn32=>?_
 have m3:Z8 179 ↑wS w32 m1 ((YP G u).ed++[((i:Int),v,((YP G u).tup.idxOf u:Int))]):=Z8.snoc ho32;refine Q7 O<|Qo<|Qv (hP.A.J m2 (QJ hP.e oa)) O O od (Z8.eds (L:=[]) m3 (by simp;omega) od).one λw33 hs33 hB33=>xe ?_;refine Qr<|QB O O<|Qa<|xe<|⟨(j+1,_,m5,qs5,vt5,m1),oe,ov,(hP.setE hG m2 m3 hn32 hs33 hB33),(Qg2 hC hL h8 m0),hkn5,gh,?_,?_,⟨hlt5,ht5⟩,he⟩
 ·simp only[];rw[Qg4];exact gg
 simp only[oM,oL];omega
theorem yg {L:LN}{ps:List AV}(h:XN L ↑w vl ps)(E:∀p∈ps,p.a.st<=100):
  QS sV 49 [vl] w λr w'=>sW w w'/\∃va vt c,r=.tuple #[va,vt,sS c]/\Yq ↑w ↑w' (ps.map (·.a)) va vt c :=
 Um (km:=100) h (.inl (Mx _)) og E
theorem xH {α:Type}(g:α->LV)(sz:Nat)(G:∀x,(g x).length=sz):∀(l:List α) (i j:Nat) (h:i<l.length) (y:α) (u:O0),j<sz->g y=(g l[i]).set j u ->
  (l.flatMap g).set (i*sz+j) u=(l.set i y).flatMap g
 | x::l,0,j,h,y,u,I,E=>by
  simp only[Om]at E;simp only[Nat.zero_mul,oX,oT,List.set_cons_zero];rw[List.set_append_left _ _ (by rw[G];exact I),E]
 | x::l,i+1,j,h,y,u,I,E=>by
  simp only[List.getElem_cons_succ]at E;simp only[oT,List.set_cons_succ];rw[List.set_append_right _ _ (by rw[G,Mw];omega),G,show(i+1)*sz+j - sz=i*sz+j by rw[Mw];omega,xH g sz G l i j (ou h) y u I E]
section
variable {f:Fr}{all:xC}{C:xx}{K:Fr->OZ->Prop}
end
theorem Zu {l:LI}(h:i<l.length):l[i]=O4 l i:=by simp[O4,oO,h]
section
variable {l:xC}{K:Fr->OZ->Prop}{f:Fr}{C:xx}{pl:xq}{i0:Nat}
theorem xic {x:O1}{e bys:Nat}[Sl P t e 1 bys z]{L:LN}{li:LI}{v:O0}{k:IntKind}
  (h:Qu L ↑w v li) (E:ev f x=v) (G:ev f y=.int k i) (hi:i<li.length)
  (hK:∀a,At L ↑w a [sS (O4 li i)]->XL P ops K l (QN f d (.pointer (some a))) w) (I:Z1 ops f ⟨d,.indexAddr t x y,ty,pS,af,gd⟩=true:=by rfl):
  XL P ops K (⟨d,.indexAddr t x y,ty,pS,af,gd⟩::l) f w :=
 xii h E G hi (λa J=>hK a (by rw[<-Zu hi];exact J)) I
theorem pic {x:O1}{e bys:Nat}[Sl P t e 1 bys z]{L:LN}{li:LI}{v:O0}{H:xz}{k:IntKind}
  (E:QR ops i0=⟨d,.indexAddr t x y,ty,pS,af,gd⟩) (h:Qu L H v li) (G:ev f x=v) (I:ev f y=.int k i) (hi:i<li.length)
  (hK:∀a,At L H a [sS (O4 li i)]->XP P ops C K pl (QN f d (.pointer (some a))) w) (J:Z1 ops f (QR ops i0)=true:=by rfl):XP P ops C K ((i0,true)::pl) f w :=
 pii E h G I hi (λa S=>hK a (by rw[<-Zu hi];exact S)) J
theorem y7 [h1:Xx P t]{x:O1}{e cap:Nat}{li:LI}{v:O0}{u:Int}(h:Qh e base w v li)(E:v=sL g li.length cap)(hx:ev f x=.pointer (some ⟨g,0+i*1,none⟩))(I:ev f y=sS u)(hi:i<li.length)
  (hK:∀w',O3 (ob v) w w'->Qh e base w' v (li.set i u)->K (QN f d undef) w'):XO P ⟨d,.store t x y,ty,pS,af,gd⟩ f w K:=by
 have G:=h;unfold Qh at G;rw[E]at G;refine QbF G hx I hi O λw' J S=>hK w' (by rw[E];exact J) ?_;unfold Qh;rw[MV,Nw,E];exact S
end
theorem Qhh {a:Nat}(h:a<n):oN a (n - a)=a::oN (a+1) (n - (a+1)):=by
 rw[show n - a=(n - (a+1))+1 by omega,Nr]
theorem QkI {a:Nat}(h:n<=a):oN a (n - a)=[]:=by rw[show n - a=0 by omega];rfl
section
variable {f:Fr}{κ:Type}[DecidableEq κ]
end
theorem Qec {aa:List QD}{i:Nat}{t:LI}(G:∀a∈aa,Q8 a)(I:Vt aa t):∀(vs:LI) (s E:Sy),UV aa s->Uv aa i t vs s=some E->UV aa E
 | [],s,E,h,e=>by cases e;exact h
 | v::vs,s,E,h,e=>by
  rw[Uv]at e;obtain⟨J,S,T⟩:=MM.1 e;exact Qec G I vs J E (Qg2 G h I S) T
theorem QgX {aa:List QD}(G:∀a∈aa,Q8 a):∀(f i:Nat) (s E:Sy),UV aa s->syL aa f i s=some E->UV aa E
 | 0,i,s,E,h,e=>by cases e;exact h
 | f+1,i,s,E,h,e=>by
  rw[syL]at e;split at e
  ·rename_i hi;obtain⟨I,J,S⟩:=MM.1 e;have T:Vt aa (UZ s i):=h.v _ (by unfold UZ;simp[oO,hi]);exact QgX G f _ I E (Qec G T _ _ _ (yJ h) J) S
  cases e;exact h
theorem Qm9 {aa:List QD}(I:∀a∈aa,Q8 a)(J:¬∃a∈aa,a.st=0):UV aa (qU aa):=by
 refine⟨λt E=>?_,by simp[qU]⟩;simp only[qU,oF]at E;subst E;refine⟨od,λi S G=>?_⟩;have T:=(I aa[i] (Lk G)).st0;have U:aa[i].st≠0:=λe=>J ⟨aa[i],Lk G,e⟩;simp only[List.getElem_replicate];omega
theorem qw {aa:List QD}(E:∀a∈aa,Q8 a){z:QD×List (LI)}(h:xj aa=some z):(∀t∈z.2,Vt aa t)/\z.2.length<=4096:=by
 unfold xj at h;split at h
 ·cases h;simp
 rename_i G;obtain⟨s,I,rfl⟩:=M9.1 h;have:=QgX E _ _ _ _ (Qm9 E G) I;exact⟨this.v,this.le⟩
def opC (p s:QD):Int:=if XX p≠0 then XX p else if XX s≠0 then XX s else if mrg (λp q=>p && !q) s.al p.al=[]then 0 else 9
def opE (p s:QD):Int:=if opC p s≠0 then opC p s else match xj [p,s]with|none=>3|some _=>0
def opQ (p s:QD):List (LI):=match xj [p,s]with|none=>[]|some z=>z.2
def Qpx (l:LI):Int:=(l.drop 1).foldl max (O4 l 0)
theorem XQ {b:Nat}{v:O0}{a:QD}(h:Y5 N ↑w v a)(hb:b<N)(G:O3 [b] w w'):Y5 N ↑w' v a:=by
 obtain⟨va,vm,ve,I,J⟩:=h;refine⟨va,vm,ve,I,λL S=>?_⟩;exact((J (b::L) (λc E=>by rcases Ln.1 E with rfl|E;exact hb;exact S c E)).st (G.S od)).up (λc E=>.inl (Lj _ E))
theorem QjR {b:Nat}{v:O0}{l:List (LI)}(h:Qcy N ↑w v l)(hb:b<N)(G:O3 [b] w w'):Qcy N ↑w' v l:=by
 obtain⟨ps,I,J⟩:=h;refine⟨ps,I,λL S=>?_⟩;exact((J (b::L) (λc E=>by rcases Ln.1 E with rfl|E;exact hb;exact S c E)).st (G.S od)).up (λc E=>.inl (Lj _ E))
theorem Xy {H:xz}{v:O0}{a:QD}(h:Y5 N H v a):∃us,v=sT us/\us.length=4/\ZK us:=by
 obtain⟨va,vm,ve,E,G⟩:=h;have:=G [] od;exact⟨[va,sS a.st,vm,ve],E,O,this.al.one,O,this.mr.one,this.ed.one,Z⟩
theorem QaW {L:LN}{a:QD}(h:Zp L ↑w va vm ve a):
  QS sV 246 [.agg #[va,sS a.st,vm,ve]] w λr w'=>sW w w'/\∃v,r=.tuple #[v,sS (XX a)]/\(XX a≠0->v=zA)/\(XX a=0->Y5 ↑w ↑w' v (XM a)):=by
 refine Zl func246 ?_;refine Qc<|Zc [va,sS a.st,vm,ve] λb1 w1 V hn Y=>QT [nS,sS 0,nS,nS] λb2 w2 G ho I=>Qb ?_;have J:=V.D G;refine Qe<|Qc<|Q3 (Y.I G) O O<|Qw<|(YV (h.I J)).S ?_;rintro r3 w3 ⟨rfl,E⟩;refine Qb ?_;have hp:=V.size;refine Ql<|ZL O O<|xe<|Zh rfl (λS=>?_) (λS=>?_)
 ·refine Qc<|x (QC Z)<|Qa<|Q5 [nS,sS 0,nS,nS] (I.I E) oy λw4 hh hj=>Qb<|Qk ⟨[zA,sS (XX a)],⟨JN hj,O,Z⟩,(J.D E).Q hh oa,zA,O,λ_=>O,λe=>OU e S⟩
 have T:XX a=0:=Lt.1 S;have hq:=I.lt;have U:=J.D E;refine Qf<|Qc<|Q3 ((Y.I G).I E) O O<|Qw<|(Kk (h.I U) ((Zy a).1 T)).S ?_;rintro v w5 ⟨ha,hF⟩;obtain⟨us,he,hf,hk⟩:=Xy hF;have hr:=E.size;refine Qo<|ZJ (us:=us) ((I.I E).I ha) O he hf O hk λw6 hg hm =>
  Qb<|Qk ⟨[sT us,sS 0],⟨⟨_,O,Z4 hf (hm.at (L:=[]) od).cells⟩,rfl,Z⟩,(U.D ha).Q hg oa,v,by rw[T,he];rfl,λe=>OU T e,λ_=>?_⟩
 exact(XQ hF oa hg).S U.size
def gget:List ((Int×Int)×Int)->Int×Int->Option Int
 | [],_=>none
 | (k',v)::m,k=>if k'=k then some v else gget m k
def gput:List ((Int×Int)×Int)->Int×Int->Int->List ((Int×Int)×Int)
 | [],k,v=>[(k,v)]
 | (k',v')::m,k,v=>if k'=k then(k',v)::m else(k',v')::gput m k v
def QqM (s:QD)(cls:LI)(x:Nat)(m:List ((Int×Int)×Int))(v:Int):List ((Int×Int)×Int):=gput m (O4 cls x,v) (O4 cls (to0 s x v).toNat)
def QqJ (s:QD)(l:List VH)(cls:LI)(z:LI×List ((Int×Int)×Int))(x:Nat):LI×List ((Int×Int)×Int):=
 if O4 cls x<0 then z else(if((lget l x).mk' && (lget l x).ps)=true then Qm2 z.1 (O4 cls x) else z.1,(lget l x).en.foldl (QqM s cls x) z.2)
def Qpj (s:QD)(l:List VH)(cls:LI):LI×List ((Int×Int)×Int):=(oN 0 cls.length).foldl (QqJ s l cls) ([],[])
def QqL (m:List ((Int×Int)×Int))(c:Nat)(v:Int):Option Ed:=(gget m ((c:Int),v)).map λt=>((c:Int),v,t)
def QqK (m:List ((Int×Int)×Int))(al:LI)(n:Nat):List Ed:=(oN 0 n).flatMap λc=>al.filterMap (QqL m c)
def QqN (s:QD)(l:List VH)(cls:LI):QD:=⟨s.al,Qpx cls+1,(Qpj s l cls).1,QqK (Qpj s l cls).2 s.al (Qpx cls+1).toNat⟩
def red (p s:QD):QD:=QqN s (ctls p s (opQ p s)) (QpV p s (opQ p s))
def xI (p s:QD):Int:=if opE p s≠0 then opE p s else if opQ p s=[]then 0 else XX (red p s)
theorem Xj {l:LI}(h:i<l.length):O4 l i∈l:=by rw[<-Zu h];exact Lk h
theorem Zg (a:α){Q:Prop}(h:∀b,a=b->Q):Q:=h a O
theorem jK {H:xz}{a:QD}{J S I:Nat}(V:QK H J 3 (a.al.map (.int .i64)))(Y:QK H S 3 (a.mr.map (.int .i64)))(h3:QK H T 179 (a.ed.flatMap Qp))(g1:N<=J)(g2:N<=S)(g3:N<=T)
  (l1:a.al.length=E) (l2:a.mr.length=G) (l3:a.ed.length=I) (m1:E<=1000) (m2:G<=1000) (m3:I<=1000):
  Y5 N H (.agg #[sL J E E,sS a.st,sL S G G,sL T I I]) a:=by
 subst l1 l2 l3;refine⟨_,_,_,O,λL U=>⟨?_,?_,?_⟩⟩
 ·exact V.arr (λhb=>oo (U _ hb)) od oa (Lp _)
 ·exact Y.arr (λhb=>oo (U _ hb)) od oa (Lp _)
 exact h3.arr (λhb=>oo (U _ hb)) (by rw[KP _ 3 JD]) oa (Lp _)
end Go.Lg
namespace Go.Lg
abbrev xw:=Fr->xx
end Go.Lg
