/- Merged out of 27 texts. -/
import Derived.Orders
import Derived.Below
import Derived.WalkKit
import Derived.Laws.AppendOwn
import Derived.Laws.Rows
import Derived.Laws.Tables
import Derived.Great.BuildSlice
import Derived.Deep.OwnRows
import Derived.MapKept
import Derived.Laws.StructEq
import Derived.Test.YtleldcnoenokmaaGreatDoorProg
import Derived.Shelf.Strings.Builder1
import Derived.Shelf.Small.Bits
import Derived.Shelf.Strings.BuilderF
import Derived.Shelf.Strings.BuilderK
import Derived.Shelf.Strconv.Itoa0
import Derived.Shelf.Strconv.Itoa1
import Derived.Shelf.LaysM
import Derived.Shelf.Strconv.Itoa2
import Derived.Shelf.Strconv.Itoa3
import Derived.Shelf.Strings.BuilderCap
import Derived.Lib.Builder
import Derived.Laws.Externs
set_option maxHeartbeats 40000000
set_option maxRecDepth 100000
set_option linter.all false
abbrev Eq.D:=@Eq.trans
abbrev Iff.D:=@Iff.trans
abbrev List.Perm.D:=@List.Perm.trans
namespace Go
abbrev xo:=Option (Nat×Bool)
abbrev xp:=List (Nat×Bool)
abbrev xq:=List (Nat×Nat)
abbrev xt:=List (Int×Int)
abbrev xw:=World→Prop
abbrev xx:=Array Obj
abbrev xz:=Array Edge
abbrev xA:=List Oper
abbrev xC:=Option Nat
theorem ou{p q:Prop}(a:q)(h:q→p:=by intro _;omega):p:=h a
theorem ov{p q r:Prop}(a:q)(b:r)(h:q→r→p:=by intro _ _;omega):p:=h a b
theorem oy{p q r s:Prop}(a:q)(b:r)(c:s)(h:q→r→s→p:=by intro _ _ _;omega):p:=h a b c
theorem oz{p q:Prop}(a:q)(h:q→p:=by intro h;simpa using h):p:=h a
theorem oa{p:Prop}(h:p:=by omega):p:=h
theorem od{p:Prop}(h:p:=by kernel_rfl):p:=h
theorem oe{p:Prop}(h:p:=by simp):p:=h
theorem og{p:Prop}(h:p:=by decide):p:=h
theorem oh{p:Prop}(h:p:=by simp only[];omega):p:=h
theorem ol{p:Prop}(h:p:=by rfl):p:=h
theorem om{p:Prop}(h:p:=by simp only[List.mem_singleton];omega):p:=h
theorem oq{p:Prop}(h:p:=by simp only[List.mem_cons,List.not_mem_nil,or_false];omega):p:=h
theorem ot{p:Prop}(h:p:=by simp[ow]):p:=h
abbrev oD(j:Nat):Nat×Bool:=(j,true)
abbrev oE(j:Nat):Nat×Bool:=(j,false)
abbrev OR:=@if_neg
abbrev OS:=@if_pos
abbrev OT:=@congrArg
abbrev OU:=@absurd
abbrev OV:=@decide_eq_true
abbrev OW:=@of_decide_eq_true
abbrev OX:=@decide_eq_false
abbrev OY:=@of_decide_eq_false
end Go
open Go
open Go.Value renaming int->oF
open Go.IntKind renaming i64->oG
open _root_.List renaming mem_singleton->oI,not_mem_nil->oJ,mem_cons->oK,length_append->oM,replicate->oN,length_singleton->oO,getD->oQ,all_cons->oR,range'->oS,range->oT,mem_append->oU,length_cons->oV,map_cons->oX,getElem?_toArray->oZ,append_assoc->o0,length_drop->o6,length_take->Oa,cons_append->Ob,length_map->Oc,size_toArray->Od,getElem?_eq_getElem->Oe,nil_append->Oj,all_eq_true->Ol,flatMap_cons->Om,forall_mem_cons->Oq,singleton_append->Ov,range'_succ->Oy,take_append->OH,map_set->ON
open _root_.Bool renaming and_eq_true->oL,or_eq_false_iff->Of,true_and->OK
open _root_.Array renaming replicate->oW,getElem?_eq_getElem->Oh
open _root_.Nat renaming zero_add->oY,add_mul->Oo,add_zero->Oz,lt_or_ge->OF,sub_zero->OG,add_assoc->OJ,le_succ->OL,zero_mul->OM,beq->OQ
open _root_.Int renaming toNat_natCast->Ot
open _root_.Option renaming map_some->Ox
open Go renaming World->OZ,Value->O0,Operand->O1,Program->O2
open Go.Proofs Go.Proofs.Tryz
variable {w w':OZ}{n t i sz b T j E N g o id ty cap b1 B kt lo hi b2 et G M gp:Nat}{H:xx}{α β:Type}{y:O1}{z va ve vm vt v' vs vl vb vx vk:O0}{P:O2}{fn:Func}{s:Int}{d:xC}{af:xz}{gd:xo}{k':IntKind}{ops:xA}{rest:xp}
namespace Go
abbrev nS:O0:=.slice none 0 0
abbrev LI:=List Int
abbrev LN:=List Nat
abbrev LV:=List O0
theorem U.{u}{α:Sort u}{a:α}:a=a:=rfl
theorem Z:True:=trivial
theorem La.{u}{α:Sort u}{a:α}:a=a/\True:=⟨rfl,trivial⟩
abbrev Lb:=@List.mem_singleton
abbrev Lc:=@List.mem_append
abbrev Lh:=@List.length_map
abbrev Li:=@List.mem_cons
abbrev Lj:=@List.length_append
abbrev Lk:=@List.mem_cons_of_mem
abbrev Ll:=@List.take_succ_eq_append_getElem
abbrev Lm:=@List.getElem_mem
abbrev Ln:=@Nat.zero_le
abbrev Lo:=@Decidable.not_not
abbrev Lp:=@List.map_append
abbrev Lq:=@List.eq_nil_of_length_eq_zero
abbrev Lr:=@List.drop_of_length_le
abbrev Ls:=@List.take_of_length_le
abbrev Lt:=@List.mem_cons_self
abbrev Lu:=@List.not_mem_nil
abbrev Lv:=@Bool.and_eq_true
abbrev Lx:=@Nat.le_refl
abbrev Ly:=@List.length_take
abbrev LA:=@List.flatMap_append
abbrev LB:=@List.append_assoc
abbrev LC:=@List.length_singleton
abbrev LD:=@List.mem_map
abbrev LE:=@List.drop_eq_getElem_cons
abbrev LF:=@List.getElem?_eq_getElem
abbrev LG:=@List.map_cons
abbrev LH:=@Array.getElem?_eq_some_iff
abbrev LJ:=@Nat.le_trans
abbrev LK:=@List.mem_map_of_mem
abbrev LM:=@List.flatMap_cons
abbrev LO:=@List.getElem_of_mem
abbrev LP:=@List.size_toArray
abbrev LQ:=@List.length_cons
abbrev LR:=@List.mem_of_mem_take
abbrev LS:=@List.append_nil
abbrev LT:=@List.getElem?_take
abbrev LU:=@Nat.lt_of_lt_of_le
abbrev LW:=@List.length_drop
abbrev LX:=@Nat.zero_add
abbrev LY:=@Nat.mul_le_mul_right
abbrev LZ:=@List.filter_append
abbrev L3:=@List.pairwise_cons
abbrev L4:=@List.foldl_cons
abbrev L5:=@List.all_cons
abbrev L6:=@List.mem_of_mem_drop
abbrev L7:=@List.getElem?_eq_some_iff
abbrev L8:=@List.nil_append
abbrev L9:=@List.mem_filter
abbrev Ma:=@List.length_filter_le
abbrev Mb:=@Array.size_modify
abbrev Mc:=@List.filter_cons
abbrev Md:=@List.all_eq_true
abbrev Me:=@Array.getElem?_append
abbrev Mf:=@Nat.min_eq_left
abbrev Mg:=@List.getElem?_toArray
abbrev Mh:=@List.map_map
abbrev Mi:=@List.mem_flatMap
abbrev Mj:=@List.cons_append
abbrev Mk:=@List.length_set
abbrev Ml:=@List.getElem?_append_left
abbrev Mn:=@Array.getElem?_toList
abbrev Mo:=@Option.map_eq_some_iff
abbrev Mq:=@List.mem_of_getElem?
abbrev Mr:=@List.mem_append_left
abbrev Ms:=@Nat.add_mul
abbrev Mt:=@List.ext_getElem
abbrev Mu:=@List.getElem_map
abbrev Mv:=@Array.getElem?_modify
abbrev Mw:=@Array.getElem?_eq_getElem
abbrev Mx:=@List.filterMap_cons
abbrev My:=@List.nodup_append
abbrev Mz:=@List.foldl_append
abbrev MA:=@List.getElem?_drop
abbrev MB:=@List.take_append_drop
abbrev MC:=@List.getElem_append_left
abbrev MD:=@Nat.le_of_ble_eq_true
abbrev ME:=@List.take_succ_cons
abbrev MF:=@Nat.add_sub_cancel_left
abbrev MG:=@List.getElem?_append_right
abbrev MH:=@List.nodup_nil
abbrev MI:=@List.pairwise_append
abbrev MJ:=@Bool.or_eq_false_iff
abbrev MK:=@List.pairwise_iff_getElem
abbrev ML:=@List.getElem?_eq_none
abbrev MM:=@Array.size_append
abbrev MN:=@List.idxOf_lt_length_of_mem
abbrev MO:=@Int.toNat_natCast
abbrev MP:=@Option.bind_eq_some_iff
abbrev MQ:=@List.range'_1_concat
abbrev MR:=@List.mem_filterMap
abbrev MS:=@List.mem_or_eq_of_mem_set
abbrev MT:=@List.take_append_of_le_length
abbrev MU:=@List.idxOf_append
abbrev MW:=@List.pairwise_map
abbrev MX:=@Bool.not_eq_true'
abbrev MY:=@List.headD_cons
abbrev MZ:=@List.take_length
abbrev M0:=@List.ext_getElem?
abbrev M1:=@List.take_take
abbrev M2:=@List.mem_range'_1
abbrev M4:=@List.tail_cons
abbrev M5:=@List.getElem_append_right
abbrev M6:=@List.getElem_set
abbrev M7:=@List.range'_succ
abbrev M8:=@Nat.mod_eq_of_lt
abbrev M9:=@List.map_singleton
abbrev Na:=@Nat.add_comm
abbrev Nb:=@List.forall_mem_cons
abbrev Nc:=@List.getElem?_map
abbrev Nd:=@List.getElem_take
abbrev Nf:=@Nat.not_lt_zero
abbrev Ng:=@List.length_nil
abbrev Nh:=@List.filter_sublist
abbrev Ni:=@Nat.add_zero
abbrev Nj:=@List.filter_eq_nil_iff
abbrev Nk:=@List.map_nil
abbrev Nl:=@Nat.lt_irrefl
abbrev Nm:=@List.any_eq_true
abbrev Nn:=@Nat.le_of_not_lt
abbrev Np:=@List.mem_range
abbrev Nq:=@Array.getElem?_mapIdx
abbrev Nr:=@List.singleton_append
abbrev Ns:=@List.mem_append_right
abbrev Nt:=@Option.isNone_iff_eq_none
abbrev Nu:=@Option.map_some
abbrev Nv:=@List.range_succ
abbrev Nw:=@List.nodup_cons
abbrev Nx:=@List.any_eq_false
abbrev Ny:=@List.eq_of_mem_replicate
abbrev Nz:=@List.mergeSort_perm
abbrev NA:=@List.filter_eq_self
abbrev NB:=@List.map_congr_left
abbrev NC:=@List.pairwise_singleton
abbrev ND:=@List.zipIdx_cons
abbrev NE:=@List.foldl_nil
abbrev NF:=@List.pairwise_lt_range'
abbrev NG:=@Int.le_refl
abbrev NH:=@Option.isSome_none
abbrev NI:=@Bool.false_eq_true
abbrev NJ:=@Nat.sub_zero
abbrev NK:=@List.set_cons_succ
abbrev NL:=@List.filter_nil
abbrev NM:=@List.map_take
abbrev NN:=@Nat.one_mul
theorem oA.{u,v}{α:Sort u}{β:Sort v}{a:α}{b:β}:a=a/\b=b/\True:=⟨rfl,rfl,trivial⟩
theorem oB.{u,v,w}{α:Sort u}{β:Sort v}{γ:Sort w}{a:α}{b:β}{c:γ}:a=a/\b=b/\c=c/\True:=⟨rfl,rfl,rfl,trivial⟩
theorem oC.{u,v,w,x}{α:Sort u}{β:Sort v}{γ:Sort w}{δ:Sort x}{a:α}{b:β}{c:γ}{d:δ}:a=a/\b=b/\c=c/\d=d/\True:=⟨rfl,rfl,rfl,rfl,trivial⟩
end Go
namespace Go.Lg
open Go.RowKit
abbrev Fr:=Nat->O0
def upd (f:Fr)(d:Nat)(v:O0):Fr:=λt=>bif OQ t d then v else f t
def ev (f:Fr):O1->O0
 | .tmp t=>f t
 | .const v=>v
 | .global g=>.pointer (some ⟨g,0,none⟩)
 | .func g=>.func (.func g) #[] #[]
def QY (f:Fr):xC->O0->Fr
 | some d,v=>upd f d v
 | none,_=>f
structure Rel (n:Nat)(a:Act)(f:Fr):Prop where
 size:a.tmps.size=n
 defers:a.defers=[]
 get:∀t,a.tmps.getD t undef=f t
theorem YI (f:Fr)(d:Nat)(v:O0):upd f d v d=v:=by simp[upd]
theorem JZ (f:Fr){d:Nat}(v:O0)(h:t≠d):upd f d v t=f t:=by
 have:OQ t d=false:=by
  cases e:OQ t d with
  | false=>rfl
  | true=>exact OU (Nat.eq_of_beq_eq_true e) h
 simp[upd,this]
theorem Rel.eval {n:Nat}{a:Act}{f:Fr}(h:Rel n a f):a.eval=ev f:=by
 funext x;cases x with
 | tmp t=>exact h.get t
 | _=>rfl
theorem Rel.put {n:Nat}{a:Act}{f:Fr}(h:Rel n a f){dst:xC}(hd:∀d,dst=some d->d<n)(v:O0):Rel n (a.put dst v) (QY f dst v):=by
 cases dst with
 | none=>exact h
 | some d =>
  have E:d<a.tmps.size:=by rw[h.size];exact hd d U
  refine⟨by simp[Act.put,h.size],h.defers,λt=>?_⟩;by_cases e:t=d
  ·subst e;rw[QY,YI];simp[Act.put,E]
  rw[QY,JZ _ _ e,<-h.get t];simp[Act.put,Array.getElem?_setIfInBounds_ne (Ne.symm e)]
def Z7 (l:xA)(t:Nat):Bool:=l.any λo=>match o.dst with|some d=>OQ d t|none=>false
def wrs:Code->Nat->Bool
 | .region _ ops _,t=>Z7 ops.toList t
 | .seq a b,t=>wrs a t || wrs b t
 | .cond _ a b,t=>wrs a t || wrs b t
 | .block _ a,t=>wrs a t
 | .loop a,t=>wrs a t
 | .skip,_| .exit _,_| .label _,_| .goto _,_| .ret,_=>false
 | _,_=>true
def Xd (D:xq)(t:Nat):Bool:=match D with
 | []=>false
 | (lo,hi)::D=>bif (Nat.ble lo t && Nat.ble t hi)then true else Xd D t
def inD (D:xq)(d:xC):Bool:=match d with|none=>true|some d=>Xd D d
def Qd6 (D:xq)(l:xA):Bool:=l.all λo=>inD D o.dst
def wr (D:xq):Code->Bool
 | .region _ ops _=>Qd6 D ops.toList
 | .seq a b=>wr D a && wr D b
 | .cond _ a b=>wr D a && wr D b
 | .block _ a=>wr D a
 | .loop a=>wr D a
 | .skip| .exit _| .label _| .goto _| .ret=>true
 | _=>false
theorem yY {D:xq}{l:xA}(h:Qd6 D l=true)(G:Xd D t=false):Z7 l t=false:=by
 unfold Qd6 at h;unfold Z7;rw[Nx];intro o H;have E:=Md.1 h o H;cases hd:o.dst with
 | none=>simp
 | some d =>
  rw[hd]at E;simp only[inD]at E;intro e;have:=Nat.eq_of_beq_eq_true e;subst this;rw[E]at G;cases G
theorem KX {D:xq}{t:Nat}(E:Xd D t=false):∀c:Code,wr D c=true->wrs c t=false
 | .region _ ops _,h=>yY h E
 | .seq a b,h=>by simp only[wr,oL]at h;simp[wrs,KX E a h.1,KX E b h.2]
 | .cond _ a b,h=>by simp only[wr,oL]at h;simp[wrs,KX E a h.1,KX E b h.2]
 | .block _ a,h=>KX E a (by simpa[wr]using h)
 | .loop a,h=>KX E a (by simpa[wr]using h)
 | .skip,_=>rfl
 | .exit _,_=>rfl
 | .label _,_=>rfl
 | .goto _,_=>rfl
 | .ret,_=>rfl
 | .rangeFunc ..,h=>by simp[wr]at h
 | .scope _,h=>by simp[wr]at h
 | .refuse _,h=>by simp[wr]at h
def mix (D:xq)(f g:Fr):Fr:=λt=>bif Xd D t then g t else f t
theorem X7 {D:xq}{f g:Fr}(h:∀t,Xd D t=false->g t=f t):mix D f g=g:=by
 funext t;unfold mix;cases e:Xd D t with
 | false=>exact(h t e).symm
 | true=>rfl
def qK (S:List (Nat×O0))(f:Fr):Fr:=match S with
 | []=>f
 | (t,v)::S=>upd (qK S f) t v
def Xr (f:Fr):List (Nat×O0)->Prop
 | []=>True
 | (t,v)::S=>f t=v/\Xr f S
theorem Y3 {f:Fr}:∀{S:List (Nat×O0)},Xr f S->qK S f=f
 | [],_=>rfl
 | (t,v)::S,h=>by
  funext s;simp only[qK,Y3 h.2];by_cases e:s=t
  ·subst e;rw[YI];exact h.1.symm
  exact JZ _ _ e
def W (P:O2)(n:Nat)(c:Code)(Q:Exit->Fr->OZ->Prop)(f:Fr)(w:OZ):Prop :=
 ∀a,Rel n a f->c.wp P (λe E w'=>∃f',Rel n E f'/\(∀t,wrs c t=false->f' t=f t)/\Q e f' w') a w
def thn (K:Fr->OZ->Prop)(Q:Exit->Fr->OZ->Prop):Exit->Fr->OZ->Prop
 | .normal,f,w=>K f w
 | e,f,w=>Q e f w
def blk (id:Nat)(Q:Exit->Fr->OZ->Prop):Exit->Fr->OZ->Prop
 | .exit i,f,w=>bif OQ i id then Q .normal f w else Q (.exit i) f w
 | e,f,w=>Q e f w
section
variable {Q:Exit->Fr->OZ->Prop}{f:Fr}
theorem W.mono {c:Code}{Q':Exit->Fr->OZ->Prop}(h:W P n c Q f w)(E:∀e f w,Q e f w->Q' e f w):W P n c Q' f w :=
 λa G=>wp_mono (h a G) λ_ _ _ ⟨H,I,J,O⟩=>⟨H,I,J,E _ _ _ O⟩
theorem W.keeps {c:Code}(h:W P n c Q f w):W P n c (λe E w'=>(∀t,wrs c t=false->E t=f t)/\Q e E w') f w :=
 λa H=>wp_mono (h a H) λ_ _ _ ⟨E,I,G,J⟩=>⟨E,I,G,G,J⟩
theorem Qh (h:Q .normal f w):W P n .skip Q f w:=λ_ E=>wp_skip ⟨f,E,λ_ _=>U,h⟩
theorem Qx (h:Q (.exit i) f w):W P n (.exit i) Q f w:=λ_ E=>wp_exit ⟨f,E,λ_ _=>U,h⟩
theorem Ql (h:Q .ret f w):W P n .ret Q f w:=λ_ E=>wp_ret ⟨f,E,λ_ _=>U,h⟩
theorem Qd {x y:Code}(h:W P n x (thn (λf w=>W P n y Q f w) Q) f w):W P n (.seq x y) Q f w:=by
 intro a J;refine wp_seq (wp_mono (h a J) ?_);rintro e O w' ⟨E,G,S,H⟩;have k1:∀t,wrs (.seq x y) t=false->E t=f t:=λt I=>S t (by simp only[wrs,Of]at I;exact I.1);cases e with
 | normal =>
  refine wp_mono (H O G) λ_ _ _ ⟨T,g1,V,Y⟩=>⟨T,g1,λt I=>(V t ?_).D (k1 t I),Y⟩;simp only[wrs,Of]at I;exact I.2
 | exit id=>exact⟨E,G,k1,H⟩
 | goto l=>exact⟨E,G,k1,H⟩
 | ret=>exact⟨E,G,k1,H⟩
 | panic ch=>exact⟨E,G,k1,H⟩
 | outgrown=>exact⟨E,G,k1,H⟩
theorem Q3 {x y:Code}(D:xq)(S:α->List (Nat×O0))(I:α->OZ->Prop)(hD:wr D x=true)
  (J:W P n x (thn (λG w'=>∃z,Xr G (S z)/\I z w') Q) f w)
  (O:∀z g w',I z w'->W P n y Q (qK (S z) (mix D f g)) w'):W P n (.seq x y) Q f w:=by
 refine Qd (J.keeps.mono ?_);rintro e G w' ⟨T,E⟩;cases e with
 | normal =>
  obtain⟨z,V,hi⟩:=E;have H:=O z G w' hi;rw[X7 (λt Y=>T t (KX Y x hD)),Y3 V]at H;exact H
 | exit id=>exact E
 | goto l=>exact E
 | ret=>exact E
 | panic ch=>exact E
 | outgrown=>exact E
theorem QW {c:O1}{x y:Code}{t:Bool}(H:ev f c=.bool t)(E:t=true->W P n x Q f w)(I:t=false->W P n y Q f w):
  W P n (.cond c x y) Q f w:=by
 intro a G;have J:a.eval c=.bool t:=by rw[G.eval];exact H
 refine wp_cond_split J (λe=>wp_mono (E e a G) ?_) (λe=>wp_mono (I e a G) ?_) <;>
  (rintro e Y w' ⟨O,S,T,V⟩
   refine⟨O,S,λt E=>T t ?_,V⟩;simp only[wrs,Of]at E
   first|exact E.1|exact E.2)
theorem QZ {c:O1}{x y:Code}{p:Prop}[Decidable p](E:ev f c=.bool (decide p))(G:p->W P n x Q f w)(H:¬p->W P n y Q f w):
  W P n (.cond c x y) Q f w :=
 QW E (λe=>G (OW e)) (λe=>H (OY e))
theorem QG {c:O1}{x y:Code}{p:Prop}[Decidable p](E:ev f c=.bool (decide p))(G:¬p->W P n y Q f w)(H:p->W P n x Q f w):
  W P n (.cond c x y) Q f w:=QZ E H G
theorem yv {c:O1}{x y:Code}(E:ev f c=.bool true)(h:W P n x Q f w):W P n (.cond c x y) Q f w:=QW E (λ_=>h) (λe=>by cases e)
theorem ZO {c:O1}{x y:Code}(E:ev f c=.bool false)(h:W P n y Q f w):W P n (.cond c x y) Q f w:=QW E (λe=>by cases e) (λ_=>h)
theorem Qg {c:Code}(h:W P n c (blk id Q) f w):W P n (.block id c) Q f w:=by
 intro a I;refine wp_block (wp_mono (h a I) ?_);rintro e T w' ⟨G,H,J,E⟩;have k1:∀t,wrs (.block id c) t=false->G t=f t:=λt O=>J t (by simpa[wrs]using O);cases e with
 | exit i =>
  simp only[Exit.inBlock];simp only[blk]at E;by_cases hi:i=id
  ·subst hi;simp only[Nat.beq_refl,cond_true]at E;simp only[if_true];exact⟨G,H,k1,E⟩
  have S:OQ i id=false:=by
   cases e:OQ i id with
   | false=>rfl
   | true=>exact OU (Nat.eq_of_beq_eq_true e) hi
  rw[S]at E;rw[OR hi];exact⟨G,H,k1,E⟩
 | normal=>exact⟨G,H,k1,E⟩
 | goto l=>exact⟨G,H,k1,E⟩
 | ret=>exact⟨G,H,k1,E⟩
 | panic ch=>exact⟨G,H,k1,E⟩
 | outgrown=>exact⟨G,H,k1,E⟩
theorem QC {c:Code}(D:xq)(S:α->List (Nat×O0))(I:α->OZ->Prop)(m:α->Nat)(hD:wr D c=true)(z:α)
  (h0:Xr f (S z)) (hI:I z w)
  (round:∀x g w',I x w'->W P n c (thn (λG V=>∃O,m O<m x/\Xr G (S O)/\I O V) Q) (qK (S x) (mix D f g)) w'):W P n (.loop c) Q f w:=by
 intro a ha;refine wp_loop_ghost (λ(x:α) T w'=>∃G,Rel n T G/\(∀t,wrs c t=false->G t=f t)/\Xr G (S x)/\I x w') m z ⟨f,ha,λ_ _=>U,h0,hI⟩ ?_;rintro x T w' ⟨G,h1,Y,h3,h4⟩;have h5:=round x G w' h4;rw[X7 (λt H=>Y t (KX H c hD)),Y3 h3]at h5;refine wp_mono (h5 T h1) ?_;rintro e hb V ⟨E,g1,g2,J⟩;have k1:∀t,wrs c t=false->E t=f t:=λt H=>(g2 t H).D (Y t H);have k2:∀t,wrs (.loop c) t=false->E t=f t:=λt H=>k1 t (by simpa[wrs]using H);cases e with
 | normal=>obtain⟨O,hm,hs,hi⟩:=J;exact⟨O,hm,E,g1,k1,hs,hi⟩
 | exit id=>exact⟨E,g1,k2,J⟩
 | goto l=>exact⟨E,g1,k2,J⟩
 | ret=>exact⟨E,g1,k2,J⟩
 | panic ch=>exact⟨E,g1,k2,J⟩
 | outgrown=>exact⟨E,g1,k2,J⟩
 where
 wp_loop_ghost {α:Type} {P:O2} {c:Code} {Q:Exit->Act->OZ->Prop} {a:Act} {w:OZ} (J:α->Act->OZ->Prop) (m:α->Nat) (z:α) (h₀:J z a w)
   (round:∀x a w,J x a w->c.wp P (Exit.then (λa' w'=>∃x',m x'<m x/\J x' a' w') Q) a w):(Code.loop c).wp P Q a w:=by
  intro b k cs
  have key:∀i x a w,m x=i->J x a w ->
    ∃e a' w',Q e a' w'/\Arrives P (lone (b.at a (.code c::.inLoop c::k)) cs w) b k cs e a' w':=by
   intro i
   induction i using Nat.strongRecOn with
   | _ i ih =>
    intro x a w hx hJ
    obtain⟨e,a₁,w₁,hq,harr⟩:=round x a w hJ b (.inLoop c::k) cs
    cases e with
    | normal =>
     obtain⟨x',hlt,hJ'⟩:=hq
     obtain⟨e₂,a₂,w₂,hq₂,harr₂⟩:=ih (m x') (hx ▸ hlt) x' a₁ w₁ rfl hJ'
     exact⟨e₂,a₂,w₂,hq₂,.of_steps (Steps.trans harr (.one step_inLoop)) harr₂⟩
    | exit id=>exact⟨_,a₁,w₁,hq,.pass (x:=.inLoop c) rfl (λ_ _=>.inl oe) harr⟩
    | goto l=>exact⟨_,a₁,w₁,hq,.pass (x:=.inLoop c) rfl (λ_ _=>.inl oe) harr⟩
    | ret=>exact⟨_,a₁,w₁,hq,.pass (x:=.inLoop c) rfl (λ_ _=>.inl oe) harr⟩
    | panic ch=>exact⟨_,a₁,w₁,hq,.pass (x:=.inLoop c) rfl (λ_ _=>.inl oe) harr⟩
    | outgrown=>exact⟨_,a₁,w₁,hq,.pass (x:=.inLoop c) rfl (λ_ _=>.inl oe) harr⟩
  obtain⟨e,a',w',hq,harr⟩:=key _ z a w rfl h₀
  exact⟨e,a',w',hq,.of_steps (.one step_loop) harr⟩
end
def upF (P:O2)(dst:xC)(f:Fr)(K:Fr->OZ->Prop):Result Next->Prop
 | .ok (.value v) w'=>K (QY f dst v) w'
 | .ok .skip w'=>K (QY f dst undef) w'
 | .ok (.enter g args) w'=>Calls P g args w' λe E=>match e with| .returned v=>K (QY f dst v) E|_=>False
 | _=>False
def XO (P:O2)(o:Oper)(f:Fr)(w:OZ)(K:Fr->OZ->Prop):Prop:=upF P o.dst f K ((execOp (ev f) o).run P w)
def Z4 (ops:xA)(f:Fr)(o:Oper):Bool:=match o.guard with
 | none=>true
 | some (j,want)=>match (ops[j]?).bind (·.dst)with
  | some d=>(match f d with| .bool b=>bif want then b else !b|_=>false)
  | none=>false
def XL (P:O2)(ops:xA)(K:Fr->OZ->Prop):xA->Fr->OZ->Prop
 | [],f,w=>K f w
 | o::l,f,w=>bif Z4 ops f o then XO P o f w (XL P ops K l)else XL P ops K l (QY f o.dst undef) w
theorem UW {l:xA}{a:Act}{f:Fr}(h:Rel n a f)(H:∀o∈l,∀d,o.dst=some d->d<n)(o:Oper):Region.wanted o (yielded l.toArray a.tmps)=Z4 l f o:=by
 unfold Region.wanted Z4;cases o.guard with
 | none=>rfl
 | some p =>
  obtain⟨j,want⟩:=p;simp only[yielded,oZ];cases I:(l[j]?)with
  | none=>simp
  | some o' =>
   cases hd:o'.dst with
   | none=>simp[hd]
   | some d =>
    have E:d<a.tmps.size:=by rw[h.size];exact H o' (Mq I) d hd
    have G:=h.get d;simp only[Option.bind_some,hd,Oh E];simp[E]at G;rw[G];cases f d <;> simp
    cases want <;> simp
theorem QmY {o:Oper}{a:Act}{f:Fr}{K:Fr->OZ->Prop}{K':Act->OZ->Prop}{Q:Exit->Act->OZ->Prop}(h:Rel n a f)
  (hK:∀v w',K (QY f o.dst v) w'->K' (a.put o.dst v) w') (hx:XO P o f w K):o.wp P a w K' Q:=by
 unfold XO at hx;unfold Oper.wp;rw[h.eval];generalize (execOp (ev f) o).run P w=r at hx;cases r with
 | ok nx w' =>
  cases nx <;> simp only[upF]at hx <;> simp only[Oper.upon]
  case value v=>exact hK v w' hx
  case skip=>exact hK _ w' hx
  case enter g args =>
   refine Calls.mono hx λe G E=>?_;cases e with
   | returned v=>exact hK v G E
   | panicked c=>exact E.elim
   | outgrown=>exact E.elim
 | halt x w'=>exact hx.elim
theorem XO.mono {P:O2}{o:Oper}{f:Fr}{w:OZ}{K K':Fr->OZ->Prop}(hK:∀v w',K (QY f o.dst v) w'->K' (QY f o.dst v) w')(hx:XO P o f w K):XO P o f w K':=by
 unfold XO at *;generalize (execOp (ev f) o).run P w=r at *;cases r with
 | ok nx w' =>
  cases nx <;> simp only[upF]at hx ⊢
  case value v=>exact hK v w' hx
  case skip=>exact hK _ w' hx
  case enter g args =>
   refine Calls.mono hx λe G E=>?_;cases e with
   | returned v=>exact hK v G E
   | panicked c=>exact E.elim
   | outgrown=>exact E.elim
 | halt x w'=>exact hx.elim
def X4 (n:Nat)(l:xA):Bool:=l.all λo=>match o.dst with|some d=>Nat.blt d n|none=>true
theorem Xj {l:xA}(h:X4 n l=true):∀o∈l,∀d,o.dst=some d->d<n:=by
 intro o E d hd;have:=Md.1 h o E;simp only[hd,Nat.blt_eq]at this;exact this
theorem Jv {l:xA}{o:Oper}(E:o∈l)(h:Z7 l t=false):o.dst≠some t:=by
 intro e;have:=Nx.1 h o E;simp[e]at this
theorem Y4 {f:Fr}{dst:xC}(h:dst≠some t)(v:O0):QY f dst v t=f t:=by
 cases dst with
 | none=>rfl
 | some d=>exact JZ _ _ (λe=>h (by rw[e]))
section
variable {Q:Exit->Fr->OZ->Prop}{f:Fr}
theorem QmZ {all:xA}(G:∀o∈all,∀d,o.dst=some d->d<n)(f0:Fr):
  ∀(l:xA) (k:Nat) (a:Act) (f:Fr) (w:OZ),(∀j,l[j]?=all[k+j]?)->Rel n a f->(∀t,Z7 all t=false->f t=f0 t) ->
   XL P all (λf w=>Q .normal f w) l f w ->
   wpOps P all.toArray (λe T w'=>∃f',Rel n T f'/\(∀t,Z7 all t=false->f' t=f0 t)/\Q e f' w') (oS k l.length) a w
 | [],_,a,f,w,_,E,H,h=>⟨f,E,H,h⟩
 | o::l,k,a,f,w,hl,E,H,h=>by
  have J:all[k]?=some o:=by simpa using(hl 0).symm
  have I:o∈all:=Mq J;have ih:=λa f w=>QmZ G f0 l (k+1) a f w (λj=>by have:=hl (j+1);simpa[OJ,Nat.add_comm 1 j]using this);have next:∀v,(∀t,Z7 all t=false->QY f o.dst v t=f0 t):=λv t O=>(Y4 (Jv I O) v).D (H t O);simp only[oV,Oy,wpOps,oZ,J];rw[UW E G o];simp only[XL]at h;cases S:Z4 all f o with
  | false =>
   rw[S]at h;exact ih _ _ _ (E.put (G o I) _) (next _) h
  | true =>
   rw[S]at h;exact .inl (QmY E (λv w' hx=>ih _ _ _ (E.put (G o I) v) (next v) hx) h)
theorem QcF {l:xA}(E:X4 n l=true)(h:XL P l (λf w=>Q .normal f w) l f w):W P n (.region id l.toArray false) Q f w:=by
 intro a G;refine wp_region ?_;have:=QmZ (Xj E) f l 0 a f w oe G (λ_ _=>rfl) h;simpa[List.range_eq_range',wrs]using this
end
def U0 (o:Oper):Bool:=match o.op with
 | .move _| .assign _| .pick .. | .alloc _| .box .. | .build .. | .buildSlice .. | .store .. | .nilCheck _| .binOp .. | .unOp .. | .makeFunc .. | .makeMap .. | .makeSlice .. | .fieldAddr .. | .field .. | .indexAddr .. | .index .. | .extract .. | .insert .. | .mapUpdate ..=>false
 | .slice ..=>false
 | .call ⟨.builtin .append,_,_⟩=>false
 | .call ⟨.builtin .min,_,_⟩=>false
 | .call ⟨.builtin .max,_,_⟩=>false
 | .call ⟨.value _,_,_⟩=>false
 | _=>true
def VM (all:xA)(j:Nat):Bool:=match all[j]? with
 | none=>false
 | some o=>(oT all.length).all λi=>match all[i]? with
  | none=>true
  | some oi=>!U0 oi || i == j || o.after.any λe=>Region.binds .any e && e.on == i
def XA (P:O2)(all:xA)(C:xw)(K:Fr->OZ->Prop):Nat->Array Bool->Fr->OZ->Prop
 | 0,ls,f,w=>Region.ready .any all.toArray ls=[]/\K f w
 | k+1,ls,f,w=>(Region.ready .any all.toArray ls=[]->K f w) /\
  ∀i∈Region.ready .any all.toArray ls,∀o,all[i]?=some o ->
   bif Z4 all f o then XO P o f w (λE w'=>(VM all i=true\/w'=w\/C w')/\XA P all C K k (ls.setIfInBounds i true) E w')else XA P all C K k (ls.setIfInBounds i true) (QY f o.dst undef) w
section
variable {f:Fr}{all:xA}{C:xw}{K:Fr->OZ->Prop}
theorem Qfv {Q:Exit->Act->OZ->Prop}(G:∀o∈all,∀d,o.dst=some d->d<n)(f0:Fr)
  (H:∀a f w,Rel n a f->(∀t,Z7 all t=false->f t=f0 t)->K f w->Q .normal a w):
  ∀(k:Nat) (ls:Array Bool) (a:Act) (f:Fr) (w:OZ),Rel n a f->(∀t,Z7 all t=false->f t=f0 t)->XA P all C K k ls f w->wpAny P .any all.toArray Q k ls a w
 | 0,_,a,f,w,E,I,h=>⟨h.1,H a f w E I h.2⟩
 | k+1,ls,a,f,w,E,I,h=>by
  refine⟨λY=>H a f w E I (h.1 Y),λi hi=>?_⟩;unfold wpOp;simp only[oZ];cases O:all[i]? with
  | none =>
   exfalso;obtain⟨_,o,ha,_⟩:=mem_ready.1 hi;simp[O]at ha
  | some o =>
   have S:o∈all:=Mq O;have J:=h.2 i hi o O;have next:∀v,(∀t,Z7 all t=false->QY f o.dst v t=f0 t):=λv t T=>(Y4 (Jv S T) v).D (I t T);simp only[];rw[UW E G o];cases V:Z4 all f o with
   | false =>
    rw[V]at J;exact Qfv G f0 H k _ _ _ _ (E.put (G o S) _) (next _) J
   | true =>
    rw[V]at J;exact .inl (QmY E (λv w' hx=>Qfv G f0 H k _ _ _ _ (E.put (G o S) v) (next v) hx.2) J)
theorem J7 (f:Fr){x y:xC}(v u:O0)(h:∀d,x=some d->y≠some d):QY (QY f x v) y u=QY (QY f y u) x v:=by
 cases x with
 | none=>rfl
 | some d =>
  cases y with
  | none=>rfl
  | some e =>
   have H:d≠e:=λI=>h d U (I ▸ U);funext t;simp only[QY];by_cases E:t=d
   ·subst E;rw[JZ _ _ H,YI,YI]
   by_cases G:t=e
   ·subst G;rw[YI,JZ _ _ E,YI]
   rw[JZ _ _ G,JZ _ _ E,JZ _ _ E,JZ _ _ G]
theorem QlS {f:Fr}{dst:xC}{v:O0}{x:O1}(h:∀d,dst=some d->x≠.tmp d):ev (QY f dst v) x=ev f x:=by
 cases dst with
 | none=>rfl
 | some d =>
  cases x with
  | tmp t=>exact JZ _ _ (λe=>h d U (by rw[e]))
  | _=>rfl
theorem Xo {o:Oper}(E:∀cs b,o.op≠.select cs b)(f:Fr)(dst:xC)(v:O0)(h:∀d,dst=some d->d∉o.looksAt all.toArray):
  execOp (ev (QY f dst v)) o=execOp (ev f) o :=
 execOp_congr o E λx hx=>QlS λd hd G=>h d hd (by
  subst G;exact Mr _ (MR.2 ⟨.tmp d,oz hx,rfl⟩))
theorem X3 (o:Oper)(f:Fr)(dst:xC)(v:O0)(h:∀d,dst=some d->d∉o.looksAt all.toArray):Z4 all (QY f dst v) o=Z4 all f o:=by
 unfold Z4;cases E:o.guard with
 | none=>rfl
 | some gw =>
  obtain⟨g,want⟩:=gw;simp only[];cases G:(all[g]?).bind (·.dst)with
  | none=>rfl
  | some t =>
   have H:dst≠some t:=λe=>h t e (by simp[Oper.looksAt,E,G]);simp only[];rw[Y4 H]
def Qfx (P:O2)(all:xA)(D:xw)(o:Oper)(v:O0)(f:Fr):Prop :=
 (Z4 all f o=true/\∀w,D w->(execOp (ev f) o).run P w=.ok (.value v) w)\/(Z4 all f o=false/\v=undef)
theorem Qlo {oi oj:Oper}(hi:all[i]?=some oi)(G:all[j]?=some oj)(H:U0 oi=true)(I:j≠i)(hl:VM all j=true)(J:∀e∈oj.after,Region.binds .any e=true->e.on≠i):False:=by
 simp only[VM,G,Ol,List.mem_range]at hl;have O:i<all.length:=(L7.1 hi).1;have E:=hl i O;simp only[hi,H,Bool.not_true,Bool.false_or,Bool.or_eq_true,beq_iff_eq,Array.any_eq_true',oL]at E;rcases E with E|⟨e,S,T,V⟩
 ·exact I E.symm
 exact J e S T V
theorem Xe {oi:Oper}{v:O0}{D:xw}(hi:all[i]?=some oi)(hD:∀w,(U0 oi=true->C w)->D w)(ha:∀(j:Nat) (o:Oper) cs b,all[j]?=some o->o.op≠.select cs b):
  ∀(fuel:Nat) (ls:Array Bool) (f:Fr) (w:OZ),(U0 oi=true->C w) ->
   (∀j oj,all[j]?=some oj->j≠i->ls.getD j true=false->(∀e∈oj.after,Region.binds .any e=true->e.on≠i)->oi.apart all.toArray oj=true) ->
   i∈Region.ready .any all.toArray ls->Qfx P all D oi v f ->
   XA P all C K fuel (ls.setIfInBounds i true) (QY f oi.dst v) w->XA P all C K (fuel+1) ls f w:=by
 have hc:∀(fuel:Nat) (ls:Array Bool) (f:Fr) (w:OZ),(U0 oi=true->C w)->Qfx P all D oi v f->XA P all C K fuel (ls.setIfInBounds i true) (QY f oi.dst v) w->∀o,all[i]?=some o ->
   bif Z4 all f o then XO P o f w (λf' w'=>(VM all i=true\/w'=w\/C w')/\XA P all C K fuel (ls.setIfInBounds i true) f' w')else XA P all C K fuel (ls.setIfInBounds i true) (QY f o.dst undef) w:=by
  intro fuel ls f w J T H o ho;rw[hi]at ho;cases ho
  rcases T with⟨V,hv⟩|⟨V,rfl⟩
  ·rw[V];simp only[cond_true,XO,hv w (hD w J),upF];exact⟨.inr (.inl Z),H⟩
  rw[V];exact H
 intro fuel;induction fuel with
 | zero =>
  intro ls f w J _ O T H;refine⟨λh=>(by rw[h]at O;cases O),λj hj=>?_⟩;by_cases I:j=i
  ·subst I;exact hc _ _ _ _ J T H
  have:=ready_mono hj I;rw[H.1]at this;cases this
 | succ fuel ih =>
  intro ls f w J hf O T H;refine⟨λh=>(by rw[h]at O;cases O),λj hj=>?_⟩;by_cases I:j=i
  ·subst I;exact hc _ _ _ _ J T H
  intro oj Y;have E:=H.2 j (ready_mono hj I) oj Y;obtain⟨hh,G,hm,ht⟩:=mem_ready.1 hj;have hu:G=oj:=by rw[Mg,Y]at hm;exact(Option.some.inj hm).symm
  subst hu;have hn:∀e∈G.after,Region.binds .any e=true->e.on≠i:=λe S hb hw=>by
   have E:=ht e S hb;have h0:=(mem_ready.1 O).1;rw[hw]at E;rcases OF i ls.size with h'|h'
   ·simp[h']at h0 E;rw[h0]at E;cases E
   simp[Array.getElem?_eq_none h']at E
  obtain⟨a1,a2,a3⟩:=Oper.apart_spec (hf j G Y I hh hn);have hz:∀k ok,all[k]?=some ok->k≠i->(ls.setIfInBounds j true).getD k true=false ->
    (∀e∈ok.after,Region.binds .any e=true->e.on≠i)->oi.apart all.toArray ok=true:=λk ok hk h2 hp h3=>by
   refine hf k ok hk h2 ?_ h3;by_cases hq:j=k
   ·subst hq;exact hh
   rw[getD_set_ne true hq]at hp;exact hp
  have keep:∀u,Qfx P all D oi v (QY f G.dst u):=λu=>by
   unfold Qfx at *;rw[X3 oi f G.dst u a3,Xo (all:=all) (ha i oi · · hi) f G.dst u a3];exact T
  have dOf:∀w',(VM all j=true\/w'=w\/C w')->(U0 oi=true->C w'):=λw' hl hs=>by
   rcases hl with hl|rfl|hl
   ·exact(Qlo hi Y hs I hl hn).elim
   ·exact J hs
   exact hl
  have go:∀u w',(U0 oi=true->C w')->XA P all C K fuel ((ls.setIfInBounds i true).setIfInBounds j true) (QY (QY f oi.dst v) G.dst u) w' ->
    XA P all C K (fuel+1) (ls.setIfInBounds j true) (QY f G.dst u) w':=λu w' h4 hx=>by
   refine ih _ _ _ h4 hz (ready_mono O (Ne.symm I)) (keep u) ?_;rw[Array.setIfInBounds_comm _ _ I,<-J7 f v u a2];exact hx
  rw[X3 G f oi.dst v a1]at E;cases V:Z4 all f G with
  | false=>rw[V]at E;exact go _ _ J E
  | true =>
   rw[V]at E;simp only[cond_true]at E ⊢;unfold XO at *;rw[Xo (all:=all) (ha j G · · Y) f oi.dst v a1]at E;generalize (execOp (ev f) G).run P w=r at *;cases r with
   | ok nx w' =>
    cases nx <;> simp only[upF]at E ⊢
    case value u=>exact⟨E.1,go _ _ (dOf _ E.1) E.2⟩
    case skip=>exact⟨E.1,go _ _ (dOf _ E.1) E.2⟩
    case enter g args =>
     refine Calls.mono E λe h5 S=>?_;cases e with
     | returned u=>exact⟨S.1,go _ _ (dOf _ S.1) S.2⟩
     | panicked c=>exact S.elim
     | outgrown=>exact S.elim
   | halt x w'=>exact E.elim
def Y9 (all:Array Oper):xp->Array Bool->Bool
 | [],ls=>(Region.ready .any all ls).isEmpty
 | (i,true)::pl,ls=>(Region.ready .any all ls).contains i && Region.free .any all ls i && Y9 all pl (ls.setIfInBounds i true)
 | (i,false)::pl,ls=>Region.ready .any all ls == [i] && Y9 all pl (ls.setIfInBounds i true)
def Qaq (all:xA)(pl:xp):Bool:=Region.noSelect all.toArray && pl.length == all.length && Y9 all.toArray pl (oW all.length false)
def QV:xA->Nat->Oper
 | [],_=>default
 | o::_,0=>o
 | _::l,i+1=>QV l i
theorem Zq {l:xA}{o:Oper}(h:l[i]?=some o):QV l i=o:=by
 induction l generalizing i with
 | nil=>simp at h
 | cons a l ih=>cases i with
  | zero=>simp at h;subst h;rfl
  | succ i=>exact ih (oz h)
def XP (P:O2)(all:xA)(C:xw)(K:Fr->OZ->Prop):xp->Fr->OZ->Prop
 | [],f,w=>K f w
 | (i,q)::pl,f,w=>bif Z4 all f (QV all i)then
    (bif q then ∃v,(∀w',(U0 (QV all i)=true->C w')->(execOp (ev f) (QV all i)).run P w'=.ok (.value v) w')/\XP P all C K pl (QY f (QV all i).dst v) w
     else XO P (QV all i) f w λE w'=>(VM all i=true\/w'=w\/C w')/\XP P all C K pl E w')
   else XP P all C K pl (QY f (QV all i).dst undef) w
def QcD (all:xA)(ls:Array Bool):Prop:=∀i o,all[i]?=some o->U0 o=true->ls.getD i false=true
theorem QcD.set {ls:Array Bool}(h:QcD all ls)(i:Nat):QcD all (ls.setIfInBounds i true):=λj o E G=>getD_set_true (h j o E G)
theorem ZN (S:Region.noSelect all.toArray=true):∀(pl:xp) (ls:Array Bool) (f:Fr) (w:OZ),ls.size=all.length->(C w\/QcD all ls)->Y9 all.toArray pl ls=true->XP P all C K pl f w ->
  XA P all C K pl.length ls f w
 | [],ls,f,w,_,_,H,h=>⟨by simpa[Y9]using H,h⟩
 | (i,true)::pl,ls,f,w,T,V,H,h=>by
  simp only[Y9,oL]at H;obtain⟨⟨J,hf⟩,Y⟩:=H;simp only[XP]at h;have O:i∈Region.ready .any all.toArray ls:=by simpa using J
  cases E:all[i]? with
  | none =>
   exfalso;obtain⟨_,o,h2,_⟩:=mem_ready.1 O;simp[E]at h2
  | some o =>
   rw[Zq E]at h;have hn:∀(j:Nat) (o:Oper) cs b,all[j]?=some o->o.op≠.select cs b:=λj o cs b hj=>Region.noSelect_spec S j o cs b (oz hj);have hq:=λj oj hj=>Region.free_spec (ops:=all.toArray) (md:=.any) (i:=i) (oi:=o) (listed:=ls) (oz E) hf j oj (oz hj);have ht:=(mem_ready.1 O).1;have hu:U0 o=true->C w:=λhh=>V.resolve_right (λhi=>by
    have G:=hi i o E hh;have hm:i<ls.size:=by rw[T];exact(L7.1 E).1
    simp[hm]at ht G;rw[ht]at G;cases G)
   have hw:C w\/QcD all (ls.setIfInBounds i true):=V.imp id (λh=>h.set i);have ha:(ls.setIfInBounds i true).size=all.length:=by simpa using T
   cases I:Z4 all f o with
   | false =>
    rw[I]at h;exact Xe (v:=undef) (D:=λw=>U0 o=true->C w) E (λ_ h=>h) hn pl.length ls f w hu hq O (.inr ⟨I,U⟩) (ZN S pl _ _ _ ha hw Y h)
   | true =>
    rw[I]at h;simp only[cond_true]at h;obtain⟨v,hv,hx⟩:=h;exact Xe (v:=v) (D:=λw=>U0 o=true->C w) E (λ_ h=>h) hn pl.length ls f w hu hq O (.inl ⟨I,hv⟩) (ZN S pl _ _ _ ha hw Y hx)
 | (i,false)::pl,ls,f,w,T,V,H,h=>by
  simp only[Y9,oL,beq_iff_eq]at H;obtain⟨J,Y⟩:=H;refine⟨λh0=>(by rw[h0]at J;cases J),?_⟩;have O:i∈Region.ready .any all.toArray ls:=by rw[J];simp
  rw[J];intro j hj o E;have:j=i:=by simpa using hj
  subst this;have ha:(ls.setIfInBounds j true).size=all.length:=by simpa using T
  simp only[XP,Zq E]at h;cases I:Z4 all f o with
  | false=>rw[I]at h;exact ZN S pl _ _ _ ha (V.imp id (λh=>h.set j)) Y h
  | true =>
   rw[I]at h;simp only[cond_true,cond_false]at h ⊢;refine h.mono λv w' hx=>⟨hx.1,ZN S pl _ _ _ ha ?_ Y hx.2⟩;rcases hx.1 with hl|rfl|hc
   ·right;intro k ok hk hh;by_cases hy:k=j
    ·subst hy;have hm:k<ls.size:=by rw[T];exact(L7.1 hk).1
     simp[hm]
    simp only[VM,E,Ol,List.mem_range]at hl;have G:=hl k (L7.1 hk).1;simp only[hk,hh,Bool.not_true,Bool.false_or,Bool.or_eq_true,beq_iff_eq,Array.any_eq_true',oL]at G;rcases G with G|⟨e,he,hb,h3⟩
    ·exact OU G hy
    obtain⟨_,o',hz,hi⟩:=mem_ready.1 O;have:o'=o:=by rw[Mg,E]at hz;exact(Option.some.inj hz).symm
    subst this;have:=hi e he hb;rw[h3]at this;exact getD_set_true this
   ·exact V.imp id (λh=>h.set j)
   exact .inl hc
theorem QR {Q:Exit->Fr->OZ->Prop}(C:xw)(pl:xp)(I:P.follows .mixedOrders=true)(J:X4 n all=true)(G:Qaq all pl=true)
  (O:C { w with drawn:=w.drawn+1 }) (h:XP P all C (λf w=>Q .normal f w) pl f { w with drawn:=w.drawn+1 }):W P n (.region id all.toArray true) Q f w:=by
 intro a S;simp only[Qaq,oL,beq_iff_eq]at G;obtain⟨⟨T,hl⟩,G⟩:=G;refine wp_region_any I ?_;have H:=ZN T pl _ _ _ oe (.inl O) G h;rw[hl]at H;have V:=Qfv (n:=n) (Q:=λe Y w'=>∃E,Rel n Y E/\(∀t,Z7 all t=false->E t=f t)/\Q e E w') (Xj J) f
  (λa E w hr hk hq=>⟨E,hr,hk,hq⟩) _ _ a f _ S (λ_ _=>U) H
 simpa[wrs]using V
theorem JG {Q:Exit->Fr->OZ->Prop}(C:xw)(G:P.follows .mixedOrders=true)(H:X4 n all=true)
  (h:XA P all C (λf w=>Q .normal f w) all.length (oW all.length false) f { w with drawn:=w.drawn+1 }):W P n (.region id all.toArray true) Q f w:=by
 intro a I;refine wp_region_any G ?_;have J:=Qfv (n:=n) (Q:=λe O w'=>∃E,Rel n O E/\(∀t,Z7 all t=false->E t=f t)/\Q e E w') (Xj H) f
  (λa E w S T V=>⟨E,S,T,V⟩) _ _ a f _ I (λ_ _=>U) h
 simpa[wrs]using J
end
theorem XC {all:xA}{C:xw}{K:Fr->OZ->Prop}{k:Nat}{ls:Array Bool}{f:Fr}(E:Region.ready .any all.toArray ls=[]->K f w)
  (h:∀i∈Region.ready .any all.toArray ls,∀o,all[i]?=some o ->
   bif Z4 all f o then XO P o f w (λG w'=>(VM all i=true\/w'=w\/C w')/\XA P all C K k (ls.setIfInBounds i true) G w')else XA P all C K k (ls.setIfInBounds i true) (QY f o.dst undef) w):XA P all C K (k+1) ls f w:=⟨E,h⟩
attribute [irreducible] W XL XP XO XA
class Sl (P:O2)(t:Nat)(e sz bys:outParam Nat)(z:outParam O0):Prop where
 u:P.underlying t=some (.slice e)
 i:(P.info? e).map (λi=>(i.zero,i.size,i.bytes))=some (some z,sz,bys)
 zs:z.cells.size=sz
 pos:0<sz
def QpF (P:O2)(t j:Nat):xC:=match P.underlying t with
 | some (.struct fs)=>match fs[j]? with
  | some fd=>match P.info? fd.type with
   | some i=>if i.size=0 then none else some fd.offset
   | none=>none
  | none=>none
 | _=>none
class Zh (P:O2)(t j:Nat)(off:outParam Nat):Prop where
 h:QpF P t j=some off
class XK (P:O2)(t:Nat):Prop where
 u:∃d,P.underlying t=some d/\(match d with| .struct _| .array ..=>false|_=>true)=true
 i:(P.info? t).map (·.size)=some 1
class Ag (P:O2)(t:Nat)(sz:outParam Nat):Prop where
 u:∃d,P.underlying t=some d/\(match d with| .struct _| .array ..=>true|_=>false)=true
 i:(P.info? t).map (·.size)=some sz
class Ze (P:O2)(t:Nat)(z:outParam O0):Prop where
 i:(P.info? t).map (·.zero)=some (some z)
class Fu (P:O2)(g:Nat)(fn:outParam Func):Prop where
 f:P.funcs[g]?=some fn
 b:fn.body.isNone=false
 nm:(fn.name == "runtime.NumGoroutine")=false
section
variable {K:Fr->OZ->Prop}{f:Fr}
theorem xe (h:K f w):XL P ops K [] f w:=by simp only[XL];exact h
theorem xl {o:Oper}{l:xA}(E:Z4 ops f o=true)(h:XO P o f w (XL P ops K l)):XL P ops K (o::l) f w:=by
 simp only[XL,E,cond_true];exact h
theorem xs {o:Oper}{l:xA}(E:Z4 ops f o=false)(h:XL P ops K l (QY f o.dst undef) w):XL P ops K (o::l) f w:=by
 simp only[XL,E,cond_false];exact h
theorem xv {o:Oper}{v:O0}(E:(execOp (ev f) o).run P w=.ok (.value v) w')(h:K (QY f o.dst v) w'):XO P o f w K:=by
 simp only[XO,E,upF];exact h
theorem xk {o:Oper}(E:(execOp (ev f) o).run P w=.ok .skip w')(h:K (QY f o.dst undef) w'):XO P o f w K:=by
 simp only[XO,E,upF];exact h
theorem x {o:Oper}{l:xA}{v:O0}(E:(execOp (ev f) o).run P w=.ok (.value v) w)(h:XL P ops K l (QY f o.dst v) w)(G:Z4 ops f o=true:=by rfl):XL P ops K (o::l) f w :=
 xl G (xv E h)
theorem xb {o:Oper}{l:xA}{q:Prop}[Decidable q](E:(execOp (ev f) o).run P w=.ok (.value (.bool (decide q))) w)(H:q->XL P ops K l (QY f o.dst (.bool true)) w)(I:¬q->XL P ops K l (QY f o.dst (.bool false)) w)
  (G:Z4 ops f o=true:=by rfl):XL P ops K (o::l) f w:=by
 by_cases h:q
 ·rw[OV h]at E;exact x E (H h) G
 rw[OX h]at E;exact x E (I h) G
variable {C:xw}
theorem pe (h:K f w):XP P ops C K [] f w:=by simp only[XP];exact h
theorem pq {pl:xp}{v:O0}(E:∀w',C w'->(execOp (ev f) (QV ops i)).run P w'=.ok (.value v) w')(h:XP P ops C K pl (QY f (QV ops i).dst v) w)
  (hd:U0 (QV ops i)=true:=by rfl) (G:Z4 ops f (QV ops i)=true:=by rfl):XP P ops C K ((i,true)::pl) f w:=by
 simp only[XP,G,cond_true];exact⟨v,λw' H=>E w' (H hd),h⟩
theorem p {pl:xp}{v:O0}(E:∀w',(execOp (ev f) (QV ops i)).run P w'=.ok (.value v) w')(h:XP P ops C K pl (QY f (QV ops i).dst v) w)
  (G:Z4 ops f (QV ops i)=true:=by rfl):XP P ops C K ((i,true)::pl) f w:=by
 simp only[XP,G,cond_true];exact⟨v,λw' _=>E w',h⟩
theorem ps {q:Bool}{pl:xp}(h:XP P ops C K pl (QY f (QV ops i).dst undef) w)
  (E:Z4 ops f (QV ops i)=false:=by rfl):XP P ops C K ((i,q)::pl) f w:=by
 simp only[XP,E,cond_false];exact h
theorem pb {pl:xp}{q:Prop}[Decidable q](E:∀w',(execOp (ev f) (QV ops i)).run P w'=.ok (.value (.bool (decide q))) w')(H:q->XP P ops C K pl (QY f (QV ops i).dst (.bool true)) w)(I:¬q->XP P ops C K pl (QY f (QV ops i).dst (.bool false)) w)
  (G:Z4 ops f (QV ops i)=true:=by rfl):XP P ops C K ((i,true)::pl) f w:=by
 by_cases h:q
 ·rw[OV h]at E;exact p E (H h) G
 rw[OX h]at E;exact p E (I h) G
theorem pk {pl:xp}(h:XO P (QV ops i) f w λE w'=>C w'/\XP P ops C K pl E w')
  (G:Z4 ops f (QV ops i)=true:=by rfl):XP P ops C K ((i,false)::pl) f w:=by
 simp only[XP,G,cond_true,cond_false];exact h.mono λ_ _ hx=>⟨.inr (.inr hx.1),hx.2⟩
theorem pkl {pl:xp}(h:XO P (QV ops i) f w λE w'=>XP P ops C K pl E w')
  (hl:VM ops i=true:=by rfl) (G:Z4 ops f (QV ops i)=true:=by rfl):XP P ops C K ((i,false)::pl) f w:=by
 simp only[XP,G,cond_true,cond_false];exact h.mono λ_ _ hx=>⟨.inl hl,hx⟩
end
section
variable {f:Fr}{pS:String}
theorem J0 {x:O1}:(execOp (ev f) ⟨d,.move x,ty,pS,af,gd⟩).run P w=.ok (.value (ev f x)) w:=by simp[execOp]
theorem Qk {x:O1}:(execOp (ev f) ⟨d,.assign x,ty,pS,af,gd⟩).run P w=.ok (.value (ev f x)) w:=by simp[execOp]
theorem U3 {c a b:O1}{t:Bool}(h:ev f c=.bool t):(execOp (ev f) ⟨d,.pick c a b,ty,pS,af,gd⟩).run P w=.ok (.value (bif t then ev f a else ev f b)) w:=by
 cases t <;> simp[execOp,h,asBool]
theorem Zp {x:O1}{vs:LV}{v:O0}(h:ev f x=.tuple vs.toArray)(E:vs[j]?=some v):(execOp (ev f) ⟨d,.extract x j,ty,pS,af,gd⟩).run P w=.ok (.value v) w:=by
 simp[execOp,h,Instr.extract,E]
theorem Qb5 {op:BinOp}{t:TypeId}{x:O1}{k:IntKind}{a b:Int}:(eqGuard op t x y (.int k a) (.int k' b)).run P w=.ok () w:=by
 simp only[eqGuard];split <;> simp
theorem Jd {op:BinOp}{x:O1}{k:IntKind}{a b:Int}{v:O0}(hx:ev f x=.int k a)(G:ev f y=.int k' b)
  (h:(binOp op t (.int k a) (.int k' b)).run P w=.ok v w):(execOp (ev f) ⟨d,.binOp op t x y E,ty,pS,af,gd⟩).run P w=.ok (.value v) w:=by
 simp[execOp,hx,G,Qb5,h]
def inK (k:IntKind)(n:Int):Prop:=match k with
 | .i64=>-9223372036854775808<=n/\n<=9223372036854775807
 | .u8=>0<=n/\n<=255
 | .u16=>0<=n/\n<=65535
 | .u32=>0<=n/\n<=4294967295
 | .u64=>0<=n/\n<=18446744073709551615
 | .i32=>-2147483648<=n/\n<=2147483647
 | _=>False
theorem YD {k:IntKind}{n:Int}(h:inK k n):k.wrap n=n:=by
 cases k <;> simp only[inK]at h <;> simp only[IntKind.wrap,IntKind.bits,IntKind.signed] <;> first|exact h.elim|(simp;omega)
theorem XI {x:O1}{k:IntKind}{a b:Int}(hx:ev f x=.int k a)(G:ev f y=.int k b)(h:inK k (a+b)):
  (execOp (ev f) ⟨d,.binOp .add t x y E,ty,pS,af,gd⟩).run P w=.ok (.value (.int k (a+b))) w:=Jd hx G (by simp[binOp,Op.intArith,YD h])
theorem Jb {x:O1}{k:IntKind}{a b:Int}(hx:ev f x=.int k a)(G:ev f y=.int k b)(h:inK k (a - b)):
  (execOp (ev f) ⟨d,.binOp .sub t x y E,ty,pS,af,gd⟩).run P w=.ok (.value (.int k (a - b))) w:=Jd hx G (by simp[binOp,Op.intArith,YD h])
theorem QhM {x:O1}{k:IntKind}{a b:Int}(hx:ev f x=.int k a)(G:ev f y=.int k b)(h:inK k (a*b)):
  (execOp (ev f) ⟨d,.binOp .mul t x y E,ty,pS,af,gd⟩).run P w=.ok (.value (.int k (a*b))) w:=Jd hx G (by simp[binOp,Op.intArith,YD h])
theorem YJ {x:O1}{k:IntKind}{a b:Int}(hx:ev f x=.int k a)(G:ev f y=.int k b):
  (execOp (ev f) ⟨d,.binOp .lss t x y E,ty,pS,af,gd⟩).run P w=.ok (.value (.bool (decide (a<b)))) w:=Jd hx G (by simp[binOp,Op.intCmp])
theorem KL {x:O1}{k:IntKind}{a b:Int}(hx:ev f x=.int k a)(G:ev f y=.int k b):
  (execOp (ev f) ⟨d,.binOp .leq t x y E,ty,pS,af,gd⟩).run P w=.ok (.value (.bool (decide (a<=b)))) w:=Jd hx G (by simp[binOp,Op.intCmp])
theorem ZZ {x:O1}{k:IntKind}{a b:Int}(hx:ev f x=.int k a)(G:ev f y=.int k b):
  (execOp (ev f) ⟨d,.binOp .gtr t x y E,ty,pS,af,gd⟩).run P w=.ok (.value (.bool (decide (b<a)))) w:=Jd hx G (by simp[binOp,Op.intCmp])
theorem Yl {x:O1}{k:IntKind}{a b:Int}(hx:ev f x=.int k a)(G:ev f y=.int k b):
  (execOp (ev f) ⟨d,.binOp .geq t x y E,ty,pS,af,gd⟩).run P w=.ok (.value (.bool (decide (b<=a)))) w:=Jd hx G (by simp[binOp,Op.intCmp])
theorem Q9 {x:O1}{k:IntKind}{a b:Int}(hx:ev f x=.int k a)(G:ev f y=.int k b):
  (execOp (ev f) ⟨d,.binOp .eql t x y E,ty,pS,af,gd⟩).run P w=.ok (.value (.bool (decide (a=b)))) w :=
 Jd hx G (by simp[binOp,Op.intCmp];by_cases h:a=b <;> simp[h])
theorem Jc {x:O1}{k:IntKind}{a b:Int}(hx:ev f x=.int k a)(G:ev f y=.int k b):
  (execOp (ev f) ⟨d,.binOp .neq t x y E,ty,pS,af,gd⟩).run P w=.ok (.value (.bool (decide (¬a=b)))) w :=
 Jd hx G (by simp[binOp,Op.intCmp];by_cases h:a=b <;> simp[h])
theorem Zz {x:O1}{b:Bool}(hx:ev f x=.bool b):(execOp (ev f) ⟨d,.unOp .not t x,ty,pS,af,gd⟩).run P w=.ok (.value (.bool (!b))) w:=by
 simp[execOp,hx,Op.unary]
theorem Uo {x:O1}{e bys:Nat}[h:Sl P t e sz bys z]{a:Option Addr}{c:Nat}(hx:ev f x=.slice a n c):
  (execOp (ev f) ⟨d,.call ⟨.builtin .len,#[x],#[t]⟩,ty,pS,af,gd⟩).run P w=.ok (.value (oF oG n)) w:=by
 simp[execOp,resolve,invoke,builtin,Builtin.len_,hx,run_underlying h.u,goInt]
theorem Sl.info {e bys:Nat}(h:Sl P t e sz bys z):∃i,P.info? e=some i/\i.zero=some z/\i.size=sz/\i.bytes=bys:=by
 have:=h.i;cases hi:P.info? e with
 | none=>simp[hi]at this
 | some i=>simp[hi]at this;exact⟨i,U,this.1,this.2.1,this.2.2⟩
theorem Xh {x:O1}{e bys:Nat}[h:Sl P t e sz bys z]{a:Addr}{c:Nat}{k:IntKind}{i:Int}(hx:ev f x=.slice (some a) n c)(E:ev f y=.int k i)(G:0<=i)(H:i<n):
  (execOp (ev f) ⟨d,.indexAddr t x y,ty,pS,af,gd⟩).run P w=.ok (.value (.pointer (some (a.add (i.toNat*sz))))) w:=by
 obtain⟨ii,hi,_,I,_⟩:=Sl.info h;simp[execOp,hx,E,Instr.indexAt,asIntOf,run_underlying h.u,G,H,sizeOf,typeInfo,hi,I]
theorem jy [h:XK P t]:(isAgg t).run P w=.ok false w:=by
 obtain⟨d,E,hd⟩:=h.u;unfold isAgg;cases d <;> simp at hd <;> simp[run_underlying E]
theorem QbX [h:Ag P t sz]:(isAgg t).run P w=.ok true w:=by
 obtain⟨d,E,hd⟩:=h.u;unfold isAgg;cases d <;> simp at hd <;> simp[run_underlying E]
theorem Xg [h:XK P t]{a:Addr}{v:O0}(E:w.cell? a=some v):(loadVar t a).run P w=.ok v w:=by
 simp[loadVar,jy,E]
theorem Qc6 [h:XK P t]:(sizeOf t).run P w=.ok 1 w:=by
 have:=h.i;cases hi:P.info? t with
 | none=>simp[hi]at this
 | some i=>simp[hi]at this;simp[sizeOf,typeInfo,hi,this]
theorem Vo [h:Ag P t sz]:(sizeOf t).run P w=.ok sz w:=by
 have:=h.i;cases hi:P.info? t with
 | none=>simp[hi]at this
 | some i=>simp[hi]at this;simp[sizeOf,typeInfo,hi,this]
theorem JR {a:Addr}:∀(vs:LV) (i:Nat) (acc:Array O0),(∀j v,vs[j]?=some v->w.cell? (a.add (i+j))=some v)->(loadCellsFrom a i vs.length acc).run P w=.ok (acc++vs.toArray) w
 | [],_,acc,_=>by simp[loadCellsFrom]
 | v::vs,i,acc,h=>by
  have E:=h 0 v U;have ih:=JR vs (i+1) (acc.push v) (λj u G=>by have:=h (j+1) u (oz G);simpa[OJ,Nat.add_comm 1 j]using this);simp only[Oz]at E;simp[loadCellsFrom,E,ih]
theorem Qn [h:Ag P t sz]{a:Addr}{vs:LV}(hl:vs.length=sz)(E:∀j v,vs[j]?=some v->w.cell? (a.add j)=some v):(loadVar t a).run P w=.ok (.agg vs.toArray) w:=by
 have:=JR (P:=P) (w:=w) (a:=a) vs 0 #[] (oz E);subst hl;simp[loadVar,QbX,Vo (sz:=vs.length),loadCells,this]
theorem QhN [h:XK P t]{x:O1}{a:Addr}{v:O0}(hx:ev f x=.pointer (some a))(E:w.cell? a=some v):
  (execOp (ev f) ⟨d,.load t x,ty,pS,af,gd⟩).run P w=.ok (.value v) w:=by
 simp[execOp,hx,Instr.loadAt,Instr.sureAddr,Xg E]
theorem q7 [h:Ag P t sz]{x:O1}{a:Addr}{vs:LV}(hx:ev f x=.pointer (some a))(hl:vs.length=sz)(E:∀j v,vs[j]?=some v->w.cell? (a.add j)=some v):
  (execOp (ev f) ⟨d,.load t x,ty,pS,af,gd⟩).run P w=.ok (.value (.agg vs.toArray)) w:=by
 simp[execOp,hx,Instr.loadAt,Instr.sureAddr,Qn hl E]
theorem Zg {off:Nat}[h:Zh P t j off]{x:O1}{a:Addr}(hx:ev f x=.pointer (some a)):
  (execOp (ev f) ⟨d,.fieldAddr t x j,ty,pS,af,gd⟩).run P w=.ok (.value (.pointer (some (a.add off)))) w:=by
 have E:=h.h;unfold QpF at E;cases H:P.underlying t with
 | none=>simp[H]at E
 | some dd =>
  cases dd <;> simp[H]at E
  rename_i fs;cases G:fs[j]? with
  | none=>simp[G]at E
  | some fd =>
   cases hi:P.info? fd.type with
   | none=>simp[G,hi]at E
   | some i =>
    simp[G,hi]at E;simp[execOp,hx,Instr.fieldAt,run_underlying H,G,Instr.sureAddr,fieldPlace,sizeOf,typeInfo,hi,E]
theorem VV {x:O1}{a:Addr}(hx:ev f x=.pointer (some a)):(execOp (ev f) ⟨d,.nilCheck x,ty,pS,af,gd⟩).run P w=.ok (.value (.pointer (some a))) w:=by
 simp[execOp,hx]
theorem ZC {fn:Fn}{l l':List O1}:(execOp (ev f) ⟨d,.makeFunc fn l.toArray l'.toArray,ty,pS,af,gd⟩).run P w=.ok (.value (.func fn (l.map (ev f)).toArray (l'.map (ev f)).toArray)) w:=by
 simp[execOp,Instr.makeFunc]
end
def Q5 (P:O2)(g:Nat)(args:LV)(w:OZ)(R:O0->OZ->Prop):Prop :=
 Calls P g args.toArray w λe w'=>match e with| .returned v=>R v w'|_=>False
theorem Q5.mono {P:O2}{g:Nat}{args:LV}{w:OZ}{R R':O0->OZ->Prop}(h:Q5 P g args w R)(G:∀v w',R v w'->R' v w'):Q5 P g args w R' :=
 Calls.mono h λe w' E=>by cases e <;> first|exact G _ _ E|exact E
theorem xc {f:Fr}{K:Fr->OZ->Prop}{pS:String}{x:O1}{l:List O1}{at_:Array Nat}
    {first capt:LV} [hF:Fu P g fn] (hx:ev f x=.func (.func g) first.toArray capt.toArray) (h:Q5 P g (first++l.map (ev f)++capt) w λv w'=>K (QY f d v) w'):
  XO P ⟨d,.call ⟨.value x,l.toArray,at_⟩,ty,pS,af,gd⟩ f w K:=by
 have E:(execOp (ev f) ⟨d,.call ⟨.value x,l.toArray,at_⟩,ty,pS,af,gd⟩).run P w=.ok (.enter g (first++l.map (ev f)++capt).toArray) w:=by
  have G:¬fn.name = "runtime.NumGoroutine" := by simpa using hF.nm
  have H:¬fn.body=none:=by have:=hF.b;intro e;rw[e]at this;cases this
  simp[execOp,resolve,hx,Deferred.ofValue,invoke,callFunc,hF.f,G,H]
 simp only[XO,E,upF];exact h
theorem xf {f:Fr}{K:Fr->OZ->Prop}{pS:String}{l:List O1}{at_:Array Nat}
    [hF:Fu P g fn] (h:Q5 P g (l.map (ev f)) w λv w'=>K (QY f d v) w'):
  XO P ⟨d,.call ⟨.value (.func g),l.toArray,at_⟩,ty,pS,af,gd⟩ f w K :=
 xc (first:=[]) (capt:=[]) (g:=g) (fn:=fn) U (oz h)
def ent:LV->Fr
 | [],_=>undef
 | v::_,0=>v
 | _::l,t+1=>ent l t
def UR (P:O2)(f:Fr)(w:OZ):List ResultVar->LV->Prop
 | [],[]=>True
 | .tmp t::rs,v::vs=>f t=v/\UR P f w rs vs
 | .cell a t::rs,v::vs=>(∃ad,f a=.pointer (some ad)/\(loadVar t ad).run P w=.ok v w)/\UR P f w rs vs
 | _,_=>False
def tup:LV->O0
 | [v]=>v
 | vs=>.tuple vs.toArray
def rq (P:O2)(rs:List ResultVar)(R:O0->OZ->Prop):Exit->Fr->OZ->Prop
 | .ret,f,w=>∃vs,UR P f w rs vs/\R (tup vs) w
 | .normal,f,w=>∃vs,UR P f w rs vs/\R (tup vs) w
 | _,_,_=>False
theorem JQ {P:O2}{n:Nat}{a:Act}{f:Fr}{w:OZ}(G:Rel n a f)(g:ResultVar->Sem O0)(g1:∀t,g (.tmp t)=pure (a.tmps.getD t undef))
  (H:∀ad t,g (.cell ad t)=(do loadVar t (<-asAddr (a.tmps.getD ad undef)))):∀(rs:List ResultVar) (vs:LV),UR P f w rs vs->(rs.mapM g).run P w=.ok vs w
 | [],[],_=>oe
 | [],_::_,h=>h.elim
 | .tmp t::rs,[],h=>h.elim
 | .cell _ _::rs,[],h=>h.elim
 | .tmp t::rs,v::vs,h=>by
  have ih:=JQ G g g1 H rs vs h.2;have E:=G.get t;rw[h.1]at E;simp only[List.mapM_cons,Sem.run_bind,Sem.run_pure,Result.andThen_ok,ih,E,g1]
 | .cell ad t::rs,v::vs,h=>by
  have ih:=JQ G g g1 H rs vs h.2;obtain⟨⟨I,J,O⟩,_⟩:=h;have E:=G.get ad;rw[J]at E;have S:(asAddr (.pointer (some I))).run P w=.ok I w:=rfl;simp only[List.mapM_cons,Sem.run_bind,H,E,S,Sem.run_pure,Result.andThen_ok,O,ih]
theorem Q5.of_W {c:Code}{args:LV}{R:O0->OZ->Prop}{rs:List ResultVar}
  (J:P.funcs[g]?=some fn) (O:fn.body=some c) (S:fn.ntmps=n) (T:fn.results=rs.toArray) (hl:args.length<=n)
  (h:W P n c (rq P rs R) (ent args) w):Q5 P g args w R:=by
 unfold W at h;refine calls_of_wp J O (wp_mono (h _ ?_) ?_)
 ·refine⟨by simp[S];omega,U,λt=>?_⟩;have key:∀(l:LV) (t:Nat),l[t]?.getD undef=ent l t:=by
   intro l;induction l with
   | nil=>intro t;rfl
   | cons v l ih=>intro t;cases t with|zero=>rfl|succ t=>simpa[ent]using ih t
  rw[<-key];simp only[Array.getD_eq_getD_getElem?,Array.getElem?_append,Od,oZ];by_cases G:t<args.length
  ·simp[G]
  simp[G,Array.getElem?_replicate];split <;> rfl
 rintro e H w' ⟨V,I,_,E⟩;have fin:(∃vs,UR P V w' rs vs/\R (tup vs) w')->H.defers=[]/\∃v,(results fn H.tmps).run P w'=.ok v w'/\R v w':=by
  rintro⟨vs,Y,hR⟩;refine⟨I.defers,tup vs,?_,hR⟩;simp only[results,T,List.mapM_toArray,Sem.run_bind,Sem.run_map];rw[JQ I _ (λ_=>rfl) (λ_ _=>rfl) rs vs Y];cases vs with
  | nil=>rfl
  | cons v vs=>cases vs with|nil=>rfl|cons u us=>rfl
 cases e with
 | normal=>exact fin E
 | ret=>exact fin E
 | exit id=>exact E.elim
 | goto l=>exact E.elim
 | panic c=>exact E.elim
 | outgrown=>exact E.elim
attribute [irreducible] Q5
theorem Zo (f:P.funcs[g]?=some fn)(b:fn.body.isNone=false:=by kernel_rfl)(nm:(fn.name == "runtime.NumGoroutine")=false:=by kernel_rfl):Fu P g fn:=⟨f,b,nm⟩
theorem Qe {f:Fr}{Q:Exit->Fr->OZ->Prop}{l:xA}{y:Code}(h:XL P l (λf w=>thn (λf w=>W P n y Q f w) Q .normal f w) l f w)(E:X4 n l=true:=by rfl):W P n (.seq (.region id l.toArray false) y) Q f w:=Qd (QcF E h)
theorem Qw {f:Fr}{Q:Exit->Fr->OZ->Prop}{l:xA}(h:XL P l (λf w=>Q .normal f w) l f w)(E:X4 n l=true:=by rfl):W P n (.region id l.toArray false) Q f w:=QcF E h
section
variable {K:Fr->OZ->Prop}{f:Fr}{pS:String}{l:xA}
theorem Qb (h:XL P ops K l (QY f d (ev f y)) w)(E:Z4 ops f ⟨d,.move y,ty,pS,af,gd⟩=true:=by rfl):XL P ops K (⟨d,.move y,ty,pS,af,gd⟩::l) f w:=x J0 h E
theorem QN {H:Nat}{E G:O1}{k:IntKind}{a b:Int}(hx:ev f E=.int k a)(I:ev f G=.int k b)(h:XL P ops K l (QY f d (.int k (a+b))) w)(J:inK k (a+b):=by exact⟨oa,oa⟩)
  (O:Z4 ops f ⟨d,.binOp .add t E G H,ty,pS,af,gd⟩=true:=by rfl):XL P ops K (⟨d,.binOp .add t E G H,ty,pS,af,gd⟩::l) f w:=x (XI hx I J) h O
theorem Qc (h:K (QY f d (ev f y)) w)(E:Z4 ops f ⟨d,.assign y,ty,pS,af,gd⟩=true:=by rfl):XL P ops K [⟨d,.assign y,ty,pS,af,gd⟩] f w:=x Qk (xe h) E
end
section
variable {C:xw}{K:Fr->OZ->Prop}{f:Fr}{pS:String}{l:xA}
theorem Qa {o:Oper}(h:XO P o f w (XL P ops K l))(E:Z4 ops f o=true:=by rfl):XL P ops K (o::l) f w:=xl E h
theorem Qr {o:Oper}(h:XL P ops K l (QY f o.dst undef) w)(E:Z4 ops f o=false:=by rfl):XL P ops K (o::l) f w:=xs E h
theorem Q8 {E:O1}{vs:LV}{v:O0}(G:ev f E=.tuple vs.toArray)(H:vs[j]?=some v)(h:XL P ops K l (QY f d v) w)(I:Z4 ops f ⟨d,.extract E j,ty,pS,af,gd⟩=true:=by rfl):XL P ops K (⟨d,.extract E j,ty,pS,af,gd⟩::l) f w:=x (Zp G H) h I
theorem QK {c a b:O1}{t:Bool}(E:ev f c=.bool t)(h:XL P ops K l (QY f d (bif t then ev f a else ev f b)) w)(G:Z4 ops f ⟨d,.pick c a b,ty,pS,af,gd⟩=true:=by rfl):XL P ops K (⟨d,.pick c a b,ty,pS,af,gd⟩::l) f w:=x (U3 E) h G
theorem ZA {H:Nat}{E G:O1}{k:IntKind}{a b:Int}(hx:ev f E=.int k a)(I:ev f G=.int k b)(h:XL P ops K l (QY f d (.bool (decide (¬a=b)))) w)(J:Z4 ops f ⟨d,.binOp .neq t E G H,ty,pS,af,gd⟩=true:=by rfl):XL P ops K (⟨d,.binOp .neq t E G H,ty,pS,af,gd⟩::l) f w:=x (Jc hx I) h J
theorem QX {H:Nat}{E G:O1}{k:IntKind}{a b:Int}(hx:ev f E=.int k a)(I:ev f G=.int k b)(h:XL P ops K l (QY f d (.bool (decide (a<b)))) w)(J:Z4 ops f ⟨d,.binOp .lss t E G H,ty,pS,af,gd⟩=true:=by rfl):XL P ops K (⟨d,.binOp .lss t E G H,ty,pS,af,gd⟩::l) f w:=x (YJ hx I) h J
theorem Yb {E:O1}{a:Addr}(hx:ev f E=.pointer (some a))(h:XL P ops K l (QY f d (.pointer (some a))) w)(G:Z4 ops f ⟨d,.nilCheck E,ty,pS,af,gd⟩=true:=by rfl):XL P ops K (⟨d,.nilCheck E,ty,pS,af,gd⟩::l) f w:=x (VV hx) h G
theorem Zs {c:Code}{args:LV}{R:O0->OZ->Prop}{rs:List ResultVar}(E:P.funcs[g]?=some fn)(G:fn.ntmps=n)(H:fn.results=rs.toArray)(h:W P n c (rq P rs R) (ent args) w)(I:fn.body=some c:=by rfl)(hl:args.length<=n:=by simp):Q5 P g args w R:=Q5.of_W E I G H hl h
theorem Qy {E:O1}:∀w',(execOp (ev f) ⟨d,.move E,ty,pS,af,gd⟩).run P w'=.ok (.value (ev f E)) w':=λ_=>J0
theorem ZH {E:O1}:∀w',(execOp (ev f) ⟨d,.assign E,ty,pS,af,gd⟩).run P w'=.ok (.value (ev f E)) w':=λ_=>Qk
theorem YS {c a b:O1}{t:Bool}(h:ev f c=.bool t):∀w',(execOp (ev f) ⟨d,.pick c a b,ty,pS,af,gd⟩).run P w'=.ok (.value (bif t then ev f a else ev f b)) w':=λ_=>U3 h
theorem YO {E:O1}{a:Addr}(hx:ev f E=.pointer (some a)):∀w',(execOp (ev f) ⟨d,.nilCheck E,ty,pS,af,gd⟩).run P w'=.ok (.value (.pointer (some a))) w':=λ_=>VV hx
theorem Qm {Q:Exit->Fr->OZ->Prop}{c:Code}(h:XL P (⟨d,.move y,ty,pS,af,gd⟩::l) (λf w=>thn (λf w=>W P n c Q f w) Q .normal f w) l (QY f d (ev f y)) w)(E:Z4 (⟨d,.move y,ty,pS,af,gd⟩::l) f ⟨d,.move y,ty,pS,af,gd⟩=true:=by rfl)(G:X4 n (⟨d,.move y,ty,pS,af,gd⟩::l)=true:=by rfl):W P n (.seq (.region id (⟨d,.move y,ty,pS,af,gd⟩::l).toArray false) c) Q f w:=Qe (Qb h E) G
end
structure O3 (L:LN)(w w':OZ):Prop where
 os:w'.os=w.os
 tape:w'.tape=w.tape
 output:w'.output=w.output
 size:w.heap.size<=w'.heap.size
 block:∀k,k<w.heap.size->k∉L->w'.heap[k]?=w.heap[k]?
theorem O3.Z (L:LN)(w:OZ):O3 L w w:=⟨U,U,U,Lx _,λ_ _ _=>U⟩
theorem O3.C (L:LN)(w:OZ):O3 L w { w with drawn:=w.drawn+1 }:=⟨U,U,U,Lx _,λ_ _ _=>U⟩
theorem O3.mono {L L':LN}(h:O3 L w w')(E:∀b∈L,b∈L'):O3 L' w w' :=
 ⟨h.os,h.tape,h.output,h.size,λk G H=>h.block k G (λI=>H (E k I))⟩
theorem O3.any {L:LN}(h:O3 [] w w'):O3 L w w':=h.mono (λ_ E=>by cases E)
theorem O3.then {L L':LN}{E:OZ}(h:O3 L E w)(k:O3 L' w w')(I:∀b∈L',b∈L\/E.heap.size<=b):O3 L E w' :=
 ⟨k.os.D h.os,k.tape.D h.tape,k.output.D h.output,LJ h.size k.size,λi hi G =>
  (k.block i (LU hi h.size) (λJ=>by rcases I i J with H|H;exact G H;omega)).D (h.block i hi G)⟩
theorem O3.D {L:LN}{E:OZ}(h:O3 L E w)(k:O3 [] w w'):O3 L E w':=h.then k (λ_ G=>by cases G)
theorem O3.Q {L:LN}{E:OZ}(h:O3 L E w)(k:O3 L w w'):O3 L E w':=h.then k (λ_ G=>.inl G)
theorem O3.below (h:O3 [] w w'):Below w.heap.size w w':=⟨h.os,h.tape,h.output,h.size,λk E=>h.block k E oe⟩
theorem O3.of_below (h:Below w.heap.size w w'):O3 [] w w':=⟨h.os,h.tape,h.output,h.size,λk E _=>h.block k E⟩
theorem O3.of_grown {row:xC}(h:w.grownBy w' row):O3 row.toList w w' :=
 ⟨h.os,h.tape,h.output,h.size,λk E G=>h.block k E (λe=>G (by simp[<-e]))⟩
theorem qt (w:OZ)(o:Obj)(k:Nat)(h:k<w.heap.size):(w.alloc o).heap[k]?=w.heap[k]?:=by
 show(w.heap.push o)[k]?=_;rw[Array.getElem?_push,OR oa]
theorem J4 (w:OZ)(o:Obj):(w.alloc o).heap[w.heap.size]?=some o:=by
 show(w.heap.push o)[w.heap.size]?=_;simp
theorem Vy (w:OZ)(o:Obj):(w.alloc o).heap.size=w.heap.size+1:=by show(w.heap.push o).size=_;simp
theorem O3.alloc (w:OZ)(o:Obj):O3 [] w (w.alloc o):=⟨U,U,U,by rw[Vy];omega,λk E _=>qt w o k E⟩
theorem O3.setRow (w:OZ)(g:Nat)(cs:Array O0):O3 [g] w (w.setRow g cs):=
 ⟨U,U,U,by simp[World.setRow],λk _ E=>setRow_other w g k cs (λe=>E (by simp[e]))⟩
def cel (H:xx)(a:Addr):Option O0:=match H[a.block]? with
 | some (.cells c _ _)=>if a.spot.isSome then none else c[a.off]?
 | _=>none
theorem Kh (w:OZ)(a:Addr):w.cell? a=cel w.heap a:=rfl
structure At (L:LN)(H:xx)(a:Addr)(us:LV):Prop where
 out:∀u∈us,a.block∉L
 lt:∀u∈us,a.block<H.size
 cell:∀j u,us[j]?=some u->cel H (a.add j)=some u
theorem Yz (a:Addr)(j:Nat):(a.add j).block=a.block:=by unfold Addr.add;split <;> rfl
theorem QjG {L:LN}(h:O3 L w w'){a:Addr}(E:a.block∉L)(hl:a.block<w.heap.size):cel w'.heap a=cel w.heap a:=by
 unfold cel;rw[h.block _ hl E]
theorem At.J {L X:LN}{a:Addr}{us:LV}(h:At L w.heap a us)(G:O3 X w w')(I:∀b∈X,b∈L):At L w'.heap a us :=
 ⟨h.out,λu E=>LU (h.lt u E) G.size,λj u E=>by
  have H:=Mq E;rw[QjG (L:=X) G (by rw[Yz];exact λhx=>h.out u H (I _ hx)) (by rw[Yz];exact h.lt u H)];exact h.cell j u E⟩
theorem At.I {L:LN}{a:Addr}{us:LV}(h:At L w.heap a us)(E:O3 [] w w'):At L w'.heap a us:=h.J E (λ_ G=>by cases G)
theorem At.st {L:LN}{a:Addr}{us:LV}(h:At L w.heap a us)(E:O3 L w w'):At L w'.heap a us:=h.J E (λ_ G=>G)
theorem At.one {L:LN}{a:Addr}{u:O0}(h:At L w.heap a [u]):w.cell? a=some u:=by
 have:=h.cell 0 u U;simp only[Addr.add,if_true]at this;exact this
theorem At.cells {L:LN}{a:Addr}{us:LV}(h:At L w.heap a us):∀j v,us[j]?=some v->w.cell? (a.add j)=some v:=h.cell
theorem Addr.add_add (a:Addr)(i j:Nat):(a.add i).add j=a.add (i+j):=by
 unfold Addr.add;by_cases hi:i=0
 ·subst hi;simp
 by_cases E:j=0
 ·subst E;simp
 simp[hi,E,OJ]
theorem At.fld {L:LN}{a:Addr}{us:LV}(h:At L H a us)(j:Nat)(u:O0)(E:us[j]?=some u):At L H (a.add j) [u]:=
 ⟨λ_ _=>by rw[Yz];exact h.out u (Mq E),λ_ _=>by rw[Yz];exact h.lt u (Mq E),λi v G=>by
  cases i with
  | zero=>simp at G;subst G;rw[Addr.add_add,Ni];exact h.cell j u E
  | succ i=>simp at G⟩
theorem At.up {L L':LN}{a:Addr}{us:LV}(h:At L H a us)(I:∀b∈L',b∈L\/H.size<=b):At L' H a us :=
 ⟨λu E J=>by rcases I _ J with G|G;exact h.out u E G;have:=h.lt u E;omega,h.lt,h.cell⟩
def Zv (L:LN)(H:xx)(v:O0)(n sz:Nat)(cs:LV):Prop :=
 cs.length=n*sz/\n<=1099511627776/\((v=nS/\n=0)\/∃a cap,v=.slice (some a) n cap/\n<=cap/\At L H a cs)
theorem Zv.J {L X:LN}{w w':OZ}{v:O0}{n sz:Nat}{cs:LV}(h:Zv L w.heap v n sz cs)(E:O3 X w w')(G:∀b∈X,b∈L):Zv L w'.heap v n sz cs :=
 ⟨h.1,h.2.1,h.2.2.imp id λ⟨a,cap,H,I,J⟩=>⟨a,cap,H,I,J.J E G⟩⟩
theorem Zv.I {L:LN}{v:O0}{cs:LV}(h:Zv L w.heap v n sz cs)(E:O3 [] w w'):Zv L w'.heap v n sz cs:=h.J E (λ_ G=>by cases G)
theorem Zv.st {L:LN}{v:O0}{cs:LV}(h:Zv L w.heap v n sz cs)(E:O3 L w w'):Zv L w'.heap v n sz cs:=h.J E (λ_ G=>G)
theorem Zv.up {L L':LN}{H:xx}{v:O0}{n sz:Nat}{cs:LV}(h:Zv L H v n sz cs)(E:∀b∈L',b∈L\/H.size<=b):Zv L' H v n sz cs :=
 ⟨h.1,h.2.1,h.2.2.imp id λ⟨a,cap,G,I,J⟩=>⟨a,cap,G,I,J.up E⟩⟩
theorem Zv.nil (L:LN)(H:xx)(sz:Nat):Zv L H (nS) 0 sz []:=⟨oe,oa,.inl ⟨rfl,rfl⟩⟩
theorem Zv.shape {L:LN}{v:O0}{cs:LV}(h:Zv L H v n sz cs):∃a cap,v=.slice a n cap:=by
 rcases h.2.2 with⟨E,G⟩|⟨a,cap,E,_⟩
 ·exact⟨none,0,by rw[E,G]⟩
 exact⟨some a,cap,E⟩
theorem Zv.one {L:LN}{v:O0}{cs:LV}(h:Zv L H v n sz cs):v.oneCell'=true:=by obtain⟨a,cap,rfl⟩:=h.shape;rfl
theorem Zv.cells {L:LN}{H:xx}{v:O0}{n sz:Nat}{cs:LV}(h:Zv L H v n sz cs):v.cells=#[v]:=by obtain⟨a,cap,rfl⟩:=h.shape;rfl
theorem Zv.le {L:LN}{v:O0}{cs:LV}(h:Zv L H v n sz cs):n<=1099511627776:=h.2.1
theorem Zv.at {L:LN}{H:xx}{v:O0}{n sz:Nat}{cs:LV}(h:Zv L H v n sz cs){i:Nat}(hi:i<n):
  ∃a cap,v=.slice (some a) n cap/\At L H (a.add (i*sz)) ((cs.drop (i*sz)).take sz):=by
 rcases h.2.2 with⟨_,J⟩|⟨a,cap,I,_,G⟩
 ·omega
 refine⟨a,cap,I,λu E=>by rw[Yz];exact G.out u (L6 (LR E)),λu E=>by rw[Yz];exact G.lt u (L6 (LR E)),λj u E=>?_⟩;rw[Addr.add_add];refine G.cell _ u ?_;rw[LT]at E;split at E
 ·simpa using E
 cases E
abbrev QQ (L:LN)(H:xx)(v:O0)(l:LI):Prop:=Zv L H v l.length 1 (l.map (.int .i64))
theorem QQ.at {L:LN}{H:xx}{v:O0}{l:LI}(h:QQ L H v l){i:Nat}(hi:i<l.length):
  ∃a cap,v=.slice (some a) l.length cap/\At L H (a.add (i*1)) [oF oG l[i]]:=by
 obtain⟨a,cap,G,E⟩:=Zv.at h hi;refine⟨a,cap,G,?_⟩;have:((l.map (Value.int .i64)).drop (i*1)).take 1=[oF oG l[i]]:=by
  rw[Nat.mul_one,LE (oz hi)];simp
 rw[this]at E;exact E
def Q7 (H:xx)(b T:Nat)(cs:LV):Prop:=H[b]?=some (.cells cs.toArray T (0,0))
theorem Q7.lt {cs:LV}(h:Q7 H b T cs):b<H.size:=(LH.1 h).1
theorem Q7.J {X:LN}{cs:LV}(h:Q7 w.heap b T cs)(E:O3 X w w')(G:b∉X):Q7 w'.heap b T cs:=by
 unfold Q7;rw[E.block b h.lt G];exact h
theorem Q7.I {cs:LV}(h:Q7 w.heap b T cs)(E:O3 [] w w'):Q7 w'.heap b T cs:=h.J E oe
theorem Q7.cell {cs:LV}(h:Q7 H b T cs)(j:Nat):cel H ⟨b,j,none⟩=cs[j]?:=by
 unfold Q7 at h;simp[cel,h]
theorem QeE (b j:Nat):(⟨b,0,none⟩:Addr).add j=⟨b,j,none⟩:=by unfold Addr.add;split <;> simp_all
theorem Ka (b i j:Nat):(⟨b,i,none⟩:Addr).add j=⟨b,i+j,none⟩:=by unfold Addr.add;split <;> simp_all
theorem Q7.at {L:LN}{cs:LV}(h:Q7 H b T cs)(E:b∉L):At L H ⟨b,0,none⟩ cs :=
 ⟨λ_ _=>E,λ_ _=>h.lt,λj u G=>by rw[QeE,h.cell];exact G⟩
theorem Q7.arr {L:LN}{cs:LV}(h:Q7 H b T cs)(E:b∉L)(hl:cs.length=n*sz)(G:n<=1099511627776)(I:n<=cap):
  Zv L H (.slice (some ⟨b,0,none⟩) n cap) n sz cs:=⟨hl,G,.inr ⟨_,_,U,I,h.at E⟩⟩
def ob:O0->LN
 | .slice (some a) _ _=>[a.block]
 | _=>[]
theorem zM (v:O0):ob v=v.ownBlock.toList:=by
 cases v <;> try rfl
 rename_i a _ _;cases a <;> rfl
theorem Qf {X:LN}{base e:Nat}{v:O0}{cs:LV}(h:w.ownsRow base e sz v n cs)(H:O3 X w w')(I:∀b∈ob v,b∉X):w'.ownsRow base e sz v n cs:=by
 refine⟨h.1,h.2.imp id λ⟨g,cap,cur,E,J,G,O⟩=>⟨g,cap,cur,E,J,?_,O⟩⟩;rw[H.block g (LH.1 G).1 (I g (by rw[E];simp[ob]))];exact G
theorem Qp {base e:Nat}{v:O0}{cs:LV}(h:w.ownsRow base e sz v n cs)(E:O3 [] w w'):w'.ownsRow base e sz v n cs:=Qf h E (λ_ _=>oe)
theorem Qi {base e:Nat}{v:O0}{cs:LV}(h:w.ownsRow base e sz v n cs):∀b∈ob v,base<=b/\b<w.heap.size:=by
 intro b E;rcases h.2 with⟨G,_⟩|⟨g,cap,cur,G,H,I,_⟩
 ·subst G;simp[ob]at E
 subst G;simp[ob]at E;subst E;exact⟨H,(LH.1 I).1⟩
theorem Zy {base base' e:Nat}{v:O0}{cs:LV}(h:w.ownsRow base e sz v n cs)(E:base'<=base):w.ownsRow base' e sz v n cs :=
 ⟨h.1,h.2.imp id λ⟨g,cap,cur,G,H,I⟩=>⟨g,cap,cur,G,LJ E H,I⟩⟩
theorem QH {L:LN}{base e:Nat}{v:O0}{cs:LV}(h:w.ownsRow base e sz v n cs)(I:n<=1099511627776)(J:∀b∈ob v,b∉L):Zv L w.heap v n sz cs:=by
 refine⟨h.1,I,?_⟩;rcases h.2 with E|⟨g,cap,cur,E,T,H,O,V,Y,S⟩
 ·exact .inl E
 refine .inr ⟨_,_,E,O,λ_ _=>J g (by rw[E];simp[ob]),λ_ _=>(LH.1 H).1,λj u G=>?_⟩;rw[QeE];unfold cel;simp only[H];rw[<-S,LT]at G;split at G
 ·simpa using G
 cases G
theorem QJ (w:OZ)(base e sz:Nat):w.ownsRow base e sz (nS) 0 []:=World.ownsRow_nil w base e sz
theorem Q7.own {cs:LV}(h:Q7 w.heap b T cs)(hl:cs.length=n*sz)(G:n<=1099511627776){base:Nat}(E:base<=b):w.ownsRow base T sz (.slice (some ⟨b,0,none⟩) n n) n cs :=
 ⟨hl,.inr ⟨b,n,cs.toArray,U,E,h,Lx _,by simp only[maxLen];omega,by simp[hl],by simp[<-hl]⟩⟩
section
variable {K:Fr->OZ->Prop}{f:Fr}{pS:String}{l:xA}
theorem Yo {x:O1}{e bys:Nat}[Sl P t e E bys z]{L:LN}{cs:LV}{v:O0}(h:Zv L H v n sz cs)(G:ev f x=v):
  (execOp (ev f) ⟨d,.call ⟨.builtin .len,#[x],#[t]⟩,ty,pS,af,gd⟩).run P w=.ok (.value (oF oG n)) w:=by
 obtain⟨a,cap,I⟩:=h.shape;exact Uo (G.D I)
theorem xi {x:O1}{e bys:Nat}[Sl P t e sz bys z]{L:LN}{cs:LV}{v:O0}{k:IntKind}
  (h:Zv L w.heap v n sz cs) (E:ev f x=v) (G:ev f y=.int k i) (hi:i<n)
  (hK:∀a,At L w.heap a ((cs.drop (i*sz)).take sz)->XL P ops K l (QY f d (.pointer (some a))) w) (H:Z4 ops f ⟨d,.indexAddr t x y,ty,pS,af,gd⟩=true:=by rfl):
  XL P ops K (⟨d,.indexAddr t x y,ty,pS,af,gd⟩::l) f w:=by
 obtain⟨a,cap,I,J⟩:=h.at hi;refine xl H (xv (Xh (E.D I) G oa oa) (hK _ ?_));simpa using J
theorem xii {x:O1}{e bys:Nat}[Sl P t e 1 bys z]{L:LN}{li:LI}{v:O0}{k:IntKind}
  (h:QQ L w.heap v li) (E:ev f x=v) (G:ev f y=.int k i) (hi:i<li.length)
  (hK:∀a,At L w.heap a [oF oG li[i]]->XL P ops K l (QY f d (.pointer (some a))) w) (H:Z4 ops f ⟨d,.indexAddr t x y,ty,pS,af,gd⟩=true:=by rfl):
  XL P ops K (⟨d,.indexAddr t x y,ty,pS,af,gd⟩::l) f w:=by
 obtain⟨a,cap,I,J⟩:=QQ.at h hi;refine xl H (xv (Xh (E.D I) G oa oa) (hK _ ?_));simpa using J
theorem QD [XK P t]{x:O1}{a:Addr}{L:LN}{u:O0}(h:At L w.heap a [u])(hx:ev f x=.pointer (some a)):
  (execOp (ev f) ⟨d,.load t x,ty,pS,af,gd⟩).run P w=.ok (.value u) w:=QhN hx h.one
theorem Qv [Ag P t sz]{x:O1}{a:Addr}{L:LN}{us:LV}(h:At L w.heap a us)(hx:ev f x=.pointer (some a))(hl:us.length=sz):
  (execOp (ev f) ⟨d,.load t x,ty,pS,af,gd⟩).run P w=.ok (.value (.agg us.toArray)) w:=q7 hx hl h.cells
theorem Qq [XK P t]{x:O1}{cs:LV}{u:O0}(h:Q7 w.heap b T cs)(hx:ev f x=.pointer (some ⟨b,j,none⟩))(E:cs[j]?=some u):
  (execOp (ev f) ⟨d,.load t x,ty,pS,af,gd⟩).run P w=.ok (.value u) w:=QhN hx (by rw[Kh,h.cell];exact E)
theorem Zx [Ag P t sz]{x:O1}{cs:LV}(h:Q7 w.heap b T cs)(hx:ev f x=.pointer (some ⟨b,0,none⟩))(hl:cs.length=sz):
  (execOp (ev f) ⟨d,.load t x,ty,pS,af,gd⟩).run P w=.ok (.value (.agg cs.toArray)) w:=q7 hx hl (h.at (L:=[]) oe).cells
theorem K4 {off:Nat}[Zh P t j off]{x:O1}(hx:ev f x=.pointer (some ⟨b,o,none⟩)):
  (execOp (ev f) ⟨d,.fieldAddr t x j,ty,pS,af,gd⟩).run P w=.ok (.value (.pointer (some ⟨b,o+off,none⟩))) w:=by
 rw[<-Ka];exact Zg hx
end
section
variable {K:Fr->OZ->Prop}{f:Fr}{pS:String}
theorem QS {x:O1}{us:LV}(hx:(ev f x).cells=us.toArray)
  (hK:∀b w',O3 [] w w'->w.heap.size<=b->Q7 w'.heap b t us->K (QY f d (.pointer (some ⟨b,0,none⟩))) w'):XO P ⟨d,.box t x,ty,pS,af,gd⟩ f w K:=by
 have E:(execOp (ev f) ⟨d,.box t x,ty,pS,af,gd⟩).run P w=.ok (.value (.pointer (some ⟨w.heap.size,0,none⟩))) (w.alloc (.cells us.toArray t)):=by
  simp[execOp,Instr.box,newVar,newRow,hx]
 exact xv E (hK _ _ (O3.alloc w _) (Lx _) (J4 w _))
theorem Qo [h:Ze P t z]{us:LV}(G:z.cells=us.toArray)
  (hK:∀b w',O3 [] w w'->w.heap.size<=b->Q7 w'.heap b t us->K (QY f d (.pointer (some ⟨b,0,none⟩))) w'):XO P ⟨d,.alloc t,ty,pS,af,gd⟩ f w K:=by
 have H:(execOp (ev f) ⟨d,.alloc t,ty,pS,af,gd⟩).run P w=.ok (.value (.pointer (some ⟨w.heap.size,0,none⟩))) (w.alloc (.cells us.toArray t)):=by
  have hi:=h.i;cases E:P.info? t with
  | none=>simp[E]at hi
  | some i =>
   simp[E]at hi;simp[execOp,Instr.alloc,newVar,newRow,zeroValue,typeInfo,E,hi,G]
 exact xv H (hK _ _ (O3.alloc w _) (Lx _) (J4 w _))
def Qa0 (sz:Nat):LV->List (LV)->Prop
 | [],[]=>True
 | v::vs,u::us=>v.cells=u.toArray/\u.length=sz/\Qa0 sz vs us
 | _,_=>False
theorem yf {sz:Nat}:∀(vs:LV) (us:List (LV)) (E:Nat) (pre rest:LV),Qa0 sz vs us->pre.length=E*sz->rest.length=vs.length*sz ->
  Instr.fill (λi=>some (i*sz,sz)) (pre++rest).toArray ((vs.zipIdx E).map λx=>(x.2,x.1))=some (pre++us.flatten).toArray
 | [],[],E,pre,rest,_,_,G=>by
  have:rest=[]:=Lq (oz G);subst this;simp[Instr.fill]
 | [],_::_,_,_,_,h,_,_=>h.elim
 | _::_,[],_,_,_,h,_,_=>h.elim
 | v::vs,u::us,E,pre,rest,h,H,G=>by
  obtain⟨I,J,T⟩:=h;have ha:sz<=rest.length:=by rw[G];simp[Oo]
  have ih:=yf vs us (E+1) (pre++u) (rest.drop sz) T (by simp[H,J,Oo]) (by simp only[o6,G,oV,Oo,Nat.one_mul];omega);simp only[List.zipIdx_cons,oX];unfold Instr.fill;have V:v.cells.size=sz:=by rw[I];simp[J]
  simp only[V];rw[OR (by simp;omega)];have key:v.cells.zipIdx.foldl (λcs (x:O0×Nat)=>cs.setIfInBounds (E*sz+x.2) x.1) (pre++rest).toArray=(pre++u++rest.drop sz).toArray:=by
   rw[<-Array.foldl_toList,Array.toList_zipIdx,I];obtain⟨g1,Y⟩:=Great.foldl_set (E*sz) u 0 (pre++rest).toArray;apply Array.ext';apply M0;intro k;have g3:=Y k;simp only[Array.getElem?_toList];rw[g3];simp only[Oz,Od,oM,oZ];split
   ·rename_i O;rw[LB,MG oa,Ml oa,<-H]
   rename_i O;by_cases S:k<pre.length
   ·rw[LB,Ml S,Ml S]
   rw[LB,MG oa,MG oa];by_cases hb:k<pre.length+sz
   ·exfalso;apply O;omega
   rw[MG oa,MA];congr 1;omega
  have he:=ih;rw[LB pre u]at key;rw[show(v.cells.zipIdx.foldl (λcs (x:O0×Nat)=>cs.setIfInBounds (E*sz+x.2) x.1) (pre++rest).toArray)=(pre++u++rest.drop sz).toArray by rw[key,LB]];rw[ih];simp
theorem yX (f:Fr):∀(ps:List (Nat×O1)) (i:Nat),ps.map (·.1)=oS i ps.length->(ps.map λx=>(x.1,ev f x.2))=((ps.map λx=>ev f x.2).zipIdx i).map λx=>(x.2,x.1)
 | [],_,_=>rfl
 | p::ps,i,h=>by
  simp only[oX,oV,Oy,List.cons.injEq]at h;simp only[oX,List.zipIdx_cons];rw[yX f ps (i+1) h.2,h.1]
theorem QB {e bys:Nat}[h:Sl P t e sz bys z]{parts:List (Nat×O1)}{us:List (LV)}(G:parts.map (·.1)=oS 0 n)(H:parts.length=n)(I:0<n)(hs:n*sz<=1000000)
  (J:Qa0 sz (parts.map λx=>ev f x.2) us)
  (hK:∀b w',O3 [] w w'->w.heap.size<=b->Q7 w'.heap b e us.flatten->K (QY f d (.slice (some ⟨b,0,none⟩) n n)) w'):XO P ⟨d,.buildSlice t n parts.toArray,ty,pS,af,gd⟩ f w K:=by
 obtain⟨ie,O,S,E,_⟩:=Sl.info h;subst H;have T:=h.pos;have hm:0<parts.length*sz:=Nat.mul_pos I T;have V:Instr.fill (λi=>some (i*ie.size,ie.size)) ((Array.range (parts.length*ie.size)).map (z.cells[· % z.cells.size]!)) (parts.toArray.map λ(i,x)=>(i,ev f x)).toList=some us.flatten.toArray:=by
  rw[E];have:=yf (parts.map λx=>ev f x.2) us 0 [] ((Array.range (parts.length*sz)).map (z.cells[· % z.cells.size]!)).toList J oe oe;simp only[Oj,Array.toArray_toList]at this;rw[<-this,<-yX f parts 0 G];simp
 have Y:(execOp (ev f) ⟨d,.buildSlice t parts.length parts.toArray,ty,pS,af,gd⟩).run P w=.ok (.value (.slice (some ⟨w.heap.size,0,none⟩) parts.length parts.length)) (w.alloc (.cells us.flatten.toArray e)):=by
  have:=run_buildSlice (P:=P) w t e parts.length (parts.toArray.map λ(i,x)=>(i,ev f x)) us.flatten.toArray ie z h.u O S (by rw[E];omega) (by rw[E];omega) V;simp only[execOp,Sem.run_bind,this,Result.andThen_ok,Sem.run_pure]
 exact xv Y (hK _ _ (O3.alloc w _) (Lx _) (J4 w _))
theorem yG {base e:Nat}{bys:Nat}[h:Sl P t e sz bys z]{v:O0}{cs:LV}(G:w.ownsRow base e sz v n cs)
  {a:Addr} {m c:Nat} {news:LV} (hl:news.length=m*sz) (S:∀j u,news[j]?=some u->w.cell? (a.add j)=some u) (h1:∀u∈news,u.oneCell'=true)
  (hb:n+m<=1099511627776) (hq:bys<=128) (hc:base<=w.heap.size):
  ∃v' w',(Builtin.append_ #[t,t] ty #[v,.slice (some a) m c]).run P w=.ok v' w'/\w'.ownsRow base e sz v' (n+m) (cs++news)/\O3 (ob v) w w'/\(∀b∈ob v',b∈ob v\/w.heap.size<=b):=by
 obtain⟨i,hi,V,J,Y⟩:=Sl.info h;have ha:(n+m)*bys<=140737488355328:=LJ (Nat.mul_le_mul hb hq) oa;have he:n+m<=maxLen:=by simp only[maxLen];omega
 by_cases hg:∃g cap cur,v=.slice (some ⟨g,0,none⟩) n cap/\w.heap[g]?=some (.cells cur e (0,0))/\n+m<=cap
 ·obtain⟨v',w',H,ho,hs,_⟩:=run_append_own (P:=P) w base t ty e i z sz bys h.u hi V J Y h.zs h.pos v n cs G a m c news hl S h1 he ha hc;refine⟨v',w',H,ho,by rw[zM];exact O3.of_grown hs,?_⟩;obtain⟨g,cap,cur,rfl,hf,O⟩:=hg;rcases G.2 with⟨h2,_⟩|⟨g2,cap2,hh,h2,h3,h4,h5,h6,h7,h8⟩
  ·cases h2
  cases h2
  have ht:n*i.size+news.length<=hh.size:=by rw[hl,h7,J,<-Ms];exact LY _ O
  have hu:=run_append_room (P:=P) w t ty e i h.u hi g n cap hh h4 a m c news (by rw[J];exact hl) S h1 O ht;rw[hu]at H;cases H
  intro b E;exact .inl E
 have new:∀(old:Nat),old<n+m->∀I,I=(Obj.cells (cs.toArray++news.toArray++Builtin.zeroCells z.cells (grownCap w (n+m) old e - (n+m))) e) ->
   (w.drew.alloc I).ownsRow base e sz (.slice (some ⟨w.heap.size,0,none⟩) (n+m) (grownCap w (n+m) old e)) (n+m) (cs++news):=by
  intro old ho I hv;subst hv;have hge:=grownCap_ge w (n+m) old e;have hj:grownCap w (n+m) old e<=maxLen:=grownCap_le_maxLen w (n+m) old e he;have hp:(cs++news).length=(n+m)*sz:=by rw[Lj,G.1,hl,Ms]
  refine⟨hp,.inr ⟨w.heap.size,_,_,U,hc,J4 w.drew _,hge,hj,?_,?_⟩⟩
  ·simp only[Array.size_append,Od,size_zeroCells,h.zs,G.1,hl,<-Oo];congr 1;omega
  simp only[Array.toList_append,o0];rw[<-LB,<-hp];exact List.take_left
 have stp:∀I,O3 (ob v) w (w.drew.alloc I):=λI=>⟨U,U,U,by rw[Vy];exact OL _,λk hk _=>qt w.drew I k hk⟩;have fin:∀(b:Nat),b∈ob (.slice (some ⟨w.heap.size,0,none⟩) (n+m) 0)->b∈ob v\/w.heap.size<=b:=λb E=>by simp[ob]at E;omega
 rcases G.2 with⟨rfl,rfl⟩|⟨g,cap,cur,rfl,h9,hf,hA,hj,hB,hC⟩
 ·have hx:cs=[]:=Lq (oz G.1);subst hx;by_cases hm:m=0
  ·subst hm;have T:news=[]:=Lq (oz hl);subst T;refine⟨nS,w,?_,QJ _ _ _ _,O3.Z _ _,λb E=>by simp[ob]at E⟩;simp[Builtin.append_,run_underlying h.u,sizeOf,typeInfo,hi,Builtin.lenOf,Builtin.firstCells,loadCells,loadCellsFrom]
  have H:=run_append_nil (P:=P) w t ty e i z h.u hi V a m c news (by rw[J];exact hl) S oa oa (by rw[Y];have hw:=ha;simp only[oY]at hw;omega);have T:=new 0 oa _ U;simp only[oY,Oj,Array.empty_append]at T ⊢;exact⟨_,_,H,T,stp _,λb E=>fin b E⟩
 have O:cap<n+m:=by
  rcases OF cap (n+m)with hy|hge
  ·exact hy
  exact OU ⟨g,cap,cur,U,hf,hge⟩ hg
 have h0:∀j u,cs[j]?=some u->w.cell? ((⟨g,0,none⟩:Addr).add j)=some u:=G.cells (g:=g) U;have H:=run_append_grow (P:=P) w t ty e i z h.u hi V ⟨g,0,none⟩ n cap cs (by rw[J];exact G.1) h0 a m c news (by rw[J];exact hl) S O oa (growslice_fits O (by rw[Y];exact ha));exact⟨_,_,H,new cap O _ U,stp _,λb E=>fin b E⟩
theorem Za {e bys:Nat}[h:Sl P t e sz bys z]{s:O1}{base:Nat}{v:O0}{cs:LV}(E:w.ownsRow base e sz v n cs)(G:ev f s=v)
  {a:Addr} {m c:Nat} {news:LV} (H:ev f y=.slice (some a) m c) (hl:news.length=m*sz) {L:LN} (I:At L w.heap a news) (J:∀u∈news,u.oneCell'=true)
  (O:n+m<=1099511627776) (S:base<=w.heap.size)
  (hK:∀v' w',w'.ownsRow base e sz v' (n+m) (cs++news)->O3 (ob v) w w'->(∀b∈ob v',b∈ob v\/w.heap.size<=b)->K (QY f d v') w') (T:bys<=128:=by decide):
  XO P ⟨d,.call ⟨.builtin .append,#[s,y],#[t,t]⟩,ty,pS,af,gd⟩ f w K:=by
 obtain⟨v',w',V,Y,h3,h4⟩:=yG (P:=P) (t:=t) (ty:=ty) E hl I.cells J O T S (c:=c);have ha:(execOp (ev f) ⟨d,.call ⟨.builtin .append,#[s,y],#[t,t]⟩,ty,pS,af,gd⟩).run P w=.ok (.value v') w':=by
  simp[execOp,resolve,invoke,builtin,G,H,V]
 exact xv ha (hK v' w' Y h3 h4)
end
def QoF (P:O2)(t:Nat):Option (LV×LN):=match P.info? t,P.underlying t with
 | some it,some (.struct fs)=>match it.zero,fs.toList.mapM (λf=>(P.info? f.type).bind λi=>if i.size=1 then some f.offset else none)with
  | some (.agg zs),some offs=>some (zs.toList,offs)
  | _,_=>none
 | some it,some (.array n e)=>match it.zero,P.info? e with
  | some (.agg zs),some ie=>if ie.size=1 then some (zs.toList,oT n)else none
  | _,_=>none
 | _,_=>none
class Bs (P:O2)(t:Nat)(zs:outParam (LV))(offs:outParam (LN)):Prop where
 h:QoF P t=some (zs,offs)
 b:offs.all (·<zs.length)=true
def bld (offs:LN)(zs:LV):List (Nat×O0)->LV
 | []=>zs
 | (j,v)::ps=>bld offs (zs.set (offs.getD j 0) v) ps
def Qmx:LV->Prop
 | []=>True
 | v::vs=>v.cells=#[v]/\Qmx vs
theorem ye {place:Nat->Option (Nat×Nat)}{offs:LN}(G:∀j,j<offs.length->place j=some (offs.getD j 0,1)):∀(ps:List (Nat×O0)) (zs:LV),Qmx (ps.map (·.2))->ps.all (λp=>p.1<offs.length)=true ->
  (∀o∈offs,o<zs.length)->Instr.fill place zs.toArray ps=some (bld offs zs ps).toArray
 | [],zs,_,_,_=>rfl
 | (j,v)::ps,zs,H,E,I=>by
  simp only[oR,oL,decide_eq_true_eq]at E;have J:=G j E.1;have T:offs.getD j 0<zs.length:=I _ (by simp[oQ,Oe E.1]);unfold Instr.fill;simp only[J];have O:v.cells=#[v]:=H.1;simp only[O];rw[OR (by rw[show(#[v]:Array O0).size=1 from rfl,LP];simp only[ne_eq,not_true,decide_false,Bool.false_or,decide_eq_true_eq];omega)];have:(#[v]:Array O0).zipIdx.foldl (λcs (x:O0×Nat)=>cs.setIfInBounds (offs.getD j 0+x.2) x.1) zs.toArray=(zs.set (offs.getD j 0) v).toArray:=by
   simp[Array.zipIdx]
  rw[this];exact ye G ps _ H.2 E.2 (λo S=>by rw[Mk];exact I o S)
theorem QdN {zs:LV}{offs:LN}(h:QoF P t=some (zs,offs))(hb:offs.all (·<zs.length)=true)(ps:List (Nat×O0))(S:Qmx (ps.map (·.2)))(T:ps.all (λp=>p.1<offs.length)=true):
  P.built t ps=some (bld offs zs ps).toArray:=by
 have V:∀o∈offs,o<zs.length:=λo ho=>oz (Md.1 hb o ho)
 unfold QoF at h;unfold Program.built;cases hi:P.info? t with
 | none=>simp[hi]at h
 | some it =>
  cases Y:P.underlying t with
  | none=>simp[hi,Y]at h
  | some dd =>
   simp only[hi,Y]at h;cases dd <;> simp only[]at h <;> try (cases h)
   case struct fs =>
    cases E:it.zero with
    | none=>simp[E]at h
    | some z =>
     cases z <;> simp only[E]at h <;> try (cases h)
     rename_i za;cases I:fs.toList.mapM (λf=>(P.info? f.type).bind λi=>if i.size=1 then some f.offset else none)with
     | none=>simp[I]at h
     | some offs' =>
      simp only[I,Option.some.injEq,Prod.mk.injEq]at h;obtain⟨rfl,rfl⟩:=h;have key:∀(l:List Field) (offs:LN),l.mapM (λf=>(P.info? f.type).bind λi=>if i.size=1 then some f.offset else none)=some offs ->
        l.mapM (λf=>(P.info? f.type).map λi=>(f.offset,i.size))=some (offs.map λo=>(o,1)):=by
       intro l;induction l with
       | nil=>intro offs h;simp at h;subst h;rfl
       | cons f l ih =>
        intro offs h;simp only[List.mapM_cons]at h ⊢;cases J:P.info? f.type with
        | none=>simp[J]at h
        | some i =>
         by_cases G:i.size=1
         ·simp only[J,Option.bind_some,G,if_true,Option.bind_eq_bind]at h;cases hl:l.mapM (λf=>(P.info? f.type).bind λi=>if i.size=1 then some f.offset else none)with
          | none=>simp[hl]at h
          | some os =>
           simp[hl]at h;subst h;simp[ih os hl,G]
         simp[J,G]at h
      have ha:=key _ _ I;simp only[E,ha,Value.cells];rw[<-ye (place:=λj=>((offs'.map λo=>(o,1)).toArray)[j]?) (λj H=>by simp[Oe H,oQ]) ps za.toList S T V]
   case array n e =>
    cases E:it.zero with
    | none=>simp[E]at h
    | some z =>
     cases z <;> simp only[E]at h <;> try (cases h)
     rename_i za;cases O:P.info? e with
     | none=>simp[O]at h
     | some ie =>
      simp only[O]at h;split at h
      ·rename_i G;simp only[Option.some.injEq,Prod.mk.injEq]at h;obtain⟨rfl,rfl⟩:=h;simp only[E,O,Value.cells];rw[<-ye (place:=λi=>some (i*ie.size,ie.size)) (λj H=>by simp at H;simp[G,oQ,H]) ps za.toList S T V]
      cases h
theorem Qz {f:Fr}{pS:String}{zs:LV}{offs:LN}[h:Bs P t zs offs]{parts:List (Nat×O1)}
  (E:Qmx (parts.map λx=>ev f x.2)) (G:parts.all (λp=>p.1<offs.length)=true:=by rfl):
  (execOp (ev f) ⟨d,.build t parts.toArray,ty,pS,af,gd⟩).run P w=.ok (.value (.agg (bld offs zs (parts.map λx=>(x.1,ev f x.2))).toArray)) w:=by
 have H:=QdN h.h h.b (parts.map λx=>(x.1,ev f x.2)) (by rw[Mh];exact E) (by rw[List.all_map];exact G);have I:=run_build (P:=P) w t (parts.toArray.map λ(i,x)=>(i,ev f x)) _ (oz H);simp only[execOp,Sem.run_bind,I,Result.andThen_ok,Sem.run_pure]
section
variable {K:Fr->OZ->Prop}{f:Fr}{pS:String}{l:xA}
theorem Q0 {off:Nat}[Zh P t j off]{E:O1}(hx:ev f E=.pointer (some ⟨b,o,none⟩))(h:XL P ops K l (QY f d (.pointer (some ⟨b,o+off,none⟩))) w)(G:Z4 ops f ⟨d,.fieldAddr t E j,ty,pS,af,gd⟩=true:=by rfl):XL P ops K (⟨d,.fieldAddr t E j,ty,pS,af,gd⟩::l) f w:=x (K4 hx) h G
theorem Y2 [XK P t]{E:O1}{cs:LV}{u:O0}(G:Q7 w.heap b T cs)(hx:ev f E=.pointer (some ⟨b,j,none⟩))(H:cs[j]?=some u)(h:XL P ops K l (QY f d u) w)(I:Z4 ops f ⟨d,.load t E,ty,pS,af,gd⟩=true:=by rfl):XL P ops K (⟨d,.load t E,ty,pS,af,gd⟩::l) f w:=x (Qq G hx H) h I
theorem Q2 [Ag P t sz]{E:O1}{cs:LV}(G:Q7 w.heap b T cs)(hx:ev f E=.pointer (some ⟨b,0,none⟩))(hl:cs.length=sz)(h:XL P ops K l (QY f d (.agg cs.toArray)) w)(H:Z4 ops f ⟨d,.load t E,ty,pS,af,gd⟩=true:=by rfl):XL P ops K (⟨d,.load t E,ty,pS,af,gd⟩::l) f w:=x (Zx G hx hl) h H
theorem QL {E:O1}{e bys:Nat}[Sl P t e G bys z]{L:LN}{cs:LV}{v:O0}(I:Zv L H v n sz cs)(J:ev f E=v)(h:XL P ops K l (QY f d (oF oG n)) w)(O:Z4 ops f ⟨d,.call ⟨.builtin .len,#[E],#[t]⟩,ty,pS,af,gd⟩=true:=by rfl):XL P ops K (⟨d,.call ⟨.builtin .len,#[E],#[t]⟩,ty,pS,af,gd⟩::l) f w:=x (Yo I J) h O
theorem QP {off:Nat}[Zh P t j off]{E:O1}(hx:ev f E=.pointer (some ⟨b,o,none⟩)):∀w',(execOp (ev f) ⟨d,.fieldAddr t E j,ty,pS,af,gd⟩).run P w'=.ok (.value (.pointer (some ⟨b,o+off,none⟩))) w':=λ_=>K4 hx
theorem Qs {off:Nat}[Zh P t j off]{E:O1}[XK P G]{d2:xC}{I:Nat}{pS2:String}{J:xz}{O:xo}{H:O1}{cs:LV}{u:O0}(hx:ev f E=.pointer (some ⟨b,o,none⟩))(S:Q7 w.heap b T cs)(V:ev (QY f d (.pointer (some ⟨b,o+off,none⟩))) H=.pointer (some ⟨b,i,none⟩))(Y:cs[i]?=some u)(h:XL P ops K l (QY (QY f d (.pointer (some ⟨b,o+off,none⟩))) d2 u) w)
  (hg:Z4 ops f ⟨d,.fieldAddr t E j,ty,pS,af,gd⟩=true:=by rfl) (ha:Z4 ops (QY f d (.pointer (some ⟨b,o+off,none⟩))) ⟨d2,.load G H,I,pS2,J,O⟩=true:=by rfl):XL P ops K (⟨d,.fieldAddr t E j,ty,pS,af,gd⟩::⟨d2,.load G H,I,pS2,J,O⟩::l) f w:=Q0 hx (Y2 S V Y h ha) hg
end
section
variable {κ:Type}[DecidableEq κ]
def O8:List (κ×O0)->κ->Option O0
 | [],_=>none
 | (k',v)::m,k=>if k'=k then some v else O8 m k
def O9:List (κ×O0)->κ->O0->List (κ×O0)
 | [],k,v=>[(k,v)]
 | (k',v')::m,k,v=>if k'=k then(k',v)::m else(k',v')::O9 m k v
theorem Xn (m:List (κ×O0))(k k':κ)(v:O0):O8 (O9 m k v) k'=if k=k' then some v else O8 m k':=by
 induction m with
 | nil=>simp[O8,O9]
 | cons p m ih =>
  obtain⟨q,u⟩:=p;simp only[O9];by_cases h:q=k
  ·subst h;simp[O8];by_cases E:q=k' <;> simp[E]
  simp only[h,if_false,O8,ih];by_cases E:q=k'
  ·subst E;simp[Ne.symm h]
  simp[E]
def fnd (k:κ):List κ->List MapEntry->Nat->Option (Nat×O0)
 | q::ks,e::es,i=>if k=q then some (i,e.val)else fnd k ks es (i+1)
 | _,_,_=>none
end
class Key (P:O2)(kt:Nat){κ:Type}[DecidableEq κ](enc:κ->O0):Prop where
 check:∀(w:OZ) (em:Bool) (k:κ),(Instr.checkKey em 10000 kt (enc k)).run P w=.ok () w
 find:∀(w:OZ) (k:κ) (ks:List κ) (es:List MapEntry),es.map (·.key)=ks.map enc->(Instr.findKey kt (enc k) es).run P w=.ok (fnd k ks es 0) w
 same:∀k,Instr.sameBits 10000 (enc k) (enc k)=true
abbrev VY (n:Int):O0:=oF oG n
abbrev Je (p:Int×Int):O0:=.agg #[oF oG p.1,oF oG p.2]
abbrev JB (s:ByteArray):O0:=.string s
theorem Qlr (G:P.underlying kt=some (.int .i64)):Key P kt VY:=by
 refine⟨λw em k=>?_,λw k ks es h=>?_,λk=>by simp[Instr.sameBits]⟩
 ·have H:∀n,(Instr.checkKey em (n+1) kt (VY k)).run P w=.ok () w:=λn=>by simp[Instr.checkKey,run_underlying G]
  exact H 9999
 have key:∀(ks:LI) (es:List MapEntry) (i:Nat),es.map (·.key)=ks.map VY->Instr.findNow (.int .i64) (VY k) es i=some (fnd k ks es i):=by
  intro ks;induction ks with
  | nil=>intro es i h;simp at h;subst h;rfl
  | cons q ks ih =>
   intro es i h;cases es with
   | nil=>simp at h
   | cons e es =>
    simp only[oX,List.cons.injEq]at h;have I:=ih es (i+1) h.2;simp only[Instr.findNow,h.1,Instr.sameNow,VY,if_true,fnd];by_cases E:k=q
    ·subst E;simp
    have:(k == q)=false:=by simpa using E
    simp[E,this,I]
 simp[Instr.findKey,run_underlying G,key ks es 0 h]
theorem Qlq (G:P.underlying kt=some .string):Key P kt JB:=by
 refine⟨λw em k=>?_,λw k ks es h=>?_,λk=>by simp[Instr.sameBits,(MapKept.bytes_beq k k).2 rfl]⟩
 ·have H:∀n,(Instr.checkKey em (n+1) kt (JB k)).run P w=.ok () w:=λn=>by simp[Instr.checkKey,run_underlying G]
  exact H 9999
 have key:∀(ks:List ByteArray) (es:List MapEntry) (i:Nat),es.map (·.key)=ks.map JB->Instr.findNow .string (JB k) es i=some (fnd k ks es i):=by
  intro ks;induction ks with
  | nil=>intro es i h;simp at h;subst h;rfl
  | cons q ks ih =>
   intro es i h;cases es with
   | nil=>simp at h
   | cons e es =>
    simp only[oX,List.cons.injEq]at h;have I:=ih es (i+1) h.2;simp only[Instr.findNow,h.1,Instr.sameNow,JB,fnd];by_cases E:k=q
    ·subst E;simp[(MapKept.bytes_beq k k).2 rfl]
    have:(k == q)=false:=by
     cases J:(k == q)with
     | false=>rfl
     | true=>exact OU ((MapKept.bytes_beq k q).1 J) E
    simp[E,this,I]
 simp[Instr.findKey,run_underlying G,key ks es 0 h]
theorem zB {e:Nat}(V:P.underlying kt=some (.array 2 e))(I:P.underlying e=some (.int .i64))(E:(P.info? e).map (·.size)=some 1)(w:OZ)(p q:Int×Int):
  (Op.equal kt (Je p) (Je q)).run P w=.ok (decide (p=q)) w:=by
 obtain⟨a,b⟩:=p;obtain⟨c,d⟩:=q;cases hi:P.info? e with
 | none=>simp[hi]at E
 | some ie =>
  simp[hi]at E;have J:∀w,(isAgg e).run P w=.ok false w:=λw=>by simp[isAgg,run_underlying I]
  have G:∀(x y:Int) (w:OZ),(part e #[oF oG x,oF oG y] 0).run P w=.ok (oF oG x) w:=λx y w=>by simp[part,J]
  have O:∀(x y:Int) (w:OZ),(part e #[oF oG x,oF oG y] 1).run P w=.ok (oF oG y) w:=λx y w=>by simp[part,J]
  have H:∀(m:Nat) (x y:Int) (w:OZ),(Op.equalIn (m+1) e (oF oG x) (oF oG y)).run P w=.ok (x == y) w:=λm x y w=>by simp[Op.equalIn,run_underlying I]
  simp only[Op.equal,Op.maxDepth,Je];unfold Op.equalIn;simp only[Sem.run_bind,run_underlying V,Result.andThen_ok,sizeOf,typeInfo,run_program,hi,Sem.run_pure,E];simp only[Std.Legacy.Range.forIn_eq_forIn_range',Std.Legacy.Range.size,OG,Nat.add_sub_cancel,Nat.div_one,Oy,List.range'_zero,List.forIn_cons,List.forIn_nil,OM,Nat.one_mul,oY];by_cases S:a=c
  ·subst S;by_cases T:b=d
   ·subst T;simp[G,O,H]
   simp[G,O,H,T]
  simp[G,H,S]
theorem Qir {e:Nat}(E:P.underlying kt=some (.array 2 e))(H:P.underlying e=some (.int .i64))(G:(P.info? e).map (·.size)=some 1):Key P kt Je:=by
 refine⟨λw em k=>?_,λw k ks es h=>?_,λk=>?_⟩
 ·obtain⟨a,b⟩:=k;cases hi:P.info? e with
  | none=>simp[hi]at G
  | some ie =>
   simp[hi]at G;have J:∀w,(isAgg e).run P w=.ok false w:=λw=>by simp[isAgg,run_underlying H]
   have S:∀(x y:Int) (w:OZ),(part e #[oF oG x,oF oG y] 0).run P w=.ok (oF oG x) w:=λx y w=>by simp[part,J]
   have T:∀(x y:Int) (w:OZ),(part e #[oF oG x,oF oG y] 1).run P w=.ok (oF oG y) w:=λx y w=>by simp[part,J]
   have V:∀(m:Nat) (x:Int) (w:OZ),(Instr.checkKey em (m+1) e (oF oG x)).run P w=.ok () w:=λm x w=>by simp[Instr.checkKey,run_underlying H]
   simp only[Je];unfold Instr.checkKey;simp only[Sem.run_bind,run_underlying E,Result.andThen_ok,sizeOf,typeInfo];simp[Std.Legacy.Range.forIn_eq_forIn_range',Std.Legacy.Range.size,Oy,hi,G,S,T,V]
 ·have Y:∀es i,es.map (·.key)=ks.map Je->Instr.findNow (.array 2 e) (Je k) es i=none\/es=[]:=by
   intro es i h;cases es with
   | nil=>exact .inr U
   | cons e es=>left;simp[Instr.findNow,Instr.sameNow]
  have ask:∀(ks:xt) (es:List MapEntry) (i:Nat),es.map (·.key)=ks.map Je->(Instr.findAsking kt (Je k) es i).run P w=.ok (fnd k ks es i) w:=by
   intro ks;induction ks with
   | nil=>intro es i h;simp at h;subst h;simp[Instr.findAsking,fnd]
   | cons q ks ih =>
    intro es i h;cases es with
    | nil=>simp at h
    | cons e es =>
     simp only[oX,List.cons.injEq]at h;have ha:=ih es (i+1) h.2;simp only[Instr.findAsking,h.1,Sem.run_bind,zB E H G,Result.andThen_ok,fnd];by_cases O:k=q
     ·subst O;simp
     simp[O,ha]
  rcases Y es 0 h with I|I
  ·simp[Instr.findKey,run_underlying E,I,ask ks es 0 h]
  subst I;have:ks=[]:=by simpa using h.symm
  subst this;simp[Instr.findKey,run_underlying E,Instr.findNow,fnd]
 simp[Instr.sameBits]
class Mp (P:O2)(t:Nat)(kt et:outParam Nat)(z:outParam O0):Prop where
 u:P.underlying t=some (.map kt et)
 z:(P.info? et).map (·.zero)=some (some z)
def Yd {κ:Type}(enc:κ->O0)(H:xx)(b:Nat)(m:List (κ×O0)):Prop :=
 ∃es clock,H[b]?=some (.map es clock)/\es.toList.map (λe=>(e.key,e.val))=m.map (λp=>(enc p.1,p.2))
section
variable {κ:Type}{enc:κ->O0}
theorem Yd.lt {m:List (κ×O0)}(h:Yd enc H b m):b<H.size:=by
 obtain⟨es,c,E,_⟩:=h;exact(LH.1 E).1
theorem Yd.J {X:LN}{m:List (κ×O0)}(h:Yd enc w.heap b m)(E:O3 X w w')(G:b∉X):Yd enc w'.heap b m:=by
 have hl:=h.lt;obtain⟨es,c,H,I⟩:=h;exact⟨es,c,by rw[E.block b hl G];exact H,I⟩
theorem Yd.I {m:List (κ×O0)}(h:Yd enc w.heap b m)(E:O3 [] w w'):Yd enc w'.heap b m:=h.J E oe
theorem QaC {m:List (κ×O0)}{es:List MapEntry}(h:es.map (λe=>(e.key,e.val))=m.map (λp=>(enc p.1,p.2))):es.map (·.key)=(m.map (·.1)).map enc:=by
 have:=OT (List.map Prod.fst) h;simp only[List.map_map]at this ⊢;exact this
variable [DecidableEq κ]
theorem UC {k:κ}:∀{m:List (κ×O0)}{es:List MapEntry}{i:Nat},es.map (λe=>(e.key,e.val))=m.map (λp=>(enc p.1,p.2))->O8 m k=none->fnd k (m.map (·.1)) es i=none
 | [],es,i,h,_=>by simp[fnd]
 | (q,u)::m,[],i,h,_=>by simp at h
 | (q,u)::m,e::es,i,h,E=>by
  simp only[oX,List.cons.injEq]at h;simp only[O8]at E;by_cases G:q=k
  ·simp[G]at E
  simp only[G,if_false]at E;simp only[oX,fnd,Ne.symm G,if_false];exact UC h.2 E
theorem UB {k:κ}{u:O0}:∀{m:List (κ×O0)}{es:List MapEntry}{i:Nat},es.map (λe=>(e.key,e.val))=m.map (λp=>(enc p.1,p.2))->O8 m k=some u ->
  ∃j,fnd k (m.map (·.1)) es i=some (i+j,u)/\j<es.length/\(∃e,es[j]?=some e/\e.key=enc k) /\
   ∀v,(es.modify j λe=>{ e with key:=enc k,val:=v }).map (λe=>(e.key,e.val))=(O9 m k v).map (λp=>(enc p.1,p.2))
 | [],es,i,_,h=>by simp[O8]at h
 | (q,x)::m,[],i,h,_=>by simp at h
 | (q,x)::m,e::es,i,h,E=>by
  simp only[oX,List.cons.injEq,Prod.mk.injEq]at h;simp only[O8]at E;by_cases G:q=k
  ·subst G;simp at E;subst E;refine⟨0,by simp[fnd,h.1.2],oe,⟨e,rfl,h.1.1⟩,λv=>?_⟩;simp[O9,h.2]
  simp only[G,if_false]at E;obtain⟨j,H,T,⟨I,J,O⟩,S⟩:=UB (i:=i+1) h.2 E;refine⟨j+1,?_,by simp;omega,⟨I,oz J,O⟩,λv=>?_⟩
  ·simp only[oX,fnd,Ne.symm G,if_false,H];congr 2;omega
  simp only[O9,G,if_false,List.modify_succ_cons,oX,S v,h.1]
end
section
variable {K:Fr->OZ->Prop}{f:Fr}{pS:String}{κ:Type}[DecidableEq κ]
omit [DecidableEq κ] in
theorem Yw (enc:κ->O0)
  (hK:∀b w',O3 [] w w'->w.heap.size<=b->Yd enc w'.heap b []->K (QY f d (.map (some b))) w'):XO P ⟨d,.makeMap t none,ty,pS,af,gd⟩ f w K:=by
 have E:(execOp (ev f) ⟨d,.makeMap t none,ty,pS,af,gd⟩).run P w=.ok (.value (.map (some w.heap.size))) (w.alloc (.map #[] 0)):=by
  simp[execOp,Instr.makeMap]
 exact xv E (hK _ _ (O3.alloc w _) (Lx _) ⟨#[],0,J4 w _,U⟩)
theorem XW {es:Array MapEntry}{c:Nat}(h:w.heap[b]?=some (.map es c)):(getObj b).run P w=.ok (.map es c) w:=by
 simp[getObj,Sem.run,h]
theorem VK {es E:Array MapEntry}{c:Nat}(h:w.heap[b]?=some (.map es c)):(setObj b (.map E G)).run P w=.ok () { w with heap:=w.heap.setIfInBounds b (.map E G) }:=by
 simp[setObj,Sem.run,h]
theorem K3 [hm:Mp P t kt et z]{enc:κ->O0}[G:Key P kt enc]{x:O1}{m:List (κ×O0)}{k:κ}(h:Yd enc w.heap b m)(hx:ev f x=.map (some b))(I:ev f y=enc k):
  (execOp (ev f) ⟨d,.lookup t x y true,ty,pS,af,gd⟩).run P w=.ok (.value (match O8 m k with|some u=>.tuple #[u,.bool true]|none=>.tuple #[z,.bool false])) w:=by
 obtain⟨es,c,J,E⟩:=h;have O:=G.find w k (m.map (·.1)) es.toList (QaC E);have S:(zeroValue et).run P w=.ok z w:=by
  have:=hm.z;cases hi:P.info? et with
  | none=>simp[hi]at this
  | some i=>simp[hi]at this;simp[zeroValue,typeInfo,hi,this]
 simp only[execOp,Sem.run_bind,Instr.lookup,run_underlying hm.u,Result.andThen_ok,hx,I,XW J,Sem.run_pure,G.check,O];cases H:O8 m k with
 | none=>rw[UC E H];simp[S]
 | some u =>
  obtain⟨j,T,_⟩:=UB (i:=0) E H;rw[T];simp
theorem Jr [hm:Mp P t kt et z]{enc:κ->O0}[G:Key P kt enc]{x:O1}{m:List (κ×O0)}{k:κ}(h:Yd enc w.heap b m)(hx:ev f x=.map (some b))(I:ev f y=enc k):
  (execOp (ev f) ⟨d,.lookup t x y false,ty,pS,af,gd⟩).run P w=.ok (.value (match O8 m k with|some u=>u|none=>z)) w:=by
 obtain⟨es,c,J,E⟩:=h;have O:=G.find w k (m.map (·.1)) es.toList (QaC E);have S:(zeroValue et).run P w=.ok z w:=by
  have:=hm.z;cases hi:P.info? et with
  | none=>simp[hi]at this
  | some i=>simp[hi]at this;simp[zeroValue,typeInfo,hi,this]
 simp only[execOp,Sem.run_bind,Instr.lookup,run_underlying hm.u,Result.andThen_ok,hx,I,XW J,Sem.run_pure,G.check,O];cases H:O8 m k with
 | none=>rw[UC E H];simp[S]
 | some u =>
  obtain⟨j,T,_⟩:=UB (i:=0) E H;rw[T];simp
theorem zz [hm:Mp P t kt et z]{enc:κ->O0}[I:Key P kt enc]{m:List (κ×O0)}{k:κ}{u:O0}(h:Yd enc w.heap b m):
  ∃w',(Instr.mapUpdate t (.map (some b)) (enc k) u).run P w=.ok () w'/\O3 [b] w w'/\Yd enc w'.heap b (O9 m k u):=by
 have hl:=h.lt;obtain⟨es,c,J,G⟩:=h;have E:=I.find w k (m.map (·.1)) es.toList (QaC G);have stp:∀S T,O3 [b] w { w with heap:=w.heap.setIfInBounds b (.map S T) }:=λS T =>
  ⟨rfl,rfl,rfl,oe,λi hi V=>by
   have:b≠i:=λe=>V (by simp[e]);simp[Array.getElem?_setIfInBounds_ne this]⟩
 cases H:O8 m k with
 | none =>
  rw[UC G H]at E;refine⟨_,?_,stp (es.push { key:=enc k,val:=u,born:=c }) (c+1),es.push { key:=enc k,val:=u,born:=c },c+1,?_,?_⟩
  ·simp only[Instr.mapUpdate,Sem.run_bind,run_underlying hm.u,Result.andThen_ok,XW J,I.check,E,VK J]
  ·simp[hl]
  have Y:O9 m k u=m++[(k,u)]:=by
   clear G E;induction m with
   | nil=>rfl
   | cons p m ih =>
    obtain⟨q,x⟩:=p;by_cases O:q=k
    ·simp[O8,O]at H
    simp only[O8,O,if_false]at H;simp[O9,O,ih H]
  simp[Y,G]
 | some u0 =>
  obtain⟨j,hj,ho,⟨e,he,ha⟩,hb⟩:=UB (i:=0) G H;rw[hj]at E;simp only[oY]at E;have hc:∀w,(Instr.keyThatStays (enc k) (enc k)).run P w=.ok (enc k) w:=λw=>by simp[Instr.keyThatStays,I.same]
  have hh:((es[j]?).map (·.key)).getD (enc k)=enc k:=by
   have:es[j]?=some e:=by simpa using he
   simp[this,ha]
  refine⟨_,?_,stp (es.modify j λe=>{ e with key:=enc k,val:=u }) c,es.modify j λe=>{ e with key:=enc k,val:=u },c,?_,?_⟩
  ·simp only[Instr.mapUpdate,Sem.run_bind,run_underlying hm.u,Result.andThen_ok,XW J,I.check,E,hh,hc,VK J]
  ·simp[hl]
  rw[Array.toList_modify];exact hb u
theorem Xw [hm:Mp P t kt et z]{enc:κ->O0}[hk:Key P kt enc]{x v:O1}{m:List (κ×O0)}{k:κ}(h:Yd enc w.heap b m)(hx:ev f x=.map (some b))(E:ev f y=enc k)
  (hK:∀w',O3 [b] w w'->Yd enc w'.heap b (O9 m k (ev f v))->K (QY f d undef) w'):XO P ⟨d,.mapUpdate t x y v,ty,pS,af,gd⟩ f w K:=by
 obtain⟨w',G,H,I⟩:=zz (P:=P) (t:=t) (k:=k) (u:=ev f v) h;exact xk (w':=w') (by simp[execOp,hx,E,G]) (hK w' H I)
theorem X0 [hm:Mp P t kt et z]{enc:κ->O0}[hk:Key P kt enc]{x v:O1}{m:List (κ×O0)}{k:κ}(h:Yd enc w.heap b m)(hx:ev f x=.map (some b))(E:ev f y=enc k)
  (hK:∀w',O3 [b] w w'->Yd enc w'.heap b (O9 m k (ev f v))->K (QY f d undef) w'):XO P ⟨d,.insert t x y v,ty,pS,af,gd⟩ f w K:=by
 obtain⟨w',G,H,I⟩:=zz (P:=P) (t:=t) (k:=k) (u:=ev f v) h;exact xk (w':=w') (by simp[execOp,hx,E,G]) (hK w' H I)
end
section
def eqV:O0->O0->Bool
 | .int _ a,.int _ b=>a == b
 | .string a,.string b=>a == b
 | .bool a,.bool b=>a == b
 | _,_=>false
def tvB:LN->LV->LV->Bool
 | [],[],[]=>true
 | 0::ks,oF oG _::xs,oF oG _::ys=>tvB ks xs ys
 | 1::ks,.string _::xs,.string _::ys=>tvB ks xs ys
 | 2::ks,.bool _::xs,.bool _::ys=>tvB ks xs ys
 | _,_,_=>false
def Kz:LV->LV->Bool
 | x::xs,y::ys=>eqV x y && Kz xs ys
 | _,_=>true
inductive Fks (P:O2):Nat->List Field->LN->Prop
 | nil {o:Nat}:Fks P o [] []
 | int {o:Nat} {f:Field} {fs:List Field} {ks:LN} (hn:f.name ≠ "_") (ho:f.offset=o) (hu:P.underlying f.type=some (.int .i64)) (h:Fks P (o+1) fs ks):Fks P o (f::fs) (0::ks)
 | str {o:Nat} {f:Field} {fs:List Field} {ks:LN} (hn:f.name ≠ "_") (ho:f.offset=o) (hu:P.underlying f.type=some .string) (h:Fks P (o+1) fs ks):Fks P o (f::fs) (1::ks)
 | flag {o:Nat} {f:Field} {fs:List Field} {ks:LN} (hn:f.name ≠ "_") (ho:f.offset=o) (hu:P.underlying f.type=some .bool) (h:Fks P (o+1) fs ks):Fks P o (f::fs) (2::ks)
theorem zc {k:Nat}{v:O0}{l:LV}(h:∀w,(isAgg t).run P w=.ok false w)(E:l[k]?=some v)(w:OZ):(part t l.toArray k).run P w=.ok v w:=by
 have e:l.toArray[k]?=some v:=by simpa using E
 simp[part,h w,e]
theorem yi {d:Nat}{f:Field}{fs:List Field}{x y:O0}{xs ys X Y:LV}(I:f.name ≠ "_") (J:f.offset=o) (E:∀w,(isAgg f.type).run P w=.ok false w) (O:∀m w,(Op.equalIn (m+1) f.type x y).run P w=.ok (eqV x y) w)
  (G:X.drop o=x::xs) (H:Y.drop o=y::ys) (ih:X.drop (o+1)=xs->Y.drop (o+1)=ys->∀w,(Op.eqFields (d+1) X.toArray Y.toArray fs).run P w=.ok (Kz xs ys) w) (w:OZ):
  (Op.eqFields (d+1) X.toArray Y.toArray (f::fs)).run P w=.ok (Kz (x::xs) (y::ys)) w:=by
 have hx:X[o]?=some x:=by rw[<-List.head?_drop,G];rfl
 have S:Y[o]?=some y:=by rw[<-List.head?_drop,H];rfl
 have T:X.drop (o+1)=xs:=by rw[<-List.tail_drop,G];rfl
 have V:Y.drop (o+1)=ys:=by rw[<-List.tail_drop,H];rfl
 simp only[Op.eqFields,I,ne_eq,not_false_eq_true,if_true,Sem.run_bind,J,zc E hx,zc E S,O,Result.andThen_ok,Sem.run_ite,Kz];cases hv:eqV x y with
 | false=>simp
 | true=>simpa using ih T V w
theorem Fks.run {d:Nat}{o:Nat}{fs:List Field}{ks:LN}(h:Fks P o fs ks):∀{xs ys X Y:LV},tvB ks xs ys=true->X.drop o=xs->Y.drop o=ys->∀w,(Op.eqFields (d+1) X.toArray Y.toArray fs).run P w=.ok (Kz xs ys) w:=by
 induction h with
 | nil =>
  intro xs ys X Y E _ _ w;cases xs with
  | nil=>simp[Op.eqFields,Kz]
  | cons x xs=>cases ys <;> simp[tvB]at E
 | @int o f fs ks H I G h ih =>
  intro xs ys X Y E J O w
  match xs,ys,E with
  | oF oG a::xs,oF oG b::ys,E=>exact yi H I (λw=>by simp[isAgg,run_underlying G]) (λm w=>by simp[Op.equalIn,run_underlying G,eqV]) J O (λS T=>ih E S T) w
 | @str o f fs ks H I G h ih =>
  intro xs ys X Y E J O w
  match xs,ys,E with
  | .string a::xs,.string b::ys,E=>exact yi H I (λw=>by simp[isAgg,run_underlying G]) (λm w=>by simp[Op.equalIn,run_underlying G,eqV]) J O (λS T=>ih E S T) w
 | @flag o f fs ks H I G h ih =>
  intro xs ys X Y E J O w
  match xs,ys,E with
  | .bool a::xs,.bool b::ys,E=>exact yi H I (λw=>by simp[isAgg,run_underlying G]) (λm w=>by simp[Op.equalIn,run_underlying G,eqV]) J O (λS T=>ih E S T) w
class Sk (P:O2)(t:Nat)(ks:outParam (LN)):Prop where
 u:∃fs:List Field,P.underlying t=some (.struct fs.toArray)/\Fks P 0 fs ks
 s:P.stoodInHeld t=false
 g:P.eqGuardType P.depth t=false
theorem Kp {ks:LN}[h:Sk P t ks]{xs ys:LV}(I:tvB ks xs ys=true)(w:OZ):(Op.equal t (.agg xs.toArray) (.agg ys.toArray)).run P w=.ok (Kz xs ys) w:=by
 obtain⟨fs,E,J⟩:=h.u;have G:P.fieldsOf t=fs.toArray:=by unfold Program.fieldsOf;rw[E]
 have O:P.underlying t=some (.struct (P.fieldsOf t)):=by rw[G];exact E
 have H:=run_equalIn_struct (P:=P) w 9999 t xs.toArray ys.toArray O h.s;rw[G]at H;exact H.D (J.run (d:=9998) I U U w)
variable {f:Fr}{pS:String}
theorem QbB {ks:LN}[h:Sk P t ks]{x:O1}{xs ys:LV}(G:tvB ks xs ys=true)(hx:ev f x=.agg xs.toArray)(H:ev f y=.agg ys.toArray):
  (execOp (ev f) ⟨d,.binOp .eql t x y E,ty,pS,af,gd⟩).run P w=.ok (.value (.bool (Kz xs ys))) w:=by
 have I:(eqGuard .eql t x y (.agg xs.toArray) (.agg ys.toArray)).run P w=.ok () w:=by simp[eqGuard,h.g]
 simp only[execOp,hx,H,Sem.run_bind,I,Result.andThen_ok,binOp,Kp G,Sem.run_pure]
theorem K2 {ks:LN}[h:Sk P t ks]{x:O1}{xs ys:LV}(G:tvB ks xs ys=true)(hx:ev f x=.agg xs.toArray)(H:ev f y=.agg ys.toArray):
  (execOp (ev f) ⟨d,.binOp .neq t x y E,ty,pS,af,gd⟩).run P w=.ok (.value (.bool (!Kz xs ys))) w:=by
 have I:(eqGuard .neq t x y (.agg xs.toArray) (.agg ys.toArray)).run P w=.ok () w:=by simp[eqGuard,h.g]
 simp only[execOp,hx,H,Sem.run_bind,I,Result.andThen_ok,binOp,Kp G,Sem.run_pure]
end
abbrev kKy (k:Int×ByteArray):O0:=.agg #[oF oG k.1,.string k.2]
theorem Qlp (k k':Int×ByteArray):Kz [oF oG k.1,.string k.2] [oF oG k'.1,.string k'.2]=decide (k=k'):=by
 obtain⟨a,b⟩:=k;obtain⟨c,e⟩:=k';have E:(b == e)=decide (b=e):=by
  cases E:(b == e)with
  | true=>exact(OV ((MapKept.bytes_beq b e).1 E)).symm
  | false=>exact(OX λh=>by rw[(MapKept.bytes_beq b e).2 h]at E;cases E).symm
 simp only[Kz,eqV,E,Bool.and_true,Prod.mk.injEq];by_cases G:a=c
 ·subst G;simp
 simp[G]
theorem QnK {f0 f1:Field}[h:Sk P kt [0,1]](G:P.underlying kt=some (.struct #[f0,f1]))(T:f0.name ≠ "_") (n1:f1.name ≠ "_") (V:f0.offset=0) (o1:f1.offset=1) (H:P.underlying f0.type=some (.int .i64)) (I:P.underlying f1.type=some .string):Key P kt kKy:=by
 have Y:∀w,(isAgg f0.type).run P w=.ok false w:=λw=>by simp[isAgg,run_underlying H]
 have ha:∀w,(isAgg f1.type).run P w=.ok false w:=λw=>by simp[isAgg,run_underlying I]
 refine⟨λw em k=>?_,λw k ks es J=>?_,λk=>?_⟩
 ·obtain⟨a,b⟩:=k;have p0:∀w,(part f0.type #[oF oG a,.string b] 0).run P w=.ok (oF oG a) w:=λw=>zc (l:=[oF oG a,.string b]) (k:=0) Y U w;have p1:∀w,(part f1.type #[oF oG a,.string b] 1).run P w=.ok (.string b) w:=λw=>zc (l:=[oF oG a,.string b]) (k:=1) ha U w;have c0:∀(m:Nat) (w:OZ),(Instr.checkKey em (m+1) f0.type (oF oG a)).run P w=.ok () w:=λm w=>by simp[Instr.checkKey,run_underlying H]
  have c1:∀(m:Nat) (w:OZ),(Instr.checkKey em (m+1) f1.type (.string b)).run P w=.ok () w:=λm w=>by simp[Instr.checkKey,run_underlying I]
  simp only[kKy];unfold Instr.checkKey;simp only[Sem.run_bind,run_underlying G,Result.andThen_ok];simp[T,n1,V,o1,p0,p1,c0,c1]
 ·have ask:∀(ks:List (Int×ByteArray)) (es:List MapEntry) (i:Nat),es.map (·.key)=ks.map kKy->(Instr.findAsking kt (kKy k) es i).run P w=.ok (fnd k ks es i) w:=by
   intro ks;induction ks with
   | nil=>intro es i h;simp at h;subst h;simp[Instr.findAsking,fnd]
   | cons q ks ih =>
    intro es i E;cases es with
    | nil=>simp at E
    | cons e es =>
     simp only[oX,List.cons.injEq]at E;have hb:=ih es (i+1) E.2;have O:=Kp (P:=P) (t:=kt) (xs:=[oF oG k.1,.string k.2]) (ys:=[oF oG q.1,.string q.2]) U w;rw[Qlp]at O;have hc:(Op.equal kt (kKy k) (kKy q)).run P w=.ok (decide (k=q)) w:=O;simp only[Instr.findAsking,E.1,Sem.run_bind,hc,Result.andThen_ok,fnd];by_cases S:k=q
     ·subst S;simp
     simp[S,hb]
  cases es with
  | nil =>
   have:ks=[]:=by simpa using J.symm
   subst this;simp[Instr.findKey,run_underlying G,Instr.findNow,fnd]
  | cons e es =>
   have hn:Instr.findNow (.struct #[f0,f1]) (kKy k) (e::es) 0=none:=by simp[Instr.findNow,Instr.sameNow]
   simp only[Instr.findKey,Sem.run_bind,run_underlying G,Result.andThen_ok,hn];exact ask ks (e::es) 0 J
 simp[Instr.sameBits,(MapKept.bytes_beq k.2 k.2).2 rfl]
section
variable {K:Fr->OZ->Prop}{f:Fr}{pS:String}{l:xA}
theorem XM {cs cs':LV}(h:Q7 w.heap b T cs):Q7 (w.setRow b cs'.toArray).heap b T cs':=setRow_heap w b cs.toArray cs'.toArray T (0,0) h
theorem yE (cs:LV)(j:Nat)(u:O0)(h:j<cs.length):cs.take j++[u]++cs.drop (j+1)=cs.set j u:=by
 rw[List.set_eq_take_append_cons_drop,OS h];simp
theorem QA [h1:XK P t]{x:O1}{cs:LV}{u:O0}(E:Q7 w.heap b T cs)(hx:ev f x=.pointer (some ⟨b,j,none⟩))(J:ev f y=u)(O:j<cs.length)(G:u.oneCell'=true)
  (hK:∀w',O3 [b] w w'->Q7 w'.heap b T (cs.set j u)->K (QY f d undef) w'):XO P ⟨d,.store t x y,ty,pS,af,gd⟩ f w K:=by
 have S:u.cells=#[u]:=by cases u <;> first|rfl|cases G
 have I:=run_storeCells_at P b j T [u] 0 cs.toArray w E (by simp;omega) (by simp[G]);simp only[Oz,oO,yE cs j u O]at I;refine xk (w':=w.setRow b (cs.set j u).toArray) ?_ (hK _ (O3.setRow _ _ _) (XM E));simp[execOp,hx,J,Instr.storeAt,Instr.sureAddr,storeVar,Qc6,S,I]
def Zj:LV->Prop
 | []=>True
 | u::us=>u.oneCell'=true/\Zj us
theorem Zj.all:∀{us:LV},Zj us->∀u∈us,u.oneCell'=true
 | [],_,u,E=>by cases E
 | v::us,h,u,E=>by
  rcases Li.1 E with rfl|E
  ·exact h.1
  exact Zj.all h.2 u E
theorem Qj [h1:Ag P t sz]{x:O1}{cs us:LV}(E:Q7 w.heap b T cs)(hx:ev f x=.pointer (some ⟨b,0,none⟩))(I:ev f y=.agg us.toArray)(hl:us.length=sz)(J:cs.length=sz)(O:Zj us)
  (hK:∀w',O3 [b] w w'->Q7 w'.heap b T us->K (QY f d undef) w'):XO P ⟨d,.store t x y,ty,pS,af,gd⟩ f w K:=by
 have G:=run_storeCells_at P b 0 T us 0 cs.toArray w E (by simp;omega) O.all;have e:(cs.take 0++us++cs.drop us.length)=us:=by rw[hl,<-J];simp
 simp only[Oz,oY,e]at G;refine xk (w':=w.setRow b us.toArray) ?_ (hK _ (O3.setRow _ _ _) (XM E));subst hl;simp[execOp,hx,I,Instr.storeAt,Instr.sureAddr,storeVar,Vo (sz:=us.length),Value.cells,G]
theorem ZB {x:O1}{e bys:Nat}[h:Sl P t e sz bys z]{c:Nat}{k:IntKind}(hx:ev f x=.slice (some ⟨b,o,none⟩) n c)(E:ev f y=.int k i)(G:i<n):
  (execOp (ev f) ⟨d,.indexAddr t x y,ty,pS,af,gd⟩).run P w=.ok (.value (.pointer (some ⟨b,o+i*sz,none⟩))) w:=by
 have:=Xh (P:=P) (w:=w) (d:=d) (ty:=ty) (pS:=pS) (af:=af) (gd:=gd) (t:=t) hx E oa oa;rw[Ka]at this;simpa using this
theorem Qla {e bys:Nat}[h:Sl P t e sz bys z]{x:O1}{k:IntKind}(hx:ev f x=.int k n)(J:ev f y=.int k' n)(O:bys*n<=281474976710656)(hn:n<=1099511627776)
  (hK:∀b w',O3 [] w w'->w.heap.size<=b->Q7 w'.heap b e (oN n z.cells.toList).flatten->K (QY f d (.slice (some ⟨b,0,none⟩) n n)) w'):
  XO P ⟨d,.makeSlice t x y,ty,pS,af,gd⟩ f w K:=by
 obtain⟨i,hi,S,T,V⟩:=Sl.info h;have hb:i.bytes*n<=281474976710656:=by rw[V];exact O
 have Y:(i.bytes:Int)*(n:Int)<=281474976710656:=by
  have h:((i.bytes*n:Nat):Int)<=281474976710656:=oa
  rwa [Int.natCast_mul]at h
 have G:=run_make (P:=P) w t e i z h.u hi S k k' n n oa (NG _) Y oa;simp only[Ot]at G;have ha:madeCells z.cells (n*i.size)=(oN n z.cells.toList).flatten.toArray:=by
  have hc:z.cells.size=i.size:=by rw[h.zs,T]
  apply Array.ext';apply M0;intro j;simp only[madeCells,<-hc,Array.toList_map,Array.toList_range,List.getElem?_map];have he:∀n,(oN n z.cells.toList).flatten.length=n*z.cells.size:=λn=>oe
  have key:∀n j,j<n*z.cells.size->(oN n z.cells.toList).flatten[j]?=some z.cells[j % z.cells.size]!:=by
   intro n;induction n with
   | zero=>intro j E;omega
   | succ n ih =>
    intro j E;rw[List.replicate_succ,List.flatten_cons];by_cases I:j<z.cells.size
    ·rw[Ml (oz I),M8 I];simp[I]
    rw[MG (by simp;omega)];have:=ih (j - z.cells.size) (by rw[Ms]at E;omega);rw[Array.length_toList,this];rw[<-Nat.mod_eq_sub_mod oa]
  by_cases E:j<n*z.cells.size
  ·rw[key n j E];simp[E]
  rw[ML (oz (Nat.le_of_not_lt E)),List.getElem?_eq_none (by rw[he];omega)];rfl
 rw[ha]at G;refine xv (w':=w.alloc (.cells (oN n z.cells.toList).flatten.toArray e)) (v:=.slice (some ⟨w.heap.size,0,none⟩) n n) ?_ (hK _ _ (O3.alloc w _) (Lx _) (J4 w _));simp[execOp,hx,J,G]
theorem U6 {e bys:Nat}[h:Sl P t e sz bys z]{x:O1}{k:IntKind}(hx:ev f x=.int k n)(G:ev f y=.int k' n)(E:n<=1099511627776)
  (hK:∀b w',O3 [] w w'->w.heap.size<=b->Q7 w'.heap b e (oN n z.cells.toList).flatten->K (QY f d (.slice (some ⟨b,0,none⟩) n n)) w') (I:bys<=128:=by decide):
  XO P ⟨d,.makeSlice t x y,ty,pS,af,gd⟩ f w K:=Qla hx G (LJ (Nat.mul_le_mul I E) oa) E hK
theorem ZL {k:IntKind}{y:Nat}{c:BoundsCode}(h:i<=y):(Instr.sliceBound (.int k i) y c).run P w=.ok i w:=by
 simp[Instr.sliceBound,asIntOf,h]
theorem Zv.cut {L:LN}{a:Addr}{cs:LV}(h:Zv L H (.slice (some a) n cap) n sz cs)(S:lo<=hi)(T:hi<=n):
  Zv L H (.slice (if cap=lo then some a else some (a.add (lo*sz))) (hi - lo) (cap - lo)) (hi - lo) sz ((cs.drop (lo*sz)).take ((hi - lo)*sz)):=by
 obtain⟨J,V,O⟩:=h;rcases O with⟨G,_⟩|⟨a',cap',G,Y,I⟩
 ·cases G
 cases G
 refine⟨?_,oa,.inr ?_⟩
 ·simp only[Oa,o6,J,<-Nat.sub_mul];rw[Mf];exact LY _ oa
 split
 ·rename_i hc;have:hi - lo=0:=oa
  refine⟨a,cap - lo,by rw[this],oa,λu E=>?_,λu E=>?_,λj u E=>?_⟩
  ·simp[this]at E
  ·simp[this]at E
  simp[this]at E
 refine⟨a.add (lo*sz),cap - lo,U,oa,λu E=>by rw[Yz];exact I.out u (L6 (LR E)),λu E=>by rw[Yz];exact I.lt u (L6 (LR E)),λj u E=>?_⟩;rw[Addr.add_add];rw[LT]at E;split at E
 ·exact I.cell _ u (oz E)
 cases E
theorem QkZ {e bys:Nat}[h:Sl P t e sz bys z]{x y1 y2:O1}{L:LN}{v:O0}{cs:LV}{k:IntKind}(G:Zv L H v n sz cs)(hx:ev f x=v)(hl:ev f y1=.int k lo)(I:ev f y2=.int k' hi)
  (O:lo<=hi) (S:hi<=n):∃v',Zv L H v' (hi - lo) sz ((cs.drop (lo*sz)).take ((hi - lo)*sz))/\∀w,(execOp (ev f) ⟨d,.slice t x (some y1) (some y2) none,ty,pS,af,gd⟩).run P w=.ok (.value v') w:=by
 obtain⟨i,J,_,T,_⟩:=Sl.info h;rcases G.2.2 with⟨E,V⟩|⟨a,cap,E,Y,ha⟩
 ·have e1:hi=0:=oa
  have e2:lo=0:=oa
  subst e1 e2;refine⟨nS,⟨oe,oa,.inl ⟨rfl,rfl⟩⟩,λw=>?_⟩;simp[execOp,hx,E,hl,I,Instr.sliceAt,Instr.slice,run_underlying h.u,Instr.sliceBounds,Instr.sliceBound,asIntOf,sizeOf,typeInfo,J]
 subst E;refine⟨_,G.cut O S,λw=>?_⟩;have e1:(Instr.sliceBound (.int k' hi) cap .sliceAcap).run P w=.ok hi w:=ZL oa;have e2:(Instr.sliceBound (.int k lo) hi .sliceB).run P w=.ok lo w:=ZL oa;simp[execOp,hx,hl,I,Instr.sliceAt,Instr.slice,run_underlying h.u,Instr.sliceBounds,e1,e2,sizeOf,typeInfo,J,T]
theorem Qby {e bys:Nat}[h:Sl P t e sz bys z]{x y1:O1}{L:LN}{v:O0}{cs:LV}{k:IntKind}(E:Zv L H v n sz cs)(hx:ev f x=v)(hl:ev f y1=.int k lo)
  (I:lo<=n):∃v',Zv L H v' (n - lo) sz (cs.drop (lo*sz))/\∀w,(execOp (ev f) ⟨d,.slice t x (some y1) none none,ty,pS,af,gd⟩).run P w=.ok (.value v') w:=by
 obtain⟨i,J,_,S,_⟩:=Sl.info h;rcases E.2.2 with⟨G,T⟩|⟨a,cap,G,V,Y⟩
 ·have e2:lo=0:=oa
  subst e2 T;have:cs=[]:=Lq (oz E.1);subst this;refine⟨nS,⟨oe,oa,.inl ⟨rfl,rfl⟩⟩,λw=>?_⟩;simp[execOp,hx,G,hl,Instr.sliceAt,Instr.slice,run_underlying h.u,Instr.sliceBounds,Instr.sliceBound,asIntOf,sizeOf,typeInfo,J]
 subst G;have O:=E.cut I (Lx n);have e:(cs.drop (lo*sz)).take ((n - lo)*sz)=cs.drop (lo*sz):=Ls (by rw[LW,E.1,<-Nat.sub_mul];exact Lx _);rw[e]at O;refine⟨_,O,λw=>?_⟩;have e2:(Instr.sliceBound (.int k lo) n .sliceB).run P w=.ok lo w:=ZL I;simp[execOp,hx,hl,Instr.sliceAt,Instr.slice,run_underlying h.u,Instr.sliceBounds,e2,sizeOf,typeInfo,J,S]
theorem Qbz {e bys:Nat}[h:Sl P t e sz bys z]{x y2:O1}{L:LN}{v:O0}{cs:LV}{k:IntKind}(G:Zv L H v n sz cs)(hx:ev f x=v)(I:ev f y2=.int k hi)
  (S:hi<=n):∃v',Zv L H v' hi sz (cs.take (hi*sz))/\∀w,(execOp (ev f) ⟨d,.slice t x none (some y2) none,ty,pS,af,gd⟩).run P w=.ok (.value v') w:=by
 obtain⟨i,J,_,T,_⟩:=Sl.info h;rcases G.2.2 with⟨E,V⟩|⟨a,cap,E,Y,ha⟩
 ·have e2:hi=0:=oa
  subst e2;refine⟨nS,⟨oe,oa,.inl ⟨rfl,rfl⟩⟩,λw=>?_⟩;simp[execOp,hx,E,I,Instr.sliceAt,Instr.slice,run_underlying h.u,Instr.sliceBounds,Instr.sliceBound,asIntOf,sizeOf,typeInfo,J]
 subst E;have O:=G.cut (Ln hi) S;simp only[OM,List.drop_zero,OG]at O;refine⟨_,O,λw=>?_⟩;have e2:(Instr.sliceBound (.int k hi) cap .sliceAcap).run P w=.ok hi w:=ZL oa;simp[execOp,hx,I,Instr.sliceAt,Instr.slice,run_underlying h.u,Instr.sliceBounds,e2,sizeOf,typeInfo,J]
end
section
variable {K:Fr->OZ->Prop}{C:xw}{f:Fr}{w0:OZ}{pS:String}{pl:xp}{i0:Nat}
theorem pi {x:O1}{e bys:Nat}[Sl P t e sz bys z]{L:LN}{cs:LV}{v:O0}{k:IntKind}
  (E:QV ops i0=⟨d,.indexAddr t x y,ty,pS,af,gd⟩) (h:Zv L H v n sz cs) (G:ev f x=v) (I:ev f y=.int k i) (hi:i<n)
  (hK:∀a,At L H a ((cs.drop (i*sz)).take sz)->XP P ops C K pl (QY f d (.pointer (some a))) w) (J:Z4 ops f (QV ops i0)=true:=by rfl):
  XP P ops C K ((i0,true)::pl) f w:=by
 obtain⟨a,cap,O,S⟩:=h.at hi;refine Lg.p (λw'=>by rw[E];exact Xh (G.D O) I oa oa) ?_ J;rw[E];refine hK _ ?_;simpa using S
theorem pii {x:O1}{e bys:Nat}[Sl P t e 1 bys z]{L:LN}{li:LI}{v:O0}{k:IntKind}
  (E:QV ops i0=⟨d,.indexAddr t x y,ty,pS,af,gd⟩) (h:QQ L H v li) (G:ev f x=v) (I:ev f y=.int k i) (hi:i<li.length)
  (hK:∀a,At L H a [oF oG li[i]]->XP P ops C K pl (QY f d (.pointer (some a))) w) (J:Z4 ops f (QV ops i0)=true:=by rfl):
  XP P ops C K ((i0,true)::pl) f w:=by
 obtain⟨a,cap,O,S⟩:=QQ.at h hi;refine Lg.p (λw'=>by rw[E];exact Xh (G.D O) I oa oa) ?_ J;rw[E];refine hK _ ?_;simpa using S
end
abbrev Ed:=Int×Int×Int
def QF (e:Ed):LV:=[oF oG e.1,oF oG e.2.1,oF oG e.2.2]
abbrev qX (L:LN)(H:xx)(v:O0)(es:List Ed):Prop:=Zv L H v es.length 3 (es.flatMap QF)
theorem Xx {α:Type}(g:α->LV)(sz:Nat)(E:∀x,(g x).length=sz):∀(l:List α) (i:Nat) (h:i<l.length),((l.flatMap g).drop (i*sz)).take sz=g l[i]
 | x::l,0,_=>by simp[E]
 | x::l,i+1,h=>by
  have:=Xx g sz E l i (oz h);simp only[Om,List.getElem_cons_succ];rw[<-this,Ms,NN,Na,List.drop_append,E];simp[Nat.add_sub_cancel_left,List.drop_eq_nil_of_le,E]
theorem YZ (g:α->LV)(sz:Nat)(E:∀x,(g x).length=sz)(l:List α):(l.flatMap g).length=l.length*sz:=by
 induction l with
 | nil=>simp
 | cons x l ih=>simp[ih,E,Oo,Nat.add_comm]
theorem JU (e:Ed):(QF e).length=3:=rfl
structure Zd where
 al:LI
 st:Int
 mr:LI
 ed:List Ed
structure ZK (L:LN)(H:xx)(va vm ve:O0)(a:Zd):Prop where
 al:QQ L H va a.al
 mr:QQ L H vm a.mr
 ed:qX L H ve a.ed
def Qq1 (L:LN)(H:xx)(v:O0)(a:Zd):Prop:=∃va vm ve,v=.agg #[va,oF oG a.st,vm,ve]/\ZK L H va vm ve a
theorem ZK.I {L:LN}{w w':OZ}{va vm ve:O0}{a:Zd}(h:ZK L w.heap va vm ve a)(E:O3 [] w w'):ZK L w'.heap va vm ve a:=⟨h.al.I E,h.mr.I E,h.ed.I E⟩
theorem ZK.st {L:LN}{w w':OZ}{va vm ve:O0}{a:Zd}(h:ZK L w.heap va vm ve a)(E:O3 L w w'):ZK L w'.heap va vm ve a:=⟨h.al.st E,h.mr.st E,h.ed.st E⟩
theorem ZK.up {L L':LN}{H:xx}{va vm ve:O0}{a:Zd}(h:ZK L H va vm ve a)(E:∀b∈L',b∈L\/H.size<=b):ZK L' H va vm ve a:=⟨h.al.up E,h.mr.up E,h.ed.up E⟩
section
variable {f:Fr}{pS:String}
class Ik (P:O2)(t:Nat)(k:outParam IntKind):Prop where
 u:P.underlying t=some (.int k)
theorem Ye {k:IntKind}[h:Ik P t k][h':Ik P E k']{x:O1}{n:Int}{G:IntKind}(hx:ev f x=.int G n)(I:inK k' n):
  (execOp (ev f) ⟨d,.convert t E x,ty,pS,af,gd⟩).run P w=.ok (.value (.int k' n)) w:=by
 simp[execOp,hx,convert,run_underlying h.u,run_underlying h'.u,Conv.intToInt,YD I]
class St (P:O2)(t:Nat):Prop where
 u:P.underlying t=some .string
end
theorem Zf {l:List α}{k:Nat}(h:k<l.length):l.drop k=l[k]::l.drop (k+1):=LE h
theorem qX.at {L:LN}{H:xx}{v:O0}{es:List Ed}(h:qX L H v es){i:Nat}(hi:i<es.length):
  ∃a cap,v=.slice (some a) es.length cap/\At L H (a.add (i*3)) (QF es[i]):=by
 obtain⟨a,cap,G,E⟩:=Zv.at h hi;rw[Xx QF 3 JU es i hi]at E;exact⟨a,cap,G,E⟩
section
variable {K:Fr->OZ->Prop}{f:Fr}{pS:String}{l:xA}{C:xw}{pl:xp}{i0:Nat}
theorem xie {x:O1}{e bys:Nat}[Sl P t e 3 bys z]{L:LN}{es:List Ed}{v:O0}{k:IntKind}
  (h:qX L w.heap v es) (E:ev f x=v) (G:ev f y=.int k i) (hi:i<es.length)
  (hK:∀a,At L w.heap a (QF es[i])->XL P ops K l (QY f d (.pointer (some a))) w) (I:Z4 ops f ⟨d,.indexAddr t x y,ty,pS,af,gd⟩=true:=by rfl):
  XL P ops K (⟨d,.indexAddr t x y,ty,pS,af,gd⟩::l) f w:=by
 obtain⟨a,cap,J,O⟩:=qX.at h hi;refine xl I (xv (Xh (E.D J) G oa oa) (hK _ ?_));simpa using O
theorem pie {x:O1}{e bys:Nat}[Sl P t e 3 bys z]{L:LN}{es:List Ed}{v:O0}{k:IntKind}
  (E:QV ops i0=⟨d,.indexAddr t x y,ty,pS,af,gd⟩) (h:qX L H v es) (G:ev f x=v) (I:ev f y=.int k i) (hi:i<es.length)
  (hK:∀a,At L H a (QF es[i])->XP P ops C K pl (QY f d (.pointer (some a))) w) (J:Z4 ops f (QV ops i0)=true:=by rfl):
  XP P ops C K ((i0,true)::pl) f w:=by
 obtain⟨a,cap,O,S⟩:=qX.at h hi;refine Lg.p (λw'=>by rw[E];exact Xh (G.D O) I oa oa) ?_ J;rw[E];refine hK _ ?_;simpa using S
end
section
variable {f:Fr}{pS:String}
theorem ji {x:O1}{k:IntKind}{a:Int}(hx:ev f x=.int k a)(G:ev f y=.int k' n)(I:n<=k.bits):
  (execOp (ev f) ⟨d,.binOp .shr t x y E,ty,pS,af,gd⟩).run P w=.ok (.value (.int k (a / 2 ^ n))) w:=by
 refine Jd hx G ?_;have J:¬((n:Int)<0):=oa
 simp only[binOp,Op.shift,J,if_false,Ot,Nat.min_eq_left I,Sem.run_pure];rw[Int.fdiv_eq_ediv_of_nonneg _ (Int.le_of_lt (Int.pow_pos og))]
class S3 (P:O2)(t:Nat):Prop where
 u:∃f0 f1 f2,P.underlying t=some (.struct #[f0,f1,f2])/\f0.name ≠ "_" /\ f1.name ≠ "_" /\ f2.name ≠ "_" /\ f0.offset=0/\f1.offset=1/\f2.offset=2 /\
  P.underlying f0.type=some (.int .i64)/\P.underlying f1.type=some (.int .i64)/\P.underlying f2.type=some (.int .i64)
 s:P.stoodInHeld t=false
 g:P.eqGuardType P.depth t=false
theorem Ul [h:S3 P t](w:OZ)(p q:Ed):(Op.equal t (.agg (QF p).toArray) (.agg (QF q).toArray)).run P w=.ok (decide (p=q)) w:=by
 obtain⟨a,b,c⟩:=p;obtain⟨V,Y,c'⟩:=q;obtain⟨f0,f1,f2,hu,O,n1,n2,S,o1,o2,I,J,u2⟩:=h.u;have ha:∀e w,P.underlying e=some (.int .i64)->(isAgg e).run P w=.ok false w:=λe w E=>by simp[isAgg,run_underlying E]
 have T:∀e (x y z:Int) (w:OZ),P.underlying e=some (.int .i64)->(part e #[oF oG x,oF oG y,oF oG z] 0).run P w=.ok (oF oG x) w:=λe x y z w E=>by simp[part,ha e w E]
 have hb:∀e (x y z:Int) (w:OZ),P.underlying e=some (.int .i64)->(part e #[oF oG x,oF oG y,oF oG z] 1).run P w=.ok (oF oG y) w:=λe x y z w E=>by simp[part,ha e w E]
 have hc:∀e (x y z:Int) (w:OZ),P.underlying e=some (.int .i64)->(part e #[oF oG x,oF oG y,oF oG z] 2).run P w=.ok (oF oG z) w:=λe x y z w E=>by simp[part,ha e w E]
 have G:∀e (m:Nat) (x y:Int) (w:OZ),P.underlying e=some (.int .i64)->(Op.equalIn (m+1) e (oF oG x) (oF oG y)).run P w=.ok (x == y) w:=λe m x y w E=>by simp[Op.equalIn,run_underlying E]
 have key:∀m,(Op.equalIn (m+2) t (.agg (QF (a,b,c)).toArray) (.agg (QF (V,Y,c')).toArray)).run P w=.ok (decide ((a,b,c)=(V,Y,c'))) w:=by
  intro m;simp only[QF];unfold Op.equalIn;simp only[Sem.run_bind,run_underlying hu,Result.andThen_ok];by_cases e1:a=V
  ·subst e1;by_cases e2:b=Y
   ·subst e2;by_cases e3:c=c'
    ·subst e3;simp[h.s,O,n1,n2,S,o1,o2,T _ _ _ _ _ I,hb _ _ _ _ _ J,hc _ _ _ _ _ u2,G _ _ _ _ _ I,G _ _ _ _ _ J,G _ _ _ _ _ u2]
    simp[h.s,O,n1,n2,S,o1,o2,T _ _ _ _ _ I,hb _ _ _ _ _ J,hc _ _ _ _ _ u2,G _ _ _ _ _ I,G _ _ _ _ _ J,G _ _ _ _ _ u2,e3]
   simp[h.s,O,n1,S,o1,T _ _ _ _ _ I,hb _ _ _ _ _ J,G _ _ _ _ _ I,G _ _ _ _ _ J,e2]
  simp[h.s,O,S,T _ _ _ _ _ I,G _ _ _ _ _ I,e1]
 exact key 9998
theorem Un [h:S3 P t]{x:O1}{p q:Ed}(hx:ev f x=.agg (QF p).toArray)(G:ev f y=.agg (QF q).toArray):
  (execOp (ev f) ⟨d,.binOp .neq t x y E,ty,pS,af,gd⟩).run P w=.ok (.value (.bool (decide (¬p=q)))) w:=by
 have I:(eqGuard .neq t x y (.agg (QF p).toArray) (.agg (QF q).toArray)).run P w=.ok () w:=by simp[eqGuard,h.g]
 simp only[execOp,hx,G,Sem.run_bind,I,Result.andThen_ok,binOp,Ul,Sem.run_pure];by_cases e:p=q <;> simp[e]
end
theorem O3.O {L:LN}{w0:OZ}(h:O3 L w0 w)(k:O3 [b] w w')(G:w0.heap.size<=b):O3 L w0 w':=h.then k (λc E=>.inr (by simp at E;omega))
section
variable {K:Fr->OZ->Prop}{f:Fr}{pS:String}
theorem Xu {e bys:Nat}[h:Sl P t e sz bys z]{x:O1}{a:Option Addr}{c:Nat}(hx:ev f x=.slice a n c)(G:ev f y=nS):
  (execOp (ev f) ⟨d,.binOp .eql t x y E,ty,pS,af,gd⟩).run P w=.ok (.value (.bool a.isNone)) w:=by
 have I:(eqGuard .eql t x y (.slice a n c) (nS)).run P w=.ok () w:=by simp[eqGuard]
 have key:∀m,(Op.equalIn (m+1) t (.slice a n c) (nS)).run P w=.ok a.isNone w:=by
  intro m;unfold Op.equalIn;cases a <;> simp[run_underlying h.u]
 have J:(Op.equal t (.slice a n c) (nS)).run P w=.ok a.isNone w:=key 9999;simp only[execOp,hx,G,Sem.run_bind,I,Result.andThen_ok,binOp,J,Sem.run_pure]
theorem XQ {e bys:Nat}[h:Sl P t e sz bys z]
  (hK:∀b w',O3 [] w w'->w.heap.size<=b->Q7 w'.heap b e []->K (QY f d (.slice (some ⟨b,0,none⟩) 0 0)) w'):XO P ⟨d,.buildSlice t 0 #[],ty,pS,af,gd⟩ f w K:=by
 obtain⟨ie,E,I,J,_⟩:=Sl.info h;have G:(execOp (ev f) ⟨d,.buildSlice t 0 #[],ty,pS,af,gd⟩).run P w=.ok (.value (.slice (some ⟨w.heap.size,0,none⟩) 0 0)) (w.alloc (.cells #[] e)):=by
  simp[execOp,Instr.buildSlice,run_underlying h.u,sizeOf,typeInfo,E,Instr.fill,newRow];have e0:Array.map (λ_=>(default:O0)) (Array.range 0)=#[]:=by apply Array.ext';simp
  rw[e0]
 exact xv G (hK _ _ (O3.alloc w _) (Lx _) (J4 w _))
end
abbrev Qu (e base:Nat)(w:OZ)(v:O0)(l:LI):Prop:=w.ownsRow base e 1 v l.length (l.map (.int .i64))
theorem Qu.ints {e base:Nat}{v:O0}{l:LI}{L:LN}(h:Qu e base w v l)(E:l.length<=1099511627776)(G:∀b∈L,b<base):QQ L w.heap v l :=
 QH h E (λb I hbL=>ov (Qi h b I).1 (G b hbL))
theorem Uq (l:LI):∀u∈l.map (Value.int .i64),u.oneCell'=true:=by
 intro u E;obtain⟨n,_,rfl⟩:=LD.1 E;rfl
section
variable {P:O2}{ops:xA}{K:Fr->OZ->Prop}{f:Fr}{w:OZ}{d:xC}{ty:Nat}{pS:String}{af:xz}{gd:xo}{l:xA}{C:xw}{pl:xp}{i0:Nat}
 {t e sz bys:Nat} {z:O0} {x y1 y2:O1} {L:LN} {v:O0} {n:Nat} {cs:LV} {H:xx} {k k':IntKind} {lo hi:Nat}
theorem Qnu [h:Sl P t e sz bys z](E:QV ops i0=⟨d,.slice t x (some y1) none none,ty,pS,af,gd⟩)(G:Zv L H v n sz cs)(hx:ev f x=v)(hl:ev f y1=.int k lo)(I:lo<=n)(hK:∀v',Zv L H v' (n - lo) sz (cs.drop (lo*sz))->XP P ops C K pl (QY f d v') w)
  (J:Z4 ops f (QV ops i0)=true:=by rfl):XP P ops C K ((i0,true)::pl) f w:=by
 obtain⟨v',O,S⟩:=Qby (P:=P) (d:=d) (ty:=ty) (pS:=pS) (af:=af) (gd:=gd) (t:=t) G hx hl I;exact Lg.p (λw'=>by rw[E];exact S w') (by rw[E];exact hK v' O) J
theorem Qqh [h:Sl P t e sz bys z](E:Zv L H v n sz cs)(hx:ev f x=v)(hl:ev f y1=.int k lo)(G:lo<=n)(hK:∀v',Zv L H v' (n - lo) sz (cs.drop (lo*sz))->XL P ops K l (QY f d v') w)
  (I:Z4 ops f ⟨d,.slice t x (some y1) none none,ty,pS,af,gd⟩=true:=by rfl):XL P ops K (⟨d,.slice t x (some y1) none none,ty,pS,af,gd⟩::l) f w:=by
 obtain⟨v',J,O⟩:=Qby (P:=P) (d:=d) (ty:=ty) (pS:=pS) (af:=af) (gd:=gd) (t:=t) E hx hl G;exact xl I (xv (O w) (hK v' J))
theorem Qqi [h:Sl P t e sz bys z](E:Zv L H v n sz cs)(hx:ev f x=v)(hl:ev f y1=.int k lo)(G:ev f y2=.int k' hi)(I:lo<=hi)(J:hi<=n)(hK:∀v',Zv L H v' (hi - lo) sz ((cs.drop (lo*sz)).take ((hi - lo)*sz))->XL P ops K l (QY f d v') w)
  (O:Z4 ops f ⟨d,.slice t x (some y1) (some y2) none,ty,pS,af,gd⟩=true:=by rfl):XL P ops K (⟨d,.slice t x (some y1) (some y2) none,ty,pS,af,gd⟩::l) f w:=by
 obtain⟨v',S,T⟩:=QkZ (P:=P) (d:=d) (ty:=ty) (pS:=pS) (af:=af) (gd:=gd) (t:=t) E hx hl G I J;exact xl O (xv (T w) (hK v' S))
theorem Qm7 [h:Sl P t e sz bys z](E:Zv L H v n sz cs)(hx:ev f x=v)(G:ev f y2=.int k hi)(I:hi<=n)(hK:∀v',Zv L H v' hi sz (cs.take (hi*sz))->XL P ops K l (QY f d v') w)
  (J:Z4 ops f ⟨d,.slice t x none (some y2) none,ty,pS,af,gd⟩=true:=by rfl):XL P ops K (⟨d,.slice t x none (some y2) none,ty,pS,af,gd⟩::l) f w:=by
 obtain⟨v',O,S⟩:=Qbz (P:=P) (d:=d) (ty:=ty) (pS:=pS) (af:=af) (gd:=gd) (t:=t) E hx G I;exact xl J (xv (S w) (hK v' O))
end
theorem QQ.drop {L:LN}{H:xx}{v:O0}{l:LI}{lo:Nat}(h:Zv L H v (l.length - lo) 1 ((l.map (Value.int .i64)).drop (lo*1))):QQ L H v (l.drop lo):=by
 rw[Nat.mul_one,<-List.map_drop]at h;have e:(l.drop lo).length=l.length - lo:=LW;unfold QQ;rw[e];exact h
theorem Qu.snoc {e base:Nat}{v:O0}{l:LI}{n:Int}(h:w.ownsRow base e 1 v (l.length+1) (l.map (Value.int .i64)++[oF oG n])):Qu e base w v (l++[n]):=by
 unfold Qu;rw[Lj,Lp];exact h
def Dj (u v:O0):Prop:=∀b∈ob u,b∉ob v
theorem Dj.symm {u v:O0}(h:Dj u v):Dj v u:=λb E G=>h b G E
theorem Dj.nil (v:O0):Dj (nS) v:=λb E=>by simp[ob]at E
theorem Dj.nil' (v:O0):Dj v (nS):=(Dj.nil v).symm
theorem Dj.grow {u v:O0}(h:Dj u v)(I:∀b∈ob v',b∈ob v\/N<=b)(J:∀b∈ob u,b<N):Dj u v' :=
 λb E O=>by rcases I b O with G|G;exact h b E G;have:=J b E;omega
theorem Zb {base e:Nat}{v:O0}{cs:LV}(h:w.ownsRow base e sz v n cs):∀b∈ob v,b<w.heap.size:=λb E=>(Qi h b E).2
theorem QT {base e:Nat}{v:O0}{cs:LV}(h:w.ownsRow base e sz v n cs)(G:b<base):b∉ob v:=λE=>ou (Qi h b E).1
abbrev YB (e base:Nat)(w:OZ)(v:O0)(l:List Ed):Prop:=w.ownsRow base e 3 v l.length (l.flatMap QF)
theorem YB.snoc {e base:Nat}{v:O0}{l:List Ed}{n:Ed}(h:w.ownsRow base e 3 v (l.length+1) (l.flatMap QF++QF n)):YB e base w v (l++[n]):=by
 unfold YB;rw[Lj,LA];simpa using h
theorem YB.eds {e base:Nat}{v:O0}{l:List Ed}{L:LN}(h:YB e base w v l)(E:l.length<=1099511627776)(G:∀b∈L,b<base):qX L w.heap v l :=
 QH h E (λb I hbL=>ov (Qi h b I).1 (G b hbL))
def Jo (N:Nat)(H:xx)(v:O0)(a:Zd):Prop:=∃va vm ve,v=.agg #[va,oF oG a.st,vm,ve]/\∀L:LN,(∀b∈L,b<N)->ZK L H va vm ve a
theorem Jo.v {N:Nat}{H:xx}{v:O0}{a:Zd}(h:Jo N H v a){L:LN}(E:∀b∈L,b<N):Qq1 L H v a:=let⟨va,vm,ve,G,I⟩:=h;⟨va,vm,ve,G,I L E⟩
theorem Jo.mono {v:O0}{a:Zd}(h:Jo N H v a)(hM:M<=N):Jo M H v a:=let⟨va,vm,ve,E,G⟩:=h;⟨va,vm,ve,E,λL I=>G L (λb J=>LU (I b J) hM)⟩
section
variable {K:Fr->OZ->Prop}{f:Fr}{pS:String}
theorem q8 [XK P t]{x:O1}{l:LI}(h:Q7 w.heap b T (l.map (.int .i64)))(hx:ev f x=.pointer (some ⟨b,0+i*1,none⟩))(hi:i<l.length):
  (execOp (ev f) ⟨d,.load t x,ty,pS,af,gd⟩).run P w=.ok (.value (oF oG l[i])) w:=Qq h hx (by simp[hi])
theorem J8 [h1:XK P t]{x:O1}{l:LI}{u:Int}(E:Q7 w.heap b T (l.map (.int .i64)))(hx:ev f x=.pointer (some ⟨b,0+i*1,none⟩))(G:ev f y=oF oG u)(hi:i<l.length)
  (hK:∀w',O3 [b] w w'->Q7 w'.heap b T ((l.set i u).map (.int .i64))->K (QY f d undef) w'):XO P ⟨d,.store t x y,ty,pS,af,gd⟩ f w K:=by
 refine QA E hx G (oz hi) rfl λw' I J=>hK w' I ?_;rw[ON];simpa using J
end
theorem Qbx (n:Nat)(u:O0):(oN n [u]).flatten=oN n u:=by
 induction n with
 | zero=>rfl
 | succ n ih=>simp[List.replicate_succ,ih]
end Go.Lg
namespace Go.Proofs
open Go.Proofs.Tryz
open Go.Lg
instance:Sl prog 32 68 4 4 (.agg #[.int .u8 0,.int .u8 0,.int .u8 0,.int .u8 0]):=⟨underlying32,od,U,og⟩
instance:Sl prog 39 146 5 32 (.agg #[.string ByteArray.empty,.bool false,.bool false,.bool false,oF oG 0]):=⟨underlying39,od,U,og⟩
instance:Sl prog 40 64 5 96 (.agg #[.string ByteArray.empty,nS,oF oG 0,nS,nS]):=⟨underlying40,od,U,og⟩
instance:Sl prog 41 71 2 40 (.agg #[.string ByteArray.empty,nS]):=⟨underlying41,od,U,og⟩
instance:Sl prog 42 76 3 48 (.agg #[.string ByteArray.empty,nS,oF oG 0]):=⟨underlying42,od,U,og⟩
instance:Sl prog 56 3 1 8 (oF oG 0):=⟨underlying56,od,U,og⟩
instance:Sl prog 59 213 3 24 (.agg #[oF oG 0,oF oG 0,oF oG 0]):=⟨underlying59,od,U,og⟩
instance:Sl prog 69 73 2 16 (.agg #[oF oG 0,oF oG 0]):=⟨underlying69,od,U,og⟩
instance:Sl prog 74 78 2 16 (.agg #[oF oG 0,oF oG 0]):=⟨underlying74,od,U,og⟩
instance:Sl prog 81 138 9 160 (.agg #[oF oG 0,.string ByteArray.empty,nS,oF oG 0,nS,nS,nS,nS,oF oG 0]):=⟨underlying81,od,U,og⟩
instance:Sl prog 85 170 15 304 (.agg #[oF oG 0,.string ByteArray.empty,oF oG 0,nS,oF oG 0,nS,nS,nS,nS,nS,nS,nS,nS,nS,nS]):=⟨underlying85,od,U,og⟩
instance:Sl prog 86 114 2 24 (.agg #[oF oG 0,.string ByteArray.empty]):=⟨underlying86,od,U,og⟩
instance:Sl prog 91 88 3 72 (.agg #[nS,nS,nS]):=⟨underlying91,od,U,og⟩
instance:Sl prog 92 216 1 8 (.nilFunc):=⟨underlying92,od,U,og⟩
instance:Sl prog 95 121 15 304 (.agg #[oF oG 0,.string ByteArray.empty,oF oG 0,nS,oF oG 0,nS,nS,nS,nS,nS,nS,nS,nS,nS,nS]):=⟨underlying95,od,U,og⟩
instance:Sl prog 100 97 6 144 (.agg #[nS,nS,nS,nS,nS,nS]):=⟨underlying100,od,U,og⟩
instance:Sl prog 105 119 10 184 (.agg #[oF oG 0,.string ByteArray.empty,oF oG 0,nS,oF oG 0,nS,nS,nS,nS,nS]):=⟨underlying105,od,U,og⟩
instance:Sl prog 115 253 4 32 (.agg #[oF oG 0,oF oG 0,oF oG 0,oF oG 0]):=⟨underlying115,od,U,og⟩
instance:Sl prog 135 134 2 24 (.agg #[.string ByteArray.empty,oF oG 0]):=⟨underlying135,od,U,og⟩
instance:Sl prog 136 232 2 24 (.agg #[.string ByteArray.empty,oF oG 0]):=⟨underlying136,od,U,og⟩
instance:Sl prog 141 140 10 168 (.agg #[.bool false,oF oG 0,.string ByteArray.empty,nS,oF oG 0,nS,nS,nS,nS,oF oG 0]):=⟨underlying141,od,U,og⟩
instance:Sl prog 144 5 1 1 (.int .u8 0):=⟨underlying144,od,U,og⟩
instance:Sl prog 155 64 5 96 (.agg #[.string ByteArray.empty,nS,oF oG 0,nS,nS]):=⟨underlying155,od,U,og⟩
instance:Sl prog 165 173 3 40 (.agg #[oF oG 0,oF oG 0,nS]):=⟨underlying165,od,U,og⟩
instance:Sl prog 177 56 1 24 (nS):=⟨underlying177,od,U,og⟩
instance:Sl prog 178 223 4 32 (.agg #[oF oG 0,oF oG 0,oF oG 0,oF oG 0]):=⟨underlying178,od,U,og⟩
instance:Sl prog 237 241 3 24 (.agg #[oF oG 0,oF oG 0,.nilFunc]):=⟨underlying237,od,U,og⟩
instance:Sl prog 308 307 2 32 (.agg #[nS,oF oG 0]):=⟨underlying308,od,U,og⟩
instance:Sl prog 320 4 1 1 (.bool false):=⟨underlying320,od,U,og⟩
instance:Sl prog 339 61 4 80 (.agg #[nS,oF oG 0,nS,nS]):=⟨underlying339,od,U,og⟩
instance:Sl prog 352 394 1 8 (.nilFunc):=⟨underlying352,od,U,og⟩
instance:Sl prog 361 360 2 32 (.agg #[nS,oF oG 0]):=⟨underlying361,od,U,og⟩
instance:Sl prog 375 59 1 24 (nS):=⟨underlying375,od,U,og⟩
instance:Sl prog 384 423 1 8 (.map none):=⟨underlying384,od,U,og⟩
instance:Zh prog 28 0 0:=⟨od⟩
instance:Zh prog 28 1 1:=⟨od⟩
instance:Zh prog 28 2 2:=⟨od⟩
instance:Zh prog 36 0 0:=⟨od⟩
instance:Zh prog 36 1 5:=⟨od⟩
instance:Zh prog 36 2 6:=⟨od⟩
instance:Zh prog 36 3 9:=⟨od⟩
instance:Zh prog 36 4 90:=⟨od⟩
instance:Zh prog 36 5 91:=⟨od⟩
instance:Zh prog 36 6 93:=⟨od⟩
instance:Zh prog 36 7 147:=⟨od⟩
instance:Zh prog 36 8 148:=⟨od⟩
instance:Zh prog 36 9 151:=⟨od⟩
instance:Zh prog 44 0 0:=⟨od⟩
instance:Zh prog 44 1 1:=⟨od⟩
instance:Zh prog 44 2 2:=⟨od⟩
instance:Zh prog 44 3 3:=⟨od⟩
instance:Zh prog 44 4 4:=⟨od⟩
instance:Zh prog 61 0 0:=⟨od⟩
instance:Zh prog 61 1 1:=⟨od⟩
instance:Zh prog 61 2 2:=⟨od⟩
instance:Zh prog 61 3 3:=⟨od⟩
instance:Zh prog 64 0 0:=⟨od⟩
instance:Zh prog 64 1 1:=⟨od⟩
instance:Zh prog 71 0 0:=⟨od⟩
instance:Zh prog 71 1 1:=⟨od⟩
instance:Zh prog 73 0 0:=⟨od⟩
instance:Zh prog 73 1 1:=⟨od⟩
instance:Zh prog 76 0 0:=⟨od⟩
instance:Zh prog 76 1 1:=⟨od⟩
instance:Zh prog 76 2 2:=⟨od⟩
instance:Zh prog 78 0 0:=⟨od⟩
instance:Zh prog 78 1 1:=⟨od⟩
instance:Zh prog 88 0 0:=⟨od⟩
instance:Zh prog 88 1 1:=⟨od⟩
instance:Zh prog 88 2 2:=⟨od⟩
instance:Zh prog 94 0 0:=⟨od⟩
instance:Zh prog 94 1 5:=⟨od⟩
instance:Zh prog 94 2 6:=⟨od⟩
instance:Zh prog 94 3 7:=⟨od⟩
instance:Zh prog 94 4 8:=⟨od⟩
instance:Zh prog 97 1 5:=⟨od⟩
instance:Zh prog 102 0 0:=⟨od⟩
instance:Zh prog 102 1 1:=⟨od⟩
instance:Zh prog 102 2 2:=⟨od⟩
instance:Zh prog 114 1 1:=⟨od⟩
instance:Zh prog 117 0 0:=⟨od⟩
instance:Zh prog 117 1 1:=⟨od⟩
instance:Zh prog 117 2 2:=⟨od⟩
instance:Zh prog 119 0 0:=⟨od⟩
instance:Zh prog 119 1 2:=⟨od⟩
instance:Zh prog 119 2 3:=⟨od⟩
instance:Zh prog 119 3 7:=⟨od⟩
instance:Zh prog 121 0 0:=⟨od⟩
instance:Zh prog 121 1 10:=⟨od⟩
instance:Zh prog 128 0 0:=⟨od⟩
instance:Zh prog 128 1 1:=⟨od⟩
instance:Zh prog 128 2 2:=⟨od⟩
instance:Zh prog 134 0 0:=⟨od⟩
instance:Zh prog 134 1 1:=⟨od⟩
instance:Zh prog 138 0 0:=⟨od⟩
instance:Zh prog 138 1 1:=⟨od⟩
instance:Zh prog 138 2 2:=⟨od⟩
instance:Zh prog 138 3 6:=⟨od⟩
instance:Zh prog 138 4 7:=⟨od⟩
instance:Zh prog 138 5 8:=⟨od⟩
instance:Zh prog 140 0 0:=⟨od⟩
instance:Zh prog 140 1 1:=⟨od⟩
instance:Zh prog 146 0 0:=⟨od⟩
instance:Zh prog 146 1 1:=⟨od⟩
instance:Zh prog 146 2 2:=⟨od⟩
instance:Zh prog 146 3 3:=⟨od⟩
instance:Zh prog 146 4 4:=⟨od⟩
instance:Zh prog 170 0 0:=⟨od⟩
instance:Zh prog 170 1 10:=⟨od⟩
instance:Zh prog 173 0 0:=⟨od⟩
instance:Zh prog 173 1 1:=⟨od⟩
instance:Zh prog 173 2 2:=⟨od⟩
instance:Zh prog 180 0 0:=⟨od⟩
instance:Zh prog 180 1 4:=⟨od⟩
instance:Zh prog 180 2 5:=⟨od⟩
instance:Zh prog 180 3 6:=⟨od⟩
instance:Zh prog 180 4 7:=⟨od⟩
instance:Zh prog 182 0 0:=⟨od⟩
instance:Zh prog 182 1 3:=⟨od⟩
instance:Zh prog 182 2 4:=⟨od⟩
instance:Zh prog 182 3 8:=⟨od⟩
instance:Zh prog 213 0 0:=⟨od⟩
instance:Zh prog 213 1 1:=⟨od⟩
instance:Zh prog 213 2 2:=⟨od⟩
instance:Zh prog 223 0 0:=⟨od⟩
instance:Zh prog 232 0 0:=⟨od⟩
instance:Zh prog 232 1 1:=⟨od⟩
instance:Zh prog 241 0 0:=⟨od⟩
instance:Zh prog 241 1 1:=⟨od⟩
instance:Zh prog 241 2 2:=⟨od⟩
instance:Zh prog 246 0 0:=⟨od⟩
instance:Zh prog 246 1 1:=⟨od⟩
instance:Zh prog 246 2 2:=⟨od⟩
instance:Zh prog 246 3 3:=⟨od⟩
instance:Zh prog 253 0 0:=⟨od⟩
instance:Zh prog 271 0 0:=⟨od⟩
instance:Zh prog 271 1 5:=⟨od⟩
instance:Zh prog 271 2 9:=⟨od⟩
instance:Zh prog 271 3 10:=⟨od⟩
instance:Zh prog 271 4 14:=⟨od⟩
instance:Zh prog 271 5 15:=⟨od⟩
instance:Zh prog 271 6 18:=⟨od⟩
instance:Zh prog 307 0 0:=⟨od⟩
instance:Zh prog 307 1 1:=⟨od⟩
instance:Zh prog 322 0 0:=⟨od⟩
instance:Zh prog 322 1 4:=⟨od⟩
instance:Zh prog 322 2 5:=⟨od⟩
instance:Zh prog 322 3 6:=⟨od⟩
instance:Zh prog 343 0 0:=⟨od⟩
instance:Zh prog 343 1 1:=⟨od⟩
instance:Zh prog 360 0 0:=⟨od⟩
instance:Zh prog 360 1 1:=⟨od⟩
instance:Zh prog 386 0 0:=⟨od⟩
instance:Zh prog 386 1 1:=⟨od⟩
instance:Zh prog 386 2 2:=⟨od⟩
instance:XK prog 3:=⟨⟨_,underlying3,U⟩,od⟩
instance:XK prog 4:=⟨⟨_,underlying4,U⟩,od⟩
instance:XK prog 5:=⟨⟨_,underlying5,U⟩,od⟩
instance:XK prog 9:=⟨⟨_,underlying9,U⟩,od⟩
instance:XK prog 24:=⟨⟨_,underlying24,U⟩,od⟩
instance:XK prog 32:=⟨⟨_,underlying32,U⟩,od⟩
instance:XK prog 33:=⟨⟨_,underlying33,U⟩,od⟩
instance:XK prog 39:=⟨⟨_,underlying39,U⟩,od⟩
instance:XK prog 40:=⟨⟨_,underlying40,U⟩,od⟩
instance:XK prog 41:=⟨⟨_,underlying41,U⟩,od⟩
instance:XK prog 42:=⟨⟨_,underlying42,U⟩,od⟩
instance:XK prog 47:=⟨⟨_,underlying47,U⟩,od⟩
instance:XK prog 56:=⟨⟨_,underlying56,U⟩,od⟩
instance:XK prog 59:=⟨⟨_,underlying59,U⟩,od⟩
instance:XK prog 69:=⟨⟨_,underlying69,U⟩,od⟩
instance:XK prog 74:=⟨⟨_,underlying74,U⟩,od⟩
instance:XK prog 85:=⟨⟨_,underlying85,U⟩,od⟩
instance:XK prog 86:=⟨⟨_,underlying86,U⟩,od⟩
instance:XK prog 91:=⟨⟨_,underlying91,U⟩,od⟩
instance:XK prog 92:=⟨⟨_,underlying92,U⟩,od⟩
instance:XK prog 95:=⟨⟨_,underlying95,U⟩,od⟩
instance:XK prog 100:=⟨⟨_,underlying100,U⟩,od⟩
instance:XK prog 115:=⟨⟨_,underlying115,U⟩,od⟩
instance:XK prog 135:=⟨⟨_,underlying135,U⟩,od⟩
instance:XK prog 136:=⟨⟨_,underlying136,U⟩,od⟩
instance:XK prog 144:=⟨⟨_,underlying144,U⟩,od⟩
instance:XK prog 177:=⟨⟨_,underlying177,U⟩,od⟩
instance:XK prog 178:=⟨⟨_,underlying178,U⟩,od⟩
instance:XK prog 216:=⟨⟨_,underlying216,U⟩,od⟩
instance:XK prog 239:=⟨⟨_,underlying239,U⟩,od⟩
instance:XK prog 266:=⟨⟨_,underlying266,U⟩,od⟩
instance:XK prog 269:=⟨⟨_,underlying269,U⟩,od⟩
instance:XK prog 319:=⟨⟨_,underlying319,U⟩,od⟩
instance:XK prog 320:=⟨⟨_,underlying320,U⟩,od⟩
instance:XK prog 339:=⟨⟨_,underlying339,U⟩,od⟩
instance:XK prog 341:=⟨⟨_,underlying341,U⟩,od⟩
instance:XK prog 384:=⟨⟨_,underlying384,U⟩,od⟩
instance:XK prog 394:=⟨⟨_,underlying394,U⟩,od⟩
instance:XK prog 423:=⟨⟨_,underlying423,U⟩,od⟩
instance:Ag prog 23 5:=⟨⟨_,underlying23,U⟩,od⟩
instance:Ag prog 28 27:=⟨⟨_,underlying28,U⟩,od⟩
instance:Ag prog 36 152:=⟨⟨_,underlying36,U⟩,od⟩
instance:Ag prog 44 5:=⟨⟨_,underlying44,U⟩,od⟩
instance:Ag prog 61 4:=⟨⟨_,underlying61,U⟩,od⟩
instance:Ag prog 64 5:=⟨⟨_,underlying64,U⟩,od⟩
instance:Ag prog 68 4:=⟨⟨_,underlying68,U⟩,od⟩
instance:Ag prog 71 2:=⟨⟨_,underlying71,U⟩,od⟩
instance:Ag prog 73 2:=⟨⟨_,underlying73,U⟩,od⟩
instance:Ag prog 76 3:=⟨⟨_,underlying76,U⟩,od⟩
instance:Ag prog 78 2:=⟨⟨_,underlying78,U⟩,od⟩
instance:Ag prog 88 3:=⟨⟨_,underlying88,U⟩,od⟩
instance:Ag prog 97 6:=⟨⟨_,underlying97,U⟩,od⟩
instance:Ag prog 114 2:=⟨⟨_,underlying114,U⟩,od⟩
instance:Ag prog 117 3:=⟨⟨_,underlying117,U⟩,od⟩
instance:Ag prog 119 10:=⟨⟨_,underlying119,U⟩,od⟩
instance:Ag prog 121 15:=⟨⟨_,underlying121,U⟩,od⟩
instance:Ag prog 128 3:=⟨⟨_,underlying128,U⟩,od⟩
instance:Ag prog 134 2:=⟨⟨_,underlying134,U⟩,od⟩
instance:Ag prog 138 9:=⟨⟨_,underlying138,U⟩,od⟩
instance:Ag prog 140 10:=⟨⟨_,underlying140,U⟩,od⟩
instance:Ag prog 146 5:=⟨⟨_,underlying146,U⟩,od⟩
instance:Ag prog 170 15:=⟨⟨_,underlying170,U⟩,od⟩
instance:Ag prog 173 3:=⟨⟨_,underlying173,U⟩,od⟩
instance:Ag prog 180 8:=⟨⟨_,underlying180,U⟩,od⟩
instance:Ag prog 182 9:=⟨⟨_,underlying182,U⟩,od⟩
instance:Ag prog 213 3:=⟨⟨_,underlying213,U⟩,od⟩
instance:Ag prog 223 4:=⟨⟨_,underlying223,U⟩,od⟩
instance:Ag prog 232 2:=⟨⟨_,underlying232,U⟩,od⟩
instance:Ag prog 241 3:=⟨⟨_,underlying241,U⟩,od⟩
instance:Ag prog 246 4:=⟨⟨_,underlying246,U⟩,od⟩
instance:Ag prog 253 4:=⟨⟨_,underlying253,U⟩,od⟩
instance:Ag prog 307 2:=⟨⟨_,underlying307,U⟩,od⟩
instance:Ag prog 360 2:=⟨⟨_,underlying360,U⟩,od⟩
instance:Ag prog 386 3:=⟨⟨_,underlying386,U⟩,od⟩
instance:Ze prog 3 (oF oG 0):=⟨od⟩
instance:Ze prog 4 (.bool false):=⟨od⟩
instance:Ze prog 44 (.agg #[nS,nS,nS,nS,nS]):=⟨od⟩
instance:Ze prog 47 (oF oG 0):=⟨od⟩
instance:Ze prog 56 (nS):=⟨od⟩
instance:Ze prog 61 (.agg #[nS,oF oG 0,nS,nS]):=⟨od⟩
instance:Ze prog 64 (.agg #[.string ByteArray.empty,nS,oF oG 0,nS,nS]):=⟨od⟩
instance:Ze prog 68 (.agg #[.int .u8 0,.int .u8 0,.int .u8 0,.int .u8 0]):=⟨od⟩
instance:Ze prog 71 (.agg #[.string ByteArray.empty,nS]):=⟨od⟩
instance:Ze prog 73 (.agg #[oF oG 0,oF oG 0]):=⟨od⟩
instance:Ze prog 76 (.agg #[.string ByteArray.empty,nS,oF oG 0]):=⟨od⟩
instance:Ze prog 78 (.agg #[oF oG 0,oF oG 0]):=⟨od⟩
instance:Ze prog 85 (nS):=⟨od⟩
instance:Ze prog 88 (.agg #[nS,nS,nS]):=⟨od⟩
instance:Ze prog 97 (.agg #[nS,nS,nS,nS,nS,nS]):=⟨od⟩
instance:Ze prog 114 (.agg #[oF oG 0,.string ByteArray.empty]):=⟨od⟩
instance:Ze prog 117 (.agg #[nS,nS,nS]):=⟨od⟩
instance:Ze prog 119 (.agg #[oF oG 0,.string ByteArray.empty,oF oG 0,nS,oF oG 0,nS,nS,nS,nS,nS]):=⟨od⟩
instance:Ze prog 121 (.agg #[oF oG 0,.string ByteArray.empty,oF oG 0,nS,oF oG 0,nS,nS,nS,nS,nS,nS,nS,nS,nS,nS]):=⟨od⟩
instance:Ze prog 128 (.agg #[nS,nS,nS]):=⟨od⟩
instance:Ze prog 134 (.agg #[.string ByteArray.empty,oF oG 0]):=⟨od⟩
instance:Ze prog 138 (.agg #[oF oG 0,.string ByteArray.empty,nS,oF oG 0,nS,nS,nS,nS,oF oG 0]):=⟨od⟩
instance:Ze prog 140 (.agg #[.bool false,oF oG 0,.string ByteArray.empty,nS,oF oG 0,nS,nS,nS,nS,oF oG 0]):=⟨od⟩
instance:Ze prog 146 (.agg #[.string ByteArray.empty,.bool false,.bool false,.bool false,oF oG 0]):=⟨od⟩
instance:Ze prog 170 (.agg #[oF oG 0,.string ByteArray.empty,oF oG 0,nS,oF oG 0,nS,nS,nS,nS,nS,nS,nS,nS,nS,nS]):=⟨od⟩
instance:Ze prog 173 (.agg #[oF oG 0,oF oG 0,nS]):=⟨od⟩
instance:Ze prog 180 (.agg #[nS,oF oG 0,nS,nS,nS,nS,nS,nS]):=⟨od⟩
instance:Ze prog 182 (.agg #[nS,nS,nS,oF oG 0,nS,oF oG 0,nS,nS,nS]):=⟨od⟩
instance:Ze prog 213 (.agg #[oF oG 0,oF oG 0,oF oG 0]):=⟨od⟩
instance:Ze prog 223 (.agg #[oF oG 0,oF oG 0,oF oG 0,oF oG 0]):=⟨od⟩
instance:Ze prog 232 (.agg #[.string ByteArray.empty,oF oG 0]):=⟨od⟩
instance:Ze prog 241 (.agg #[oF oG 0,oF oG 0,.nilFunc]):=⟨od⟩
instance:Ze prog 246 (.agg #[nS,nS,nS,nS]):=⟨od⟩
instance:Ze prog 253 (.agg #[oF oG 0,oF oG 0,oF oG 0,oF oG 0]):=⟨od⟩
instance:Ze prog 307 (.agg #[nS,oF oG 0]):=⟨od⟩
instance:Ze prog 343 (.agg #[.pointer none,nS]):=⟨od⟩
instance:Ze prog 360 (.agg #[nS,oF oG 0]):=⟨od⟩
instance:Ze prog 386 (.agg #[nS,nS,nS]):=⟨od⟩
instance:Bs prog 44 [nS,nS,nS,nS,nS] [0,1,2,3,4]:=⟨od,og⟩
instance:Bs prog 61 [nS,oF oG 0,nS,nS] [0,1,2,3]:=⟨od,og⟩
instance:Bs prog 71 [.string ByteArray.empty,nS] [0,1]:=⟨od,og⟩
instance:Bs prog 73 [oF oG 0,oF oG 0] [0,1]:=⟨od,og⟩
instance:Bs prog 76 [.string ByteArray.empty,nS,oF oG 0] [0,1,2]:=⟨od,og⟩
instance:Bs prog 78 [oF oG 0,oF oG 0] [0,1]:=⟨od,og⟩
instance:Bs prog 88 [nS,nS,nS] [0,1,2]:=⟨od,og⟩
instance:Bs prog 102 [nS,nS,oF oG 0] [0,1,2]:=⟨od,og⟩
instance:Bs prog 114 [oF oG 0,.string ByteArray.empty] [0,1]:=⟨od,og⟩
instance:Bs prog 117 [nS,nS,nS] [0,1,2]:=⟨od,og⟩
instance:Bs prog 128 [nS,nS,nS] [0,1,2]:=⟨od,og⟩
instance:Bs prog 134 [.string ByteArray.empty,oF oG 0] [0,1]:=⟨od,og⟩
instance:Bs prog 146 [.string ByteArray.empty,.bool false,.bool false,.bool false,oF oG 0] [0,1,2,3,4]:=⟨od,og⟩
instance:Bs prog 173 [oF oG 0,oF oG 0,nS] [0,1,2]:=⟨od,og⟩
instance:Bs prog 213 [oF oG 0,oF oG 0,oF oG 0] [0,1,2]:=⟨od,og⟩
instance:Bs prog 223 [oF oG 0,oF oG 0,oF oG 0,oF oG 0] [0,1,2,3]:=⟨od,og⟩
instance:Bs prog 232 [.string ByteArray.empty,oF oG 0] [0,1]:=⟨od,og⟩
instance:Bs prog 241 [oF oG 0,oF oG 0,.nilFunc] [0,1,2]:=⟨od,og⟩
instance:Bs prog 246 [nS,nS,nS,nS] [0,1,2,3]:=⟨od,og⟩
instance:Bs prog 253 [oF oG 0,oF oG 0,oF oG 0,oF oG 0] [0,1,2,3]:=⟨od,og⟩
instance:Bs prog 307 [nS,oF oG 0] [0,1]:=⟨od,og⟩
instance:Bs prog 360 [nS,oF oG 0] [0,1]:=⟨od,og⟩
instance:Bs prog 386 [nS,nS,nS] [0,1,2]:=⟨od,og⟩
instance:Bs prog 424 [oF oG 0,oF oG 0] [0,1]:=⟨od,og⟩
instance:Ik prog 3 .i64:=⟨underlying3⟩
instance:Ik prog 5 .u8:=⟨underlying5⟩
instance:St prog 9:=⟨underlying9⟩
instance:Ik prog 21 .i32:=⟨underlying21⟩
instance:Ik prog 33 .i8:=⟨underlying33⟩
instance:Ik prog 226 .u64:=⟨underlying226⟩
instance:S3 prog 213:=⟨⟨_,_,_,underlying213,og,og,og,U,U,U,underlying3,underlying3,underlying3⟩,od,od⟩
instance:Mp prog 124 9 4 (.bool false):=⟨underlying124,od⟩
instance:Key prog 9 JB:=Qlq underlying9
instance:Mp prog 168 114 170 (.agg #[oF oG 0,.string ByteArray.empty,oF oG 0,nS,oF oG 0,nS,nS,nS,nS,nS,nS,nS,nS,nS,nS]):=⟨underlying168,od⟩
instance:Mp prog 171 114 4 (.bool false):=⟨underlying171,od⟩
instance:Mp prog 269 9 3 (oF oG 0):=⟨underlying269,od⟩
instance:Mp prog 313 3 312 (.nilFunc):=⟨underlying313,od⟩
instance:Key prog 3 VY:=Qlr underlying3
instance:Mp prog 319 3 56 (nS):=⟨underlying319,od⟩
instance:Mp prog 376 3 3 (oF oG 0):=⟨underlying376,od⟩
instance:Mp prog 423 424 3 (oF oG 0):=⟨underlying423,od⟩
instance:Key prog 424 Je:=Qir underlying424 underlying3 od
instance:Fu prog 4 Tryz.f4:=Zo func4
instance:Fu prog 5 Tryz.f5:=Zo func5
instance:Fu prog 6 Tryz.f6:=Zo func6
instance:Fu prog 7 Tryz.f7:=Zo func7
instance:Fu prog 8 Tryz.f8:=Zo func8
instance:Fu prog 9 Tryz.f9:=Zo func9
instance:Fu prog 10 Tryz.f10:=Zo func10
instance:Fu prog 11 Tryz.f11:=Zo func11
instance:Fu prog 12 Tryz.f12:=Zo func12
instance:Fu prog 13 Tryz.f13:=Zo func13
instance:Fu prog 14 Tryz.f14:=Zo func14
instance:Fu prog 15 Tryz.f15:=Zo func15
instance:Fu prog 16 Tryz.f16:=Zo func16
instance:Fu prog 17 Tryz.f17:=Zo func17
instance:Fu prog 18 Tryz.f18:=Zo func18
instance:Fu prog 19 Tryz.f19:=Zo func19
instance:Fu prog 20 Tryz.f20:=Zo func20
instance:Fu prog 21 Tryz.f21:=Zo func21
instance:Fu prog 22 Tryz.f22:=Zo func22
instance:Fu prog 23 Tryz.f23:=Zo func23
instance:Fu prog 24 Tryz.f24:=Zo func24
instance:Fu prog 25 Tryz.f25:=Zo func25
instance:Fu prog 26 Tryz.f26:=Zo func26
instance:Fu prog 27 Tryz.f27:=Zo func27
instance:Fu prog 28 Tryz.f28:=Zo func28
instance:Fu prog 29 Tryz.f29:=Zo func29
instance:Fu prog 30 Tryz.f30:=Zo func30
instance:Fu prog 31 Tryz.f31:=Zo func31
instance:Fu prog 32 Tryz.f32:=Zo func32
instance:Fu prog 33 Tryz.f33:=Zo func33
instance:Fu prog 34 Tryz.f34:=Zo func34
instance:Fu prog 35 Tryz.f35:=Zo func35
instance:Fu prog 36 Tryz.f36:=Zo func36
instance:Fu prog 37 Tryz.f37:=Zo func37
instance:Fu prog 38 Tryz.f38:=Zo func38
instance:Fu prog 39 Tryz.f39:=Zo func39
instance:Fu prog 40 Tryz.f40:=Zo func40
instance:Fu prog 41 Tryz.f41:=Zo func41
instance:Fu prog 42 Tryz.f42:=Zo func42
instance:Fu prog 43 Tryz.f43:=Zo func43
instance:Fu prog 44 Tryz.f44:=Zo func44
instance:Fu prog 45 Tryz.f45:=Zo func45
instance:Fu prog 46 Tryz.f46:=Zo func46
instance:Fu prog 47 Tryz.f47:=Zo func47
instance:Fu prog 48 Tryz.f48:=Zo func48
instance:Fu prog 49 Tryz.f49:=Zo func49
instance:Fu prog 50 Tryz.f50:=Zo func50
instance:Fu prog 51 Tryz.f51:=Zo func51
instance:Fu prog 52 Tryz.f52:=Zo func52
instance:Fu prog 53 Tryz.f53:=Zo func53
instance:Fu prog 54 Tryz.f54:=Zo func54
instance:Fu prog 55 Tryz.f55:=Zo func55
instance:Fu prog 56 Tryz.f56:=Zo func56
instance:Fu prog 57 Tryz.f57:=Zo func57
instance:Fu prog 58 Tryz.f58:=Zo func58
instance:Fu prog 59 Tryz.f59:=Zo func59
instance:Fu prog 60 Tryz.f60:=Zo func60
instance:Fu prog 61 Tryz.f61:=Zo func61
instance:Fu prog 62 Tryz.f62:=Zo func62
instance:Fu prog 63 Tryz.f63:=Zo func63
instance:Fu prog 64 Tryz.f64:=Zo func64
instance:Fu prog 65 Tryz.f65:=Zo func65
instance:Fu prog 66 Tryz.f66:=Zo func66
instance:Fu prog 67 Tryz.f67:=Zo func67
instance:Fu prog 68 Tryz.f68:=Zo func68
instance:Fu prog 69 Tryz.f69:=Zo func69
instance:Fu prog 70 Tryz.f70:=Zo func70
instance:Fu prog 71 Tryz.f71:=Zo func71
instance:Fu prog 72 Tryz.f72:=Zo func72
instance:Fu prog 73 Tryz.f73:=Zo func73
instance:Fu prog 74 Tryz.f74:=Zo func74
instance:Fu prog 75 Tryz.f75:=Zo func75
instance:Fu prog 76 Tryz.f76:=Zo func76
instance:Fu prog 77 Tryz.f77:=Zo func77
instance:Fu prog 78 Tryz.f78:=Zo func78
instance:Fu prog 79 Tryz.f79:=Zo func79
instance:Fu prog 80 Tryz.f80:=Zo func80
instance:Fu prog 81 Tryz.f81:=Zo func81
instance:Fu prog 82 Tryz.f82:=Zo func82
instance:Fu prog 83 Tryz.f83:=Zo func83
instance:Fu prog 84 Tryz.f84:=Zo func84
instance:Fu prog 85 Tryz.f85:=Zo func85
instance:Fu prog 86 Tryz.f86:=Zo func86
instance:Fu prog 87 Tryz.f87:=Zo func87
instance:Fu prog 88 Tryz.f88:=Zo func88
instance:Fu prog 89 Tryz.f89:=Zo func89
instance:Fu prog 90 Tryz.f90:=Zo func90
instance:Fu prog 91 Tryz.f91:=Zo func91
instance:Fu prog 92 Tryz.f92:=Zo func92
instance:Fu prog 93 Tryz.f93:=Zo func93
instance:Fu prog 94 Tryz.f94:=Zo func94
instance:Fu prog 95 Tryz.f95:=Zo func95
instance:Fu prog 96 Tryz.f96:=Zo func96
instance:Fu prog 97 Tryz.f97:=Zo func97
instance:Fu prog 98 Tryz.f98:=Zo func98
instance:Fu prog 99 Tryz.f99:=Zo func99
instance:Fu prog 100 Tryz.f100:=Zo func100
instance:Fu prog 101 Tryz.f101:=Zo func101
instance:Fu prog 102 Tryz.f102:=Zo func102
instance:Fu prog 105 Tryz.f105:=Zo func105
instance:Fu prog 106 Tryz.f106:=Zo func106
instance:Fu prog 107 Tryz.f107:=Zo func107
instance:Fu prog 108 Tryz.f108:=Zo func108
instance:Fu prog 109 Tryz.f109:=Zo func109
instance:Fu prog 110 Tryz.f110:=Zo func110
instance:Fu prog 111 Tryz.f111:=Zo func111
instance:Fu prog 112 Tryz.f112:=Zo func112
instance:Fu prog 113 Tryz.f113:=Zo func113
instance:Fu prog 114 Tryz.f114:=Zo func114
instance:Fu prog 115 Tryz.f115:=Zo func115
instance:Fu prog 116 Tryz.f116:=Zo func116
instance:Fu prog 117 Tryz.f117:=Zo func117
instance:Fu prog 118 Tryz.f118:=Zo func118
instance:Fu prog 119 Tryz.f119:=Zo func119
instance:Fu prog 120 Tryz.f120:=Zo func120
instance:Fu prog 121 Tryz.f121:=Zo func121
instance:Fu prog 122 Tryz.f122:=Zo func122
instance:Fu prog 123 Tryz.f123:=Zo func123
instance:Fu prog 124 Tryz.f124:=Zo func124
instance:Fu prog 125 Tryz.f125:=Zo func125
instance:Fu prog 126 Tryz.f126:=Zo func126
instance:Fu prog 127 Tryz.f127:=Zo func127
instance:Fu prog 128 Tryz.f128:=Zo func128
instance:Fu prog 129 Tryz.f129:=Zo func129
instance:Fu prog 130 Tryz.f130:=Zo func130
instance:Fu prog 131 Tryz.f131:=Zo func131
instance:Fu prog 132 Tryz.f132:=Zo func132
instance:Fu prog 133 Tryz.f133:=Zo func133
instance:Fu prog 134 Tryz.f134:=Zo func134
instance:Fu prog 135 Tryz.f135:=Zo func135
instance:Fu prog 136 Tryz.f136:=Zo func136
instance:Fu prog 137 Tryz.f137:=Zo func137
instance:Fu prog 138 Tryz.f138:=Zo func138
instance:Fu prog 139 Tryz.f139:=Zo func139
instance:Fu prog 141 Tryz.f141:=Zo func141
instance:Fu prog 142 Tryz.f142:=Zo func142
instance:Fu prog 143 Tryz.f143:=Zo func143
instance:Fu prog 144 Tryz.f144:=Zo func144
instance:Fu prog 145 Tryz.f145:=Zo func145
instance:Fu prog 146 Tryz.f146:=Zo func146
instance:Fu prog 147 Tryz.f147:=Zo func147
instance:Fu prog 154 Tryz.f154:=Zo func154
instance:Fu prog 159 Tryz.f159:=Zo func159
instance:Fu prog 160 Tryz.f160:=Zo func160
instance:Fu prog 161 Tryz.f161:=Zo func161
instance:Fu prog 162 Tryz.f162:=Zo func162
instance:Fu prog 163 Tryz.f163:=Zo func163
instance:Fu prog 164 Tryz.f164:=Zo func164
instance:Fu prog 165 Tryz.f165:=Zo func165
instance:Fu prog 166 Tryz.f166:=Zo func166
instance:Fu prog 167 Tryz.f167:=Zo func167
instance:Fu prog 168 Tryz.f168:=Zo func168
instance:Fu prog 169 Tryz.f169:=Zo func169
instance:Fu prog 170 Tryz.f170:=Zo func170
instance:Fu prog 171 Tryz.f171:=Zo func171
instance:Fu prog 172 Tryz.f172:=Zo func172
instance:Fu prog 173 Tryz.f173:=Zo func173
instance:Fu prog 174 Tryz.f174:=Zo func174
instance:Fu prog 176 Tryz.f176:=Zo func176
instance:Fu prog 181 Tryz.f181:=Zo func181
instance:Fu prog 182 Tryz.f182:=Zo func182
instance:Fu prog 183 Tryz.f183:=Zo func183
instance:Fu prog 184 Tryz.f184:=Zo func184
instance:Fu prog 186 Tryz.f186:=Zo func186
instance:Fu prog 187 Tryz.f187:=Zo func187
instance:Fu prog 188 Tryz.f188:=Zo func188
instance:Fu prog 189 Tryz.f189:=Zo func189
instance:Fu prog 190 Tryz.f190:=Zo func190
instance:Fu prog 191 Tryz.f191:=Zo func191
instance:Fu prog 192 Tryz.f192:=Zo func192
instance:Fu prog 193 Tryz.f193:=Zo func193
instance:Fu prog 194 Tryz.f194:=Zo func194
instance:Fu prog 196 Tryz.f196:=Zo func196
instance:Fu prog 198 Tryz.f198:=Zo func198
instance:Fu prog 199 Tryz.f199:=Zo func199
instance:Fu prog 200 Tryz.f200:=Zo func200
instance:Fu prog 201 Tryz.f201:=Zo func201
instance:Fu prog 202 Tryz.f202:=Zo func202
instance:Fu prog 203 Tryz.f203:=Zo func203
instance:Fu prog 204 Tryz.f204:=Zo func204
instance:Fu prog 205 Tryz.f205:=Zo func205
instance:Fu prog 206 Tryz.f206:=Zo func206
instance:Fu prog 207 Tryz.f207:=Zo func207
instance:Fu prog 208 Tryz.f208:=Zo func208
instance:Fu prog 209 Tryz.f209:=Zo func209
instance:Fu prog 211 Tryz.f211:=Zo func211
instance:Fu prog 212 Tryz.f212:=Zo func212
instance:Fu prog 213 Tryz.f213:=Zo func213
instance:Fu prog 214 Tryz.f214:=Zo func214
instance:Fu prog 215 Tryz.f215:=Zo func215
instance:Fu prog 216 Tryz.f216:=Zo func216
instance:Fu prog 222 Tryz.f222:=Zo func222
instance:Fu prog 223 Tryz.f223:=Zo func223
instance:Fu prog 224 Tryz.f224:=Zo func224
instance:Fu prog 225 Tryz.f225:=Zo func225
instance:Fu prog 227 Tryz.f227:=Zo func227
instance:Fu prog 228 Tryz.f228:=Zo func228
instance:Fu prog 229 Tryz.f229:=Zo func229
instance:Fu prog 234 Tryz.f234:=Zo func234
instance:Fu prog 235 Tryz.f235:=Zo func235
instance:Fu prog 236 Tryz.f236:=Zo func236
instance:Fu prog 237 Tryz.f237:=Zo func237
instance:Fu prog 238 Tryz.f238:=Zo func238
instance:Fu prog 239 Tryz.f239:=Zo func239
instance:Fu prog 240 Tryz.f240:=Zo func240
instance:Fu prog 242 Tryz.f242:=Zo func242
instance:Fu prog 243 Tryz.f243:=Zo func243
instance:Fu prog 244 Tryz.f244:=Zo func244
instance:Fu prog 245 Tryz.f245:=Zo func245
instance:Fu prog 246 Tryz.f246:=Zo func246
instance:Fu prog 247 Tryz.f247:=Zo func247
instance:Fu prog 248 Tryz.f248:=Zo func248
instance:Fu prog 257 Tryz.f257:=Zo func257
instance:Fu prog 258 Tryz.f258:=Zo func258
instance:Fu prog 259 Tryz.f259:=Zo func259
instance:Fu prog 287 Tryz.f287:=Zo func287
instance:Fu prog 288 Tryz.f288:=Zo func288
instance:Fu prog 291 Tryz.f291:=Zo func291
instance:Fu prog 292 Tryz.f292:=Zo func292
instance:Fu prog 293 Tryz.f293:=Zo func293
instance:Fu prog 294 Tryz.f294:=Zo func294
instance:Fu prog 295 Tryz.f295:=Zo func295
instance:Fu prog 299 Tryz.f299:=Zo func299
instance:Fu prog 300 Tryz.f300:=Zo func300
instance:Fu prog 301 Tryz.f301:=Zo func301
instance:Fu prog 316 Tryz.f316:=Zo func316
theorem mixed:prog.follows .mixedOrders=true:=od
end Go.Proofs
namespace Go.Lg
def xd (es:List Ed)(s e:Int):Int:=match es with
 | []=>-1
 | x::es=>if x.1=s/\x.2.1=e then x.2.2 else xd es s e
abbrev Y1 (l:LI):Prop:=l.Pairwise (·<·)
def yL:Option Int->Int->Bool
 | none,_=>false
 | some b,a=>decide (a<=b)
def Kf (n:Int):Option Int->LI->Int
 | _,[]=>0
 | pr,a::l=>if a<0\/n<=a then 2 else if yL pr a=true then 5 else Kf n (some a) l
def pv {α:Type}(l:List α)(k:Nat):Option α:=if k=0 then none else l[k - 1]?
theorem Vp {l:List α}{k:Nat}(h:k<l.length):pv l (k+1)=some l[k]:=by simp[pv,h]
def edO:Option Ed->Ed->Bool
 | none,_=>false
 | some y,a=>decide (a.1<y.1\/(a.1=y.1/\a.2.1<=y.2.1))
def ckE (al:LI)(st:Int):Option Ed->List Ed->Int
 | _,[]=>0
 | pr,a::l=>if a.1<0\/st<=a.1\/a.2.2<0\/st<=a.2.2 then 2 else if a.2.1∉al then 9 else if edO pr a=true then 5 else ckE al st (some a) l
def KD (a:Zd):Int :=
 if Kf 32 none a.al≠0 then Kf 32 none a.al else if a.st<0 then 2 else if 4096<a.st then 3 else if Kf a.st none a.mr≠0 then Kf a.st none a.mr else ckE a.al a.st none a.ed
def Jj:LI->LI->Bool
 | [],_=>false
 | _::_,[]=>true
 | a::_,b::_=>decide (a<=b)
def tl (c:Bool)(l:LI):LI:=bif c then l.tail else l
def hx (a b:LI):Int:=bif Jj b a then b.headD 0 else a.headD 0
def yK (keep:Bool->Bool->Bool):Nat->LI->LI->LI
 | 0,_,_=>[]
 | n+1,a,b=>if a=[]/\b=[]then[]else(bif keep (Jj a b) (Jj b a)then[hx a b]else[])++yK keep n (tl (Jj a b) a) (tl (Jj b a) b)
def mrg (keep:Bool->Bool->Bool)(a b:LI):LI:=yK keep (a.length+b.length) a b
theorem zZ {a b:LI}(h:¬(a=[]/\b=[])):(tl (Jj a b) a).length+(tl (Jj b a) b).length<a.length+b.length:=by
 cases a with
 | nil=>cases b with
  | nil=>simp at h
  | cons y b=>simp[Jj,tl]
 | cons x a=>cases b with
  | nil=>simp[Jj,tl]
  | cons y b =>
   simp only[Jj,tl];by_cases E:x<=y <;> by_cases G:y<=x <;> simp[E,G] <;> omega
theorem jr (keep:Bool->Bool->Bool):∀(n:Nat) (a b:LI),a.length+b.length<=n->yK keep n a b=mrg keep a b:=by
 have key:∀(n m:Nat) (a b:LI),a.length+b.length<=n->a.length+b.length<=m->yK keep n a b=yK keep m a b:=by
  intro n;induction n with
  | zero =>
   intro m a b E _;have G:a=[]:=Lq oa;have H:b=[]:=Lq oa;subst G H;cases m <;> simp[yK]
  | succ n ih =>
   intro m a b E I;by_cases h:a=[]/\b=[]
   ·obtain⟨rfl,rfl⟩:=h;cases m <;> simp[yK]
   have J:=zZ h;cases m with
   | zero=>omega
   | succ m=>rw[yK,yK,OR h,OR h,ih m _ _ oa oa]
 intro n a b h;exact key n _ a b h (Lx _)
theorem Kw (keep:Bool->Bool->Bool):mrg keep [] []=[]:=rfl
theorem J9 (keep:Bool->Bool->Bool){a b:LI}(h:¬(a=[]/\b=[])):
  mrg keep a b=(bif keep (Jj a b) (Jj b a)then[hx a b]else[])++mrg keep (tl (Jj a b) a) (tl (Jj b a) b):=by
 have E:=zZ h;rw[<-jr keep (a.length+b.length - 1+1) a b oa,yK,OR h,jr keep _ _ _ oa]
theorem Qdh (keep:Bool->Bool->Bool):∀(n:Nat) (a b:LI),a.length+b.length<=n->(mrg keep a b).length<=a.length+b.length:=by
 intro n;induction n with
 | zero =>
  intro a b h;have E:a=[]:=Lq oa;have G:b=[]:=Lq oa;subst E G;simp[Kw]
 | succ n ih =>
  intro a b H;by_cases h:a=[]/\b=[]
  ·obtain⟨rfl,rfl⟩:=h;simp[Kw]
  have I:=zZ h;rw[J9 keep h];have:=ih (tl (Jj a b) a) (tl (Jj b a) b) oa;cases keep (Jj a b) (Jj b a) <;> simp <;> omega
theorem Qax (keep:Bool->Bool->Bool)(a b:LI):(mrg keep a b).length<=a.length+b.length:=Qdh keep _ a b (Lx _)
theorem QdD (q:α->Bool)(es:List α)(lo hi:Nat)(O:lo<=hi)(S:hi<=es.length)(H:∀m (E:m<es.length),m<lo->q es[m]=false)(I:∀m (E:m<es.length),lo<=m->m<hi->q es[m]=true)
  (J:∀m (E:m<es.length),hi<=m->q es[m]=false):(es.drop lo).take (hi - lo)=es.filter q:=by
 have e1:es=es.take lo++((es.drop lo).take (hi - lo)++es.drop hi):=by
  conv=>lhs;rw[<-MB lo es]
  congr 1;conv=>lhs;rw[<-MB (hi - lo) (es.drop lo)]
  rw[List.drop_drop];congr 2;omega
 have f1:(es.take lo).filter q=[]:=by
  rw[Nj];intro a G;obtain⟨m,E,rfl⟩:=LO G;rw[Ly]at E;rw[Nd,H m oa oa];simp
 have f3:(es.drop hi).filter q=[]:=by
  rw[Nj];intro a G;obtain⟨m,E,rfl⟩:=LO G;rw[LW]at E;rw[List.getElem_drop,J (hi+m) oa oa];simp
 have f2:((es.drop lo).take (hi - lo)).filter q=(es.drop lo).take (hi - lo):=by
  rw[NA];intro a G;obtain⟨m,E,rfl⟩:=LO G;rw[Ly,LW]at E;rw[Nd,List.getElem_drop];exact I (lo+m) oa oa oa
 conv=>rhs;rw[e1]
 rw[LZ,LZ,f1,f2,f3];simp
def Yc (es:List Ed)(s:Int):List Ed:=es.filter λe=>decide (e.1=s)
theorem QiI {L:LN}{v:O0}{l:LI}(h:QQ L w.heap v l)(n:Int):
  Q5 prog 50 [v,oF oG n] w λr w'=>w'=w/\∃i:Int,r=oF oG i/\(0<=i↔n∈l):=by
 have O:=h.le;refine Zs func50 ntmps50 results50 ?_;refine Qe<|Qc<|Qd<|Qm<|QL h U<|Qb<|xe<|Qg<|QC (α:=Nat) [(4,5),(8,18)] (λk=>[(8,oF oG k)]) (λk w'=>w'=w/\k<=l.length/\(n∈l↔n∈l.drop k)) (λk=>l.length - k) ol 0 La ⟨U,Ln _,oe⟩ ?_;rintro k g S ⟨rfl,T,E⟩;refine Qe<|QX U U<|xe<|Qd<|QG U (λI=>?_) (λI=>?_)
 ·refine Qx<|Qe<|Qc<|Ql ⟨[oF oG (-1)],La,U,-1,U,?_⟩;rw[Lr oa]at E;simp[E]
 have H:k<l.length:=oa
 have hd:=Zf H;refine Qh<|Qd<|Qg<|Qm<|Qc<|Qm<|Qb<|Qb<|xii h U U H λV J=>x (QD J U)<|x (Q9 U U)<|xe<|QZ rfl (λG=>?_) (λG=>?_)
 ·refine Qm<|Qc<|Ql ⟨[oF oG k],La,U,k,U,?_⟩;have:n∈l:=by rw[E,hd,G];exact Lt
  simp[this]
 refine Qh<|Qw<|QN U U<|Qb<|xe<|⟨k+1,oa,La,U,oa,?_⟩;rw[E,hd,Li];exact⟨λh=>h.resolve_left G,.inr⟩
theorem Ya {L:LN}{v:O0}{l:LI}(h:QQ L w.heap v l)(n:Int):
  Q5 prog 19 [v,oF oG n] w λr w'=>r=.bool (decide (n∈l))/\w'=w:=by
 refine Zs func19 ntmps19 results19 ?_;refine Qe<|Qc<|Qm<|Qb<|Qa<|xf<|(QiI h n).mono ?_;rintro E G ⟨rfl,i,rfl,hi⟩;refine x (Yl U U)<|Qc<|Ql ⟨[.bool (decide (0<=i))],La,?_,U⟩;simp[tup,hi]
theorem Jt {L L':LN}{v:O0}{l l':LI}(h:QQ L w.heap v l)(E:QQ L' w.heap v' l'):
  Q5 prog 101 [v,v'] w λr w'=>r=.bool (decide (l=l'))/\O3 [] w w':=by
 have hf:=h.le;refine Zs func101 ntmps101 results101 ?_;refine Qe<|Qc<|Qd<|Qm<|QL h U<|Qb<|QL E U<|ZA U U<|xe<|QZ rfl (λO=>?_) (λO=>?_)
 ·refine Qe<|Qc<|Ql ⟨[.bool false],La,?_,O3.Z _ _⟩;have:l≠l':=λe=>O (by rw[e]);simp[tup,this]
 refine Qh<|Qd<|Qm<|QL h U<|Qb<|xe<|Qg<|QC (α:=Nat) [(4,5),(13,25)] (λk=>[(13,oF oG k)]) (λk w'=>O3 [] w w'/\k<=l.length/\(l=l'↔l.drop k=l'.drop k)) (λk=>l.length - k) ol 0 La ⟨O3.Z _ _,Ln _,oe⟩ ?_;rintro k g S ⟨G,hk,H⟩
 replace h:=h.I G
 replace E:=E.I G;refine Qe<|QX U U<|xe<|Qd<|QG U (λha=>?_) (λha=>?_)
 ·refine Qx<|Qe<|Qc<|Ql ⟨[.bool true],La,?_,G⟩;rw[Lr oa,Lr oa]at H;simp[tup,H]
 have T:k<l.length:=oa
 have V:k<l'.length:=oa
 refine Qh<|Qd<|Qg<|Qm<|Qc<|Qd<|QR (O3 [] S) [oD 0,oD 1,oD 2,oD 3,oD 4,oD 5,oD 6,oD 7,oD 8] mixed ol od (O3.C _ _) ?_;refine p Qy<|p Qy<|pii U h U U T λhg hb=>pq (λ_ I=>QD (hb.I I) U) <|
  p Qy<|p Qy<|pii U E U U V λhh he=>pq (λ_ I=>QD (he.I I) U)<|p (λ_=>Jc U U)<|pe ?_
 have Y:=G.D (O3.C [] S);refine QZ rfl (λJ=>?_) (λJ=>?_)
 ·refine Qe<|Qc<|Ql ⟨[.bool false],La,?_,Y⟩;have:l≠l':=λe=>J (by simp[e]);simp[tup,this]
 refine Qh<|Qw<|QN U U<|Qb<|xe<|⟨k+1,oa,La,Y,oa,?_⟩;have e:l[k]=l'[k]:=Lo.1 J;rw[H,Zf T,Zf V,e];exact⟨λh=>(List.cons.inj h).2,λh=>by rw[h]⟩
theorem jH {L L':LN}{v:O0}{l l':List Ed}(h:qX L w.heap v l)(E:qX L' w.heap v' l'):
  Q5 prog 121 [v,v'] w λr w'=>r=.bool (decide (l=l'))/\O3 [] w w':=by
 have hf:=h.le;refine Zs func121 ntmps121 results121 ?_;refine Qe<|Qc<|Qd<|Qm<|QL h U<|Qb<|QL E U<|ZA U U<|xe<|QZ rfl (λO=>?_) (λO=>?_)
 ·refine Qe<|Qc<|Ql ⟨[.bool false],La,?_,O3.Z _ _⟩;have:l≠l':=λe=>O (by rw[e]);simp[tup,this]
 refine Qh<|Qd<|Qm<|QL h U<|Qb<|xe<|Qg<|QC (α:=Nat) [(4,5),(13,25)] (λk=>[(13,oF oG k)]) (λk w'=>O3 [] w w'/\k<=l.length/\(l=l'↔l.drop k=l'.drop k)) (λk=>l.length - k) ol 0 La ⟨O3.Z _ _,Ln _,oe⟩ ?_;rintro k g S ⟨G,hk,H⟩
 replace h:=h.I G
 replace E:=E.I G;refine Qe<|QX U U<|xe<|Qd<|QG U (λha=>?_) (λha=>?_)
 ·refine Qx<|Qe<|Qc<|Ql ⟨[.bool true],La,?_,G⟩;rw[Lr oa,Lr oa]at H;simp[tup,H]
 have T:k<l.length:=oa
 have V:k<l'.length:=oa
 refine Qh<|Qd<|Qg<|Qm<|Qc<|Qd<|QR (O3 [] S) [oD 0,oD 1,oD 2,oD 3,oD 4,oD 5,oD 6,oD 7,oD 8] mixed ol od (O3.C _ _) ?_;refine p Qy<|p Qy<|pie U h U U T λhg hb=>pq (λ_ I=>Qv (hb.I I) U U) <|
  p Qy<|p Qy<|pie U E U U V λhh he=>pq (λ_ I=>Qv (he.I I) U U)<|p (λ_=>Un U U)<|pe ?_
 have Y:=G.D (O3.C [] S);refine QZ rfl (λJ=>?_) (λJ=>?_)
 ·refine Qe<|Qc<|Ql ⟨[.bool false],La,?_,Y⟩;have:l≠l':=λe=>J (by simp[e]);simp[tup,this]
 refine Qh<|Qw<|QN U U<|Qb<|xe<|⟨k+1,oa,La,Y,oa,?_⟩;have e:l[k]=l'[k]:=Lo.1 J;rw[H,Zf T,Zf V,e];exact⟨λh=>(List.cons.inj h).2,λh=>by rw[h]⟩
theorem QbW (n:Int):Q5 prog 223 [oF oG n] w λr w'=>r=.bool false/\w'=w:=by
 refine Zs func223 ntmps223 results223 ?_;refine Qe<|Qc<|Qm<|Qb<|ZA U U<|Qc ?_;exact Ql ⟨[.bool (decide (¬n=n))],La,by simp[tup],rfl⟩
theorem Qga (n:Int):Q5 prog 222 [oF oG n] w λr w'=>r=.bool false/\w'=w:=by
 refine Zs func222 ntmps222 results222 ?_;refine Qe<|Qc<|Qm<|Qb<|ZA U U<|Qc ?_;exact Ql ⟨[.bool (decide (¬n=n))],La,by simp[tup],rfl⟩
theorem QeG (m n:Int):Q5 prog 154 [oF oG m,oF oG n] w λr w'=>r=.bool (decide (m<n))/\w'=w:=by
 refine Zs func154 ntmps154 results154 ?_;refine Qe<|Qc<|Qm<|Qa<|xf<|(Qga m).mono ?_;rintro E G ⟨rfl,rfl⟩;refine Qb<|Qr<|Qr<|Qr<|QK U<|Qb<|Qb<|Qb<|QX U U<|QK U<|Qc ?_;exact Ql ⟨[.bool (decide (m<n))],La,U,U⟩
theorem Y1.get {l:LI}(h:Y1 l)(E:j<l.length)(G:i<j):l[i]<l[j]:=MK.1 h i j oa E G
theorem yr {L:LN}{v:O0}{l:LI}(h:QQ L w.heap v l)(hi:Y1 l)(n:Int):
  Q5 prog 174 [v,oF oG n] w λr w'=>w'=w/\∃i:Int,r=.tuple #[oF oG i,.bool (decide (n∈l))]:=by
 have ht:=h.le;refine Zs func174 ntmps174 results174 ?_;refine Qe<|x Qk<|Qc<|Qm<|QL h U<|Qc<|Qm<|x Qk<|Qc<|Qd<|Qg<|QC (α:=Nat×Nat) [(7,9),(13,30)] (λz=>[(7,oF oG z.1),(8,oF oG z.2)])
  (λz w'=>w'=w/\z.1<=z.2/\z.2<=l.length/\(∀m (E:m<l.length),m<z.1->l[m]<n)/\(∀m (E:m<l.length),z.2<=m->n<=l[m])) (λz=>z.2 - z.1) ol (0,l.length) oA
  ⟨U,Ln _,Lx _,λm _ J=>OU J (Nf m),λm h1 J=>OU h1 (by simp only[]at J;omega)⟩ ?_
 rintro⟨i,j⟩ g w1 ⟨rfl,hb,T,G,O⟩;simp only[]at hb T G O;refine Qd<|Qm<|Qb<|QX U U<|xe<|QG rfl (λhc=>?_) (λhc=>?_)
 ·have e:i=j:=oa
  subst e;refine Qx<|Q3 (α:=Bool) [(4,5),(31,53)] (λz=>[(4,oF oG i),(5,.bool z)]) (λz w'=>w'=w1/\z=decide (n∈l)) ol ?_ ?_
  ·refine Qw<|Qb<|Qb<|Qb<|xb (YJ U U) (λhe=>?_) (λhe=>?_)
   ·have H:i<l.length:=oa
    refine Qb<|Qb<|Qb<|xii h U U H λhu hf=>x (QD hf U)<|Qb<|xb (Q9 U U) (λS=>?_) (λS=>?_)
    ·refine Qb<|Qr<|Qr<|Qr<|Qr<|Qr<|Qr<|Qr<|Qr<|Qr<|QK U<|QK U<|x Qk<|Qc ?_;have:n∈l:=by rw[<-S];exact Lm H
     exact⟨true,oA,U,by simp[this]⟩
    refine Qb<|Qb<|Qb<|xii h U U H λhv hg=>x (QD hg U)<|Qa<|xf<|(QbW _).mono ?_;rintro r3 w3 ⟨rfl,rfl⟩;refine Qb<|Qr<|Qr<|QK U<|QK U<|QK U<|x Qk<|Qc<|⟨false,oA,U,?_⟩;have:n∉l:=by
     intro E;obtain⟨m,I,V⟩:=LO E;by_cases hk:m<i
     ·have:=G m I hk;omega
     by_cases hl:m=i
     ·subst hl;exact S V
     have:=Y1.get hi I (show i<m by omega);have:=O i H (Lx _);omega
    simp[this]
   refine Qb<|Qr<|Qr<|Qr<|Qr<|Qr<|Qr<|Qr<|Qr<|Qr<|Qr<|Qr<|Qr<|Qr<|Qr<|Qr<|Qr<|xs U <|
    QK rfl<|x Qk<|Qc<|⟨false,oA,U,?_⟩
   have:n∉l:=by
    intro E;obtain⟨m,I,V⟩:=LO E;have:=G m I oa;omega
   simp[this]
  rintro z g w7 ⟨rfl,rfl⟩;exact Ql ⟨[oF oG i,.bool (decide (n∈l))],oA,U,i,U⟩
 refine Qh<|Qg<|Qm<|Qb<|QN U U<|x (Ye U (by exact⟨oa,oa⟩))<|x (ji (n:=1) U U og)<|x (Ye U (by exact⟨oa,oa⟩))<|Qc ?_;have hh:(((i:Int)+(j:Int)) / 2 ^ 1)=(((i+j) / 2:Nat):Int):=oa
 rw[hh];generalize hq:(i+j) / 2=q;have hn:i<=q:=oa
 have ho:q<j:=oa
 have Y:q<l.length:=oa
 refine Qm<|Qb<|xii h U U Y λhw hp=>x (QD hp U)<|Qb<|Qa<|xf<|(QeG _ _).mono ?_;rintro r8 w8 ⟨rfl,rfl⟩;refine xe<|QG rfl (λha=>?_) (λha=>?_)
 ·refine Qw<|Qb<|Qc<|⟨(i,q),oh,oA,U,hn,oa,G,λm E hr=>?_⟩;by_cases e:q=m
  ·subst e;omega
  have:=Y1.get hi E (show q<m by simp only[]at hr;omega);omega
 refine Qw<|Qb<|QN U U<|Qc<|⟨(q+1,j),oh,oA,U,ho,T,λm E hs=>?_,O⟩;by_cases e:m=q
 ·subst e;exact ha
 have:=Y1.get hi Y (show m<q by simp only[]at hs;omega);omega
theorem J5 {L:LN}{v:O0}{l:LI}(h:QQ L w.heap v l)(hi:Y1 l)(n:Int):
  Q5 prog 247 [v,oF oG n] w λr w'=>r=.bool (decide (n∈l))/\w'=w:=by
 refine Zs func247 ntmps247 results247 ?_;refine Qe<|Qc<|Qm<|Qb<|Qa<|xf<|(yr h hi n).mono ?_;rintro E G ⟨rfl,i,rfl⟩;refine Qb<|Q8 U U<|Q8 U U<|x Qk<|Qc<|Qm<|Qc ?_;exact Ql ⟨[.bool (decide (n∈l))],La,U,U⟩
theorem qH {L:LN}{v:O0}{l:LI}(h:QQ L w.heap v l)(n:Int):
  Q5 prog 123 [v,oF oG n] w λr w'=>r=oF oG (Kf n none l)/\w'=w:=by
 have hc:=h.le;refine Zs func123 ntmps123 results123 ?_;refine Qe<|Qc<|Qd<|Qm<|QL h U<|Qb<|xe<|Qg<|QC (α:=Nat) [(4,6),(9,34)] (λk=>[(9,oF oG k)]) (λk w'=>w'=w/\k<=l.length/\Kf n (pv l k) (l.drop k)=Kf n none l) (λk=>l.length - k) ol 0 La ⟨U,Ln _,U⟩ ?_;rintro k g S ⟨rfl,hk,E⟩;refine Qe<|QX U U<|xe<|Qd<|QG U (λT=>?_) (λT=>?_)
 ·refine Qx<|Qe<|Qc<|Ql ⟨[oF oG 0],La,?_,U⟩;rw[<-E,Lr oa];rfl
 have G:k<l.length:=oa
 have hd:=Zf G;rw[hd,Kf]at E;refine Qh<|Qd<|Qg<|Qm<|xii h U U G λhe V=>x (QD V U)<|x Qk<|Qc<|Qg<|Q3 (α:=Bool) [(14,21)] (λz=>[(14,.bool z)]) (λz w'=>w'=S/\z=decide (l[k]<0\/n<=l[k])) ol ?_ ?_
 ·refine Qw<|Qb<|xb (YJ U U) (λH=>?_) (λH=>?_)
  ·refine Qb<|Qr<|Qr<|Qr<|QK U<|Qc ?_;exact⟨true,La,U,by simp[H]⟩
  refine Qb<|Qb<|Qb<|x (Yl U U)<|QK U<|Qc ?_;exact⟨_,La,U,by simp[H]⟩
 rintro z g Y ⟨rfl,rfl⟩;refine QZ rfl (λI=>?_) (λI=>?_)
 ·refine Qe<|Qc<|Ql ⟨[oF oG 2],La,?_,U⟩;rw[<-E,OS I];rfl
 rw[OR I]at E;refine Q3 (α:=Bool) [(22,33)] (λz=>[(22,.bool z)]) (λz w'=>w'=Y/\z=yL (pv l k) l[k]) ol ?_ ?_
 ·refine Qw<|Qb<|xb (ZZ U U) (λha=>?_) (λha=>?_)
  ·have hk1:((k:Int) - 1)=((k - 1:Nat):Int):=oa
   refine Qb<|Qb<|Qb<|Qb<|x (Jb U U ⟨oa,oa⟩)<|xii (i:=k - 1) h U (by show Value.int _ ((k:Int) - 1)=_;rw[hk1]) oa λhf hb=>x (QD hb rfl)<|x (KL rfl rfl)<|QK rfl<|Qc<|⟨_,⟨rfl,Z⟩,rfl,?_⟩;have:pv l k=some l[k - 1]:=by
    have J:k≠0:=oa
    simp[pv,J,show k - 1<l.length by omega]
   rw[this];rfl
  refine Qb<|Qr<|Qr<|Qr<|Qr<|Qr<|Qr<|Qr<|QK U<|Qc ?_;have J:k=0:=oa
  exact⟨false,La,U,by simp[pv,J,yL]⟩
 rintro z g w3 ⟨rfl,rfl⟩;refine QW rfl (λO=>?_) (λO=>?_)
 ·refine Qe<|Qc<|Ql ⟨[oF oG 5],La,?_,U⟩;rw[<-E,OS O];rfl
 rw[OR (by simp[O])]at E;refine Qh<|Qw<|QN U U<|Qb<|xe ?_;exact⟨k+1,oa,La,U,oa,by rw[Vp G];exact E⟩
theorem yO {L:LN}{a:Zd}(h:ZK L w.heap va vm ve a):
  Q5 prog 124 [.agg #[va,oF oG a.st,vm,ve]] w λr w'=>r=oF oG (ckE a.al a.st none a.ed)/\O3 [] w w':=by
 obtain⟨J,_,H⟩:=h;have h2:=H.le;refine Zs func124 ntmps124 results124 ?_;refine Qe<|Qa<|QS (us:=[va,oF oG a.st,vm,ve]) U λb1 w1 Y h3 I=>Qc ?_
 replace J:=J.I Y
 replace H:=H.I Y;refine Qd<|Qe<|Qs U I U U<|QL H U<|Qb<|xe<|Qg<|QC (α:=Nat) [(2,5),(9,71)] (λk=>[(9,oF oG k)]) (λk w'=>O3 [] w1 w'/\k<=a.ed.length/\ckE a.al a.st (pv a.ed k) (a.ed.drop k)=ckE a.al a.st none a.ed) (λk=>a.ed.length - k) ol 0 La
  ⟨O3.Z _ _,Ln _,U⟩ ?_
 rintro k g w2 ⟨O,hk,E⟩
 replace J:=J.I O
 replace H:=H.I O
 replace I:=I.I O;refine Qe<|QX U U<|xe<|Qd<|QG U (λhq=>?_) (λhq=>?_)
 ·refine Qx<|Qe<|Qc<|Ql ⟨[oF oG 0],La,?_,Y.D O⟩;rw[<-E,Lr oa];rfl
 have ha:k<a.ed.length:=oa
 have hd:=Zf ha;rw[hd,ckE]at E;refine Qh<|Qd<|Qg<|Qm<|xie H U U ha λh4 hr=>x (Qv hr U U)<|Qa<|Qo (us:=[oF oG 0,oF oG 0,oF oG 0]) U λb4 w3 hs ht G=>x Qk <|
  Qa<|Qj G U U U U oB λw4 hu G=>xe ?_
 have S:=hs.O hu ht
 replace J:=J.I S
 replace H:=H.I S
 replace I:=I.I S;have T:=(Y.D O).D S;refine Qd<|Qg<|Q3 (α:=Bool) [(14,36)] (λz=>[(14,.bool z)]) (λz w'=>w'=w4/\z=decide (a.ed[k].1<0\/a.st<=a.ed[k].1\/a.ed[k].2.2<0\/a.st<=a.ed[k].2.2)) ol ?_ ?_
 ·refine Qw<|Qs U G U U<|xb (YJ U U) (λhb=>?_) (λhb=>?_)
  ·refine Qb<|Qr<|Qr<|Qr<|Qr<|Qr<|QK U<|Qb<|Qr<|Qr<|Qr<|QK U<|Qb<|Qr<|Qr<|Qr<|Qr<|Qr<|QK U<|Qc ?_;exact⟨true,La,U,by simp[hb]⟩
  refine Qb<|Qs U G U U<|Qs U I U U<|xb (Yl U U) (λhc=>?_) (λhc=>?_)
  ·refine QK U<|Qb<|Qr<|Qr<|Qr<|QK U<|Qb<|Qr<|Qr<|Qr<|Qr<|Qr<|QK U<|Qc ?_;exact⟨true,La,U,by simp[hc]⟩
  refine QK U<|Qb<|Qs U G U U<|xb (YJ U U) (λhe=>?_) (λhe=>?_)
  ·refine QK U<|Qb<|Qr<|Qr<|Qr<|Qr<|Qr<|QK U<|Qc ?_;exact⟨true,La,U,by simp[he]⟩
  refine QK U<|Qb<|Qs U G U U<|Qs U I U U<|x (Yl U U)<|QK U<|Qc ?_;exact⟨_,La,U,by simp[hb,hc,he]⟩
 rintro z g w5 ⟨rfl,rfl⟩;refine QZ rfl (λhf=>?_) (λhf=>?_)
 ·refine Qe<|Qc<|Ql ⟨[oF oG 2],La,?_,T⟩;rw[<-E,OS hf];rfl
 rw[OR hf]at E;refine Qe<|Qs U I U U<|Qs U G U U<|Qa<|xf<|(Ya J _).mono ?_;rintro r4 w6 ⟨rfl,rfl⟩;refine x (Zz U)<|Qc<|QW U (λhg=>?_) (λhg=>?_)
 ·have hn:a.ed[k].2.1∉a.al:=by simpa using hg
  refine Qe<|Qc<|Ql ⟨[oF oG 9],La,?_,T⟩;rw[<-E,OS hn];rfl
 have hn:¬(a.ed[k].2.1∉a.al):=by simpa using hg
 rw[OR hn]at E;refine Qh<|Qd<|Qm<|x (Q9 U U)<|xe<|QZ rfl (λhv=>?_) (λhv=>?_)
 ·have h0:k=0:=oa
  rw[OR (by simp[pv,h0,edO])]at E;refine Qx<|Qw<|QN U U<|Qb<|xe ?_;exact⟨k+1,oa,La,O.D S,oa,by rw[Vp ha];exact E⟩
 have h0:k≠0:=oa
 have hk1:((k:Int) - 1)=((k - 1:Nat):Int):=oa
 have ho:k - 1<a.ed.length:=oa
 refine Qh<|Qe<|Qs U I U U<|Qb<|x (Jb U U ⟨oa,oa⟩)<|xie (i:=k - 1) H U (by show Value.int _ ((k:Int) - 1)=_;rw[hk1]) ho λh5 hw =>
  x (Qv hw U U)<|Qa<|Qo (us:=[oF oG 0,oF oG 0,oF oG 0]) U λb5 w7 hy hz V=>Qa<|Qj V U U U U oB λw8 h1 V=>xe ?_
 have hh:=hy.O h1 hz
 replace G:=G.I hh
 replace T:=T.D hh;have hp:pv a.ed k=some a.ed[k - 1]:=by simp[pv,h0,ho]
 rw[hp]at E;refine Q3 (α:=Bool) [(52,70)] (λz=>[(70,.bool z)]) (λz w'=>w'=w8/\z=edO (some a.ed[k - 1]) a.ed[k]) ol ?_ ?_
 ·refine Qw<|Qs U G U U<|Qs U V U U<|xb (YJ U U) (λhi=>?_) (λhi=>?_)
  ·refine Qb<|Qr<|Qr<|Qr<|Qr<|Qr<|Qr<|Qr<|Qr<|Qr<|Qr<|Qr<|Qr<|QK U<|xe ?_;exact⟨true,La,U,by simp[edO,hi]⟩
  refine Qb<|Qs U G U U<|Qs U V U U<|xb (Q9 U U) (λhj=>?_) (λhj=>?_)
  ·refine Qb<|Qs U G U U<|Qs U V U U<|x (KL U U)<|QK U<|QK U<|xe ?_;exact⟨_,La,U,by simp[edO,hj]⟩
  refine Qb<|Qr<|Qr<|Qr<|Qr<|Qr<|QK U<|QK U<|xe ?_;exact⟨false,La,U,by simp[edO,hj,hi]⟩
 rintro z g w9 ⟨rfl,rfl⟩;refine QW rfl (λhl=>?_) (λhl=>?_)
 ·refine Qe<|Qc<|Ql ⟨[oF oG 5],La,?_,T⟩;rw[<-E,OS hl];rfl
 rw[OR (by simp[hl])]at E;refine Qh<|Qw<|QN U U<|Qb<|xe ?_;exact⟨k+1,oa,La,(O.D S).D hh,oa,by rw[Vp ha];exact E⟩
theorem JF {L:LN}{a:Zd}(h:ZK L w.heap va vm ve a):
  Q5 prog 82 [.agg #[va,oF oG a.st,vm,ve]] w λr w'=>r=oF oG (KD a)/\O3 [] w w':=by
 refine Zs func82 ntmps82 results82 ?_;refine Qe<|Qa<|QS (us:=[va,oF oG a.st,vm,ve]) U λb1 T E V G=>Qc ?_
 replace h:=h.I E;refine Qd<|Qe<|Qs U G U U<|Qa<|xf<|(qH h.al 32).mono ?_;rintro r2 Y ⟨rfl,rfl⟩;refine Qc<|Qm<|ZA U U<|xe<|QZ rfl (λH=>?_) (λH=>?_)
 ·refine Qm<|Qc<|Ql ⟨[oF oG (Kf 32 none a.al)],La,?_,E⟩;rw[KD,OS H];rfl
 refine Qh<|Qd<|Qg<|Qe<|Qs U G U U<|QX U U<|Qc<|QZ U (λI=>?_) (λI=>?_)
 ·refine Qe<|Qc<|Ql ⟨[oF oG 2],La,?_,E⟩;rw[KD,OR H,OS I];rfl
 refine Qe<|Qs U G U U<|x (ZZ U U)<|Qc<|QZ U (λJ=>?_) (λJ=>?_)
 ·refine Qe<|Qc<|Ql ⟨[oF oG 3],La,?_,E⟩;rw[KD,OR H,OR I,OS J];rfl
 refine Qh<|Qd<|Qe<|Qs U G U U<|Qs U G U U<|Qa<|xf<|(qH h.mr a.st).mono ?_;rintro r3 w3 ⟨rfl,rfl⟩;refine Qc<|Qm<|ZA U U<|xe<|QZ rfl (λO=>?_) (λO=>?_)
 ·refine Qm<|Qc<|Ql ⟨[oF oG (Kf a.st none a.mr)],La,?_,E⟩;rw[KD,OR H,OR I,OR J,OS O];rfl
 refine Qh<|Qe<|Q2 G U U<|Qa<|xf<|(yO h).mono ?_;rintro r4 w4 ⟨rfl,S⟩;refine Qc<|Ql ⟨[oF oG (ckE a.al a.st none a.ed)],La,?_,E.D S⟩;rw[KD,OR H,OR I,OR J,OR O];rfl
theorem ZU {L:LN}{v:O0}{l:LI}(h:QQ L w.heap v l):
  Q5 prog 45 [v] w λr w'=>O3 [] w w'/\Qu 3 w.heap.size w' r l:=by
 have ha:=h.le;refine Zs func45 ntmps45 results45 ?_;refine Qe<|Qc ?_;obtain⟨ao,cap,G⟩:=h.shape;refine Qd<|Qm<|x (Xu (show ev _ _=_ from G) U)<|xe<|QW rfl (λH=>?_) (λH=>?_)
 ·refine Qe<|Qc<|Ql ⟨[nS],La,O3.Z _ _,?_⟩;rcases h.2.2 with⟨E,I⟩|⟨a,c,E,_⟩
  ·have:l=[]:=Lq I;subst this;exact QJ _ _ _ _
  rw[E]at G;cases G;cases H
 rcases h.2.2 with⟨E,I⟩|⟨a,c,E,I,T⟩
 ·rw[E]at G;injection G with e1;subst e1;cases H
 refine Qh<|Qe<|Qa<|XQ λb5 w1 J O S=>Qb<|Qa<|Za (base:=w.heap.size) (S.own (n:=0) (sz:=1) U oa O) U (show ev _ _=_ from E) oe (T.I J) (Uq l) oa (ou S.lt) λv2 w2 V Y hb=>Qc<|Ql ⟨[v2],La,J.O Y O,?_⟩;simpa[tup]using V
theorem QbO [Fu prog g fn]{keep:Bool->Bool->Bool}(hk:∀(p q:Bool) (w:OZ),Q5 prog g [.bool p,.bool q] w λr w'=>r=.bool (keep p q)/\w'=w)
  {L L':LN}   {a b:LI} (H:QQ L w.heap va a) (G:QQ L' w.heap vb b) (hH:a.length+b.length<=1099511627776):
  Q5 prog 87 [va,vb,.func (.func g) #[] #[]] w λr w'=>O3 [] w w'/\Qu 3 w.heap.size w' r (mrg keep a b):=by
 refine Zs func87 ntmps87 results87 ?_;refine Qe<|Qc<|Qe<|Qc<|Qd<|Qg<|QC (α:=(LI×O0)×(LI×O0)×(LI×O0)) [(0,1),(7,72)] (λz=>[(0,z.1.2),(1,z.2.1.2),(7,z.2.2.2)])
  (λz w'=>QQ L w.heap z.1.2 z.1.1/\QQ L' w.heap z.2.1.2 z.2.1.1/\Qu 3 w.heap.size w' z.2.2.2 z.2.2.1/\O3 [] w w'/\z.2.2.1++mrg keep z.1.1 z.2.1.1=mrg keep a b/\z.2.2.1.length+z.1.1.length+z.2.1.1.length<=1099511627776)
  (λz=>z.1.1.length+z.2.1.1.length) ol ((a,va),(b,vb),([],nS)) oB ⟨H,G,QJ _ _ _ _,O3.Z _ _,U,by simp;omega⟩ ?_
 clear H G;rintro⟨⟨a1,h2⟩,⟨b1,h3⟩,⟨o,vo⟩⟩ g1 w1 ⟨H,G,I,E,T,hl⟩;simp only[]at H G I E T hl;refine Qd<|Q3 (α:=Bool) [(11,18)] (λz=>[(18,.bool z)]) (λz w'=>w'=w1/\z=decide (¬(a1=[]/\b1=[]))) ol ?_ ?_
 ·refine Qw<|Qb<|QL H U<|xb (ZZ U U) (λhn=>?_) (λhn=>?_)
  ·refine Qb<|Qr<|Qr<|Qr<|QK U<|xe ?_;have:a1≠[]:=by intro e;subst e;simp at hn
   exact⟨true,La,U,by simp[this]⟩
  refine Qb<|Qb<|QL G U<|x (ZZ U U)<|QK U<|xe ?_;have:a1=[]:=Lq oa;refine⟨_,La,U,?_⟩;cases b1 <;> simp[this]
 rintro z g2 w2 ⟨rfl,rfl⟩;refine QG rfl (λhe=>?_) (λhe=>?_)
 ·refine Qx<|Qm<|Qc<|Ql ⟨[vo],La,E,?_⟩;obtain⟨rfl,rfl⟩:=Lo.1 he;rw[Kw,LS]at T;rw[<-T];exact I
 refine Qh ?_;rw[J9 keep he]at T;have hp:=zZ he;have hI:=H.le;have hJ:=G.le;refine Qg<|Q3 (α:=Bool) [(8,8),(19,35)] (λz=>[(8,.bool z)]) (λz w'=>O3 [] w2 w'/\z=Jj a1 b1) ol ?_ ?_
 ·refine QR (O3 [] w2) [oD 0,oD 1,oD 2,oD 3,oD 4,oD 5,oD 6,oD 7,oD 8,oD 9,oD 10,oD 11,oD 12,oD 13,oD 14,oD 15,oD 16,oD 17] mixed ol od (O3.C _ _) ?_;refine p Qy<|p (λ_=>Yo H U)<|pb (λ_=>ZZ U U) (λhq=>?_) (λhq=>?_)
  ·refine p Qy<|p Qy<|p (λ_=>Yo G U)<|pb (λ_=>Q9 U U) (λh4=>?_) (λh4=>?_)
   ·refine p Qy<|ps<|ps<|ps<|ps<|ps<|ps<|ps<|p (YS U)<|p (YS U)<|p ZH<|pe ?_;refine⟨true,La,O3.C _ _,?_⟩;have:b1=[]:=Lq oa;subst this;cases a1 with
    | nil=>simp at hq
    | cons y a1=>rfl
   have O:0<a1.length:=oa
   have S:0<b1.length:=oa
   refine p Qy<|p Qy<|pii U (i:=0) (H.I E) U U O λhK h5=>pq (λ_ J=>QD (h5.I J) U) <|
    p Qy<|pii U (i:=0) (G.I E) U U S λhL h6=>pq (λ_ J=>QD (h6.I J) U)<|p (λ_=>KL U U) <|
    p (YS rfl)<|p (YS U)<|p ZH<|pe ?_
   refine⟨_,La,O3.C _ _,?_⟩;cases a1 with
   | nil=>simp at O
   | cons y a1=>cases b1 with
    | nil=>simp at S
    | cons z b1=>rfl
  refine p Qy<|ps<|ps<|ps<|ps<|ps<|ps<|ps<|ps<|ps<|ps<|ps<|ps<|p (YS U)<|p ZH<|pe ?_;refine⟨false,La,O3.C _ _,?_⟩;have:a1=[]:=Lq oa;subst this;rfl
 rintro z g3 w3 ⟨hr,rfl⟩
 replace I:=Qp I hr
 replace E:=E.D hr;refine Q3 (α:=Bool) [(9,9),(36,52)] (λz=>[(9,.bool z)]) (λz w'=>O3 [] w3 w'/\z=Jj b1 a1) ol ?_ ?_
 ·refine QR (O3 [] w3) [oD 0,oD 1,oD 2,oD 3,oD 4,oD 5,oD 6,oD 7,oD 8,oD 9,oD 10,oD 11,oD 12,oD 13,oD 14,oD 15,oD 16,oD 17] mixed ol od (O3.C _ _) ?_;refine p Qy<|p (λ_=>Yo G U)<|pb (λ_=>ZZ U U) (λht=>?_) (λht=>?_)
  ·refine p Qy<|p Qy<|p (λ_=>Yo H U)<|pb (λ_=>Q9 U U) (λh7=>?_) (λh7=>?_)
   ·refine p Qy<|ps<|ps<|ps<|ps<|ps<|ps<|ps<|p (YS U)<|p (YS U)<|p ZH<|pe ?_;refine⟨true,La,O3.C _ _,?_⟩;have:a1=[]:=Lq oa;subst this;cases b1 with
    | nil=>simp at ht
    | cons y b1=>rfl
   have O:0<a1.length:=oa
   have S:0<b1.length:=oa
   refine p Qy<|p Qy<|pii U (i:=0) (G.I E) U U S λhM h8=>pq (λ_ J=>QD (h8.I J) U) <|
    p Qy<|pii U (i:=0) (H.I E) U U O λhN h9=>pq (λ_ J=>QD (h9.I J) U)<|p (λ_=>KL U U) <|
    p (YS rfl)<|p (YS U)<|p ZH<|pe ?_
   refine⟨_,La,O3.C _ _,?_⟩;cases a1 with
   | nil=>simp at O
   | cons y a1=>cases b1 with
    | nil=>simp at S
    | cons z b1=>rfl
  refine p Qy<|ps<|ps<|ps<|ps<|ps<|ps<|ps<|ps<|ps<|ps<|ps<|ps<|p (YS U)<|p ZH<|pe ?_;refine⟨false,La,O3.C _ _,?_⟩;have:b1=[]:=Lq oa;subst this;rfl
 rintro z g4 w4 ⟨hu,rfl⟩
 replace I:=Qp I hu
 replace E:=E.D hu;refine Qe<|Qc<|Q3 (α:=O0) [(0,0),(10,10),(53,58)] (λz=>[(0,z),(10,oF oG (bif Jj a1 b1 then a1.headD 0 else 0))]) (λz w'=>O3 [] w4 w'/\QQ L w.heap z (tl (Jj a1 b1) a1)) ol ?_ ?_
 ·refine Qm<|xe<|QW U (λV=>?_) (λV=>?_)
  ·have O:0<a1.length:=by cases a1 with|nil=>simp[Jj]at V|cons y a1=>simp
   refine QR (O3 [] w4) [oD 0,oD 1,oD 2,oD 3,oD 4,oD 5,oD 6] mixed ol od (O3.C _ _) ?_;refine p Qy<|pii U (i:=0) (H.I E) U U O λhC hf=>pq (λ_ J=>QD (hf.I J) U)<|p Qy <|
    Qnu rfl (lo:=1) H U U O λv' hg=>p ZH<|p ZH<|pe ?_
   have hh:=QQ.drop hg;refine⟨v',⟨U,?_,Z⟩,O3.C _ _,?_⟩
   ·show oF oG a1[0]=_;rw[V];cases a1 with|nil=>simp at O|cons y a1=>rfl
   rw[V];simpa[tl]using hh
  refine Qh<|⟨h2,⟨U,by show _=_;rw[V];rfl,Z⟩,O3.Z _ _,?_⟩;rw[V];exact H
 rintro hv g5 w5 ⟨hw,hy⟩
 replace I:=Qp I hw
 replace E:=E.D hw;refine Q3 (α:=O0) [(1,1),(10,10),(59,64)] (λz=>[(1,z),(10,oF oG (bif Jj b1 a1 then b1.headD 0 else bif Jj a1 b1 then a1.headD 0 else 0))]) (λz w'=>O3 [] w5 w'/\QQ L' w.heap z (tl (Jj b1 a1) b1)) ol ?_ ?_
 ·refine Qm<|xe<|QW U (λY=>?_) (λY=>?_)
  ·have S:0<b1.length:=by cases b1 with|nil=>simp[Jj]at Y|cons y b1=>simp
   refine QR (O3 [] w5) [oD 0,oD 1,oD 2,oD 3,oD 4,oD 5,oD 6] mixed ol od (O3.C _ _) ?_;refine p Qy<|pii U (i:=0) (G.I E) U U S λhC hf=>pq (λ_ J=>QD (hf.I J) U)<|p Qy <|
    Qnu rfl (lo:=1) G U U S λv' hg=>p ZH<|p ZH<|pe ?_
   have hh:=QQ.drop hg;refine⟨v',⟨U,?_,Z⟩,O3.C _ _,?_⟩
   ·show oF oG b1[0]=_;rw[Y];cases b1 with|nil=>simp at S|cons y b1=>rfl
   rw[Y];simpa[tl]using hh
  refine Qh<|⟨h3,⟨U,by show _=_;rw[Y];rfl,Z⟩,O3.Z _ _,?_⟩;rw[Y];exact G
 rintro hz g6 w6 ⟨h0,h1⟩
 replace I:=Qp I h0
 replace E:=E.D h0;have hD:(bif Jj b1 a1 then b1.headD 0 else bif Jj a1 b1 then a1.headD 0 else 0)=hx a1 b1:=by
  unfold hx;cases e:Jj b1 a1 with
  | true=>rfl
  | false =>
   cases e2:Jj a1 b1 with
   | true=>rfl
   | false=>rw[e,e2]at hp;simp[tl]at hp
 refine Qm<|Qb<|Qb<|Qa<|xc (first:=[]) (capt:=[]) U<|(hk _ _ _).mono ?_;rintro r7 w7 ⟨rfl,rfl⟩;refine xe<|QW rfl (λhi=>?_) (λhi=>?_)
 ·refine Qw ?_;rw[hi,cond_true]at T;refine Qb<|Qb<|Qa<|QB (us:=[[oF oG (hx a1 b1)]]) U U og oe ⟨by rw[<-hD];rfl,U,Z⟩ λhO w8 hj hP hE =>
   Qa<|Za (news:=[oF oG (hx a1 b1)]) (L:=[]) (Qp I hj) U U U (hE.at oe) (by simp[Value.oneCell']) oa (ov E.size hj.size) λv9 w9 hF hG hQ=>Qc ?_
  have hge:=Qi I;refine⟨((tl (Jj a1 b1) a1,hv),(tl (Jj b1 a1) b1,hz),(o++[hx a1 b1],v9)),oh,oB,hy,h1,?_,(E.D hj).then hG (λb G=>.inr (hge b G).1),by rw[LB];exact T,by simp only[oM,oO];omega⟩;exact Qu.snoc hF
 rw[hi,cond_false,L8]at T;refine Qh ?_;exact⟨((tl (Jj a1 b1) a1,hv),(tl (Jj b1 a1) b1,hz),(o,vo)),oh,oB,hy,h1,I,E,T,oh⟩
theorem Qpm (p q:Bool)(w:OZ):Q5 prog 88 [.bool p,.bool q] w λr w'=>r=.bool (p || q)/\w'=w:=by
 refine Zs func88 ntmps88 results88 ?_;refine Qe<|Qc<|Qe ?_;cases p
 ·refine Qb<|Qb<|Qb<|QK U<|Qc ?_;exact Ql ⟨[.bool q],La,U,U⟩
 refine Qb<|Qb<|Qr<|QK U<|Qc ?_;exact Ql ⟨[.bool true],La,U,U⟩
theorem Qig (p q:Bool)(w:OZ):Q5 prog 189 [.bool p,.bool q] w λr w'=>r=.bool (p && !q)/\w'=w:=by
 refine Zs func189 ntmps189 results189 ?_;refine Qe<|Qc<|Qe ?_;cases p
 ·refine Qb<|Qb<|Qr<|Qr<|QK U<|Qc ?_;exact Ql ⟨[.bool false],La,U,U⟩
 refine Qb<|Qb<|Qb<|x (Zz U)<|QK U<|Qc ?_;exact Ql ⟨[.bool (!q)],La,U,U⟩
theorem QcG {L L':LN}{a b:LI}(E:QQ L w.heap va a)(G:QQ L' w.heap vb b)(H:a.length+b.length<=1099511627776):
  Q5 prog 36 [va,vb] w λr w'=>O3 [] w w'/\Qu 3 w.heap.size w' r (mrg (· || ·) a b):=by
 refine Zs func36 ntmps36 results36 ?_;refine Qe<|Qc<|Qm<|Qb<|Qa<|xf<|(QbO Qpm E G H).mono ?_;rintro I S ⟨J,O⟩;refine Qc ?_;exact Ql ⟨[I],La,J,O⟩
theorem Qj8 {L L':LN}{a b:LI}(E:QQ L w.heap va a)(G:QQ L' w.heap vb b)(H:a.length+b.length<=1099511627776):
  Q5 prog 126 [va,vb] w λr w'=>O3 [] w w'/\Qu 3 w.heap.size w' r (mrg (λp q=>p && !q) a b):=by
 refine Zs func126 ntmps126 results126 ?_;refine Qe<|Qc<|Qm<|Qb<|Qa<|xf<|(QbO Qig E G H).mono ?_;rintro I S ⟨J,O⟩;refine Qc ?_;exact Ql ⟨[I],La,J,O⟩
theorem QgK {L L':LN}{a b:LI}(E:QQ L w.heap va a)(G:QQ L' w.heap vb b)(H:a.length+b.length<=1099511627776):
  Q5 prog 86 [va,vb] w λr w'=>O3 [] w w'/\r=.bool (decide (mrg (λp q=>p && !q) a b=[])):=by
 refine Zs func86 ntmps86 results86 ?_;refine Qe<|Qc<|Qm<|Qb<|Qa<|xf<|(Qj8 E G H).mono ?_;rintro O S ⟨I,J⟩;have T:=Qax (λp q=>p && !q) a b;have hi:=Qu.ints (L:=[]) J oa oe;refine QL hi U<|x (Q9 U U)<|Qc<|Ql ⟨[.bool (decide (((mrg (λp q=>p && !q) a b).length:Int)=0))],La,I,?_⟩;simp[tup]
theorem QjP [Fu prog g fn](Y:∀(e:Ed) (s:Int) (w:OZ),0<=e.1->e.1<=1099511627776->0<=s->s<=1099511627776->Q5 prog g [.agg (QF e).toArray,oF oG s] w λr w'=>r=oF oG (e.1 - s)/\O3 [] w w')
  {L:LN}  {v:O0} {es:List Ed} (h:qX L w.heap v es) (hi:es.Pairwise (λa b=>a.1<=b.1)) (hb:∀e∈es,0<=e.1/\e.1<=1099511627776) (s:Int) (ha:0<=s) (hc:s<=1099511627776):
  Q5 prog 227 [v,oF oG s,.func (.func g) #[] #[]] w λr w'=>O3 [] w w'/\∃(i:Nat) (b:Bool),r=.tuple #[oF oG i,.bool b]/\i<=es.length /\
   (∀m (E:m<es.length),m<i->es[m].1<s)/\(∀m (E:m<es.length),i<=m->s<=es[m].1):=by
 have h3:=h.le;have he:∀{i j:Nat} (G:j<es.length) (I:i<j),es[i].1<=es[j].1:=λ{i j} G I=>MK.1 hi i j oa G I;have hf:∀m (E:m<es.length),0<=es[m].1/\es[m].1<=1099511627776:=λm E=>hb _ (Lm E);refine Zs func227 ntmps227 results227 ?_;refine Qe<|x Qk<|Qc<|Qm<|QL h U<|Qc<|Qm<|x Qk<|Qc<|Qd<|Qg<|QC (α:=Nat×Nat) [(9,11),(15,34)] (λz=>[(9,oF oG z.1),(10,oF oG z.2)])
  (λz w'=>O3 [] w w'/\z.1<=z.2/\z.2<=es.length/\(∀m (E:m<es.length),m<z.1->es[m].1<s)/\(∀m (E:m<es.length),z.2<=m->s<=es[m].1)) (λz=>z.2 - z.1) ol (0,es.length) oA
  ⟨O3.Z _ _,Ln _,Lx _,λm _ J=>OU J (Nf m),λm h1 J=>OU h1 (by simp only[]at J;omega)⟩ ?_
 rintro⟨i,j⟩ g1 w1 ⟨H,I,G,O,S⟩;simp only[]at I G O S;refine Qd<|Qm<|Qb<|QX U U<|xe<|QG rfl (λho=>?_) (λho=>?_)
 ·have e:i=j:=oa
  subst e;refine Qx<|Q3 (α:=Bool) [(6,7),(35,48)] (λz=>[(6,oF oG i),(7,.bool z)]) (λz w'=>O3 [] w1 w') ol ?_ ?_
  ·refine Qw<|Qb<|Qb<|Qb<|xb (YJ U U) (λhp=>?_) (λhp=>?_)
   ·have hg:i<es.length:=oa
    have T:=hf i hg;refine Qb<|Qb<|Qb<|Qb<|xie (h.I H) U U hg λh4 hr=>x (Qv hr U U)<|Qb<|Qa<|xc (first:=[]) (capt:=[]) U<|(Y es[i] s _ T.1 T.2 ha hc).mono ?_;rintro r2 w2 ⟨rfl,hs⟩;refine x (Q9 U U)<|QK U<|x Qk<|Qc ?_;exact⟨_,oA,hs⟩
   refine Qb<|Qr<|Qr<|Qr<|Qr<|Qr<|Qr<|Qr<|Qr<|QK U<|x Qk<|Qc ?_;exact⟨false,oA,O3.Z _ _⟩
  rintro z g3 w3 ht;exact Ql ⟨[oF oG i,.bool z],oA,H.D ht,i,z,U,G,O,S⟩
 refine Qh<|Qg<|Qm<|Qb<|QN U U<|x (Ye U (by exact⟨oa,oa⟩))<|x (ji (n:=1) U U og)<|x (Ye U (by exact⟨oa,oa⟩))<|Qc ?_;have hh:(((i:Int)+(j:Int)) / 2 ^ 1)=(((i+j) / 2:Nat):Int):=oa
 rw[hh];generalize T:(i+j) / 2=q;have hu:i<=q:=oa
 have hv:q<j:=oa
 have V:q<es.length:=oa
 have hl:=hf q V;refine Qm<|Qb<|Qb<|xie (h.I H) U U V λh5 hw=>x (Qv hw U U)<|Qb<|Qa<|xc (first:=[]) (capt:=[]) U<|(Y es[q] s _ hl.1 hl.2 ha hc).mono ?_;rintro r4 w4 ⟨rfl,hn⟩;refine QX rfl U<|xe<|QG rfl (λhy=>?_) (λhy=>?_)
 ·refine Qw<|Qb<|Qc<|⟨(i,q),oh,oA,H.D hn,hu,oa,O,λm E hz=>?_⟩;by_cases e:q=m
  ·subst e;omega
  have:=he E (show q<m by simp only[]at hz;omega);omega
 refine Qw<|Qb<|QN U U<|Qc<|⟨(q+1,j),oh,oA,H.D hn,hv,G,λm E h2=>?_,S⟩;by_cases e:m=q
 ·subst e;omega
 have:=he V (show m<q by simp only[]at h2;omega);omega
theorem Qk7 (e:Ed)(s:Int)(w:OZ)(H:0<=e.1)(I:e.1<=1099511627776)(J:0<=s)(O:s<=1099511627776):
  Q5 prog 228 [.agg (QF e).toArray,oF oG s] w λr w'=>r=oF oG (e.1 - s)/\O3 [] w w':=by
 refine Zs func228 ntmps228 results228 ?_;refine Qe<|Qa<|QS (us:=QF e) U λb2 S E T G=>Qc<|Qe<|Qs U G U U<|Qb<|x (Jb U U ⟨oa,oa⟩)<|Qc ?_;exact Ql ⟨[oF oG (e.1 - s)],La,U,E⟩
theorem Qk6 (e:Ed)(s:Int)(w:OZ)(H:0<=e.1)(I:e.1<=1099511627776)(J:0<=s)(O:s<=1099511627776):
  Q5 prog 229 [.agg (QF e).toArray,oF oG s] w λr w'=>r=oF oG (e.1 - s)/\O3 [] w w':=by
 refine Zs func229 ntmps229 results229 ?_;refine Qe<|Qa<|QS (us:=QF e) U λb2 S E T G=>Qc<|Qe<|Qs U G U U<|Qb<|x (Jb U U ⟨oa,oa⟩)<|Qc ?_;exact Ql ⟨[oF oG (e.1 - s)],La,U,E⟩
theorem Qar {L:LN}{st:Int}{es:List Ed}(h:qX L w.heap ve es)(hi:es.Pairwise (λa b=>a.1<=b.1))(S:∀e∈es,0<=e.1/\e.1<=1099511627776)(s:Int)(hf:0<=s)(hp:s<1099511627776):
  Q5 prog 188 [.agg #[va,oF oG st,vm,ve],oF oG s] w λr w'=>O3 [] w w'/\qX L w'.heap r (Yc es s):=by
 refine Zs func188 ntmps188 results188 ?_;refine Qe<|Qa<|QS (us:=[va,oF oG st,vm,ve]) U λb2 w1 T hq E=>Qc ?_
 replace h:=h.I T;refine Qe<|Qs U E U U<|Qb<|Qa<|xf<|(QjP Qk7 h hi S s hf oa).mono ?_;rintro r2 w2 ⟨J,lo,b,rfl,hr,V,hg⟩
 replace h:=h.I J
 replace E:=E.I J;refine Qb<|Q8 U U<|Q8 U U<|x Qk<|Qc<|Qe<|Qs U E U U<|Qb<|QN U U<|Qa<|xf<|(QjP Qk6 h hi S (s+1) oa oa).mono ?_;rintro r3 w3 ⟨O,G,b',rfl,Y,hh,ha⟩
 replace h:=h.I O
 replace E:=E.I O;refine Qb<|Q8 U U<|Q8 U U<|x Qk<|Qc ?_;have he:lo<=G:=by
  rcases OF G lo with hj|hge
  ·have I:=V G oa hj;have h2:=ha G oa (Lx _);omega
  exact hge
 refine Qe<|Qs U E U U<|Qb<|Qb<|Qqi h U U U he Y λv' hk=>Qc<|Ql ⟨[v'],La,(T.D J).D O,?_⟩;have hc:=QdD (λe:Ed=>decide (e.1=s)) es lo G he Y (λm H hl=>by have:=V m H hl;simp;omega) (λm H I h2=>by have:=hg m H I;have:=hh m H h2;simp;omega) (λm H I=>by have:=ha m H I;simp;omega);have hn:(Yc es s).length=G - lo:=by unfold Yc;rw[<-hc,Ly,LW];omega
 show Zv L w3.heap v' (Yc es s).length 3 _;rw[hn];have e1:(Yc es s).flatMap QF=((es.flatMap QF).drop (lo*3)).take ((G - lo)*3):=by
  unfold Yc;rw[<-hc];have key:∀(l:List Ed) (k:Nat),(l.flatMap QF).drop (k*3)=(l.drop k).flatMap QF:=by
   intro l;induction l with
   | nil=>intro k;simp
   | cons a l ih=>intro k;cases k with
    | zero=>simp
    | succ k=>simp only[Om,List.drop_succ_cons,Oo,Nat.one_mul];rw[Na,<-List.drop_drop,show(QF a++l.flatMap QF).drop 3=l.flatMap QF from rfl,ih]
  have ho:∀(l:List Ed) (k:Nat),(l.flatMap QF).take (k*3)=(l.take k).flatMap QF:=by
   intro l;induction l with
   | nil=>intro k;simp
   | cons a l ih=>intro k;cases k with
    | zero=>simp
    | succ k =>
     simp only[Om,List.take_succ_cons,Oo,Nat.one_mul];rw[OH,JU,<-ih,Ls (by simp[JU])];simp
  rw[key,ho]
 rw[e1];exact hk
structure ZJ (a:Zd):Prop where
 al:∀e∈a.al,0<=e/\e<32
 ali:Y1 a.al
 st0:0<=a.st
 st1:a.st<=4096
 mr:∀s∈a.mr,0<=s/\s<a.st
 mri:Y1 a.mr
 ed:∀e∈a.ed,0<=e.1/\e.1<a.st/\e.2.1∈a.al/\0<=e.2.2/\e.2.2<a.st
 edi:a.ed.Pairwise λx y=>x.1<y.1\/(x.1=y.1/\x.2.1<y.2.1)
theorem Xz (n:Int):∀(l:LI) (pr:Option Int),Kf n pr l=0↔(∀x∈l,0<=x/\x<n)/\Y1 l/\∀y,pr=some y->∀x∈l,y<x
 | [],pr=>by simp[Kf]
 | a::l,pr=>by
  have ih:=Xz n l (some a);rw[Kf];by_cases O:a<0\/n<=a
  ·rw[OS O];simp only[Oq];constructor
   ·intro h;cases h
   rintro⟨⟨h,_⟩,_⟩;omega
  rw[OR O];by_cases E:yL pr a=true
  ·rw[OS E];constructor
   ·intro h;cases h
   rintro⟨_,_,h⟩;cases pr with
   | none=>simp[yL]at E
   | some y=>simp[yL]at E;have:=h y U a Lt;omega
  rw[OR E,ih];simp only[Oq,List.pairwise_cons];constructor
  ·rintro⟨H,I,G⟩;refine⟨⟨oa,H⟩,⟨λb S=>G a U b S,I⟩,?_⟩;rintro y rfl;simp[yL]at E;exact⟨E,λz J=>ou (G a U z J)⟩
  rintro⟨⟨_,H⟩,⟨I,G⟩,_⟩;exact⟨H,G,λy T z J=>by cases T;exact I z J⟩
theorem Qcp (al:LI)(st:Int):∀(l:List Ed) (pr:Option Ed),ckE al st pr l=0↔(∀e∈l,0<=e.1/\e.1<st/\e.2.1∈al/\0<=e.2.2/\e.2.2<st)/\(l.Pairwise λx y=>x.1<y.1\/(x.1=y.1/\x.2.1<y.2.1)) /\
  ∀y,pr=some y->∀e∈l,y.1<e.1\/(y.1=e.1/\y.2.1<e.2.1)
 | [],pr=>by simp[ckE]
 | a::l,pr=>by
  have ih:=Qcp al st l (some a);rw[ckE];by_cases S:a.1<0\/st<=a.1\/a.2.2<0\/st<=a.2.2
  ·rw[OS S];simp only[Oq];constructor
   ·intro h;cases h
   rintro⟨⟨h,_⟩,_⟩;omega
  rw[OR S];by_cases G:a.2.1∉al
  ·rw[OS G];constructor
   ·intro h;cases h
   rintro⟨h,_⟩;exact OU (h a Lt).2.2.1 G
  rw[OR G];by_cases E:edO pr a=true
  ·rw[OS E];constructor
   ·intro h;cases h
   rintro⟨_,_,h⟩;cases pr with
   | none=>simp[edO]at E
   | some y=>simp[edO]at E;have:=h y U a Lt;omega
  rw[OR E,ih];simp only[Oq,List.pairwise_cons];have T:a.2.1∈al:=Lo.1 G;constructor
  ·rintro⟨I,J,H⟩;refine⟨⟨⟨oa,oa,T,oa,oa⟩,I⟩,⟨λb V=>H a U b V,J⟩,?_⟩;rintro y rfl;simp[edO]at E;have Y:y.1<a.1\/y.1=a.1/\y.2.1<a.2.1:=oa
   exact⟨Y,λz O=>ou (H a U z O)⟩
  rintro⟨⟨_,I⟩,⟨J,H⟩,_⟩;exact⟨I,H,λy hy z O=>by cases hy;exact J z O⟩
theorem Z6 (a:Zd):KD a=0↔ZJ a:=by
 unfold KD;by_cases E:Kf 32 none a.al≠0
 ·rw[OS E];exact⟨λh=>OU h E,λh=>OU ((Xz 32 a.al none).2 ⟨h.al,h.ali,λ_ h=>by cases h⟩) E⟩
 rw[OR E];have H:=(Xz 32 a.al none).1 (Lo.1 E);by_cases I:a.st<0
 ·rw[OS I];exact⟨λh=>(by cases h),λh=>(ou h.st0)⟩
 rw[OR I];by_cases J:4096<a.st
 ·rw[OS J];exact⟨λh=>(by cases h),λh=>(ou h.st1)⟩
 rw[OR J];by_cases G:Kf a.st none a.mr≠0
 ·rw[OS G];exact⟨λh=>OU h G,λh=>OU ((Xz a.st a.mr none).2 ⟨h.mr,h.mri,λ_ h=>by cases h⟩) G⟩
 rw[OR G,Qcp];have O:=(Xz a.st a.mr none).1 (Lo.1 G);exact⟨λh=>⟨H.1,H.2.1,oa,oa,O.1,O.2.1,h.1,h.2.1⟩,λh=>⟨h.ed,h.edi,λ_ h=>by cases h⟩⟩
theorem XR:∀(l:LI) (a n:Int),Y1 l->(∀x∈l,a<=x/\x<n)->(l.length:Int)<=max 0 (n - a)
 | [],a,n,_,_=>by simp;omega
 | x::l,a,n,E,G=>by
  simp only[List.pairwise_cons,Oq]at E G;have:=XR l (x+1) n E.2 (λy H=>⟨ou (E.1 y H),(G.2 y H).2⟩);simp only[oV];omega
theorem ZJ.al_le {a:Zd}(h:ZJ a):a.al.length<=32:=by have:=XR a.al 0 32 h.ali h.al;omega
theorem ZJ.mr_le {a:Zd}(h:ZJ a):a.mr.length<=4096:=by have:=XR a.mr 0 a.st h.mri h.mr;have:=h.st1;omega
theorem ZJ.eds {a:Zd}(h:ZJ a):a.ed.Pairwise λx y=>x.1<=y.1:=h.edi.imp λh=>oa
structure Cs where
 ord:LI
 num:LI
 mk':LI
 ed:List Ed
def Jk (l:LI)(k:Int):Int:=l.getD k.toNat 0
def ZQ (i:Nat)(c:Cs)(e:Ed):Cs :=
 if Jk c.num e.2.2<0 then⟨c.ord++[e.2.2],c.num.set e.2.2.toNat c.ord.length,c.mk',c.ed++[((i:Int),e.2.1,(c.ord.length:Int))]⟩
 else⟨c.ord,c.num,c.mk',c.ed++[((i:Int),e.2.1,Jk c.num e.2.2)]⟩
def YW (a:Zd)(i:Nat)(c:Cs):Cs:=if Jk c.ord i∈a.mr then⟨c.ord,c.num,c.mk'++[(i:Int)],c.ed⟩else c
def yI (a:Zd)(i:Nat)(c:Cs):Cs:=(Yc a.ed (Jk c.ord i)).foldl (ZQ i) (YW a i c)
def KS (a:Zd):Nat->Nat->Cs->Cs
 | 0,_,c=>c
 | f+1,i,c=>if i<c.ord.length then KS a f (i+1) (yI a i c)else c
def KH (a:Zd):Cs:=⟨[0],(oN a.st.toNat (-1)).set 0 0,[],[]⟩
def KT (a:Zd):Zd:=if a.st=0 then⟨a.al,0,[],[]⟩else
 let c:=KS a a.st.toNat 0 (KH a);⟨a.al,c.ord.length,c.mk',c.ed⟩
def neg (l:LI):Nat:=(l.filter (·<0)).length
theorem Ut:∀(l:LI) (k:Nat) (v:Int) (h:k<l.length),l[k]<0->0<=v->neg (l.set k v)+1=neg l
 | a::l,0,v,_,E,G=>by
  have H:a<0:=E;simp[neg,H,show ¬v<0 by omega]
 | a::l,k+1,v,h,E,G=>by
  have ih:=Ut l k v (oz h) E G;unfold neg at *;simp only[List.set_cons_succ,List.filter_cons];split
  ·simp only[oV];omega
  exact ih
structure Ud (st:Int)(c:Cs):Prop where
 nl:c.num.length=st.toNat
 sum:c.ord.length+neg c.num=st.toNat
 ord:∀s∈c.ord,0<=s/\s<st
 num:∀v∈c.num,v<c.ord.length
 el:c.ed.length<=1000000000
theorem Ud.le {st:Int}{c:Cs}(h:Ud st c):c.ord.length<=st.toNat:=by have:=h.sum;omega
theorem UA {l:LI}{k:Int}(h:k.toNat<l.length):Jk l k=l[k.toNat]:=by unfold Jk;simp[oQ,h]
theorem Qbh {st:Int}{c:Cs}{e:Ed}(h:Ud st c)(J:0<=e.2.2)(O:e.2.2<st)(hl:c.ed.length+1<=1000000000):Ud st (ZQ i c e):=by
 have H:e.2.2.toNat<c.num.length:=by rw[h.nl];omega
 unfold ZQ;split
 ·rename_i I;rw[UA H]at I;refine⟨by simp[h.nl],?_,?_,?_,oz hl⟩
  ·have:=Ut c.num e.2.2.toNat c.ord.length H I oa;have:=h.sum;simp only[oM,oO];omega
  ·intro s E;simp only[oU,oI]at E;rcases E with E|rfl
   ·exact h.ord s E
   exact⟨J,O⟩
  intro v G;simp only[oM,oO];rcases MS G with G|rfl
  ·have:=h.num v G;omega
  omega
 exact⟨h.nl,h.sum,h.ord,h.num,oz hl⟩
theorem Qbj (i:Nat)(c:Cs)(e:Ed):(ZQ i c e).ed.length=c.ed.length+1:=by unfold ZQ;split <;> simp
theorem Qii {a:Zd}{st:Int}{c:Cs}(h:Ud st c):Ud st (YW a i c):=by
 unfold YW;split
 ·exact⟨h.nl,h.sum,h.ord,h.num,h.el⟩
 exact h
theorem Yf {es:List Ed}{e:Ed}(h:e∈Yc es s):e∈es/\e.1=s:=by unfold Yc at h;simpa using h
theorem Qfk {a:Zd}(O:0<a.st):Ud a.st (KH a):=by
 have H:0<a.st.toNat:=oa
 refine⟨by simp[KH],?_,?_,?_,by simp[KH]⟩
 ·have I:0<(oN a.st.toNat (-1:Int)).length:=by simpa using H
  have S:=Ut (oN a.st.toNat (-1)) 0 0 I oe (NG _);have T:neg (oN a.st.toNat (-1))=a.st.toNat:=by
   unfold neg;rw[NA.2 (by intro b J;have:=Ny J;subst this;rfl)];simp
  simp only[KH,oO];omega
 ·intro s G;simp[KH]at G;subst G;omega
 intro v E;simp only[KH,oO]at *;rcases MS E with E|rfl
 ·have:=Ny E;omega
 omega
theorem jS {a:Zd}{f:Nat}{c:Cs}(h:¬i<c.ord.length):KS a f i c=c:=by
 cases f with
 | zero=>rfl
 | succ f=>rw[KS,OR h]
theorem ZJ.ed_le {a:Zd}(h:ZJ a):a.ed.length<=131072:=by
 have H:Y1 (a.ed.map λe=>e.1*32+e.2.1):=by
  refine MW.2 (List.Pairwise.imp_of_mem ?_ h.edi);intro x y hx I S;have E:=h.al _ (h.ed x hx).2.2.1;have G:=h.al _ (h.ed y I).2.2.1;omega
 have E:=XR _ 0 131072 H (by
  intro v J;obtain⟨e,O,rfl⟩:=LD.1 J;have G:=h.ed e O;have T:=h.al _ G.2.2.1;have:=h.st1;omega)
 simp only[Oc]at E;omega
theorem K5 (es:List Ed)(s:Int):(Yc es s).length<=es.length:=Ma _ _
structure KK (b3 b22:Nat)(r3:O0)(wS:OZ)(c:Cs)(vo vk ve:O0)(w:OZ):Prop where
 st:O3 [b3,b22] wS w
 B3:Q7 w.heap b3 61 [r3,oF oG 0,vk,ve]
 B22:Q7 w.heap b22 3 (c.num.map (Value.int .i64))
 o:Qu 3 wS.heap.size w vo c.ord
 k:Qu 3 wS.heap.size w vk c.mk'
 e:YB 213 wS.heap.size w ve c.ed
 d1:Dj vo vk
 d2:Dj vo ve
 d3:Dj vk ve
theorem KK.I {b3 b22:Nat}{r3:O0}{wS:OZ}{c:Cs}{vo vk ve:O0}{w w':OZ}(h:KK b3 b22 r3 wS c vo vk ve w)(E:O3 [] w w'):KK b3 b22 r3 wS c vo vk ve w' :=
 ⟨h.st.D E,h.B3.I E,h.B22.I E,Qp h.o E,Qp h.k E,Qp h.e E,h.d1,h.d2,h.d3⟩
section
variable {b3 b22:Nat}{r3:O0}{wS:OZ}{c:Cs}{vo:O0}{w'':OZ}
theorem KK.setK (h:KK b3 b22 r3 wS c vo vk ve w)(V:b3<wS.heap.size)(S:b22<wS.heap.size)(ne:b3≠b22){H:O0}{m:LI}(I:O3 (ob vk) w w')(J:Qu 3 wS.heap.size w' H m)
  (O:∀b∈ob H,b∈ob vk\/w.heap.size<=b) (G:O3 [b3] w' w'') (T:Q7 w''.heap b3 61 [r3,oF oG 0,H,ve]):KK b3 b22 r3 wS ⟨c.ord,c.num,m,c.ed⟩ vo H ve w'':=by
 have hge:=Qi h.k;refine⟨(h.st.then I (λb E=>.inr (hge b E).1)).then G (λb E=>.inl (by simp at E;simp[E])),T,(h.B22.J I (QT h.k S)).J G (by simp;omega),
  Qf (Qf h.o I h.d1) G (λb E=>by have:=(Qi h.o b E).1;simp;omega),Qf J G (λb E=>by have:=(Qi J b E).1;simp;omega),
  Qf (Qf h.e I h.d3.symm) G (λb E=>by have:=(Qi h.e b E).1;simp;omega),h.d1.grow O (Zb h.o),h.d2,(h.d3.symm.grow O (Zb h.e)).symm⟩
theorem KK.setE (h:KK b3 b22 r3 wS c vo vk ve w)(V:b3<wS.heap.size)(S:b22<wS.heap.size)(ne:b3≠b22){H:O0}{m:List Ed}(I:O3 (ob ve) w w')(J:YB 213 wS.heap.size w' H m)
  (O:∀b∈ob H,b∈ob ve\/w.heap.size<=b) (G:O3 [b3] w' w'') (T:Q7 w''.heap b3 61 [r3,oF oG 0,vk,H]):KK b3 b22 r3 wS ⟨c.ord,c.num,c.mk',m⟩ vo vk H w'':=by
 have hge:=Qi h.e;refine⟨(h.st.then I (λb E=>.inr (hge b E).1)).then G (λb E=>.inl (by simp at E;simp[E])),T,(h.B22.J I (QT h.e S)).J G (by simp;omega),
  Qf (Qf h.o I h.d2) G (λb E=>by have:=(Qi h.o b E).1;simp;omega),Qf (Qf h.k I h.d3) G (λb E=>by have:=(Qi h.k b E).1;simp;omega),
  Qf J G (λb E=>by have:=(Qi J b E).1;simp;omega),h.d1,h.d2.grow O (Zb h.o),h.d3.grow O (Zb h.k)⟩
theorem KK.setN (h:KK b3 b22 r3 wS c vo vk ve w)(I:b22<wS.heap.size)(ne:b3≠b22){m:LI}(G:O3 [b22] w w')(H:Q7 w'.heap b22 3 (m.map (Value.int .i64))):KK b3 b22 r3 wS ⟨c.ord,m,c.mk',c.ed⟩ vo vk ve w' :=
 ⟨h.st.then G (λb E=>.inl (by simp at E;simp[E])),h.B3.J G (by simp;omega),H,Qf h.o G (λb E=>by have:=(Qi h.o b E).1;simp;omega),
  Qf h.k G (λb E=>by have:=(Qi h.k b E).1;simp;omega),Qf h.e G (λb E=>by have:=(Qi h.e b E).1;simp;omega),h.d1,h.d2,h.d3⟩
theorem KK.setO (h:KK b3 b22 r3 wS c vo vk ve w)(I:b3<wS.heap.size)(J:b22<wS.heap.size){G:O0}{m:LI}(E:O3 (ob vo) w w')(O:Qu 3 wS.heap.size w' G m)
  (H:∀b∈ob G,b∈ob vo\/w.heap.size<=b):KK b3 b22 r3 wS ⟨m,c.num,c.mk',c.ed⟩ G vk ve w' :=
 ⟨h.st.then E (λb S=>.inr (Qi h.o b S).1),h.B3.J E (QT h.o I),h.B22.J E (QT h.o J),O,Qf h.k E h.d1.symm,Qf h.e E h.d2.symm,
  (h.d1.symm.grow H (Zb h.k)).symm,(h.d2.symm.grow H (Zb h.e)).symm,h.d3⟩
end
def Ym (c:Cs)(e:Ed):Cs:=if Jk c.num e.2.2<0 then⟨c.ord++[e.2.2],c.num.set e.2.2.toNat c.ord.length,c.mk',c.ed⟩else c
theorem Qlc (c:Cs)(e:Ed):(Ym c e).num.length=c.num.length:=by unfold Ym;split <;> simp
theorem zw {c:Cs}{e:Ed}(h:e.2.2.toNat<c.num.length):ZQ i c e=⟨(Ym c e).ord,(Ym c e).num,(Ym c e).mk',(Ym c e).ed++[((i:Int),e.2.1,Jk (Ym c e).num e.2.2)]⟩:=by
 unfold ZQ Ym;split
 ·simp[Jk,oQ,h]
 rfl
theorem KE {L:LN}{a:Zd}(h:ZK L w.heap va vm ve a)(Y:ZJ a):
  Q5 prog 125 [.agg #[va,oF oG a.st,vm,ve]] w λr w'=>O3 [] w w'/\Jo w.heap.size w'.heap r (KT a):=by
 have hst0:=Y.st0;have hst1:=Y.st1;refine Zs func125 ntmps125 results125 ?_;refine Qe<|Qa<|QS (us:=[va,oF oG a.st,vm,ve]) U λb1 w1 go hb1 hr=>Qa<|Qo (us:=[nS,oF oG 0,nS,nS]) U λb2 w2 hh hb2 ht=>xe ?_;have hl1:=hr.lt;have hl2:=ht.lt;refine Qe<|Qs U (hr.I hh) U U<|Qa<|xf<|(ZU ((h.al.I go).I hh)).mono ?_;rintro r3 w3 ⟨ha,O⟩;have hz3:=ha.size;refine x (Qz ⟨(Qu.ints (L:=[]) O h.al.le oe).cells,Z⟩)<|Qa<|Qo (us:=[nS,oF oG 0,nS,nS]) rfl λb3 w4 kr kt hv =>
  Qa<|Qj (us:=[r3,oF oG 0,nS,nS]) hv U U U U ⟨(Qu.ints (L:=[]) O h.al.le oe).one,rfl,rfl,rfl,Z⟩ λw5 ku hv=>xe ?_
 have J:O3 [] w3 w5:=kr.O ku kt;have hl3:=hv.lt;have gp:O3 [] w w5:=((go.D hh).D ha).D J;refine Qd<|Qe<|Q0 U<|x (Qq (((hr.I hh).I ha).I J) U U)<|x (Q9 U U)<|xe<|QZ rfl (λhL=>?_) (λhL=>?_)
 ·refine Qe<|Q2 hv U U<|Qa<|Qj (us:=[r3,oF oG 0,nS,nS]) ((ht.I ha).I J) U U U U ⟨(Qu.ints (L:=[]) O h.al.le oe).one,rfl,rfl,rfl,Z⟩ λw6 gq ht=>xe ?_;refine Ql ⟨[.agg #[r3,oF oG 0,nS,nS]],⟨⟨_,U,Qn U (ht.at (L:=[]) oe).cells⟩,Z⟩,gp.O gq oa,?_⟩;have kv:=Qf (Qp O J) gq (λb E=>by have:=(Qi O b E).1;simp;omega);unfold KT;rw[OS hL];exact⟨r3,_,_,U,λL' hw=>⟨Qu.ints kv h.al.le (λb E=>ou (hw b E)),Zv.nil _ _ _,Zv.nil _ _ _⟩⟩
 have kw:0<a.st:=oa
 obtain⟨n,hn⟩:∃n:Nat,a.st=n:=⟨a.st.toNat,oa⟩;have kx:a.st.toNat=n:=oa
 refine Qh<|Qe<|Q0 U<|x (Qq (((hr.I hh).I ha).I J) U U)<|Qa<|U6 (n:=n) (OT (Value.int .i64) hn) (OT (Value.int .i64) hn) oa λb22 w7 hy hb22 hM=>Qc ?_;have hl22:=hM.lt;have kz:=gp.D hy;rw[show(oN n (oF oG 0).cells.toList).flatten=((oN n 0).map (Value.int .i64)) by rw[show(oF oG 0).cells.toList=[oF oG 0] from rfl,Qbx,List.map_replicate]]at hM;have k0:O3 [] w3 w7:=J.D hy;refine Qd<|Qm<|x (Uo U)<|Qb<|xe<|Qg<|QC (α:=Nat) [(5,5),(25,31)] (λk=>[(25,oF oG k)]) (λk w'=>O3 [b22] w7 w'/\k<=n/\Q7 w'.heap b22 3 ((oN k (-1)++oN (n - k) 0).map (Value.int .i64))) (λk=>n - k) ol 0 La
  ⟨O3.Z _ _,Ln _,oz hM⟩ ?_
 rintro k g w8 ⟨hN,hk,hO⟩;refine Qe<|QX U U<|xe<|Qd<|QG U (λk4=>?_) (λk4=>?_)
 rotate_left
 ·have T:k<n:=oa
  refine Qh<|Qd<|Qg<|Qm<|Qc<|Qw<|Qb<|Qb<|x (ZB U U T)<|Qa<|J8 hO U U (by simp;omega) λw9 h7 gr=>xe ?_;refine Qw<|QN U U<|Qb<|xe<|⟨k+1,oa,La,hN.Q h7,oa,?_⟩;have e:(oN k (-1:Int)++oN (n - k) 0).set k (-1)=oN (k+1) (-1)++oN (n - (k+1)) 0:=by
   rw[List.set_append_right _ _ oe];obtain⟨m,hm⟩:∃m,n - k=m+1:=⟨n - k - 1,oa⟩;rw[hm,show n - (k+1)=m by omega,List.replicate_succ,List.replicate_succ' (n:=k)];simp
  rw[e]at gr;exact gr
 have k5:n=k:=oa
 subst k5;simp only[Nat.sub_self,List.replicate_zero,List.append_nil]at hO;refine Qx<|Qm<|x (ZB (i:=0) U U oa)<|Qa<|J8 (i:=0) hO U U (by simp;omega) λwS h7 k6=>xe ?_;have hzS:w8.heap.size<=wS.heap.size:=h7.size;have hz8:=hN.size;have hz:O3 [b22] w7 wS:=hN.Q h7;have hP:O3 [] w wS:=kz.O hz oa;have hA:ZK [b3,b22] wS.heap va vm ve a:=(h.up (λb E=>.inr (by simp at E;omega))).I hP;have gs:Q7 wS.heap b1 61 [va,oF oG a.st,vm,ve]:=((((hr.I hh).I ha).I J).I hy).J hz (by simp;omega);have k7:Q7 wS.heap b2 61 [nS,oF oG 0,nS,nS]:=(((ht.I ha).I J).I hy).J hz (by simp;omega);have k8:Q7 wS.heap b3 61 [r3,oF oG 0,nS,nS]:=(hv.I hy).J hz (by simp;omega);have k9:Qu 3 w2.heap.size wS r3 a.al:=Qf (Qp O k0) hz (λb E=>by have:=Zb O b E;simp;omega);have ma:∀b∈ob r3,b<w3.heap.size:=Zb O;have h0:b3<wS.heap.size:=oa
 have h2:b22<wS.heap.size:=oa
 have hQ:b3≠b22:=oa
 refine Qe<|Qa<|QB (us:=[[oF oG 0]]) U U og oe ⟨rfl,rfl,Z⟩ λgt mf hR hb34 mg=>Qc ?_;have mh:Qu 3 wS.heap.size mf (.slice (some ⟨gt,0,none⟩) 1 1) [0]:=mg.own (n:=1) (sz:=1) U oa oa;refine Qd<|Qe<|Qc ?_;have hedle:=Y.ed_le;have mj:∀e∈a.ed,0<=e.1/\e.1<=1099511627776:=λe he=>ou (Y.ed e he)
 refine Qg<|QC (α:=Nat×Cs×O0×O0×O0) [(6,9),(11,11),(35,100)] (λz=>[(6,z.2.2.1),(7,oF oG z.1)])
  (λz w'=>KK b3 b22 r3 wS z.2.1 z.2.2.1 z.2.2.2.1 z.2.2.2.2 w'/\z.1<=z.2.1.ord.length/\Ud a.st z.2.1/\z.2.1.mk'.length<=z.1/\z.2.1.ed.length<=z.1*131072/\KS a (a.st.toNat - z.1) z.1 z.2.1=KS a a.st.toNat 0 (KH a))
  (λz=>a.st.toNat - z.1) ol (0,KH a,.slice (some ⟨gt,0,none⟩) 1 1,nS,nS) oA
  ⟨⟨hR.any,k8.I hR,by show Q7 _ _ _ (List.map _ ((oN a.st.toNat (-1)).set 0 0));rw[kx];exact k6.I hR,mh,QJ _ _ _ _,QJ _ _ _ _,Dj.nil' _,Dj.nil' _,Dj.nil' _⟩,Ln _,Qfk kw,Ln _,Ln _,U⟩ ?_
 rintro⟨i,c,vo,vk,S⟩ g2 gu ⟨H,hi,G,mo,mq,hS⟩;simp only[]at H hi G mo mq hS;have hcle:=G.le;have hT:=Qu.ints (L:=[]) H.o oa oe;have ms:=hA.st H.st;have mt:=gs.J H.st (by simp;omega);refine Qd<|Qm<|Qb<|QL hT U<|QX U U<|xe<|QG rfl (λmu=>?_) (λmu=>?_)
 ·have mv:c=KS a a.st.toNat 0 (KH a):=by rw[<-hS,jS oa]
  refine Qx<|Qm<|QL hT U<|Q0 U<|Qa<|QA H.B3 U U oe rfl λmw h8 my=>xe ?_;refine Qe ?_;have mz:=Qu.ints (L:=[]) H.k oa oe;have m2:=YB.eds (L:=[]) H.e (ou G.el) oe;have m3:=Qu.ints (L:=[]) O h.al.le oe;refine Q2 my U U<|Qa<|Qj (us:=[r3,oF oG c.ord.length,vk,S]) (((k7.J H.st (by simp;omega))).J h8 (by simp;omega)) U U U U ⟨m3.one,U,mz.one,m2.one,Z⟩ λm4 h9 m5=>xe ?_;have gv:O3 [b3,b22] wS mw:=H.st.then h8 (λb E=>.inl (by simp at E;simp[E]));have m6:O3 [] w m4:=(hP.then gv (λb E=>.inr (by simp at E;omega))).O h9 oa;refine Ql ⟨[.agg #[r3,oF oG c.ord.length,vk,S]],⟨⟨_,U,Qn U (m5.at (L:=[]) oe).cells⟩,Z⟩,m6,?_⟩;unfold KT;rw[OR hL];simp only[];rw[<-mv];have k1:=Qf (Qf H.k h8 (λb E=>by have:=(Qi H.k b E).1;simp;omega)) h9 (λb E=>by have:=(Qi H.k b E).1;simp;omega);have k2:=Qf (Qf H.e h8 (λb E=>by have:=(Qi H.e b E).1;simp;omega)) h9 (λb E=>by have:=(Qi H.e b E).1;simp;omega);have k3:=Qf (Qf k9 gv (λb E=>by have:=ma b E;simp;omega)) h9 (λb E=>by have:=(Qi O b E).1;simp;omega);exact⟨r3,vk,S,U,λL' hw=>⟨Qu.ints k3 h.al.le (λb E=>ou (hw b E)),Qu.ints k1 (by show c.mk'.length<=_;omega) (λb E=>ou (hw b E)),YB.eds k2 (by show c.ed.length<=_;have:=G.el;omega) (λb E=>ou (hw b E))⟩⟩
 have T:i<c.ord.length:=oa
 refine Qh<|Qd<|Qg<|Q3 (α:=O0) [(8,9),(41,57)] (λz=>[]) (λz w'=>KK b3 b22 r3 wS (YW a i c) vo z S w') ol ?_ ?_
 ·refine Qd<|QR (O3 [] gu) [oD 0,oD 1,oD 2,oD 3,oD 4,oD 5,oE 6,oD 7,oD 8,oD 9,oD 10,oD 11] mixed ol od (O3.C _ _) ?_;refine p (QP U)<|pq (λ_ G=>Qq (mt.I G) U U)<|p Qy<|p Qy<|pii U hT U U T λa46 m7 =>
   pq (λ_ G=>QD (m7.I G) U)<|pk<|xf<|(yr (ms.mr.I (O3.C _ _)) Y.mri _).mono ?_
  rintro r14 w14 ⟨rfl,j14,rfl⟩;refine⟨O3.C _ _,?_⟩;refine p Qy<|p (λ_=>Zp U U)<|p (λ_=>Zp U U)<|p ZH<|p ZH<|pe ?_;have hU:=H.I (O3.C [] gu);refine Qm<|xe ?_;have hB:Jk c.ord i=c.ord[i]:=UA (oz T);refine QG U (λhV=>?_) (λhV=>?_)
  ·refine Qh<|⟨vk,Z,?_⟩;unfold YW;rw[hB,OR hV];exact hU
  refine Qw<|Qs U hU.B3 U U<|Qb<|Qa<|QB (us:=[[oF oG i]]) U U og oe ⟨rfl,rfl,Z⟩ λb55 w15 m8 hb55 m9=>?_;have h3:=hU.I m8;refine Qa<|Za (news:=[oF oG i]) (L:=[]) h3.k U U U (m9.at oe) (by simp[Value.oneCell']) oa h3.st.size λv16 pa pc gw pd=>?_;have gx:Qu 3 wS.heap.size pa v16 (c.mk'++[(i:Int)]):=Qu.snoc pc;refine Q0 U<|Qa<|QA (h3.B3.J gw (QT h3.k h0)) U U oe (Qu.ints (L:=[]) gx (by simp;omega) oe).one λw17 pf pg=>xe ?_;refine⟨v16,Z,?_⟩;unfold YW;rw[hB,OS hV];exact h3.setK h0 h2 hQ gw gx pd pf pg
 rintro hW g3 hj ho;have ph:Ud a.st (YW a i c):=Qii G;have hX:(YW a i c).ord=c.ord:=by unfold YW;split <;> rfl
 have pj:(YW a i c).ed=c.ed:=by unfold YW;split <;> rfl
 have pm:(YW a i c).mk'.length<=i+1:=by
  unfold YW;split
  ·simp only[oM,oO];omega
  omega
 have gy:QQ [] hj.heap vo (YW a i c).ord:=Qu.ints (L:=[]) ho.o (by rw[hX];omega) oe;rw[hX]at gy;have pn:O3 [] w hj:=hP.then ho.st (λb E=>.inr (by simp at E;omega));have po:ZK (b3::b22::(ob vo++ob S)) hj.heap va vm ve a:=(h.up (λb E=>.inr (by
  simp only[oK,oU]at E;rcases E with rfl|rfl|E|E
  ·omega
  ·omega
  ·have:=(Qi ho.o b E).1;omega
  have:=(Qi ho.e b E).1;omega))).I pn
 have pp:=gs.J ho.st (by simp;omega);have hs:=G.ord c.ord[i] (Lm T);refine Qd<|QR (O3 [] hj) [oD 0,oD 1,oD 2,oD 3,oD 4,oD 7,oE 5,oD 6] mixed ol od (O3.C _ _) ?_;refine pq (λ_ G=>Zx (pp.I G) U U)<|p Qy<|p Qy<|pii U gy U U T λa61 pu =>
  pq (λ_ G=>QD (pu.I G) U)<|p Qy<|pk<|xf<|(Qar (po.ed.I (O3.C _ _)) Y.eds mj c.ord[i] hs.1 oa).mono ?_
 rintro r19 hp ⟨pw,gz⟩;have g0:O3 [] hj hp:=(O3.C [] hj).D pw;refine⟨g0,?_⟩;refine p (λ_=>Yo gz U)<|pe ?_;have pz:=ho.I g0;have hB:Jk c.ord i=c.ord[i]:=UA (oz T);have hol:=K5 a.ed c.ord[i];have p0:yI a i c=(Yc a.ed c.ord[i]).foldl (ZQ i) (YW a i c):=by unfold yI;rw[hB]
 generalize p1:Yc a.ed c.ord[i]=os at *;have p2:∀e∈os,0<=e.2.2/\e.2.2<a.st:=λe he=>by rw[<-p1]at he;have:=Y.ed e (Yf he).1;omega
 refine Qg<|QC (α:=Nat×Cs×O0×O0) [(6,6),(11,11),(65,100)] (λz=>[(6,z.2.2.1),(65,oF oG z.1)])
  (λz w'=>KK b3 b22 r3 wS z.2.1 z.2.2.1 hW z.2.2.2 w'/\O3 (b3::b22::(ob vo++ob S)) hp w'/\(∀b∈ob z.2.2.1,b∈ob vo\/hp.heap.size<=b)/\(∀b∈ob z.2.2.2,b∈ob S\/hp.heap.size<=b)/\z.1<=os.length/\Ud a.st z.2.1/\z.2.1.mk'=(YW a i c).mk'/\z.2.1.ed.length=c.ed.length+z.1/\c.ord.length<=z.2.1.ord.length/\(os.drop z.1).foldl (ZQ i) z.2.1=yI a i c)
  (λz=>os.length - z.1) ol (0,YW a i c,vo,S) oA
  ⟨pz,O3.Z _ _,λ_ E=>.inl E,λ_ E=>.inl E,Ln _,ph,U,by simp[pj],by simp[hX],by rw[p0];rfl⟩ ?_
 rintro⟨k,d,g6,hC⟩ g4 p3 ⟨hf,hD,hE,hY,p4,V,hZ,ga,p5,h4⟩;simp only[]at hf hD hE hY p4 V hZ ga p5 h4;refine Qe<|QX U U<|xe<|Qd<|QG U (λp6=>?_) (λp6=>?_)
 ·rw[Lr oa,NE]at h4;subst h4;refine Qx<|Qw<|Qb<|QN U U<|Qc ?_;have p7:=V.le;refine⟨(i+1,yI a i c,g6,hW,hC),oh,oA,hf,oh,V,by simp only[];rw[hZ];exact pm,oh,?_⟩;simp only[];rw[<-hS];obtain⟨m,hm⟩:∃m,a.st.toNat - i=m+1:=⟨a.st.toNat - i - 1,oa⟩;rw[hm,KS,OS T,show a.st.toNat - (i+1)=m by omega]
 have gb:k<os.length:=oa
 have p8:=Zf gb;rw[p8,L4]at h4;have g7:=p2 os[k] (Lm gb);have p9:=gz.st hD;have p7:=V.le;have hzS4:=hD.size;have hI4z:=hf.st.size;have qc:=Qu.ints (L:=[]) hf.o oa oe;obtain⟨q,hq⟩:∃q:Nat,os[k].2.2=q:=⟨os[k].2.2.toNat,oa⟩;have gc:os[k].2.2.toNat=q:=oa
 have gg:q<n:=oa
 have gh:q<d.num.length:=by rw[V.nl];omega
 have g8:Jk d.num os[k].2.2=d.num[q]:=by rw[UA oa];simp only[gc]
 have qf:=Zb hf.e;have ql:=Zb hf.o;refine Qh<|Qd<|Qg<|Qe<|xie p9 U U gb λa67 qo=>x (Qv qo U U)<|Qa<|Qo (us:=[oF oG 0,oF oG 0,oF oG 0]) U λg9 w21 qr q0 hg=>Qa<|Qj (us:=QF os[k]) hg U U U U oB λq1 q2 hg=>xe ?_;have ka:O3 [] p3 q1:=qr.O q2 q0;have hF:=hf.I ka;have hl11:=hg.lt;have J:=hD.D ka;refine Q3 (α:=O0) [(6,6),(69,85)] (λz=>[(6,z)]) (λz w'=>KK b3 b22 r3 wS (Ym d os[k]) z hW hC w'/\O3 (b3::b22::(ob vo++ob S)) hp w'/\(∀b∈ob z,b∈ob vo\/hp.heap.size<=b)/\Q7 w'.heap g9 213 (QF os[k])) ol ?_ ?_
 ·refine Qm<|Qs U hg U U<|x (ZB U (OT (Value.int .i64) hq) gg)<|x (q8 hF.B22 U gh)<|QX U U<|xe<|QG U (λgi=>?_) (λgi=>?_)
  ·refine Qh<|⟨g6,La,?_,J,hE,hg⟩;unfold Ym;rw[g8,OR gi];exact hF
  refine Qm<|Qs U hg U U<|Qb<|QL qc U<|x (ZB U (OT (Value.int .i64) hq) gg)<|Qa<|J8 hF.B22 U U gh λw23 hG q3=>xe ?_;have q4:=hF.setN h2 hQ hG q3;have kb:=hg.J hG (by simp;omega);refine Qw<|Qb<|Qs U kb U U<|Qa<|QB (us:=[[oF oG os[k].2.2]]) U U og oe ⟨rfl,rfl,Z⟩ λb84 w24 hH hb84 q5=>?_;have gj:=q4.I hH;refine Qa<|Za (news:=[oF oG os[k].2.2]) (L:=[]) gj.o U U U (q5.at oe) (by simp[Value.oneCell']) (by show d.ord.length+1<=_;omega) gj.st.size λkc j1 j2 gk ke=>Qc ?_;have j3:Qu 3 wS.heap.size j1 kc (d.ord++[os[k].2.2]):=Qu.snoc j2;have hz23:=hG.size;have hz24:=hH.size;refine⟨kc,La,?_,?_,?_,(kb.I hH).J gk (λE=>ou (ql _ E))⟩
  ·unfold Ym;rw[g8,OS gi,gc];exact gj.setO h0 h2 gk j3 ke
  ·refine((J.then hG (λb E=>.inl ?_)).D hH).then gk (λb E=>?_)
   ·simp at E;simp[E]
   rcases hE b E with I|I
   ·exact .inl (by simp[I])
   exact .inr I
  intro b E;rcases ke b E with I|I
  ·exact hE b I
  exact .inr oa
 rintro za g5 gl ⟨h5,kf,zb,kg⟩;have gm:ZQ i d os[k]=⟨(Ym d os[k]).ord,(Ym d os[k]).num,(Ym d os[k]).mk',(Ym d os[k]).ed++[((i:Int),os[k].2.1,Jk (Ym d os[k]).num os[k].2.2)]⟩:=zw oa;have zv:q<(Ym d os[k]).num.length:=by rw[Qlc];exact gh
 have z0:Jk (Ym d os[k]).num os[k].2.2=(Ym d os[k]).num[q]:=by rw[UA oa];simp only[gc]
 have kh:=QT h5.e h0;have z1:=QT h5.e h2;have ki:g9∉ob hC:=λE=>ou (qf _ E)
 have kj:(Ym d os[k]).ed=d.ed:=by unfold Ym;split <;> rfl
 have z2:Ud a.st (ZQ i d os[k]):=Qbh V g7.1 g7.2 (by rw[ga];omega);refine QR (O3 (ob hC) gl) [oD 0,oD 1,oD 2,oD 3,oD 4,oD 5,oD 6,oD 7,oD 8,oD 9,oD 10,oE 11,oE 12,oD 13,oE 14] mixed ol od (O3.C _ _) ?_;refine p (QP U)<|pq (λ_ G=>Qq (h5.B3.J G kh) U U)<|p Qy<|p (QP U)<|pq (λ_ G=>Qq (kg.J G ki) U U) <|
  p Qy<|p (QP U)<|pq (λ_ G=>Qq (kg.J G ki) U U)<|p (λ_=>ZB U (OT (Value.int .i64) hq) gg) <|
  pq (λ_ G=>q8 (h5.B22.J G z1) U zv)<|p (λ_=>Qz ⟨U,U,U,Z⟩)<|pk<|QB (us:=[QF ((i:Int),os[k].2.1,(Ym d os[k]).num[q])]) U U og (by exact(by decide:1*3<=1000000)) oA λb97 z3 z4 hb97 z5=>?_
 have h6:O3 [] gl z3:=(O3.C [] gl).D z4;refine⟨h6.any,?_⟩;have hJ:=h5.I h6;refine pk<|Za (news:=QF ((i:Int),os[k].2.1,(Ym d os[k]).num[q])) (L:=[]) hJ.e U U U (z5.at oe) (λu hu=>by simp only[QF,oK,oJ,or_false]at hu;rcases hu with rfl|rfl|rfl <;> rfl) (by rw[kj];have:=V.el;omega) hJ.st.size λkk w28 ho28 hK kn=>?_
 refine⟨h6.any.Q hK,?_⟩;have ko:YB 213 wS.heap.size w28 kk ((Ym d os[k]).ed++[((i:Int),os[k].2.1,(Ym d os[k]).num[q])]):=YB.snoc ho28;refine p (QP U)<|pkl (hl:=by kernel_rfl)<|QA (hJ.B3.J hK kh) U U oe (YB.eds (L:=[]) ko (by simp[kj];have:=V.el;omega) oe).one λw29 kq hB29=>pe ?_;have gn:=hJ.setE h0 h2 hQ hK ko kn kq hB29;rw[<-z0]at gn;rw[<-gm]at gn;refine Qw<|QN U U<|Qb<|xe ?_;have hz26:=kf.size;have hz27:=h6.size;refine⟨(k+1,ZQ i d os[k],za,kk),oh,oA,gn,?_,zb,?_,oh,z2,?_,?_,?_,h4⟩
 ·refine(((kf.D h6)).then hK (λb E=>?_)).then kq (λb E=>.inl (by simp at E;simp[E]));rcases hY b E with I|I
  ·exact .inl (by simp[I])
  exact .inr I
 ·intro b E;rcases kn b E with I|I
  ·exact hY b I
  exact .inr oa
 ·simp only[];rw[<-hZ,gm];simp only[];unfold Ym;split <;> rfl
 ·simp only[];rw[Qbj,ga];omega
 simp only[];rw[gm];simp only[];unfold Ym;split
 ·simp only[oM];omega
 omega
end Go.Lg
namespace Go.Proofs
open Go.Proofs.Tryz
open Go.Shelf
def Tryz.lays169_ren:Go.Shelf.Ren:=⟨λ|169=>203|n=>n,λ|70=>341|9=>9|0=>0|72=>343|37=>144|127=>392|3=>3|5=>5|n=>n,λ|n=>n⟩
theorem Tryz.lays169:Go.Proofs.Lays.n169 prog Tryz.lays169_ren:={
 mixed:=od
 f169:=func203.D (OT some od)
 t0:=underlying0
 a0:=Tryz.isAgg0
 z0:=Tryz.sizeOf0
 v0:=Tryz.zeroValue0
 t3:=underlying3
 a3:=Tryz.isAgg3
 z3:=Tryz.sizeOf3
 v3:=Tryz.zeroValue3
 t9:=underlying9
 a9:=Tryz.isAgg9
 z9:=Tryz.sizeOf9
 v9:=Tryz.zeroValue9
 t37:=underlying144
 a37:=Tryz.isAgg144
 z37:=Tryz.sizeOf144
 v37:=Tryz.zeroValue144
 t70:=underlying341
 a70:=Tryz.isAgg341
 z70:=Tryz.sizeOf341
 v70:=Tryz.zeroValue341
 t72:=underlying343
 a72:=Tryz.isAgg343
 z72:=Tryz.sizeOf343
 v72:=Tryz.zeroValue343
 t127:=underlying392
 a127:=Tryz.isAgg392
 z127:=Tryz.sizeOf392
 v127:=Tryz.zeroValue392 }
theorem Tryz.Builder_Extra_169:Builder.Extra prog Tryz.lays169_ren:={
 sizeBuilder:=od
 liesBuilder:=od
 t5:=underlying5
 a5:=Tryz.isAgg5
 z5:=Tryz.sizeOf5
 v5:=Tryz.zeroValue5
 infoByte:=od
 cellsByte:=od
 sizeByte:=od
 neB5:=by decide }
open Go.RowKit in
open Go.RowKit in
open Go.RowKit in
theorem Tryz.Builder_String_any (B b:Nat)(l:List UInt8)(w:OZ)(h:Lib.IsBuilder 343 5 B b (Lib.byteCells l) w)(E:B<=w.heap.size):
  Calls prog 203 #[.pointer (some ⟨b,0,none⟩)] w λe w'=>e=.returned (.string ⟨l.toArray⟩)/\Below B w w':=Any.Builder_String_any Tryz.lays169 Tryz.Builder_Extra_169 B b l w h E
def Tryz.laysM171_ren:Go.Shelf.Ren:=⟨λ|171=>202|243=>241|246=>290|283=>312|284=>313|285=>314|286=>315|129=>158|317=>321|318=>322|319=>323|320=>324|337=>325|338=>326|n=>n,λ|3=>3|9=>9|2=>2|4=>4|171=>444|0=>0|53=>300|37=>144|5=>5|173=>446|212=>454|51=>298|20=>20|213=>455|46=>226|232=>456|233=>457|n=>n,λ|17=>0|18=>1|19=>2|n=>n⟩
theorem Tryz.laysM171:Go.Proofs.LaysM.n171 prog Tryz.laysM171_ren:={
 mixed:=od
 f129:=func158.D (OT some od)
 f171:=func202.D (OT some od)
 f243:=func241.D (OT some od)
 f246:=func290.D (OT some od)
 f283:=func312.D (OT some od)
 f284:=func313.D (OT some od)
 f285:=func314.D (OT some od)
 f286:=func315.D (OT some od)
 f317:=func321.D (OT some od)
 f318:=func322.D (OT some od)
 f319:=func323.D (OT some od)
 f320:=func324.D (OT some od)
 f337:=func325.D (OT some od)
 f338:=func326.D (OT some od)
 t0:=underlying0
 a0:=Tryz.isAgg0
 z0:=Tryz.sizeOf0
 v0:=Tryz.zeroValue0
 t2:=underlying2
 a2:=Tryz.isAgg2
 z2:=Tryz.sizeOf2
 v2:=Tryz.zeroValue2
 t3:=underlying3
 a3:=Tryz.isAgg3
 z3:=Tryz.sizeOf3
 v3:=Tryz.zeroValue3
 t4:=underlying4
 a4:=Tryz.isAgg4
 z4:=Tryz.sizeOf4
 v4:=Tryz.zeroValue4
 t5:=underlying5
 a5:=Tryz.isAgg5
 z5:=Tryz.sizeOf5
 v5:=Tryz.zeroValue5
 t9:=underlying9
 a9:=Tryz.isAgg9
 z9:=Tryz.sizeOf9
 v9:=Tryz.zeroValue9
 t20:=underlying20
 a20:=Tryz.isAgg20
 z20:=Tryz.sizeOf20
 v20:=Tryz.zeroValue20
 t37:=underlying144
 a37:=Tryz.isAgg144
 z37:=Tryz.sizeOf144
 v37:=Tryz.zeroValue144
 t46:=underlying226
 a46:=Tryz.isAgg226
 z46:=Tryz.sizeOf226
 v46:=Tryz.zeroValue226
 t51:=underlying298
 a51:=Tryz.isAgg298
 z51:=Tryz.sizeOf298
 v51:=Tryz.zeroValue298
 t53:=underlying300
 a53:=Tryz.isAgg300
 z53:=Tryz.sizeOf300
 v53:=Tryz.zeroValue300
 t171:=underlying444
 a171:=Tryz.isAgg444
 z171:=Tryz.sizeOf444
 v171:=Tryz.zeroValue444
 t173:=underlying446
 a173:=Tryz.isAgg446
 z173:=Tryz.sizeOf446
 v173:=Tryz.zeroValue446
 t212:=underlying454
 a212:=Tryz.isAgg454
 z212:=Tryz.sizeOf454
 v212:=Tryz.zeroValue454
 t213:=underlying455
 a213:=Tryz.isAgg455
 z213:=Tryz.sizeOf455
 t232:=underlying456
 a232:=Tryz.isAgg456
 z232:=Tryz.sizeOf456
 v232:=Tryz.zeroValue456
 t233:=underlying457
 a233:=Tryz.isAgg457
 z233:=Tryz.sizeOf457
 v233:=Tryz.zeroValue457
 g17:=od
 g18:=od
 g19:=od
 i0:=od
 i2:=od
 i3:=od
 i4:=od
 i5:=od
 i9:=od
 i20:=od
 i37:=od
 i46:=od
 i51:=od
 i53:=od
 i171:=od
 i173:=od
 i212:=od
 i232:=od
 i233:=od
 m17:=od
 m18:=od
 m19:=by kernel_rfl }
open Go.RowKit Go.Sort Go.Lib in
theorem Tryz.strconv_Itoa (n:Int)(E:-9223372036854775808<=n)(G:n<=9223372036854775807)(w:OZ)(H:Lib.TabIs prog w "internal/strconv.uint64pow10" .u64 Lib.pow10Tab):
  Calls prog 202 #[oF oG n] w λe w'=>e=.returned (.string ⟨(Lib.itoa n).toArray⟩)/\∃k os,w'=grow (w.drewN k) os:=Any.strconv_Itoa Tryz.laysM171 n E G w H
def Tryz.lays171_ren:Go.Shelf.Ren:=⟨λ|171=>202|243=>241|246=>290|283=>312|284=>313|285=>314|286=>315|129=>158|317=>321|318=>322|319=>323|320=>324|337=>325|338=>326|n=>n,λ|3=>3|9=>9|2=>2|4=>4|171=>444|0=>0|53=>300|37=>144|5=>5|173=>446|212=>454|51=>298|20=>20|213=>455|46=>226|232=>456|233=>457|n=>n,λ|17=>0|18=>1|19=>2|n=>n⟩
theorem Tryz.lays171:Go.Proofs.Lays.n171 prog Tryz.lays171_ren:={
 mixed:=od
 f129:=func158.D (OT some od)
 f171:=func202.D (OT some od)
 f243:=func241.D (OT some od)
 f246:=func290.D (OT some od)
 f283:=func312.D (OT some od)
 f284:=func313.D (OT some od)
 f285:=func314.D (OT some od)
 f286:=func315.D (OT some od)
 f317:=func321.D (OT some od)
 f318:=func322.D (OT some od)
 f319:=func323.D (OT some od)
 f320:=func324.D (OT some od)
 f337:=func325.D (OT some od)
 f338:=func326.D (OT some od)
 t0:=underlying0
 a0:=Tryz.isAgg0
 z0:=Tryz.sizeOf0
 v0:=Tryz.zeroValue0
 t2:=underlying2
 a2:=Tryz.isAgg2
 z2:=Tryz.sizeOf2
 v2:=Tryz.zeroValue2
 t3:=underlying3
 a3:=Tryz.isAgg3
 z3:=Tryz.sizeOf3
 v3:=Tryz.zeroValue3
 t4:=underlying4
 a4:=Tryz.isAgg4
 z4:=Tryz.sizeOf4
 v4:=Tryz.zeroValue4
 t5:=underlying5
 a5:=Tryz.isAgg5
 z5:=Tryz.sizeOf5
 v5:=Tryz.zeroValue5
 t9:=underlying9
 a9:=Tryz.isAgg9
 z9:=Tryz.sizeOf9
 v9:=Tryz.zeroValue9
 t20:=underlying20
 a20:=Tryz.isAgg20
 z20:=Tryz.sizeOf20
 v20:=Tryz.zeroValue20
 t37:=underlying144
 a37:=Tryz.isAgg144
 z37:=Tryz.sizeOf144
 v37:=Tryz.zeroValue144
 t46:=underlying226
 a46:=Tryz.isAgg226
 z46:=Tryz.sizeOf226
 v46:=Tryz.zeroValue226
 t51:=underlying298
 a51:=Tryz.isAgg298
 z51:=Tryz.sizeOf298
 v51:=Tryz.zeroValue298
 t53:=underlying300
 a53:=Tryz.isAgg300
 z53:=Tryz.sizeOf300
 v53:=Tryz.zeroValue300
 t171:=underlying444
 a171:=Tryz.isAgg444
 z171:=Tryz.sizeOf444
 v171:=Tryz.zeroValue444
 t173:=underlying446
 a173:=Tryz.isAgg446
 z173:=Tryz.sizeOf446
 v173:=Tryz.zeroValue446
 t212:=underlying454
 a212:=Tryz.isAgg454
 z212:=Tryz.sizeOf454
 v212:=Tryz.zeroValue454
 t213:=underlying455
 a213:=Tryz.isAgg455
 z213:=Tryz.sizeOf455
 t232:=underlying456
 a232:=Tryz.isAgg456
 z232:=Tryz.sizeOf456
 v232:=Tryz.zeroValue456
 t233:=underlying457
 a233:=Tryz.isAgg457
 z233:=Tryz.sizeOf457
 v233:=Tryz.zeroValue457
 g17:=od
 g18:=od
 g19:=by kernel_rfl }
open Go.RowKit Go.Sort Go.Lib in
theorem Tryz.strconv_Itoa_small (i:Nat)(hi:i<100)(w:OZ):
  Calls prog 202 #[oF oG i] w λe w'=>e=.returned (.string ⟨(Lib.decDigits i).toArray⟩)/\w'=w:=Any.strconv_Itoa_small Tryz.lays171 i hi w
end Go.Proofs
namespace Go.Lg
open Go.RowKit
section
variable {K:Fr->OZ->Prop}{f:Fr}{pS:String}
theorem XX {te:Nat}(G:P.underlying t=some (.pointer te)){x:O1}{a:Option Addr}(hx:ev f x=.pointer a)(H:ev f y=.pointer none):
  (execOp (ev f) ⟨d,.binOp .eql t x y E,ty,pS,af,gd⟩).run P w=.ok (.value (.bool a.isNone)) w:=by
 have I:(eqGuard .eql t x y (.pointer a) (.pointer none)).run P w=.ok () w:=by simp[eqGuard]
 have key:∀m,(Op.equalIn (m+1) t (.pointer a) (.pointer none)).run P w=.ok a.isNone w:=by
  intro m;unfold Op.equalIn;cases a <;> simp[run_underlying G]
 have J:(Op.equal t (.pointer a) (.pointer none)).run P w=.ok a.isNone w:=key 9999;simp only[execOp,hx,H,Sem.run_bind,I,Result.andThen_ok,binOp,J,Sem.run_pure]
theorem QfS {te:Nat}{j:TypeInfo}(G:P.underlying t=some (.pointer te))(H:P.info? te=some j){x:O1}{a:Addr}(hx:ev f x=.pointer (some a))(I:ev f y=.pointer (some a)):
  (execOp (ev f) ⟨d,.binOp .neq t x y E,ty,pS,af,gd⟩).run P w=.ok (.value (.bool false)) w:=by
 have J:(eqGuard .neq t x y (.pointer (some a)) (.pointer (some a))).run P w=.ok () w:=by simp[eqGuard]
 simp only[execOp,hx,I,Sem.run_bind,J,Result.andThen_ok,Lib.run_neq_ptr_same w a G H,Sem.run_pure]
theorem q9 {x:O1}{v:O0}(hx:ev f x=v)(h:(convert t E v).run P w=.ok v' w):
  (execOp (ev f) ⟨d,.convert t E x,ty,pS,af,gd⟩).run P w=.ok (.value v') w:=by
 simp[execOp,hx,h]
theorem QhQ {e:Array O0->Sem O0}{x:O1}{v:O0}{ts:Array Nat}(G:P.funcs[g]?=some fn)(H:(fn.name == "runtime.NumGoroutine")=false)
  (I:fn.body.isNone=true) (J:Extern.findNext fn=none) (O:Extern.find fn=some e) (h:(e #[ev f x]).run P w=.ok v w):
  (execOp (ev f) ⟨d,.call ⟨.value (.func g),#[x],ts⟩,ty,pS,af,gd⟩).run P w=.ok (.value v) w:=by
 have E:=run_callFunc_extern G H I J O #[ev f x] w;rw[h]at E;have S:ev f (.func g)=.func (.func g) #[] #[]:=rfl;simp[execOp,resolve,S,Deferred.ofValue,invoke,E,Result.andThen]
theorem Qnx {e u:Nat}[h:Sl P t e 1 1 (.int .u8 0)](E:P.underlying u=some .string){s:O1}{base:Nat}{v:O0}{cs:LV}(G:w.ownsRow base e 1 v n cs)(H:ev f s=v)
  {b:ByteArray} (I:ev f y=.string b) (hb:n+b.size<=1099511627776) (J:base<=w.heap.size)
  (hK:∀v' w',w'.ownsRow base e 1 v' (n+b.size) (cs++Lib.strCells b)->O3 (ob v) w w'->K (QY f d v') w'):
  XO P ⟨d,.call ⟨.builtin .append,#[s,y],#[t,u]⟩,ty,pS,af,gd⟩ f w K:=by
 obtain⟨i,hi,O,S,T⟩:=Sl.info h;obtain⟨v',w',V,Y,h3,_⟩:=Lib.run_append_own_string (P:=P) w base t u ty e i h.u E hi O S T v n cs G b (by simp only[maxLen];omega) oa J;have ha:(execOp (ev f) ⟨d,.call ⟨.builtin .append,#[s,y],#[t,u]⟩,ty,pS,af,gd⟩).run P w=.ok (.value v') w':=by
  simp[execOp,resolve,invoke,builtin,H,I,V]
 exact xv ha (hK v' w' Y (by rw[zM];exact O3.of_grown h3))
theorem QhO {x:O1}{u:Nat}(E:P.underlying u=some .string){b:ByteArray}(hx:ev f x=.string b):
  (execOp (ev f) ⟨d,.call ⟨.builtin .len,#[x],#[u]⟩,ty,pS,af,gd⟩).run P w=.ok (.value (oF oG b.size)) w:=by
 simp[execOp,resolve,invoke,builtin,Builtin.len_,hx,run_underlying E,goInt]
end
def Bl (p:O0)(b:Nat)(E:List UInt8)(w:OZ):Prop:=∃v,Q7 w.heap b 343 [p,v]/\w.ownsRow (b+1) 5 1 v E.length (Lib.byteCells E)
def me (b:Nat):O0:=.pointer (some ⟨b,0,none⟩)
theorem QlF (h:(P.info? t).map (·.size)=some n):∃j,P.info? t=some j/\j.size=n:=by
 simpa using h
theorem jU {cs:LV}(h:Q7 w.heap b T cs):w.shape? b=some (T,cs.length):=by
 unfold Q7 at h;simp[World.shape?,h]
theorem UJ {G:OZ}{J:List UInt8}{p:O0}(O:O3 [] G w)(T:G.heap.size<=b)(V:p=.pointer none\/p=me b)(h:Bl p b J w):
  Q5 prog 240 [me b] w λr w'=>r=.tuple #[]/\O3 [] G w'/\Bl (me b) b J w':=by
 obtain⟨v,E,H⟩:=h;obtain⟨j,I,Y⟩:=QlF (P:=prog) (t:=343) (n:=2) od;refine Zs func240 ntmps240 results240 ?_;refine Qe ?_;rcases V with rfl|rfl
 ·refine Qb<|Yb U<|Qs U E U U<|x (XX underlying341 U U)<|xe<|yv U ?_;refine Qw<|Qb<|Qb<|x (q9 (v':=me b) U (Lib.run_to_unsafe w ⟨b,0,none⟩ underlying341 underlying426 I (by rw[Y];decide) (jU E) oe)) <|
   x (QhQ (v:=me b) func289 od od od (e:=Extern.AbiNoEscape.same) od U) <|
   x (q9 (v':=me b) U (Lib.run_from_unsafe w ⟨b,0,none⟩ underlying426 underlying341 I (jU E) od))<|x (VV U) <|
   Q0 rfl<|Qa<|QA E U U oe rfl λw2 S ha=>xe ?_
  exact⟨[],Z,U,O.O S T,v,ha,Qf H S (λc hc=>by have:=(Qi H c hc).1;simp;omega)⟩
 refine Qb<|Yb U<|Qs U E U U<|x (XX underlying341 U U)<|xe<|ZO U ?_;refine Qm<|Yb U<|Qs U E U U<|Qb<|x (QfS underlying341 I U U)<|xe<|ZO U ?_;refine Qh ?_;exact⟨[],Z,U,O,v,E,H⟩
theorem j8 {I:OZ}{E:List UInt8}{p:O0}(h0:O3 [] I w)(T:I.heap.size<=b)(hp:p=.pointer none\/p=me b)(h:Bl p b E w)(c:UInt8)(hl:E.length+1<=1000000000):
  Q5 prog 288 [me b,.int .u8 c.toNat] w λ_ w'=>O3 [] I w'/\Bl (me b) b (E++[c]) w':=by
 refine Zs func288 ntmps288 results288 ?_;refine Qe<|Qc<|Qm<|Qa<|xf<|(UJ h0 T hp h).mono ?_;rintro r1 w1 ⟨rfl,ha,v,J,O⟩;refine xe ?_;have hj:=J.lt;refine Qm<|Qb<|Yb U<|Qs U J U U<|Qb<|Qa<|QB (us:=[[.int .u8 c.toNat]]) U U og oe ⟨rfl,rfl,Z⟩ λb13 w2 H hk he=>?_;have hm:=H.size;have hf:=Qp O H;refine Qa<|Za (news:=[.int .u8 c.toNat]) (L:=[]) hf U U U (he.at oe) (by simp[Value.oneCell']) oa oa λv3 w3 hg V hn=>?_;have hh:=(J.I H).J V (λG=>ou (Qi O b G).1);have S:w3.ownsRow (b+1) 5 1 v3 (E++[c]).length (Lib.byteCells (E++[c])):=by simpa[Lib.byteCells]using hg
 refine Yb rfl<|Q0 U<|Qa<|QA hh U U oe (QH (L:=[]) S (by simp;omega) oe).one λw4 Y hi=>xe ?_;refine Qe<|Qc<|Ql ⟨[.nilIface],La,(((ha.D H).then V (λc G=>.inr ?_)).O Y T),v3,hi,Qf S Y (λc G=>by have:=(Qi S c G).1;simp;omega)⟩;have:=(Qi O c G).1;omega
theorem KY {H:OZ}{E:List UInt8}{p:O0}(h0:O3 [] H w)(S:H.heap.size<=b)(hp:p=.pointer none\/p=me b)(h:Bl p b E w)(s:ByteArray)(hl:E.length+s.size<=1000000000):
  Q5 prog 201 [me b,.string s] w λ_ w'=>O3 [] H w'/\Bl (me b) b (E++s.data.toList) w':=by
 refine Zs func201 ntmps201 results201 ?_;refine Qe<|x Qk<|Qc<|Qm<|Qa<|xf<|(UJ h0 S hp h).mono ?_;rintro r1 w1 ⟨rfl,ha,v,I,J⟩;refine xe ?_;have hh:=I.lt;refine Qm<|Qb<|Yb U<|Qs U I U U<|Qb<|Qa<|Qnx underlying9 J U U oa oa λv3 w3 he T=>?_;have hf:=I.J T (λG=>ou (Qi J b G).1);have V:s.size=s.data.toList.length:=rfl;have O:w3.ownsRow (b+1) 5 1 v3 (E++s.data.toList).length (Lib.byteCells (E++s.data.toList)):=by
  rw[Lj,<-V,show Lib.byteCells (E++s.data.toList)=Lib.byteCells E++Lib.strCells s by simp[Lib.byteCells,Lib.strCells_eq]];exact he
 refine Yb rfl<|Q0 U<|Qa<|QA hf U U oe (QH (L:=[]) O (by rw[Lj,<-V];omega) oe).one λw4 Y hg=>xe ?_;refine Qm<|x (QhO underlying9 U)<|x Qk<|Qc<|Ql ⟨[oF oG s.size,.nilIface],oA,((ha.then T (λc G=>.inr ?_)).O Y S),v3,hg,Qf O Y (λc G=>by have:=(Qi O c G).1;simp;omega)⟩;have:=(Qi J c G).1;omega
theorem y9 {I:OZ}{H:List UInt8}{p:O0}(E:O3 [] I w)(hb:I.heap.size<=b)(T:p=.pointer none\/p=me b)(h:Bl p b H w):
  Q5 prog 203 [me b] w λr w'=>r=.string ⟨H.toArray⟩/\O3 [] I w':=by
 obtain⟨v,J,O⟩:=h;have ha:=J.lt;have S:Lib.BuilderAt 343 5 b b p (Lib.byteCells H) w:=⟨Lx _,v,J,by rw[Lib.byteCells_length];exact Zy O oa,λe=>by
  have:b∈ob v:=by rw[zM,e];simp
  have:=(Qi O b this).1;omega⟩
 unfold Q5;refine Calls.mono (Tryz.Builder_String_any b b H w (by rcases T with rfl|rfl;exact .inl S;exact .inr S) oa) ?_
 rintro e w' ⟨rfl,G⟩;exact⟨U,⟨G.os.D E.os,G.tape.D E.tape,G.output.D E.output,LJ E.size G.size,λk V Y=>(G.block k oa).D (E.block k V Y)⟩⟩
def Tb (w:OZ):Prop:=Lib.TabIs prog w "internal/strconv.uint64pow10" .u64 Lib.pow10Tab
theorem Qg9 {name:String}{v:Array O0}(h:w.var? P name=some v)(H:O3 [] w w'):w'.var? P name=some v:=by
 unfold World.var? at *;rw[MP]at *;obtain⟨g,I,E⟩:=h;refine⟨g,I,?_⟩;cases G:w.heap[g]? with
 | none=>rw[G]at E;cases E
 | some o =>
  have J:g<w.heap.size:=(LH.1 G).1;rw[H.block g J oe];exact E
theorem Tb.I (h:Tb w)(E:O3 [] w w'):Tb w':=Qg9 h E
def Kb (w:OZ)(m:Int):Prop:=m<=100\/(m<=1000000/\Tb w)
theorem Kb.I {w w':OZ}{m:Int}(h:Kb w m)(E:O3 [] w w'):Kb w' m:=h.imp id λh=>⟨h.1,h.2.I E⟩
theorem Kb.le {m:Int}(h:Kb w m):m<=1000000:=by rcases h with h|h <;> omega
theorem QcZ {k:Nat}{os:xx}:O3 [] w (Sort.grow (w.drewN k) os):=by
 refine⟨U,U,U,?_,λi hi _=>?_⟩
 ·show w.heap.size<=(w.heap++os).size;simp
 show(w.heap++os)[i]?=w.heap[i]?;rw[Array.getElem?_append_left hi]
theorem QeM {m:Int}(i:Nat)(hi:(i:Int)<m)(w:OZ)(E:Kb w m):Q5 prog 202 [oF oG i] w λr w'=>r=.string ⟨(Lib.decDigits i).toArray⟩/\O3 [] w w':=by
 unfold Q5;rcases E with E|E
 ·refine Calls.mono (Tryz.strconv_Itoa_small i oa w) ?_;rintro e w' ⟨rfl,rfl⟩;exact⟨U,O3.Z _ _⟩
 refine Calls.mono (Tryz.strconv_Itoa i oa oa w E.2) ?_;rintro e w' ⟨rfl,k,os,rfl⟩;refine⟨?_,QcZ⟩;unfold Lib.itoa;rw[OR oa,MO]
def JJ (l:LI):List UInt8:=l.flatMap λn=>Lib.decDigits n.toNat++[32]
theorem qn:∀(k u:Nat),u<10 ^ k->(Lib.decDigits u).length<=max 1 k
 | 0,u,h=>by
  unfold Lib.decDigits;rw[dif_pos (by simp at h;omega)];simp
 | k+1,u,h=>by
  unfold Lib.decDigits;split
  ·simp
  rename_i E;have ih:=qn k (u / 10) (by rw[Nat.pow_succ]at h;omega);rw[Lj];simp only[oO];have G:k≠0:=λe=>by subst e;simp at h;omega
  omega
theorem Bl.I {w w':OZ}{p:O0}{b:Nat}{E:List UInt8}(h:Bl p b E w)(G:O3 [] w w'):Bl p b E w':=by
 obtain⟨v,H,I⟩:=h;exact⟨v,H.I G,Qp I G⟩
theorem QaD {L:LN}{v:O0}{l:LI}{m:Int}(h:QQ L w.heap v l)(S:Kb w m)(Y:∀n∈l,0<=n/\n<m)(hl:l.length<=1000000):
  Q5 prog 237 [v] w λr w'=>r=.string ⟨(JJ l).toArray⟩/\O3 [] w w':=by
 refine Zs func237 ntmps237 results237 ?_;refine Qe<|Qc<|Qe<|Qa<|Qo (us:=[.pointer none,nS]) U λH w1 ha I hc=>xe ?_;refine Qd<|Qm<|QL h U<|Qb<|xe<|Qg<|QC (α:=Nat×O0) [(5,5),(8,16)] (λz=>[(8,oF oG z.1)]) (λz w'=>z.1<=l.length/\O3 [] w w'/\(z.2=.pointer none\/z.2=me H)/\Bl z.2 H (JJ (l.take z.1)) w'/\(JJ (l.take z.1)).length<=8*z.1) (λz=>l.length - z.1) ol (0,.pointer none) La
  ⟨Ln _,ha,.inl U,⟨_,hc,QJ _ _ _ _⟩,Lx _⟩ ?_
 rintro⟨k,p⟩ g w2 ⟨hk,E,J,G,he⟩;simp only[]at hk J G he;refine Qe<|QX U U<|xe<|Qd<|QG U (λh9=>?_) (λh9=>?_)
 ·refine Qx<|Qe ?_;rw[Ls oa]at G;refine Qa<|xf<|(y9 E I J G).mono ?_;rintro r3 w3 ⟨rfl,hf⟩;refine Qc ?_;exact Ql ⟨[.string ⟨(JJ l).toArray⟩],La,U,hf⟩
 have O:k<l.length:=oa
 have ho:=Y l[k] (Lm O);obtain⟨q,hq⟩:∃q:Nat,l[k]=q:=⟨l[k].toNat,oa⟩;have hg:l[k].toNat=q:=oa
 have hr:=qn 7 q (ou S.le);have T:JJ (l.take (k+1))=JJ (l.take k)++Lib.decDigits q++[32]:=by
  rw[Ll O];unfold JJ;rw[LA,List.flatMap_singleton,hg,LB]
 refine Qh<|Qd<|Qg<|Qe<|xii (h.I E) U U O λhs hh=>x (QD hh U)<|Qc<|Qm<|Qa<|xf ?_;refine(show Q5 _ _ [oF oG l[k]] _ _ by rw[hq];exact(QeM q oa w2 (S.I E))).mono ?_;rintro r4 w4 ⟨rfl,V⟩;refine Qa<|xf<|(KY (E.D V) I J (G.I V) ⟨(Lib.decDigits q).toArray⟩ (by show _+(Lib.decDigits q).toArray.size<=_;simp;omega)).mono ?_;rintro r5 w5 ⟨hi,hj⟩;refine xe<|Qw<|Qa<|xf<|(j8 hi I (.inr U) hj 32 (by simp;omega)).mono ?_;rintro r6 w6 ⟨hm,hn⟩;refine xe<|Qw<|QN U U<|Qb<|xe<|⟨(k+1,me H),oh,La,oh,hm,.inr U,?_,?_⟩
 ·simp only[];rw[T];simpa using hn
 simp only[];rw[T];simp;omega
section
variable {K:Fr->OZ->Prop}{f:Fr}{pS:String}{l:xA}{C:xw}{pl:xp}{i0:Nat}
theorem O6 {g:α->LV}{x:O1}{e bys:Nat}[Sl P t e sz bys z](G:∀x,(g x).length=sz){L:LN}{es:List α}{v:O0}{k:IntKind}
  (h:Zv L w.heap v es.length sz (es.flatMap g)) (H:ev f x=v) (I:ev f y=.int k i) (hi:i<es.length)
  (hK:∀a,At L w.heap a (g es[i])->XL P ops K l (QY f d (.pointer (some a))) w) (J:Z4 ops f ⟨d,.indexAddr t x y,ty,pS,af,gd⟩=true:=by rfl):
  XL P ops K (⟨d,.indexAddr t x y,ty,pS,af,gd⟩::l) f w:=by
 obtain⟨a,cap,O,E⟩:=Zv.at h hi;rw[Xx g sz G es i hi]at E;refine xl J (xv (Xh (H.D O) I oa oa) (hK _ ?_));simpa using E
theorem pig {g:α->LV}{x:O1}{e bys:Nat}[Sl P t e sz bys z](E:QV ops i0=⟨d,.indexAddr t x y,ty,pS,af,gd⟩)(I:∀x,(g x).length=sz){L:LN}{es:List α}{v:O0}{k:IntKind}
  (h:Zv L H v es.length sz (es.flatMap g)) (J:ev f x=v) (O:ev f y=.int k i) (hi:i<es.length)
  (hK:∀a,At L H a (g es[i])->XP P ops C K pl (QY f d (.pointer (some a))) w) (S:Z4 ops f (QV ops i0)=true:=by rfl):
  XP P ops C K ((i0,true)::pl) f w:=by
 obtain⟨a,cap,T,G⟩:=Zv.at h hi;rw[Xx g sz I es i hi]at G;refine Lg.p (λw'=>by rw[E];exact Xh (J.D T) O oa oa) ?_ S;rw[E];refine hK _ ?_;simpa using G
end
theorem Zv.grow {X X' Y:LN}{v:O0}{cs:LV}(h:Zv X w.heap v n sz cs)(H:O3 Y w w')(I:∀b∈Y,b∈X)(J:∀b∈X',b∈X\/w.heap.size<=b):Zv X' w'.heap v n sz cs:=by
 have E:Zv (X++X') w.heap v n sz cs:=h.up (λb G=>by
  rcases Lc.1 G with E|E
  ·exact .inl E
  exact J b E)
 have O:=E.J H (λb G=>Lc.2 (.inl (I b G)));exact O.up (λb G=>.inl (Lc.2 (.inr G)))
structure AV where
 va:O0
 vm:O0
 ve:O0
 a:Zd
abbrev ZS (p:AV):LV:=[p.va,oF oG p.a.st,p.vm,p.ve]
structure Km (L:LN)(H:xx)(v:O0)(ps:List AV):Prop where
 arr:Zv L H v ps.length 4 (ps.flatMap ZS)
 each:∀p∈ps,ZK L H p.va p.vm p.ve p.a
theorem Km.I {L:LN}{w w':OZ}{v:O0}{ps:List AV}(h:Km L w.heap v ps)(E:O3 [] w w'):Km L w'.heap v ps:=⟨h.arr.I E,λp G=>(h.each p G).I E⟩
theorem Km.st {L:LN}{w w':OZ}{v:O0}{ps:List AV}(h:Km L w.heap v ps)(E:O3 L w w'):Km L w'.heap v ps:=⟨h.arr.st E,λp G=>(h.each p G).st E⟩
theorem Km.up {L L':LN}{H:xx}{v:O0}{ps:List AV}(h:Km L H v ps)(E:∀b∈L',b∈L\/H.size<=b):Km L' H v ps:=⟨h.arr.up E,λp G=>(h.each p G).up E⟩
abbrev TV:=O0×LI
abbrev YE (p:TV):LV:=[p.1]
structure JL (L:LN)(H:xx)(v:O0)(ps:List TV):Prop where
 arr:Zv L H v ps.length 1 (ps.flatMap YE)
 each:∀p∈ps,QQ L H p.1 p.2
theorem JL.I {L:LN}{w w':OZ}{v:O0}{ps:List TV}(h:JL L w.heap v ps)(E:O3 [] w w'):JL L w'.heap v ps:=⟨h.arr.I E,λp G=>(h.each p G).I E⟩
theorem JL.st {L:LN}{w w':OZ}{v:O0}{ps:List TV}(h:JL L w.heap v ps)(E:O3 L w w'):JL L w'.heap v ps:=⟨h.arr.st E,λp G=>(h.each p G).st E⟩
theorem JL.up {L L':LN}{H:xx}{v:O0}{ps:List TV}(h:JL L H v ps)(E:∀b∈L',b∈L\/H.size<=b):JL L' H v ps:=⟨h.arr.up E,λp G=>(h.each p G).up E⟩
def QdS (N:Nat)(H:xx)(v:O0)(l:List (LI)):Prop:=∃ps:List TV,ps.map (·.2)=l/\∀L:LN,(∀b∈L,b<N)->JL L H v ps
theorem QdS.mono {v:O0}{l:List (LI)}(h:QdS N H v l)(hM:M<=N):QdS M H v l:=let⟨ps,E,G⟩:=h;⟨ps,E,λL I=>G L (λb J=>LU (I b J) hM)⟩
abbrev yQ (e base:Nat)(w:OZ)(v:O0)(ps:List TV):Prop:=w.ownsRow base e 1 v ps.length (ps.flatMap YE)
theorem yQ.snoc {e base:Nat}{v:O0}{ps:List TV}{p:TV}(h:w.ownsRow base e 1 v (ps.length+1) (ps.flatMap YE++[p.1])):yQ e base w v (ps++[p]):=by
 unfold yQ;rw[Lj,LA];simpa using h
theorem Js {base e:Nat}{v:O0}{cs:LV}(h:w.ownsRow base e sz v n cs)(G:0<n):∃g cap,v=.slice (some ⟨g,0,none⟩) n cap:=by
 rcases h.2 with⟨_,H⟩|⟨g,cap,cur,E,_⟩
 ·omega
 exact⟨g,cap,E⟩
section
variable {K:Fr->OZ->Prop}{f:Fr}{pS:String}{l:xA}
theorem Qh2 [h1:XK P t]{x:O1}{base e:Nat}{cs:LV}{u:O0}(h:w.ownsRow base e 1 (.slice (some ⟨g,0,none⟩) n cap) n cs)(hx:ev f x=.pointer (some ⟨g,0+i*1,none⟩))(G:ev f y=u)(hi:i<n)(H:u.oneCell'=true)
  (hK:∀w',O3 [g] w w'->w'.ownsRow base e 1 (.slice (some ⟨g,0,none⟩) n cap) n (cs.set i u)->K (QY f d undef) w'):XO P ⟨d,.store t x y,ty,pS,af,gd⟩ f w K:=by
 obtain⟨hl,h⟩:=h;rcases h with⟨I,_⟩|⟨g',cap',cur,e1,J,O,S,T,E,V⟩
 ·cases I
 cases e1
 have Y:Q7 w.heap g e cur.toList:=by unfold Q7;simpa using O
 refine QA (j:=i) Y (by rw[hx];simp) G (by simp[E];omega) H λw' hs ha=>hK w' hs ⟨oz hl,.inr ⟨g,cap,(cur.toList.set i u).toArray,rfl,J,ha,S,T,oz E,?_⟩⟩;rw[<-V];simp[List.take_set]
end
section
variable {f:Fr}{pS:String}{κ:Type}[DecidableEq κ]
theorem jj [hm:Mp P t kt et z]{enc:κ->O0}[hk:Key P kt enc]{x:O1}{m:List (κ×O0)}{k:κ}{u:O0}(h:Yd enc w.heap b m)(hx:ev f x=.map (some b))(E:ev f y=enc k)(G:O8 m k=some u):
  (execOp (ev f) ⟨d,.lookup t x y true,ty,pS,af,gd⟩).run P w=.ok (.value (.tuple #[u,.bool true])) w:=by
 have:=K3 (P:=P) (t:=t) (d:=d) (ty:=ty) (pS:=pS) (af:=af) (gd:=gd) h hx E;rw[G]at this;exact this
theorem QfT [hm:Mp P t kt et z]{enc:κ->O0}[hk:Key P kt enc]{x:O1}{m:List (κ×O0)}{k:κ}(h:Yd enc w.heap b m)(hx:ev f x=.map (some b))(E:ev f y=enc k)(G:O8 m k=none):
  (execOp (ev f) ⟨d,.lookup t x y true,ty,pS,af,gd⟩).run P w=.ok (.value (.tuple #[z,.bool false])) w:=by
 have:=K3 (P:=P) (t:=t) (d:=d) (ty:=ty) (pS:=pS) (af:=af) (gd:=gd) h hx E;rw[G]at this;exact this
end
def ckL:List Zd->Int
 | []=>0
 | a::l=>if KD a≠0 then KD a else ckL l
def UT (l:List Zd):Int:=if 12<l.length then 3 else ckL l
theorem Qcn:∀(l:List Zd),ckL l=0↔∀a∈l,ZJ a
 | []=>by simp[ckL]
 | a::l=>by
  rw[ckL];by_cases h:KD a=0
  ·rw[OR (oz h),Qcn l];simp[(Z6 a).1 h]
  rw[OS h];simp only[Oq];exact⟨λe=>OU e h,λe=>OU ((Z6 a).2 e.1) h⟩
def evs (l:List Zd):LI:=l.foldl (λacc a=>mrg (· || ·) acc a.al) []
def qE (m:List ((Int×Int)×O0))(es:List Ed):List ((Int×Int)×O0):=es.foldl (λm e=>O9 m (e.1,e.2.1) (oF oG e.2.2)) m
def xg:List Ed->Int->Int->Option Int
 | [],_,_=>none
 | e::l,s,v=>if e.1=s/\e.2.1=v then some e.2.2 else xg l s v
theorem jI {l:List Ed}{v:Int}(h:∀e∈l,¬(e.1=s/\e.2.1=v)):xg l s v=none:=by
 induction l with
 | nil=>rfl
 | cons e l ih =>
  rw[xg,OR (h e Lt)];exact ih λe E=>h e (Lk _ E)
theorem jJ:∀(es:List Ed) (m:List ((Int×Int)×O0)) (s v:Int),(es.Pairwise λx y=>x.1<y.1\/(x.1=y.1/\x.2.1<y.2.1)) ->
  O8 (qE m es) (s,v)=match xg es s v with|some t=>some (oF oG t)|none=>O8 m (s,v)
 | [],m,s,v,_=>rfl
 | e::es,m,s,v,h=>by
  simp only[List.pairwise_cons]at h;have ih:=jJ es (O9 m (e.1,e.2.1) (oF oG e.2.2)) s v h.2;unfold qE at *;rw[L4,ih,xg];by_cases E:e.1=s/\e.2.1=v
  ·rw[OS E,jI (λx hx H=>ou (h.1 x hx))];simp only[Xn];rw[OS (by rw[E.1,E.2])]
  rw[OR E];cases xg es s v with
  | some t=>rfl
  | none =>
   simp only[Xn];rw[OR (λG=>E (oz G))]
def YQ (ev:Int):List Zd->LI->Option (LI)
 | a::bs,t::ts=>if ev∉a.al then(YQ ev bs ts).map (t::·)else match xg a.ed t ev with|none=>none|some u=>(YQ ev bs ts).map (u::·)
 | _,_=>some []
def Jz:List Zd->LI->Bool
 | a::bs,t::ts=>decide (t∈a.mr) && Jz bs ts
 | _,_=>true
structure Sy where
 tup:List (LI)
 mk':LI
 ed:List Ed
def syE (aa:List Zd)(i:Nat)(t:LI)(s:Sy)(v:Int):Option Sy :=
 match YQ v aa t with
 | none=>some s
 | some u=>if u∈s.tup then some ⟨s.tup,s.mk',s.ed++[((i:Int),v,(s.tup.idxOf u:Int))]⟩
  else if s.tup.length=4096 then none else some ⟨s.tup++[u],s.mk',s.ed++[((i:Int),v,(s.tup.length:Int))]⟩
def zu (aa:List Zd)(i:Nat)(t:LI):LI->Sy->Option Sy
 | [],s=>some s
 | v::vs,s=>(syE aa i t s v).bind (zu aa i t vs)
def Z8 (aa:List Zd)(i:Nat)(t:LI)(s:Sy):Sy:=if Jz aa t=true then⟨s.tup,s.mk'++[(i:Int)],s.ed⟩else s
def yZ (s:Sy)(i:Nat):LI:=s.tup.getD i []
def syL (aa:List Zd):Nat->Nat->Sy->Option Sy
 | 0,_,s=>some s
 | f+1,i,s=>if i<s.tup.length then(zu aa i (yZ s i) (evs aa) (Z8 aa i (yZ s i) s)).bind (syL aa f (i+1))else some s
def y8 (aa:List Zd):Sy:=⟨[oN aa.length 0],[],[]⟩
def xh (aa:List Zd):Option (Zd×List (LI)):=
 if ∃a∈aa,a.st=0 then some (⟨evs aa,0,[],[]⟩,[])else(syL aa 4096 0 (y8 aa)).map λs=>(⟨evs aa,s.tup.length,s.mk',s.ed⟩,s.tup)
theorem Qhh {aa:List Zd}{f:Nat}{s:Sy}(h:¬i<s.tup.length):syL aa f i s=some s:=by
 cases f with
 | zero=>rfl
 | succ f=>rw[syL,OR h]
def Vt (aa:List Zd)(t:LI):Prop:=t.length=aa.length/\∀i (h:i<t.length) (E:i<aa.length),0<=t[i]/\t[i]<aa[i].st
theorem Vt.cons {a:Zd}{aa:List Zd}{u:Int}{t:LI}(E:0<=u)(G:u<a.st)(h:Vt aa t):Vt (a::aa) (u::t):=by
 refine⟨by simp[h.1],λi H I=>?_⟩;cases i with
 | zero=>exact⟨E,G⟩
 | succ i=>exact h.2 i (oz H) (oz I)
theorem Qb8 {l:List Ed}{v u:Int}(h:xg l s v=some u):(s,v,u)∈l:=by
 induction l with
 | nil=>cases h
 | cons e l ih =>
  rw[xg]at h;split at h
  ·rename_i E;obtain⟨e1,e2⟩:=E;cases h
   obtain⟨a,b,c⟩:=e;simp only[]at e1 e2;subst e1 e2;exact Lt
  exact Lk _ (ih h)
theorem JO {v:Int}:∀{aa:List Zd}{t u:LI},(∀a∈aa,ZJ a)->Vt aa t->YQ v aa t=some u->Vt aa u
 | [],t,u,_,h,E=>by
  cases t with
  | nil=>simp[YQ]at E;subst E;exact h
  | cons x t=>have:=h.1;simp at this
 | a::aa,[],u,_,h,E=>by have:=h.1;simp at this
 | a::aa,x::t,u,H,h,E=>by
  have hx:=h.2 0 oe oe;have I:Vt aa t:=⟨by have:=h.1;simpa using this,λi O S=>h.2 (i+1) (oz O) (oz S)⟩;have J:∀a∈aa,ZJ a:=λa T=>H a (Lk _ T);rw[YQ]at E;split at E
  ·obtain⟨V,G,rfl⟩:=Mo.1 E;exact Vt.cons hx.1 hx.2 (JO J I G)
  split at E
  ·cases E
  rename_i q Y;obtain⟨V,G,rfl⟩:=Mo.1 E;have:=(H a Lt).ed _ (Qb8 Y);exact Vt.cons this.2.2.2.1 this.2.2.2.2 (JO J I G)
structure qv (aa:List Zd)(s:Sy):Prop where
 v:∀t∈s.tup,Vt aa t
 le:s.tup.length<=4096
theorem y0 {aa:List Zd}{t:LI}{s:Sy}(h:qv aa s):qv aa (Z8 aa i t s):=by
 unfold Z8;split
 ·exact⟨h.v,h.le⟩
 exact h
theorem Qhk {aa:List Zd}{t:LI}{s H:Sy}{v:Int}(I:∀a∈aa,ZJ a)(h:qv aa s)(G:Vt aa t)(E:syE aa i t s v=some H):qv aa H:=by
 unfold syE at E;split at E
 ·cases E;exact h
 rename_i u J;have O:=JO I G J;split at E
 ·cases E;exact⟨h.v,h.le⟩
 split at E
 ·cases E
 cases E
 have:=h.le;refine⟨λt G=>?_,by simp;omega⟩;simp only[oU,oI]at G;rcases G with G|rfl
 ·exact h.v t G
 exact O
theorem qq (p:AV):(ZS p).length=4:=rfl
theorem VU (p:TV):(YE p).length=1:=rfl
theorem Km.le {L:LN}{H:xx}{v:O0}{ps:List AV}(h:Km L H v ps):ps.length<=1099511627776:=h.arr.le
theorem QjC {l:List Zd}{k:Nat}(h:k<l.length):ckL (l.drop k)=if KD l[k]≠0 then KD l[k]else ckL (l.drop (k+1)):=by
 rw[LE h,ckL]
theorem QfY {L:LN}{v:O0}{ps:List AV}(h:Km L w.heap v ps):
  Q5 prog 234 [v] w λr w'=>r=oF oG (UT (ps.map (·.a)))/\O3 [] w w':=by
 have hi:=Km.le h;refine Zs func234 ntmps234 results234 ?_;refine Qe<|Qc<|Qd<|Qm<|QL h.arr U<|x (ZZ U U)<|xe<|QZ rfl (λV=>?_) (λV=>?_)
 ·refine Qe<|Qc<|Ql ⟨[oF oG 3],La,?_,O3.Z _ _⟩;unfold UT;rw[OS (by simp;omega)];rfl
 refine Qh ?_;have Y:UT (ps.map (·.a))=ckL (ps.map (·.a)):=by unfold UT;rw[OR (by simp;omega)]
 rw[Y];refine Qd<|Qm<|QL h.arr U<|Qb<|xe<|Qg<|QC (α:=Nat) [(2,2),(4,5),(11,20)] (λz=>[(11,oF oG z)]) (λz w'=>z<=ps.length/\O3 [] w w'/\ckL (ps.map (·.a))=ckL ((ps.map (·.a)).drop z)) (λz=>ps.length - z) ol 0 La
  ⟨Ln _,O3.Z _ _,U⟩ ?_
 rintro k g w1 ⟨hk,E,G⟩;refine Qe<|QX U U<|xe<|Qd<|QG U (λha=>?_) (λha=>?_)
 ·refine Qx<|Qe<|Qc<|Ql ⟨[oF oG 0],La,?_,E⟩;rw[G,Lr (by simp;omega)];rfl
 have H:k<ps.length:=oa
 have hb:k<(ps.map (·.a)).length:=by simpa using H
 rw[QjC hb,Mu]at G;refine Qh<|Qd<|Qg<|Qe<|O6 qq (h.I E).arr U U H λhj hc=>x (Qv hc U U)<|Qa<|Qo (us:=[nS,oF oG 0,nS,nS]) U λb4 w2 he hf J=>?_;have I:=h.each ps[k] (Lm H);refine Qa<|Qj (us:=ZS ps[k]) J U U U U ⟨I.al.one,U,I.mr.one,I.ed.one,Z⟩ λw3 hg J=>xe ?_;have S:O3 [] w1 w3:=he.O hg hf;refine Qe<|Q2 J U U<|Qa<|xf<|(JF ((I.I E).I S)).mono ?_;rintro r4 w4 ⟨rfl,hh⟩;refine Qc ?_;have T:=(E.D S).D hh;refine Qm<|ZA U U<|xe<|QZ rfl (λO=>?_) (λO=>?_)
 ·refine Qm<|Qc<|Ql ⟨[oF oG (KD ps[k].a)],La,?_,T⟩;rw[G,OS O];rfl
 refine Qh<|Qw<|QN U U<|Qb<|xe<|⟨k+1,oa,La,H,T,?_⟩;rw[G,OR O]
theorem Qi6 {l:List Zd}{k:Nat}(h:k<l.length):evs (l.take (k+1))=mrg (· || ·) (evs (l.take k)) l[k].al:=by
 unfold evs;rw[Ll h,Mz];rfl
theorem QaO (l:List Zd)(h:∀a∈l,a.al.length<=32):(evs l).length<=32*l.length:=by
 have key:∀(l:List Zd) (acc:LI),(∀a∈l,a.al.length<=32)->(l.foldl (λacc a=>mrg (· || ·) acc a.al) acc).length<=acc.length+32*l.length:=by
  intro l;induction l with
  | nil=>intro acc _;simp
  | cons a l ih =>
   intro acc h;have G:=ih (mrg (· || ·) acc a.al) (λa E=>h a (Lk _ E));have H:=Qax (· || ·) acc a.al;have I:=h a Lt;simp only[List.foldl_cons,oV];omega
 have:=key l [] h;unfold evs;simpa using this
theorem Qgl {L:LN}{v:O0}{ps:List AV}(h:Km L w.heap v ps)(hn:ps.length<=12)(S:∀p∈ps,p.a.al.length<=32):
  Q5 prog 287 [v] w λr w'=>O3 [] w w'/\Qu 3 w.heap.size w' r (evs (ps.map (·.a))):=by
 refine Zs func287 ntmps287 results287 ?_;refine Qe<|Qc<|Qe<|Qc<|Qd<|Qm<|QL h.arr U<|Qb<|xe<|Qg<|QC (α:=Nat×O0) [(3,3),(5,5),(8,16)] (λz=>[(3,z.2),(8,oF oG z.1)]) (λz w'=>z.1<=ps.length/\O3 [] w w'/\Qu 3 w.heap.size w' z.2 (evs ((ps.map (·.a)).take z.1))) (λz=>ps.length - z.1) ol (0,nS) oA
  ⟨Ln _,O3.Z _ _,QJ _ _ _ _⟩ ?_
 rintro⟨k,vo⟩ g V ⟨Y,I,G⟩;simp only[]at Y G;have hi:=QaO ((ps.map (·.a)).take k) (λa ha=>by obtain⟨p,hp,rfl⟩:=LD.1 (LR ha);exact S p hp);have hj:((ps.map (·.a)).take k).length<=12:=by simp;omega
 refine Qe<|QX U U<|xe<|Qd<|QG U (λh9=>?_) (λh9=>?_)
 ·refine Qx<|Qm<|Qc<|Ql ⟨[vo],La,I,?_⟩;rw[Ls (by simp;omega)]at G;exact G
 have E:k<ps.length:=oa
 refine Qh<|Qd<|Qg<|Qe<|O6 qq (h.I I).arr U U E λhl hb=>x (Qv hb U U)<|Qa<|Qo (us:=[nS,oF oG 0,nS,nS]) U λb5 w2 hc he J=>?_;have H:=h.each ps[k] (Lm E);have hm:=S ps[k] (Lm E);refine Qa<|Qj (us:=ZS ps[k]) J U U U U ⟨H.al.one,U,H.mr.one,H.ed.one,Z⟩ λw3 hf J=>xe ?_;have T:O3 [] V w3:=hc.O hf he;have O:=I.D T;refine Qw<|Qb<|Qs U J U U<|Qa<|xf<|(QcG (Qu.ints (L:=[]) (Qp G T) oa oe) (H.al.I O) oa).mono ?_;rintro r4 w4 ⟨hg,hh⟩;refine Qc<|Qw<|QN U U<|Qb<|xe<|⟨(k+1,r4),oh,oA,E,O.D hg,?_⟩;simp only[];rw[Qi6 (oz E),Mu];exact Zy hh O.size
abbrev QeA (b:Nat):LV:=[.map (some b)]
structure Vk (L:LN)(H:xx)(vl ve vs:O0)(ps:List AV)(ms:LN):Prop where
 al:Km L H vl ps
 ev:QQ L H ve (evs (ps.map (·.a)))
 ml:ms.length=ps.length
 sl:Zv L H vs ms.length 1 (ms.flatMap QeA)
 mp:∀i (h:i<ms.length) (h':i<ps.length),Yd Je H ms[i] (qE [] ps[i].a.ed)/\ms[i]∉L
theorem Vk.I {L:LN}{w w':OZ}{vl ve vs:O0}{ps:List AV}{G:LN}(h:Vk L w.heap vl ve vs ps G)(E:O3 [] w w'):Vk L w'.heap vl ve vs ps G :=
 ⟨h.al.I E,h.ev.I E,h.ml,h.sl.I E,λi H I=>⟨(h.mp i H I).1.I E,(h.mp i H I).2⟩⟩
theorem Vk.st {L:LN}{w w':OZ}{vl ve vs:O0}{ps:List AV}{I:LN}(h:Vk L w.heap vl ve vs ps I)(E:O3 L w w'):Vk L w'.heap vl ve vs ps I :=
 ⟨h.al.st E,h.ev.st E,h.ml,h.sl.st E,λi G H=>⟨(h.mp i G H).1.J E (h.mp i G H).2,(h.mp i G H).2⟩⟩
theorem Vk.up {L L':LN}{H:xx}{vl ve vs:O0}{ps:List AV}{J:LN}(h:Vk L H vl ve vs ps J)(E:∀b∈L',b∈L\/H.size<=b):Vk L' H vl ve vs ps J :=
 ⟨h.al.up E,h.ev.up E,h.ml,h.sl.up E,λi G I=>⟨(h.mp i G I).1,λS=>by rcases E _ S with O|O;exact(h.mp i G I).2 O;have:=(h.mp i G I).1.lt;omega⟩⟩
theorem QdA {m:List ((Int×Int)×O0)}{es:List Ed}{k:Nat}(h:k<es.length):qE m (es.take (k+1))=O9 (qE m (es.take k)) (es[k].1,es[k].2.1) (oF oG es[k].2.2):=by
 unfold qE;rw[Ll h,Mz];rfl
theorem Qk9 {L:LN}{ps:List AV}(h:Km L w.heap vl ps)(hn:ps.length<=12)(hD:∀p∈ps,p.a.al.length<=32)(hL:∀b∈L,b<w.heap.size):
  Q5 prog 235 [vl] w λr w'=>O3 [] w w'/\∃ve vs G,r=.agg #[vl,ve,vs]/\Vk L w'.heap vl ve vs ps G/\Qu 3 w.heap.size w' ve (evs (ps.map (·.a))):=by
 refine Zs func235 ntmps235 results235 ?_;refine Qe<|Qa<|Qo (us:=[nS,nS,nS]) U λb2 w1 hu hP hv=>xe ?_;refine Qm<|Qb<|Qa<|xf<|(Qgl (h.I hu) hn hD).mono ?_;rintro ve w2 ⟨Y,hc⟩;have hQ:=QaO (ps.map (·.a)) (λa ha=>by obtain⟨p,hp,rfl⟩:=LD.1 ha;exact hD p hp);have g9:(evs (ps.map (·.a))).length<=1000:=by simp at hQ;omega
 have hw:=Qu.ints (L:=[]) hc oa oe;refine x (Qz ⟨h.arr.cells,hw.cells,Z⟩)<|Qa<|Qo (us:=[nS,nS,nS]) U λb3 w3 hR hS he =>
  Qa<|Qj (us:=[vl,ve,nS]) he U U U U ⟨h.arr.one,hw.one,U,Z⟩ λH hT he=>xe ?_
 have hU:=hu.size;have ka:=Y.size;have hf:O3 [] w2 H:=hR.O hT hS;have kb:=hv.lt;have kc:=he.lt;have hV:O3 [] w H:=(hu.D Y).D hf;have hW:=Qp hc hf;refine Qd<|Qm<|QL h.arr U<|Qb<|xe ?_;have hX:=Zb hc;refine Qg<|QC (α:=Nat×LN×O0) [(5,6),(8,8),(15,42)] (λz=>[(15,oF oG z.1)])
  (λz w'=>z.1<=ps.length/\z.2.1.length=z.1/\O3 [b3] H w'/\Q7 w'.heap b3 386 [vl,ve,z.2.2]/\w'.ownsRow H.heap.size 423 1 z.2.2 z.2.1.length (z.2.1.flatMap QeA) /\
   (∀i (h:i<z.2.1.length) (h':i<ps.length),Yd Je w'.heap z.2.1[i] (qE [] ps[i].a.ed)/\H.heap.size<=z.2.1[i]/\z.2.1[i]∉ob z.2.2)) (λz=>ps.length - z.1) ol (0,[],nS) La
  ⟨Ln _,U,O3.Z _ _,he,QJ _ _ _ _,λi h=>by simp at h⟩ ?_
 rintro⟨k,G,vs⟩ g w5 ⟨hk,hg,I,hy,J,hh⟩;simp only[]at hk hg I hy J hh;have hl:O3 [] w w5:=hV.O I oa;have ke:=I.size;have ho:=Qi J;refine Qe<|QX U U<|xe<|Qd<|QG U (λhY=>?_) (λhY=>?_)
 ·have hZ:k=ps.length:=oa
  subst hZ;refine Qx<|Qe ?_;have ga:=QH (L:=[]) J oa oe;refine Q2 hy U U<|Qa<|Qj (us:=[vl,ve,vs]) (((hv.I Y).I hf).J I (by simp;omega)) U U U U ⟨h.arr.one,hw.one,ga.one,Z⟩ λw6 hr gb=>xe ?_;have hE:=hl.O hr hP;have hF:Qu 3 w1.heap.size w6 ve _:=Qf (Qf hW I (λb E=>by have:=hX b E;simp;omega)) hr (λb E=>by have:=(Qi hc b E).1;simp;omega);have hG:=Qf J hr (λb E=>by have:=(ho b E).1;simp;omega);refine Ql ⟨[.agg #[vl,ve,vs]],⟨⟨_,U,Qn U (gb.at (L:=[]) oe).cells⟩,Z⟩,hE,ve,vs,G,rfl,⟨h.I hE,Qu.ints hF oa (λb E=>ou (hL b E)),hg,QH hG oa (λb E hbL=>ov (hL b hbL) (Qi hG b E).1),λi h1 h2=>⟨?_,λhbL=>ov (hL _ hbL) (hh i h1 h2).2.1⟩⟩,Zy hF hU⟩;obtain⟨m1,m2,_⟩:=hh i h1 h2;exact m1.J hr (λE=>by
   simp only[oI]at E;have h7:=(((hv.I Y).I hf).J I (by simp;omega));rw[E]at m1;obtain⟨es,c,m4,_⟩:=m1;unfold Q7 at h7;rw[h7]at m4;cases m4)
 have hz:k<ps.length:=oa
 have O:=h.each ps[k] (Lm hz);refine Qh<|Qd<|Qg<|Qe<|O6 qq (h.I hl).arr U U hz λkf gc=>x (Qv gc U U)<|Qa<|Qo (us:=[nS,oF oG 0,nS,nS]) U λb5 w7 gg gh gi =>
  Qa<|Qj (us:=ZS ps[k]) gi U U U U ⟨O.al.one,U,O.mr.one,O.ed.one,Z⟩ λw8 gj hH=>xe ?_
 have gk:O3 [] w5 w8:=gg.O gj gh;have kg:=hH.lt;refine Qe<|Qa<|Yw Je λbm w9 hI kh hJ=>Qc ?_;have ki:=hJ.lt;have hK:=gk.D hI;have gl:=hl.D hK;refine Qd<|Qe<|Qs U (hH.I hI) U U<|QL O.ed U<|Qb<|xe ?_;have gm:=(O.ed.up (L':=[bm]) (λb E=>.inr (by simp at E;have:=hl.size;omega))).I gl;have kj:=O.ed.le;refine Qg<|QC (α:=Nat) [(8,8),(23,35)] (λz=>[(23,oF oG z)]) (λz w'=>z<=ps[k].a.ed.length/\O3 [bm] w9 w'/\Yd Je w'.heap bm (qE [] (ps[k].a.ed.take z))) (λz=>ps[k].a.ed.length - z) ol 0 La
  ⟨Ln _,O3.Z _ _,hJ⟩ ?_
 rintro j g2 S ⟨hj,hs,h0⟩;have kk:=hs.size;refine Qe<|QX U U<|xe<|Qd<|QG U (λgn=>?_) (λgn=>?_)
 ·refine Qx ?_;rw[Ls oa]at h0;have h3:O3 [] w5 S:=hK.O hs oa;have hM:Q7 S.heap b3 386 [vl,ve,vs]:=hy.I h3;refine Qw<|Qs U hM U U<|Qb<|Qa<|QB (us:=[[.map (some bm)]]) U U og oe ⟨rfl,rfl,Z⟩ λkn go ht ko gp=>?_;have h4:=h3.D ht;have gq:=Qp J h4;have kq:=h4.size;refine Qa<|Za (news:=[.map (some bm)]) (L:=[]) gq U U U (gp.at oe) (by simp[Value.oneCell']) oa oa λh6 gr gs h8 hN=>?_;have h9:gr.ownsRow H.heap.size 423 1 h6 (G++[bm]).length ((G++[bm]).flatMap QeA):=by
   rw[Lj,LA];simpa using gs
  have gt:=(hM.I ht).J h8 (QT J oa);refine Q0 U<|Qa<|QA gt U U oe (QH (L:=[]) h9 (by simp;omega) oe).one λgu hB gv=>xe ?_;refine Qw<|QN U U<|Qb<|xe ?_;have gw:∀b∈ob h6,H.heap.size<=b:=λb E=>(Qi h9 b E).1;have kr:S.heap.size<=go.heap.size:=ht.size;refine⟨(k+1,G++[bm],h6),oh,La,hz,by simp[hg],?_,gv,Qf h9 hB (λb E=>by have:=gw b E;simp;omega),?_⟩
  ·exact((I.D h4).then h8 (λb E=>.inr (ho b E).1)).Q hB
  intro i h1 h2;simp only[oM,oO]at h1;have keep:∀(c:Nat) (m:List ((Int×Int)×O0)),Yd Je S.heap c m->c≠b3->c∉ob vs->Yd Je gu.heap c m:=λc m hm gx gy =>
   ((hm.I ht).J h8 gy).J hB (oz gx)
  by_cases hi:i<G.length
  ·obtain⟨m1,m2,m3⟩:=hh i hi h2;simp only[List.getElem_append_left hi];refine⟨keep _ _ (m1.I h3) oa m3,m2,λE=>?_⟩;have kt:=m1.lt;rcases hN _ E with T|T
   ·exact m3 T
   omega
  have gz:i=G.length:=oa
  subst gz;simp only[List.getElem_append_right (Nat.le_refl _),Nat.sub_self,List.getElem_singleton];have hq:G.length=k:=hg;have e2:ps[G.length]=ps[k]:=by simp only[hq]
  rw[e2];refine⟨keep _ _ h0 oa (λE=>ou (ho _ E).2),oa,λE=>?_⟩;rcases hN _ E with T|T
  ·have:=(ho _ T).2;omega
  omega
 have hC:j<ps[k].a.ed.length:=oa
 refine Qh<|Qd<|Qg<|Qe<|xie (gm.st hs) U U hC λku g0=>x (Qv g0 U U)<|Qa<|Qo (us:=[oF oG 0,oF oG 0,oF oG 0]) U λb8 kv g3 g4 V=>Qa<|Qj (us:=QF ps[k].a.ed[j]) V U U U U oB λg5 g6 V=>xe ?_;have hO:O3 [] S g5:=g3.O g6 g4;refine Qw<|Qb<|Qs U V U U<|Qs U V U U<|x (Qz ⟨U,U,Z⟩)<|x (K4 U) <|
  Y2 V rfl U<|Qa<|Xw (k:=(ps[k].a.ed[j].1,ps[k].a.ed[j].2.1)) (h0.I hO) U U λkw g7 g8=>xe ?_
 refine Qw<|QN U U<|Qb<|xe<|⟨j+1,oa,La,hC,(hs.D hO).Q g7,?_⟩;rw[QdA hC];exact g8
theorem Qdu {L:LN}{ps:List AV}{ms:LN}(h:Vk L w.heap vl ve vs ps ms)(hn:ps.length<=12):
  Q5 prog 236 [.agg #[vl,ve,vs]] w λr w'=>O3 [] w w' /\
   if ∃p∈ps,p.a.st=0 then r=.tuple #[nS,.bool false]else ∃v,r=.tuple #[v,.bool true]/\Qu 3 w.heap.size w' v (oN ps.length 0):=by
 refine Zs func236 ntmps236 results236 ?_;refine Qe<|Qa<|QS (us:=[vl,ve,vs]) U λb1 w1 G hj S=>x Qk<|Qc<|Qd<|Qe<|Qs U S U U<|QL h.al.arr U<|Qb<|xe<|Qg<|QC (α:=Nat) [(2,3),(5,5),(9,16)] (λz=>[(9,oF oG z)]) (λz w'=>z<=ps.length/\O3 [] w1 w'/\∀i (h:i<ps.length),i<z->ps[i].a.st≠0) (λz=>ps.length - z) ol 0 La
  ⟨Ln _,O3.Z _ _,λi _ h=>oa⟩ ?_
 rintro k g w2 ⟨hk,E,T⟩;refine Qe<|QX U U<|xe<|Qd<|QG U (λha=>?_) (λha=>?_)
 ·refine Qx<|Qe<|Qs U (S.I E) U U<|QL h.al.arr U<|Qa<|U6 (n:=ps.length) U U oa λhb w3 hc hl V=>x Qk<|Qc ?_;rw[show(oN ps.length (oF oG 0).cells.toList).flatten=((oN ps.length 0).map (Value.int .i64)) by rw[show(oF oG 0).cells.toList=[oF oG 0] from rfl,Qbx,List.map_replicate]]at V;have hz:=(G.D E).size;refine Ql ⟨[.slice (some ⟨hb,0,none⟩) ps.length ps.length,.bool true],oA,(G.D E).D hc,?_⟩;rw[OR (by
   rintro⟨p,hp,h0⟩;obtain⟨i,hi,rfl⟩:=LO hp;exact T i hi oa h0)]
  refine⟨_,U,?_⟩;have:=V.own (n:=ps.length) (sz:=1) (base:=w.heap.size) oe oa oa;unfold Qu;rw[List.length_replicate];exact this
 have H:k<ps.length:=oa
 have I:=h.al.each ps[k] (Lm H);refine Qh<|Qd<|Qg<|Qe<|O6 qq ((h.al.I G).I E).arr U U H λhm he=>x (Qv he U U)<|Qa<|Qo (us:=[nS,oF oG 0,nS,nS]) U λb5 w4 hf hg J =>
  Qa<|Qj (us:=ZS ps[k]) J U U U U ⟨I.al.one,U,I.mr.one,I.ed.one,Z⟩ λw5 hh J=>xe ?_
 have Y:O3 [] w2 w5:=hf.O hh hg;refine Qe<|Qs U J U U<|x (Q9 U U)<|xe<|QZ rfl (λO=>?_) (λO=>?_)
 ·refine Qe<|x Qk<|Qc<|Ql ⟨[nS,.bool false],oA,(G.D E).D Y,?_⟩;rw[OS ⟨ps[k],Lm H,O⟩];rfl
 refine Qh<|Qw<|QN U U<|Qb<|xe<|⟨k+1,oa,La,H,E.D Y,λi hi ho=>?_⟩;by_cases e:i=k
 ·subst e;exact O
 exact T i hi oa
theorem Qdi {aa:List Zd}{ts:LI}{k:Nat}(h:k<aa.length)(E:k<ts.length):Jz (aa.drop k) (ts.drop k)=(decide (ts[k]∈aa[k].mr) && Jz (aa.drop (k+1)) (ts.drop (k+1))):=by
 rw[LE h,LE E,Jz]
theorem Qf3 {L:LN}{ps:List AV}{ms:LN}{ts:LI}(h:Vk L w.heap vl ve vs ps ms)(ht:QQ L w.heap vt ts)(hl:ts.length=ps.length)(hi:∀p∈ps,Y1 p.a.mr)(hn:ps.length<=12):
  Q5 prog 238 [.agg #[vl,ve,vs],vt] w λr w'=>r=.bool (Jz (ps.map (·.a)) ts)/\O3 [] w w':=by
 refine Zs func238 ntmps238 results238 ?_;refine Qe<|Qa<|QS (us:=[vl,ve,vs]) U λb2 w1 hb hq he=>Qc<|Qd<|Qe<|Qs U he U U<|QL h.al.arr U<|Qb<|xe<|Qg<|QC (α:=Nat) [(4,6),(10,23)] (λz=>[(10,oF oG z)]) (λz w'=>z<=ps.length/\O3 [] w w'/\Jz (ps.map (·.a)) ts=Jz ((ps.map (·.a)).drop z) (ts.drop z)) (λz=>ps.length - z) ol 0 La
  ⟨Ln _,hb,U⟩ ?_
 rintro k g w2 ⟨hk,I,G⟩;refine Qe<|QX U U<|xe<|Qd<|QG U (λhf=>?_) (λhf=>?_)
 ·refine Qx<|Qe<|Qc<|Ql ⟨[.bool true],La,?_,I⟩;rw[G,Lr (by simp;omega)];rfl
 have E:k<ps.length:=oa
 have Y:k<ts.length:=oa
 have H:=h.al.each ps[k] (Lm E);rw[Qdi (oz E) Y,Mu]at G;refine Qh<|Qd<|Qg<|Qm<|O6 qq (h.al.I I).arr U U E λhr hg=>x (Qv hg U U)<|Qa<|Qo (us:=[nS,oF oG 0,nS,nS]) U λb6 w3 hh hj J=>x Qk <|
  Qa<|Qj (us:=ZS ps[k]) J U U U U ⟨H.al.one,U,H.mr.one,H.ed.one,Z⟩ λO hm J=>xe ?_
 have ho:O3 [] w2 O:=hh.O hm hj;have S:=I.D ho;refine Qd<|QR (O3 [] O) [oD 0,oD 1,oD 2,oD 3,oD 4,oD 5,oE 6,oD 7] mixed ol od (O3.C _ _) ?_;refine p (QP U)<|pq (λ_ T=>Qq (J.I T) U U)<|p Qy<|p Qy<|pii U (ht.I S) U U Y λhs hp =>
  pq (λ_ T=>QD (hp.I T) U)<|pk<|xf<|(J5 ((H.mr.I S).I (O3.C _ _)) (hi ps[k] (Lm E)) _).mono ?_
 rintro r5 w5 ⟨rfl,rfl⟩;refine⟨O3.C _ _,?_⟩;refine p (λ_=>Zz U)<|pe ?_;have ha:=S.D (O3.C [] O);refine QW rfl (λV=>?_) (λV=>?_)
 ·refine Qe<|Qc<|Ql ⟨[.bool false],La,?_,ha⟩;rw[G,show decide (ts[k]∈ps[k].a.mr)=false by simpa using V];rfl
 refine Qh<|Qw<|QN U U<|Qb<|xe<|⟨k+1,oa,La,E,ha,?_⟩;rw[G,show decide (ts[k]∈ps[k].a.mr)=true by simpa using V,OK]
theorem Qc0 {aa:List Zd}{ts:LI}{k:Nat}{v:Int}(h:k<aa.length)(E:k<ts.length):YQ v (aa.drop k) (ts.drop k) =
  if v∉aa[k].al then(YQ v (aa.drop (k+1)) (ts.drop (k+1))).map (ts[k]::·)else match xg aa[k].ed ts[k] v with|none=>none|some u=>(YQ v (aa.drop (k+1)) (ts.drop (k+1))).map (u::·):=by
 rw[LE h,LE E];show(if v∉aa[k].al then _ else _)=_
 split
 ·rfl
 cases xg aa[k].ed ts[k] v <;> rfl
theorem QhT {L:LN}{ps:List AV}{ms:LN}{ts:LI}(h:Vk L w.heap vl ve vs ps ms)(ht:QQ L w.heap vt ts)(hl:ts.length=ps.length)(hi:∀p∈ps,Y1 p.a.al)
  (h0:∀p∈ps,p.a.ed.Pairwise λx y=>x.1<y.1\/(x.1=y.1/\x.2.1<y.2.1)) (hn:ps.length<=12) (v:Int):
  Q5 prog 239 [.agg #[vl,ve,vs],vt,oF oG v] w λr w'=>O3 [] w w' /\
   match YQ v (ps.map (·.a)) ts with|none=>r=.tuple #[nS,.bool false]|some u=>∃v',r=.tuple #[v',.bool true]/\Qu 3 w.heap.size w' v' u:=by
 refine Zs func239 ntmps239 results239 ?_;refine Qe<|Qa<|QS (us:=[vl,ve,vs]) U λb3 w1 hf hM hg=>x Qk<|Qc<|Qm<|Qa<|xf<|(ZU (ht.I hf)).mono ?_;rintro vx w2 ⟨hh,hs⟩;refine Qc ?_;have h1:=hf.size;have hN:=hg.lt;have hj:=hf.D hh;refine Qd<|Qe<|Qs U (hg.I hh) U U<|QL h.al.arr U<|Qb<|xe ?_;have hge:=Qi hs;have h2:Vk (ob vx) w2.heap vl ve vs ps ms:=((h.up (L':=ob vx) (λb G=>.inr (ou (hge b G).1))).I hj);have h3:QQ (ob vx) w2.heap vt ts:=((ht.up (L':=ob vx) (λb G=>.inr (ou (hge b G).1))).I hj);refine Qg<|QC (α:=Nat×LI) [(6,7),(9,12),(18,49)] (λz=>[(18,oF oG z.1)])
  (λz w'=>z.1<=ps.length/\z.2.length=z.1/\O3 (ob vx) w2 w'/\Qu 3 w1.heap.size w' vx (z.2++ts.drop z.1)/\YQ v (ps.map (·.a)) ts=(YQ v ((ps.map (·.a)).drop z.1) (ts.drop z.1)).map (z.2++·)) (λz=>ps.length - z.1) ol (0,[]) La
  ⟨Ln _,U,O3.Z _ _,hs,oe⟩ ?_
 rintro⟨k,pre⟩ g w3 ⟨hk,T,O,S,E⟩;simp only[]at hk T S E;have hm:O3 [] w w3:=hj.then O (λb G=>.inr (ou (hge b G).1));refine Qe<|QX U U<|xe<|Qd<|QG U (λh4=>?_) (λh4=>?_)
 ·refine Qx<|Qm<|x Qk<|Qc<|Ql ⟨[vx,.bool true],oA,hm,?_⟩;rw[Lr (by simp;omega),Lr oa]at E;rw[Lr oa]at S;rw[E];simp only[YQ,Ox];exact⟨vx,U,Zy S h1⟩
 have H:k<ps.length:=oa
 have ho:k<ts.length:=oa
 have hu:k<ms.length:=by rw[h.ml];exact H
 have V:=h.al.each ps[k] (Lm H);rw[Qc0 (oz H) ho,Mu]at E;have hv:=h2.st O;have h5:=h3.st O;refine Qh<|Qd<|Qg<|Qm<|O6 qq hv.al.arr U U H λhO h6=>x (Qv h6 U U)<|Qa<|Qo (us:=[nS,oF oG 0,nS,nS]) U λhP w4 h7 h8 hp=>x Qk <|
  Qa<|Qj (us:=ZS ps[k]) hp U U U U ⟨V.al.one,U,V.mr.one,V.ed.one,Z⟩ λw5 h9 hp=>xe ?_
 have I:O3 [] w3 w5:=h7.O h9 h8;have hB:=hm.D I;refine Qd<|Qe<|Qs U hp U U<|Qb<|Qa<|xf<|(J5 (V.al.I hB) (hi ps[k] (Lm H)) v).mono ?_;rintro r6 Y ⟨rfl,rfl⟩;refine x (Zz U)<|xe ?_;have hw:=Zf ho;refine QW rfl (λhq=>?_) (λhq=>?_)
 ·have hC:v∉ps[k].a.al:=by simpa using hq
  refine Qx<|Qw<|QN U U<|Qb<|xe<|⟨(k+1,pre++[ts[k]]),oh,La,H,by simp[T],O.D I,?_,?_⟩
  ·simp only[o0,Ov];rw[<-hw];exact Qp S I
  simp only[];rw[E,OS hC,Option.map_map];congr 1;funext l;simp
 have hD:¬(v∉ps[k].a.al):=by simpa using hq
 rw[OR hD]at E;refine Qh ?_;have hE:=(hg.I hh).J O (λG=>ou (hge b3 G).1);have hy:=hv.I I;obtain⟨hF,hQ⟩:=hy.mp k hu H;refine Qd<|QR (O3 [] Y) [oD 0,oD 1,oD 2,oD 3,oD 4,oD 5,oD 6,oD 7,oD 8,oD 9,oD 10,oD 11,oD 12,oD 13,oD 14,oD 15,oD 16] mixed ol od (O3.C _ _) ?_;refine p (QP U)<|pq (λ_ J=>Qq ((hE.I I).I J) U U)<|p Qy<|pig U (g:=QeA) (λ_=>U) hy.sl U U hu λhR hG =>
  pq (λ_ J=>QD (hG.I J) U)<|p Qy<|p Qy<|pii U (h5.I I) U U ho λhS hH=>pq (λ_ J=>QD (hH.I J) U) <|
  p Qy<|p (λ_=>Qz ⟨U,U,Z⟩)<|pq (λ_ J=>K3 (k:=(ts[k],v)) (hF.I J) U U)<|?_
 rw[jJ ps[k].a.ed [] ts[k] v (h0 ps[k] (Lm H))];have hr:O3 [] w3 { Y with drawn:=Y.drawn+1 }:=I.D (O3.C [] Y)
 cases he:xg ps[k].a.ed ts[k] v with
 | none =>
  rw[he]at E;refine p Qy<|p (λ_=>Zp U U)<|p (λ_=>Zp U U)<|p ZH<|p ZH<|pe ?_;refine Qd<|Qm<|x (Zz U)<|xe<|yv U ?_;refine Qe<|x Qk<|Qc<|Ql ⟨[nS,.bool false],oA,hm.D hr,?_⟩;rw[E];rfl
 | some u =>
  rw[he]at E;refine p Qy<|p (λ_=>Zp U U)<|p (λ_=>Zp U U)<|p ZH<|p ZH<|pe ?_;refine Qd<|Qm<|x (Zz U)<|xe<|ZO U ?_;refine Qh ?_;have hz:=Qp S hr;have hT:(pre++ts.drop k).length=ts.length:=by simp;omega
  obtain⟨gx,cx,ha⟩:=Js S oa;have hI:ob vx=[gx]:=by rw[ha];rfl
  refine Qw<|Qb<|Qb<|Qb<|x (ZB ha U oa)<|Qa<|Qh2 (u:=oF oG u) (by rw[ha]at hz;exact hz) U U oa U λw7 hJ hK=>xe ?_;refine Qw<|QN U U<|Qb<|xe ?_;have hL:(pre++ts.drop k).set k u=(pre++[u])++ts.drop (k+1):=by
   rw[hw,List.set_append_right _ _ oa,T,Nat.sub_self,List.set_cons_zero,LB];rfl
  refine⟨(k+1,pre++[u]),oh,La,H,by simp[T],(O.D hr).then hJ (λb G=>.inl (by rw[hI];exact G)),?_,?_⟩
  ·simp only[];rw[<-hL];unfold Qu;rw[Mk,ON,ha];exact hK
  simp only[];rw[E,Option.map_map];congr 1;funext l;simp
theorem Ui (h:n<256):(UInt8.ofNat n).toNat=n:=by
 simp[Nat.mod_eq_of_lt h]
theorem Qce (u:Nat):(32:UInt8)∉Lib.decDigits u:=by
 induction u using Nat.strongRecOn with
 | _ u ih =>
  unfold Lib.decDigits;split
  ·intro h;simp only[oI]at h;have:=OT UInt8.toNat h;rw[Ui oa]at this;have E:(32:UInt8).toNat=32:=rfl;omega
  intro h;rcases Lc.1 h with h|h
  ·exact ih _ oa h
  simp only[oI]at h;have:=OT UInt8.toNat h;rw[Ui oa]at this;have E:(32:UInt8).toNat=32:=rfl;omega
def dval (l:List UInt8):Nat:=l.foldl (λa b=>a*10+(b.toNat - 48)) 0
theorem Qcc (u:Nat):dval (Lib.decDigits u)=u:=by
 induction u using Nat.strongRecOn with
 | _ u ih =>
  unfold Lib.decDigits;split
  ·simp only[dval,List.foldl_cons,List.foldl_nil];rw[Ui oa];omega
  have:=ih (u / 10) oa;unfold dval at *;rw[Mz,this];simp only[List.foldl_cons,List.foldl_nil];rw[Ui oa];omega
theorem Qed:∀{a b r H:List UInt8},(32:UInt8)∉a->(32:UInt8)∉b->a++32::r=b++32::H->a=b/\r=H
 | [],[],_,_,_,_,h=>oz h
 | [],y::b,_,_,_,E,h=>by simp at h;exact OU h.1 (by intro e;exact E (by simp[e]))
 | x::a,[],_,_,G,_,h=>by simp at h;exact OU h.1 (by intro e;exact G (by simp[e]))
 | x::a,y::b,_,_,G,E,h=>by
  simp only[Ob,List.cons.injEq]at h;have:=Qed (λe=>G (Lk _ e)) (λe=>E (Lk _ e)) h.2;exact⟨by rw[h.1,this.1],this.2⟩
theorem QbT:∀{l l':LI},(∀n∈l,0<=n)->(∀n∈l',0<=n)->JJ l=JJ l'->l=l'
 | [],[],_,_,_=>rfl
 | [],y::b,_,_,h=>by simp[JJ]at h
 | x::a,[],_,_,h=>by simp[JJ]at h
 | x::a,y::b,G,H,h=>by
  have I:Lib.decDigits x.toNat++32::JJ a=Lib.decDigits y.toNat++32::JJ b:=by simpa[JJ]using h
  obtain⟨J,O⟩:=Qed (Qce _) (Qce _) I;have T:x.toNat=y.toNat:=by rw[<-Qcc x.toNat,<-Qcc y.toNat,J]
  have S:=QbT (λn E=>G n (Lk _ E)) (λn E=>H n (Lk _ E)) O;have V:=G x Lt;have Y:=H y Lt;rw[S,show x=y by omega]
def KP (l:LI):ByteArray:=⟨(JJ l).toArray⟩
theorem Qit {l l':LI}(E:∀n∈l,0<=n)(G:∀n∈l',0<=n)(h:KP l=KP l'):l=l':=by
 refine QbT E G ?_;have:=OT (λb:ByteArray=>b.data.toList) h;simpa[KP]using this
def qw (n:Nat)(m:List (ByteArray×O0))(tup:List (LI)):Prop :=
 ∀u:LI,u.length=n->(∀x∈u,0<=x)->O8 m (KP u)=if u∈tup then some (oF oG (tup.idxOf u:Int))else none
theorem qw.add {m:List (ByteArray×O0)}{tup:List (LI)}(h:qw n m tup){u:LI}(H:u∉tup)(I:∀x∈u,0<=x):qw n (O9 m (KP u) (oF oG (tup.length:Int))) (tup++[u]):=by
 intro v J G;rw[Xn];by_cases e:u=v
 ·subst e;rw[OS rfl,OS oe,MU,OR H];simp
 rw[OR (λO=>e (Qit I G O)),h v J G];by_cases E:v∈tup
 ·rw[OS E,OS (by simp[E]),MU,OS E]
 rw[OR E,OR (by simp[E,Ne.symm e])]
structure jZ (N b2 b38 b37:Nat)(ve:O0)(wS:OZ)(s:Sy)(m:List (ByteArray×O0))(qs:List TV)(vt vk vd:O0)(w:OZ):Prop where
 st:O3 [b2,b38,b37] wS w
 A:Q7 w.heap b2 61 [ve,oF oG 0,vk,vd]
 M:Yd JB w.heap b38 m
 t:yQ 56 N w vt qs
 tb:∀b∈ob vt,b=b37\/wS.heap.size<=b
 k:Qu 3 wS.heap.size w vk s.mk'
 e:YB 213 wS.heap.size w vd s.ed
 q:qs.map (·.2)=s.tup
 el:∀p∈qs,Qu 3 N w p.1 p.2
 sep:∀p∈qs,∀b∈ob p.1,b≠b38/\b∉ob vt/\b∉ob vk/\b∉ob vd
 d1:Dj vt vk
 d2:Dj vt vd
 d3:Dj vk vd
section
variable {b38 b37:Nat}{wS:OZ}{s:Sy}{m:List (ByteArray×O0)}{qs:List TV}{vd:O0}{w'':OZ}
theorem jZ.I (h:jZ N b2 b38 b37 ve wS s m qs vt vk vd w)(E:O3 [] w w'):jZ N b2 b38 b37 ve wS s m qs vt vk vd w' :=
 ⟨h.st.D E,h.A.I E,h.M.I E,Qp h.t E,h.tb,Qp h.k E,Qp h.e E,h.q,λp G=>Qp (h.el p G) E,h.sep,h.d1,h.d2,h.d3⟩
structure SyN (N b2 b38 b37:Nat)(wS:OZ):Prop where
 l2:b2<N
 l38:b38<wS.heap.size
 l37:b37<wS.heap.size
 n37:N<=b37
 n38:b37<b38
 nS:N<=wS.heap.size
theorem jZ.setK (h:jZ N b2 b38 b37 ve wS s m qs vt vk vd w)(n:SyN N b2 b38 b37 wS){J:O0}{l:LI}(I:O3 (ob vk) w w')(S:Qu 3 wS.heap.size w' J l)
  (O:∀b∈ob J,b∈ob vk\/w.heap.size<=b) (H:O3 [b2] w' w'') (V:Q7 w''.heap b2 61 [ve,oF oG 0,J,vd]):jZ N b2 b38 b37 ve wS ⟨s.tup,l,s.ed⟩ m qs vt J vd w'':=by
 have hge:=Qi h.k;have l2:=n.l2;have l38:=n.l38;have n37:=n.n37;have n38:=n.n38;have nS:=n.nS;refine⟨(h.st.then I (λb E=>.inr (hge b E).1)).then H (λb E=>.inl (by simp at E;simp[E])),V,(h.M.J I (QT h.k oa)).J H (by simp;omega),
  Qf (Qf h.t I h.d1) H (λb E=>by have:=(Qi h.t b E).1;simp;omega),h.tb,Qf S H (λb E=>by have:=(Qi S b E).1;simp;omega),
  Qf (Qf h.e I h.d3.symm) H (λb E=>by have:=(Qi h.e b E).1;simp;omega),h.q,
  λp G=>Qf (Qf (h.el p G) I (λb E=>(h.sep p G b E).2.2.1)) H (λb E=>by have:=(Qi (h.el p G) b E).1;simp;omega),
  λp G b E=>⟨(h.sep p G b E).1,(h.sep p G b E).2.1,λY=>?_,(h.sep p G b E).2.2.2⟩,h.d1.grow O (Zb h.t),h.d2,(h.d3.symm.grow O (Zb h.e)).symm⟩
 rcases O b Y with T|T
 ·exact(h.sep p G b E).2.2.1 T
 have:=Zb (h.el p G) b E;omega
theorem jZ.setE (h:jZ N b2 b38 b37 ve wS s m qs vt vk vd w)(n:SyN N b2 b38 b37 wS){J:O0}{l:List Ed}(I:O3 (ob vd) w w')(S:YB 213 wS.heap.size w' J l)
  (O:∀b∈ob J,b∈ob vd\/w.heap.size<=b) (H:O3 [b2] w' w'') (V:Q7 w''.heap b2 61 [ve,oF oG 0,vk,J]):jZ N b2 b38 b37 ve wS ⟨s.tup,s.mk',l⟩ m qs vt vk J w'':=by
 have hge:=Qi h.e;have l2:=n.l2;have l38:=n.l38;have n37:=n.n37;have n38:=n.n38;have nS:=n.nS;refine⟨(h.st.then I (λb E=>.inr (hge b E).1)).then H (λb E=>.inl (by simp at E;simp[E])),V,(h.M.J I (QT h.e oa)).J H (by simp;omega),
  Qf (Qf h.t I h.d2) H (λb E=>by have:=(Qi h.t b E).1;simp;omega),h.tb,Qf (Qf h.k I h.d3) H (λb E=>by have:=(Qi h.k b E).1;simp;omega),
  Qf S H (λb E=>by have:=(Qi S b E).1;simp;omega),h.q,
  λp G=>Qf (Qf (h.el p G) I (λb E=>(h.sep p G b E).2.2.2)) H (λb E=>by have:=(Qi (h.el p G) b E).1;simp;omega),
  λp G b E=>⟨(h.sep p G b E).1,(h.sep p G b E).2.1,(h.sep p G b E).2.2.1,λY=>?_⟩,h.d1,h.d2.grow O (Zb h.t),h.d3.grow O (Zb h.k)⟩
 rcases O b Y with T|T
 ·exact(h.sep p G b E).2.2.2 T
 have:=Zb (h.el p G) b E;omega
theorem jZ.setM (h:jZ N b2 b38 b37 ve wS s m qs vt vk vd w)(n:SyN N b2 b38 b37 wS){H:List (ByteArray×O0)}(G:O3 [b38] w w')(J:Yd JB w'.heap b38 H):jZ N b2 b38 b37 ve wS s H qs vt vk vd w':=by
 have l2:=n.l2;have l38:=n.l38;have n37:=n.n37;have n38:=n.n38;have nS:=n.nS;exact⟨h.st.then G (λb E=>.inl (by simp at E;simp[E])),h.A.J G (by simp;omega),J,Qf h.t G (λb E=>by have:=h.tb b E;simp;omega),h.tb,
  Qf h.k G (λb E=>by have:=(Qi h.k b E).1;simp;omega),Qf h.e G (λb E=>by have:=(Qi h.e b E).1;simp;omega),h.q,
  λp I=>Qf (h.el p I) G (λb E=>by have:=(h.sep p I b E).1;simpa using this),h.sep,h.d1,h.d2,h.d3⟩
theorem jZ.setT (h:jZ N b2 b38 b37 ve wS s m qs vt vk vd w)(n:SyN N b2 b38 b37 wS){J:O0}{u:LI}(hx:Qu 3 wS.heap.size w vx u)(S:∀b∈ob vx,b∉ob vt/\b∉ob vk/\b∉ob vd)(H:O3 (ob vt) w w')
  (V:yQ 56 N w' J (qs++[(vx,u)])) (O:∀b∈ob J,b∈ob vt\/w.heap.size<=b):jZ N b2 b38 b37 ve wS ⟨s.tup++[u],s.mk',s.ed⟩ m (qs++[(vx,u)]) J vk vd w':=by
 have l2:=n.l2;have l38:=n.l38;have n37:=n.n37;have n38:=n.n38;have nS:=n.nS;have he:=h.st.size;have nott:∀c,c<w.heap.size->c∉ob vt->c∉ob J:=λc hc Y ha=>by
  rcases O c ha with I|I
  ·exact Y I
  omega
 refine⟨h.st.then H (λb E=>by have:=h.tb b E;simp;omega),h.A.J H (λE=>ou (h.tb b2 E)),h.M.J H (λE=>ou (h.tb b38 E)),V,
  λb E=>?_,Qf h.k H h.d1.symm,Qf h.e H h.d2.symm,by rw[Lp,h.q];rfl,λp G=>?_,λp G b E=>?_,(h.d1.symm.grow O (Zb h.k)).symm,(h.d2.symm.grow O (Zb h.e)).symm,h.d3⟩
 ·rcases O b E with I|I
  ·exact h.tb b I
  exact .inr oa
 ·rcases Lc.1 G with G|G
  ·exact Qf (h.el p G) H (λb E=>(h.sep p G b E).2.1)
  simp only[oI]at G;subst G;exact Zy (Qf hx H (λb E=>(S b E).1)) nS
 rcases Lc.1 G with G|G
 ·have:=h.sep p G b E;exact⟨this.1,nott b (Zb (h.el p G) b E) this.2.1,this.2.2⟩
 simp only[oI]at G;subst G;have I:=(Qi hx b E);have T:=S b E;exact⟨oa,nott b I.2 T.1,T.2⟩
end
theorem QqA (o:Option α):o=none\/∃t,o=some t:=by cases o;exact .inl U;exact .inr ⟨_,U⟩
def zA:O0:=.agg #[nS,oF oG 0,nS,nS]
def ZD:O0:=nS
def YL (N:Nat)(H:xx)(aa:List Zd)(va vt:O0)(c:Int):Prop :=
 if UT aa≠0 then c=UT aa/\va=zA/\vt=ZD else match xh aa with
  | none=>c=3/\va=zA/\vt=ZD
  | some z=>c=0/\Jo N H va z.1/\QdS N H vt z.2
def YT (s:Sy)(u:LI):Sy:=if u∈s.tup then s else⟨s.tup++[u],s.mk',s.ed⟩
theorem Qhm (s:Sy)(u:LI):(YT s u).mk'=s.mk':=by unfold YT;split <;> rfl
theorem Qhn (s:Sy)(u:LI):(YT s u).ed=s.ed:=by unfold YT;split <;> rfl
theorem QkD {aa:List Zd}{t u:LI}{s:Sy}{v:Int}(h:YQ v aa t=some u)(hl:u∈s.tup\/s.tup.length≠4096):
  syE aa i t s v=some ⟨(YT s u).tup,(YT s u).mk',(YT s u).ed++[((i:Int),v,((YT s u).tup.idxOf u:Int))]⟩:=by
 unfold syE YT;rw[h];simp only[];by_cases E:u∈s.tup
 ·simp only[OS E]
 simp only[OR E];rw[OR (by rcases hl with G|G;exact OU G E;exact G),MU,OR E];simp
theorem Qhl {aa:List Zd}{t u:LI}{s:Sy}{v:Int}(h:YQ v aa t=some u)(E:u∉s.tup)(hl:s.tup.length=4096):syE aa i t s v=none:=by
 unfold syE;rw[h];simp only[];rw[OR E,OS hl]
theorem Qhj {aa:List Zd}{t:LI}{s:Sy}{v:Int}(h:YQ v aa t=none):syE aa i t s v=some s:=by
 unfold syE;rw[h]
theorem Qo8 {s:Sy}{qs:List TV}(E:qs.map (·.2)=s.tup)(h:i<qs.length):yZ s i=qs[i].2:=by
 unfold yZ;rw[<-E];simp[oQ,h]
theorem Vt.bd {aa:List Zd}{t:LI}(h:Vt aa t){m:Int}(G:∀a∈aa,a.st<=m):∀x∈t,0<=x/\x<m:=by
 intro x hx;obtain⟨i,hi,rfl⟩:=LO hx;have E:i<aa.length:=by rw[<-h.1];exact hi
 have:=h.2 i hi E;have:=G aa[i] (Lm E);omega
theorem QcH {L:LN}{ps:List AV}{km:Int}(h:Km L w.heap vl ps)(gn:Kb w km)(kg:0<km)(pc:∀p∈ps,p.a.st<=km):
  Q5 prog 199 [vl] w λr w'=>O3 [] w w'/\∃va vt c,r=.tuple #[va,vt,oF oG c]/\YL w.heap.size w'.heap (ps.map (·.a)) va vt c:=by
 refine Zs func199 ntmps199 results199 ?_;generalize S:ps.map (·.a)=aa;refine Qe<|Qa<|Qo (us:=[nS,oF oG 0,nS,nS]) U λb2 w1 hR hC go=>x Qk<|Qc ?_;have hl2:=go.lt;refine Qd<|Qm<|Qa<|xf<|(QfY (h.I hR)).mono ?_;rintro r2 w2 ⟨rfl,hq⟩;refine Qc ?_;rw[S];refine Qm<|ZA U U<|xe<|QZ rfl (λh5=>?_) (λh5=>?_)
 ·refine Qe<|x (Qz Z)<|Qb<|Qa<|Qj (us:=[nS,oF oG 0,nS,nS]) (go.I hq) U U U U oC λw3 pd pf=>x Qk<|Qc<|Ql ⟨[zA,ZD,oF oG (UT aa)],⟨⟨_,U,Qn U (pf.at (L:=[]) oe).cells⟩,rfl,rfl,Z⟩,(hR.D hq).O pd hC,zA,ZD,UT aa,rfl,?_⟩;unfold YL;rw[OS h5];exact⟨U,U,U⟩
 have hr:UT aa=0:=Lo.1 h5;have hn:ps.length<=12:=by
  unfold UT at hr;split at hr
  ·cases hr
  rename_i h1;rw[<-S]at h1;simp at h1;exact h1
 have hD:∀a∈aa,ZJ a:=by
  unfold UT at hr;split at hr
  ·cases hr
  exact(Qcn aa).1 hr
 have hS:∀p∈ps,ZJ p.a:=λp G=>hD p.a (by rw[<-S];exact LK G);have pg:∀p∈ps,p.a.al.length<=32:=λp G=>(hS p G).al_le;have ph:∀a∈aa,a.st<=km:=λa ha=>by rw[<-S]at ha;obtain⟨p,G,rfl⟩:=LD.1 ha;exact pc p G
 have hE:aa.length=ps.length:=by rw[<-S];simp
 refine Qh<|Qm<|Qa<|xf<|(Qk9 (L:=[b2]) (((h.up (λb E=>.inr (by simp at E;omega))).I hR).I hq) hn pg (λb E=>by simp at E;have:=hq.size;omega)).mono ?_;rintro r4 w4 ⟨gp,ve,vs,ms,rfl,kh,hm⟩;rw[S]at hm;have pj:=h.arr.one;have hel:=QaO aa (λa ha=>(hD a ha).al_le);have hevl:(evs aa).length<=1000:=oa
 have hU:=Qu.ints (L:=[]) hm oa oe;refine Qa<|Qo (us:=[nS,nS,nS]) U λb6 w5 pm pn hF=>Qa<|Qj (us:=[vl,ve,vs]) hF U U U U ⟨pj,hU.one,kh.sl.one,Z⟩ λw6 po hF=>xe ?_;have hV:O3 [] w4 w6:=pm.O po pn;have hz2:=hq.size;have hz4:=gp.size;have hl6:=hF.lt;refine Qe ?_;have pp:=((go.I hq).I gp).I hV;refine Qs rfl hF U U<|Q0 U<|Qa<|QA pp U U oe hU.one λw7 hG pu=>xe ?_;have hz7:=hG.size;have gq:O3 [] w w7:=((((hR.D hq).D gp).D hV).O hG hC);have ki:Vk [b2] w7.heap vl ve vs ps ms:=(kh.I hV).st hG;have kj:Qu 3 w2.heap.size w7 ve (evs aa):=Qf (Qp hm hV) hG (λb E=>by have:=(Qi hm b E).1;simp;omega);have kk:=hF.J hG (by simp;omega);refine Qe<|Q2 kk U U<|Qa<|xf<|(Qdu ki hn).mono ?_;rintro r8 w8 ⟨hk,hW⟩;have hz8:=hk.size;have gr:=pu.I hk;have hX:(∃p∈ps,p.a.st=0)↔(∃a∈aa,a.st=0):=by
  rw[<-S];constructor
  ·rintro⟨p,G,h0⟩;exact⟨p.a,LK G,h0⟩
  rintro⟨a,ha,h0⟩;obtain⟨p,G,rfl⟩:=LD.1 ha;exact⟨p,G,h0⟩
 by_cases hz:∃p∈ps,p.a.st=0
 ·rw[OS hz]at hW;subst hW;refine Qb<|Q8 U U<|Q8 U U<|x Qk<|Qc<|Qd<|Qm<|x (Zz U)<|xe<|yv U ?_;refine Qe<|Q2 gr U U<|Qa<|Qj (us:=[ve,oF oG 0,nS,nS]) gr U U U U ⟨hU.one,U,U,U,Z⟩ λw9 kn pw=>x Qk<|Qc<|Ql ⟨[.agg #[ve,oF oG 0,nS,nS],ZD,oF oG 0],⟨⟨_,U,Qn U (pw.at (L:=[]) oe).cells⟩,rfl,rfl,Z⟩,(gq.D hk).O kn hC,_,ZD,0,rfl,?_⟩;unfold YL;rw[OR h5];unfold xh;rw[OS (hX.1 hz)];have pz:=Qf (Qp kj hk) kn (λb E=>by have:=(Qi hm b E).1;simp;omega);refine⟨U,⟨ve,_,_,U,λL' hl=>⟨Qu.ints pz (by show(evs aa).length<=_;omega) (λb E=>ou (hl b E)),Zv.nil _ _ _,Zv.nil _ _ _⟩⟩,[],U,λL' hl=>⟨Zv.nil _ _ _,λp G=>by cases G⟩⟩
 rw[OR hz]at hW;obtain⟨vf,rfl,gs⟩:=hW;have ko:=Qu.ints (L:=[]) gs (by simp;omega) oe;refine Qb<|Q8 U U<|Q8 U U<|x Qk<|Qc<|Qd<|Qm<|x (Zz U)<|xe<|ZO rfl ?_;refine Qh<|Qm<|Qa<|QB (us:=[[vf]]) U U og oe ⟨ko.cells,rfl,Z⟩ λV w10 gt hb37 kq=>Qc ?_;have hl37:=kq.lt;refine Qe<|Qa<|Yw JB λhg w11 hY hb38 kr=>?_;have hl38:=kr.lt;refine Qb<|Qa<|xf<|(QaD ((ko.I gt).I hY) (gn.I ((gq.D hk).D (gt.D hY))) (λn hn=>ou (Ny hn)) (by simp;omega)).mono ?_;rintro r12 p0 ⟨rfl,hZ⟩;have hz12:=hZ.size;refine Qa<|X0 (k:=KP (oN ps.length 0)) (kr.I hZ) U U λwS gu p1=>Qb<|Qc ?_;have hzS:=gu.size;have p2:O3 [] w8 p0:=(gt.D hY).D hZ;have h6:O3 [] w8 wS:=p2.O gu oa;have ga:O3 [] w wS:=(gq.D hk).D h6;have p3:∀b∈[b2,hg,V],b∈[b2]\/w8.heap.size<=b:=λb E=>by
  simp only[oK,oJ,or_false]at E;rcases E with rfl|rfl|rfl
  ·exact .inl oe
  ·exact .inr oa
  exact .inr oa
 have gv:Vk [b2,hg,V] wS.heap vl ve vs ps ms:=((ki.I hk).up p3).I h6;have gw:Q7 wS.heap b6 386 [vl,ve,vs]:=(kk.I hk).I h6;have p4:Qu 3 w2.heap.size wS ve (evs aa):=Qp (Qp kj hk) h6;have p5:=Zb hm;have p6:=Qi gs;have hH:SyN w1.heap.size b2 hg V wS:=⟨oa,oa,oa,oa,oa,oa⟩;have p7:jZ w1.heap.size b2 hg V ve wS (y8 aa) (O9 [] (KP (oN ps.length 0)) (oF oG 0)) [(vf,oN ps.length 0)] (.slice (some ⟨V,0,none⟩) 1 1) ZD ZD wS:=by
  refine⟨O3.Z _ _,gr.I h6,p1,?_,λb E=>by simp[ob]at E;exact .inl E,QJ _ _ _ _,QJ _ _ _ _,by simp[y8,hE],λp G=>?_,λp G b E=>?_,Dj.nil' _,Dj.nil' _,Dj.nil' _⟩
  ·exact(((kq.I hY).I hZ).J gu (by simp;omega)).own (n:=1) (sz:=1) U oa oa
  ·simp only[oI]at G;subst G;exact Zy (Qp gs h6) oa
  simp only[oI]at G;subst G;have:=p6 b E;refine⟨oa,?_,by simp[ob,ZD],by simp[ob,ZD]⟩;simp[ob];omega
 have p8:qw ps.length (O9 [] (KP (oN ps.length 0)) (oF oG 0)) (y8 aa).tup:=by
  have kg:qw ps.length [] []:=λu _ _=>U;have:=kg.add (u:=oN ps.length 0) oe (λx hx=>ou (Ny hx));simpa[y8,hE]using this
 have p9:qv aa (y8 aa):=by
  refine⟨λt ht=>?_,by simp[y8]⟩;simp only[y8,oI]at ht;subst ht;refine⟨oe,λi h1 h2=>?_⟩;have h3:=(hD aa[i] (Lm h2)).st0;have h4:aa[i].st≠0:=λe=>hz (hX.2 ⟨aa[i],Lm h2,e⟩);simp only[List.getElem_replicate];omega
 generalize hT:syL aa 4096 0 (y8 aa)=T;have qc:∀s,T=some s->xh aa=some (⟨evs aa,s.tup.length,s.mk',s.ed⟩,s.tup):=λs hs=>by
  unfold xh;rw[OR (λe=>hz (hX.2 e)),hT,hs];rfl
 have qf:T=none->xh aa=none:=λhs=>by unfold xh;rw[OR (λe=>hz (hX.2 e)),hT,hs];rfl
 refine Qd<|Qe<|Qc ?_;have gx:b6∉[b2,hg,V]:=by simp;omega
 refine Qg<|QC (α:=Nat×Sy×List (ByteArray×O0)×List TV×O0×O0×O0) [(3,4),(10,10),(12,16),(42,111)] (λz=>[(3,z.2.2.2.2.1),(10,oF oG z.1)])
  (λz w'=>jZ w1.heap.size b2 hg V ve wS z.2.1 z.2.2.1 z.2.2.2.1 z.2.2.2.2.1 z.2.2.2.2.2.1 z.2.2.2.2.2.2 w'/\qv aa z.2.1/\qw ps.length z.2.2.1 z.2.1.tup/\z.1<=z.2.1.tup.length/\z.2.1.mk'.length<=z.1/\z.2.1.ed.length<=z.1*1000/\syL aa (4096 - z.1) z.1 z.2.1=T)
  (λz=>4096 - z.1) ol (0,y8 aa,_,_,_,ZD,ZD) oA ⟨p7,p9,p8,Ln _,Ln _,Ln _,hT⟩ ?_
 rintro⟨i,s,m,qs,vt,vk,vd⟩ g hJ ⟨I,gb,kt,hi,ql,ku,gy⟩;simp only[]at I gb kt hi ql ku gy;have hle:=gb.le;have qo:qs.length=s.tup.length:=by rw[<-I.q];simp
 have kv:∀p∈qs,Vt aa p.2:=λp G=>gb.v p.2 (by rw[<-I.q];exact LK G);have kw:∀p∈qs,p.2.length<=12:=λp G=>ou (kv p G).1
 have gz:=QH (L:=[]) I.t oa oe;refine Qd<|Qm<|Qb<|QL gz U<|QX U U<|xe<|QG rfl (λqr=>?_) (λqr=>?_)
 ·have q0:T=some s:=by rw[<-gy,Qhh oa]
  refine Qx<|Qm<|QL gz U<|Q0 U<|Qa<|QA I.A U U oe rfl λw15 q1 kx=>xe ?_;refine Qe ?_;have q2:=Qu.ints (L:=[]) I.k oa oe;have q3:=YB.eds (L:=[]) I.e oa oe;refine Q2 kx U U<|Qb<|Qa<|Qj (us:=[ve,oF oG qs.length,vk,vd]) kx U U U U ⟨hU.one,U,q2.one,q3.one,Z⟩ λg0 q4 q5=>x Qk<|Qc ?_;have h7:O3 [b2] hJ g0:=q1.Q q4;have j1:O3 [] w g0:=(ga.then I.st (λb E=>.inr (by simp at E;omega))).O h7 hC;refine Ql ⟨[.agg #[ve,oF oG qs.length,vk,vd],vt,oF oG 0],⟨⟨_,U,Qn U (q5.at (L:=[]) oe).cells⟩,rfl,rfl,Z⟩,j1,_,vt,0,rfl,?_⟩;unfold YL;rw[OR h5,qc s q0];have e1:(qs.length:Int)=s.tup.length:=by rw[qo]
  have k0:Qu 3 w2.heap.size g0 ve (evs aa):=Qf (Qf p4 I.st (λb E=>by have:=(Qi hm b E).1;have:=p5 b E;simp;omega)) h7 (λb E=>by have:=(Qi hm b E).1;simp;omega);have k1:=Qf I.k h7 (λb E=>by have:=(Qi I.k b E).1;simp;omega);have k2:=Qf I.e h7 (λb E=>by have:=(Qi I.e b E).1;simp;omega);have k3:=Qf I.t h7 (λb E=>by have:=(Qi I.t b E).1;simp;omega);refine⟨U,⟨ve,vk,vd,by rw[e1],λL' hl=>⟨Qu.ints k0 (by show(evs aa).length<=_;omega) (λb E=>ou (hl b E)),Qu.ints k1 (by show s.mk'.length<=_;omega) (λb E=>ou (hl b E)),YB.eds k2 (by show s.ed.length<=_;omega) (λb E=>ou (hl b E))⟩⟩,qs,I.q,λL' hl=>⟨?_,λp G=>?_⟩⟩
  ·exact QH k3 oa (λb E hbL=>ov (Qi I.t b E).1 (hl b hbL))
  exact Qu.ints (Qf (I.el p G) h7 (λb E=>by have:=(Qi (I.el p G) b E).1;simp;omega)) (ou (kw p G)) (λb E=>ou (hl b E))
 have j2:i<s.tup.length:=oa
 have Y:i<qs.length:=oa
 have kz:=Qo8 I.q Y;have h8:=kv (qs[i]'Y) (Lm Y);obtain⟨t,g2⟩:∃t,(qs[i]'Y).2=t:=⟨_,U⟩;rw[g2]at kz h8;refine Qh ?_;have j3:(zu aa i t (evs aa) (Z8 aa i t s)).bind (syL aa (4096 - (i+1)) (i+1))=T:=by
  rw[<-gy];obtain⟨f,hf⟩:∃f,4096 - i=f+1:=⟨4096 - i - 1,oa⟩;rw[hf,syL,OS j2,kz,show 4096 - (i+1)=f by omega]
 have za:=gv.st I.st;have zb:Vk [] hJ.heap vl ve vs ps ms:=za.up (λ_ E=>by cases E);have zv:=gw.J I.st gx;have z0:QQ [] hJ.heap (qs[i]'Y).1 t:=by rw[<-g2];exact Qu.ints (I.el (qs[i]'Y) (Lm Y)) (ou (kw (qs[i]'Y) (Lm Y))) oe
 refine Qd<|Qg<|Q3 (α:=O0) [(48,59)] (λz=>[]) (λz w'=>jZ w1.heap.size b2 hg V ve wS (Z8 aa i t s) m qs vt z vd w') ol ?_ ?_
 ·refine Qd<|QR (O3 [] hJ) [oD 0,oD 1,oD 2,oD 3,oD 4,oE 5] mixed ol od (O3.C _ _) ?_;refine pq (λ_ hc=>Zx (zv.I hc) U U)<|p Qy<|p Qy<|pig U VU gz U U Y λa51 z1 =>
   pq (λ_ hc=>QD (z1.I hc) U)<|pk<|xf<|(Qf3 (zb.I (O3.C _ _)) (z0.I (O3.C _ _)) (by rw[h8.1,hE]) (λp G=>(hS p G).mri) hn).mono ?_
  rintro r17 w17 ⟨rfl,z2⟩;have k4:=(O3.C [] hJ).D z2;refine⟨k4,?_⟩;refine pe ?_;have g5:=I.I k4;refine QW U (λhK=>?_) (λhK=>?_)
  rotate_left
  ·refine Qh<|⟨vk,Z,?_⟩;rw[S]at hK;unfold Z8;rw[OR (by rw[hK];simp)];exact g5
  refine Qw<|Qs U g5.A U U<|Qb<|Qa<|QB (us:=[[oF oG i]]) U U og oe ⟨rfl,rfl,Z⟩ λb57 w18 z3 hb57 z4=>?_;have hL:=g5.I z3;refine Qa<|Za (news:=[oF oG i]) (L:=[]) hL.k U U U (z4.at oe) (by simp[Value.oneCell']) oa hL.st.size λk5 z5 ho19 k6 hn19=>?_;have k7:Qu 3 wS.heap.size z5 k5 (s.mk'++[(i:Int)]):=Qu.snoc ho19;refine Q0 U<|Qa<|QA (hL.A.J k6 (QT hL.k oa)) U U oe (Qu.ints (L:=[]) k7 (by simp;omega) oe).one λw20 hs20 hB20=>xe ?_;refine⟨k5,Z,?_⟩;rw[S]at hK;unfold Z8;rw[OS hK];exact hL.setK hH k6 k7 hn19 hs20 hB20
 rintro gc g3 w21 k8;have hsk2:qv aa (Z8 aa i t s):=y0 gb;have htup2:(Z8 aa i t s).tup=s.tup:=by unfold Z8;split <;> rfl
 have hed2:(Z8 aa i t s).ed=s.ed:=by unfold Z8;split <;> rfl
 have hmk2:(Z8 aa i t s).mk'.length<=i+1:=by
  unfold Z8;split
  ·simp only[oM,oO];omega
  omega
 have k9:QQ [b2,hg,V] wS.heap ve (evs aa):=by have:=gv.ev;rw[S]at this;exact this
 refine Qe<|Qs U (gw.J k8.st gx) U U<|QL k9 U<|Qb<|xe<|Qg<|QC (α:=Nat×Sy×List (ByteArray×O0)×List TV×O0×O0) [(3,4),(12,16),(63,111)] (λz=>[(3,z.2.2.2.2.1),(63,oF oG z.1)])
  (λz w'=>jZ w1.heap.size b2 hg V ve wS z.2.1 z.2.2.1 z.2.2.2.1 z.2.2.2.2.1 gc z.2.2.2.2.2 w'/\qv aa z.2.1/\qw ps.length z.2.2.1 z.2.1.tup/\z.1<=(evs aa).length/\z.2.1.mk'=(Z8 aa i t s).mk'/\z.2.1.ed.length<=i*1000+z.1 /\
   (∃h:i<z.2.2.2.1.length,(z.2.2.2.1[i]'h).2=t)/\(zu aa i t ((evs aa).drop z.1) z.2.1).bind (syL aa (4096 - (i+1)) (i+1))=T)
  (λz=>(evs aa).length - z.1) ol (0,Z8 aa i t s,m,qs,vt,vd) oA
  ⟨k8,hsk2,by rw[htup2];exact kt,Ln _,U,by rw[hed2];simpa using ku,⟨Y,g2⟩,j3⟩ ?_
 rintro⟨j,H,m4,hh,gg,gh⟩ g4 h9 ⟨O,hM,hv,hj,gi,ma,⟨ho,hA⟩,he⟩;simp only[]at O hM hv hj gi ma he ho hA;have mf:hh.length=H.tup.length:=by rw[<-O.q];simp
 have hle4:=hM.le;refine Qe<|QX U U<|xe<|Qd<|QG U (λh64=>?_) (λh64=>?_)
 ·rw[Lr oa,zu]at he;refine Qx<|Qw<|Qb<|QN U U<|Qc<|⟨(i+1,H,m4,hh,gg,gc,gh),oh,oA,O,hM,hv,oh,by simp only[];rw[gi];exact hmk2,oh,he⟩
 have gj:j<(evs aa).length:=oa
 rw[Zf gj,zu]at he;obtain⟨v,mg⟩:∃v,(evs aa)[j]=v:=⟨_,U⟩;rw[mg]at he;refine Qh<|Qd<|Qg<|Qe ?_;have hveI4:=k9.st O.st;refine xii hveI4 U U gj λa65 mh=>?_;rw[mg]at mh;refine x (QD mh U)<|Qc ?_;have hM22:=(gv.st O.st).up (L':=[]) (λ_ E=>by cases E);have hB622:=gw.J O.st gx;have htA4:=QH (L:=[]) O.t oa oe;have htI4:QQ [] h9.heap (hh[i]'ho).1 t:=by rw[<-hA];exact Qu.ints (O.el (hh[i]'ho) (Lm ho)) (by rw[hA,h8.1];omega) oe
 refine Qd<|QR (O3 [] h9) [oD 0,oD 1,oD 2,oD 3,oD 4,oD 5,oE 6,oD 7,oD 8,oD 9,oD 10,oD 11] mixed ol od (O3.C _ _) ?_;refine pq (λ_ hc=>Zx (hB622.I hc) U U)<|p Qy<|p Qy<|pig U VU htA4 U U ho λa71 h71 =>
  pq (λ_ hc=>QD (h71.I hc) U)<|p Qy<|pk<|xf<|(QhT (hM22.I (O3.C _ _)) (htI4.I (O3.C _ _)) (by rw[h8.1,hE]) (λp G=>(hS p G).ali) (λp G=>(hS p G).edi) hn _).mono ?_
 rintro r23 w23 ⟨hs23,hN⟩;rw[S]at hN;have mj:=(O3.C [] h9).D hs23;refine⟨mj,?_⟩;have hO:=O.I mj;have hz22:=O.st.size;rcases QqA (YQ v aa t)with hw|⟨u,hw⟩
 ·rw[hw]at hN;subst hN;rw[Qhj hw]at he;refine p Qy<|p (λ_=>Zp U U)<|p (λ_=>Zp U U)<|p ZH<|p ZH<|pe ?_;refine Qd<|Qm<|x (Zz U)<|xe<|yv U ?_;refine Qx<|Qw<|QN U U<|Qb<|xe ?_;exact⟨(j+1,H,m4,hh,gg,gh),oh,oA,hO,hM,hv,gj,gi,oh,⟨ho,hA⟩,he⟩
 rw[hw]at hN;obtain⟨vx,rfl,g8⟩:=hN;have mo:=JO hD h8 hw;have mq:u.length=ps.length:=by rw[mo.1,hE]
 have g9:=mo.bd ph;have ka:∀x∈u,0<=x:=λx hx=>(g9 x hx).1;refine p Qy<|p (λ_=>Zp U U)<|p (λ_=>Zp U U)<|p ZH<|p ZH<|pe ?_;refine Qd<|Qm<|x (Zz U)<|xe<|ZO U ?_;refine Qh ?_;have gk:=Qu.ints (L:=[]) g8 oa oe;have mt:=Qi g8;refine Q3 (α:=Unit) [(15,16),(79,85)] (λz=>[(15,oF oG (if u∈H.tup then(H.tup.idxOf u:Int)else 0)),(16,.bool (decide (u∈H.tup)))]) (λz w'=>O3 [] w23 w') ol ?_ ?_
 ·refine Qw<|Qb<|Qb<|Qa<|xf<|(QaD gk (gn.I (ga.then hO.st (λb E=>.inr (by simp at E;omega)))) g9 oa).mono ?_;rintro r24 w24 ⟨rfl,gl⟩;by_cases J:u∈H.tup
  ·refine x (jj (k:=KP u) ((hO.I gl).M) U U (by rw[hv u mq ka,OS J]))<|Qb<|Q8 rfl rfl<|Q8 rfl rfl<|x Qk<|Qc ?_;exact⟨(),⟨OT (Value.int .i64) (OS J).symm,OT Value.bool (OV J).symm,Z⟩,gl⟩
  refine x (QfT (k:=KP u) ((hO.I gl).M) U U (by rw[hv u mq ka,OR J]))<|Qb<|Q8 rfl rfl<|Q8 rfl rfl<|x Qk<|Qc ?_;exact⟨(),⟨OT (Value.int .i64) (OR J).symm,OT Value.bool (OX J).symm,Z⟩,gl⟩
 rintro _ g6 w25 kb;have hB:=hO.I kb;have hx25:=Qp g8 kb;have hxA25:=gk.I kb;have hadd:∀b∈ob vx,b∉ob gg/\b∉ob gc/\b∉ob gh:=λb E=>by
  have h1:=(mt b E).1;have h1':h9.heap.size<=b:=h1;exact⟨λhP=>ou (Zb O.t b hP),λhP=>ou (Zb O.k b hP),λhP=>ou (Zb O.e b hP)⟩
 refine Q3 (α:=List (ByteArray×O0)×List TV×O0) [(3,4),(15,15),(86,101)] (λz=>[(3,z.2.2),(15,oF oG ((YT H u).tup.idxOf u:Int))])
  (λz w'=>jZ w1.heap.size b2 hg V ve wS (YT H u) z.1 z.2.1 z.2.2 gc gh w'/\(u∈H.tup\/H.tup.length≠4096)/\qw ps.length z.1 (YT H u).tup/\∃h:i<z.2.1.length,(z.2.1[i]'h).2=t) ol ?_ ?_
 ·refine Qm<|x (Zz U)<|xe<|QW U (λkc=>?_) (λkc=>?_)
  rotate_left
  ·have J:u∈H.tup:=by simpa using kc
   refine Qh ?_;have e1:YT H u=H:=by unfold YT;rw[OS J]
   have e2:(if u∈H.tup then(H.tup.idxOf u:Int)else 0)=((YT H u).tup.idxOf u:Int):=by rw[e1,OS J]
   refine⟨(m4,hh,gg),⟨U,OT (Value.int .i64) e2,Z⟩,?_,.inl J,?_,ho,hA⟩
   ·rw[e1];exact hB
   rw[e1];exact hv
  have J:u∉H.tup:=by simpa using kc
  have mu:=QH (L:=[]) hB.t oa oe;refine Qd<|Qm<|QL mu U<|x (Q9 U U)<|xe<|QZ U (λh90=>?_) (λh90=>?_)
  ·refine Qe<|x (Qz Z)<|Qa<|Qj (us:=[nS,oF oG 0,nS,nS]) hB.A U U U U oC λw26 gm hB26=>x Qk<|Qc<|Ql ⟨[zA,ZD,oF oG 3],⟨⟨_,U,Qn U (hB26.at (L:=[]) oe).cells⟩,rfl,rfl,Z⟩,(ga.then hB.st (λb E=>.inr (by simp at E;omega))).O gm hC,zA,ZD,3,U,?_⟩;unfold YL;rw[Qhl hw J oa]at he;rw[OR h5,qf he.symm];exact⟨rfl,U,U⟩
  have hl4:H.tup.length≠4096:=oa
  refine Qh<|Qm<|QL mu U<|Qc<|Qm<|Qb<|Qa<|xf<|(QaD hxA25 (gn.I (ga.then hB.st (λb E=>.inr (by simp at E;omega)))) g9 oa).mono ?_;rintro r26 w26 ⟨rfl,gm⟩;have mv:=hB.I gm;refine Qb<|Qa<|Xw (k:=KP u) mv.M U U λw27 mw hm27=>xe ?_;have hI8:=mv.setM hH mw hm27;have hx27:=Qf (Qp hx25 gm) mw (λb E=>by have:=(mt b E).1;have h1':h9.heap.size<=b:=this;simp;omega);refine Qw<|Qb<|Qb<|Qa<|QB (us:=[[vx]]) U U og oe ⟨gk.cells,rfl,Z⟩ λb100 w28 my hb100 hB100=>?_;have ke:=hI8.I my;refine Qa<|Za (news:=[vx]) (L:=[]) ke.t U U U (hB100.at oe) (λy hy=>by simp only[oI]at hy;subst hy;exact gk.one) oa (ov ke.st.size hH.nS) λmz w29 ho29 hs29 hn29=>Qc ?_;have hk29:yQ 56 w1.heap.size w29 mz (hh++[(vx,u)]):=yQ.snoc ho29;have hIA:=ke.setT hH (u:=u) (Zy (Qp hx27 my) (by show wS.heap.size<=h9.heap.size;omega)) hadd hs29 hk29 hn29;have e1:YT H u=⟨H.tup++[u],H.mk',H.ed⟩:=by unfold YT;rw[OR J]
  have e2:(hh.length:Int)=((YT H u).tup.idxOf u:Int):=by
   rw[e1];simp only[];rw[MU,OR J,<-mf];simp
  refine⟨(O9 m4 (KP u) (oF oG (hh.length:Int)),hh++[(vx,u)],mz),⟨U,OT (Value.int .i64) e2,Z⟩,?_,.inr hl4,?_,by simp;omega,?_⟩
  ·rw[e1];exact hIA
  ·rw[e1];simp only[];rw[mf];exact hv.add J ka
  simp only[];rw[MC ho];exact hA
 rintro⟨m5,qs5,vt5⟩ g7 w30 ⟨kf,hlim,m2,m3,m6⟩;simp only[]at kf m2 m3 m6;have hed5:(YT H u).ed.length<=i*1000+j:=by rw[Qhn];exact ma
 have m7:=QkD (aa:=aa) (i:=i) (s:=H) hw hlim;have hsk5:=Qhk hD hM h8 m7;rw[m7]at he;refine Qw<|Qs U kf.A U U<|Qb<|Qb<|Qb<|x (Qz ⟨U,U,U,Z⟩)<|Qa<|QB (us:=[QF ((i:Int),v,((YT H u).tup.idxOf u:Int))]) U U og (by exact(by decide:1*3<=1000000)) oA λb108 w31 hs31 hb108 hB108=>?_;have hQ:=kf.I hs31;refine Qa<|Za (news:=QF ((i:Int),v,((YT H u).tup.idxOf u:Int))) (L:=[]) hQ.e U U U (hB108.at oe) (λy hy=>by simp only[QF,oK,oJ,or_false]at hy;rcases hy with rfl|rfl|rfl <;> rfl) oa hQ.st.size λm8 w32 ho32 m9 hn32=>?_
 have pa:YB 213 wS.heap.size w32 m8 ((YT H u).ed++[((i:Int),v,((YT H u).tup.idxOf u:Int))]):=YB.snoc ho32;refine Q0 U<|Qa<|QA (hQ.A.J m9 (QT hQ.e oa)) U U oe (YB.eds (L:=[]) pa (by simp;omega) oe).one λw33 hs33 hB33=>xe ?_;have hI12:=hQ.setE hH m9 pa hn32 hs33 hB33;refine Qw<|QN U U<|Qb<|xe<|⟨(j+1,_,m5,qs5,vt5,m8),oh,oA,hI12,hsk5,m2,gj,?_,?_,⟨m3,m6⟩,he⟩
 ·simp only[];rw[Qhm];exact gi
 simp only[oM,oO];omega
structure Ug where
 en:LI
 dis:LI
 mk':Bool
 ps:Bool
def Qor:Ug:=⟨[],[],false,false⟩
def Qm9 (l:LI)(v:Int):LI:=mrg (· || ·) l [v]
def QqN (p s:Zd)(x y:Int)(c:Ug)(v:Int):Ug :=
 match xg p.ed x v with
 | none=>c
 | some _=>match xg s.ed y v with
  | some _=>⟨Qm9 c.en v,c.dis,c.mk',c.ps⟩
  | none=>⟨c.en,Qm9 c.dis v,c.mk',c.ps⟩
def QqO (p s:Zd)(x y:Int)(c:Ug):Ug:=⟨c.en,c.dis,decide (y∈s.mr),c.ps || decide (x∈p.mr)⟩
def QqM (p s:Zd)(x y:Int)(c:Ug):Ug:=s.al.foldl (QqN p s x y) (QqO p s x y c)
def px (q:LI):Int:=q.getD 0 0
def py (q:LI):Int:=q.getD 1 0
def QqL (p s:Zd)(l:List Ug)(q:LI):List Ug:=l.set (py q).toNat (QqM p s (px q) (py q) (l.getD (py q).toNat Qor))
def ctls (p s:Zd)(pairs:List (LI)):List Ug:=pairs.foldl (QqL p s) (oN s.st.toNat Qor)
def occs (n:Nat)(pairs:List (LI)):List Bool:=pairs.foldl (λo q=>o.set (py q).toNat true) (oN n false)
def meets (a b:LI):LI:=mrg (· && ·) a b
def QpN (a b:Ug):Bool:=decide ((meets a.en b.dis).length+(meets b.en a.dis).length=0) && (!a.ps || !b.ps || a.mk' == b.mk')
def O4 (l:LI)(i:Nat):Int:=l.getD i 0
def Qih (cl:LI)(x y:Nat):LI:=cl.map λc=>if c=O4 cl y then O4 cl x else c
def lget (l:List Ug)(i:Nat):Ug:=l.getD i Qor
def to0 (s:Zd)(x:Nat)(v:Int):Int:=match xg s.ed x v with|some u=>u|none=>0
def clE (s:Zd)(x y:Nat)(z:LI×Bool)(v:Int):LI×Bool :=
 if O4 z.1 (to0 s x v).toNat≠O4 z.1 (to0 s y v).toNat then(Qih z.1 (to0 s x v).toNat (to0 s y v).toNat,true)else z
def clY (s:Zd)(l:List Ug)(x:Nat)(z:LI×Bool)(y:Nat):LI×Bool :=
 if O4 z.1 x<0\/O4 z.1 x≠O4 z.1 y then z else(meets (lget l x).en (lget l y).en).foldl (clE s x y) z
def clX (s:Zd)(l:List Ug)(n:Nat)(z:LI×Bool)(x:Nat):LI×Bool:=(oS (x+1) (n - (x+1))).foldl (clY s l x) z
def pass (s:Zd)(l:List Ug)(cl:LI):LI×Bool:=(oS 0 cl.length).foldl (clX s l cl.length) (cl,false)
def Qjv (s:Zd)(l:List Ug):Nat->LI->LI
 | 0,cl=>cl
 | f+1,cl=>if(pass s l cl).2=true then Qjv s l f (pass s l cl).1 else(pass s l cl).1
def Qmb (l:List Ug)(cl:LI):Bool :=
 (oS 0 cl.length).all λx=>(oS 0 x).all λy=>!(decide (0<=O4 cl x/\O4 cl x=O4 cl y) && !QpN (lget l x) (lget l y))
def Qql (s:Zd)(l:List Ug)(cl:LI)(x y:Nat):LI :=
 if O4 cl x<0\/O4 cl y<0\/O4 cl x=O4 cl y then cl else
  let d:=Qjv s l (cl.length*cl.length+1) (Qih cl x y)
  if Qmb l d=true then d else cl
def Qqk (s:Zd)(l:List Ug)(n:Nat)(cl:LI)(x:Nat):LI:=(oS (x+1) (n - (x+1))).foldl (λc y=>Qql s l c x y) cl
def QqQ (o:List Bool):LI:=(oS 0 o.length).map λi=>if o.getD i false=true then(i:Int)else -1
def QqP (s:Zd)(l:List Ug)(cl:LI):LI:=(oS 0 cl.length).foldl (Qqk s l cl.length) cl
def QqC (z:LI×LI)(c:Int):LI×LI :=
 if c∈z.1 then(z.1,z.2++[(z.1.idxOf c:Int) - 1])else(z.1++[c],z.2++[(z.1.length:Int) - 1])
def nums (cl:LI):LI:=(cl.foldl QqC ([-1],[])).2
def QpU (p s:Zd)(pairs:List (LI)):LI:=nums (QqP s (ctls p s pairs) (QqQ (occs s.st.toNat pairs)))
theorem xF {α:Type}(g:α->LV)(sz:Nat)(G:∀x,(g x).length=sz):∀(l:List α) (i j:Nat) (h:i<l.length) (y:α) (u:O0),j<sz->g y=(g l[i]).set j u ->
  (l.flatMap g).set (i*sz+j) u=(l.set i y).flatMap g
 | x::l,0,j,h,y,u,H,E=>by
  simp only[List.getElem_cons_zero]at E;simp only[OM,oY,Om,List.set_cons_zero];rw[List.set_append_left _ _ (by rw[G];exact H),E]
 | x::l,i+1,j,h,y,u,H,E=>by
  simp only[List.getElem_cons_succ]at E;simp only[Om,List.set_cons_succ];rw[List.set_append_right _ _ (by rw[G,Ms];omega),G,show(i+1)*sz+j - sz=i*sz+j by rw[Ms];omega,xF g sz G l i j (oz h) y u H E]
end Go.Lg
namespace Go.Lg
abbrev xu:=Fr->xw
end Go.Lg
