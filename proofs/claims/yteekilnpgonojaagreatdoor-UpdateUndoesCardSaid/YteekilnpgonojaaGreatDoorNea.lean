/- Merged out of 37 texts. -/
import Derived.Orders
import Derived.Below
import Derived.WalkKit
import Derived.Laws.AppendOwn
import Derived.Laws.Rows
import Derived.Laws.Tables
import Derived.Great.BuildSlice
import Derived.Deep.OwnRows
import Derived.MapKept
import Derived.Laws.StructEq
import Derived.Test.YteekilnpgonojaaGreatDoorProg
import Derived.Shelf.Strings.Builder1
import Derived.Shelf.Small.Bits
import Derived.Shelf.Strings.BuilderF
import Derived.Shelf.Strings.BuilderK
import Derived.Shelf.Strconv.Itoa0
import Derived.Shelf.Strconv.Itoa1
import Derived.Shelf.LaysM
import Derived.Shelf.Strconv.Itoa2
import Derived.Shelf.Strconv.Itoa3
import Derived.Shelf.Strings.BuilderCap
import Derived.Ground.SlgfProg
import Derived.Ground.SlgmProg
import Derived.Shelf.SortM.Plain
import Derived.Shelf.SortM.SortNone
import Derived.Lib.Builder
import Derived.Laws.Externs
set_option maxHeartbeats 40000000
set_option maxRecDepth 100000
set_option linter.all false
abbrev Eq.D:=@Eq.trans
abbrev Iff.D:=@Iff.trans
abbrev List.Perm.D:=@List.Perm.trans
namespace Go
abbrev xt:=Option (Nat×Bool)
abbrev xu:=List (Nat×Bool)
abbrev xw:=List (Nat×Nat)
abbrev xx:=List (Int×Int)
abbrev xA:=World→Prop
abbrev xC:=Array Obj
abbrev xD:=Array Edge
abbrev xE:=List Oper
abbrev xF:=Option Nat
theorem ou{p q:Prop}(a:q)(h:q→p:=by intro _;omega):p:=h a
theorem ov{p q r:Prop}(a:q)(b:r)(h:q→r→p:=by intro _ _;omega):p:=h a b
theorem oy{p q r s:Prop}(a:q)(b:r)(c:s)(h:q→r→s→p:=by intro _ _ _;omega):p:=h a b c
theorem oz{p q:Prop}(a:q)(h:q→p:=by intro h;simpa using h):p:=h a
theorem oa{p:Prop}(h:p:=by omega):p:=h
theorem od{p:Prop}(h:p:=by kernel_rfl):p:=h
theorem oe{p:Prop}(h:p:=by simp):p:=h
theorem og{p:Prop}(h:p:=by decide):p:=h
theorem oh{p:Prop}(h:p:=by simp only[];omega):p:=h
theorem ol{p:Prop}(h:p:=by rfl):p:=h
theorem om{p:Prop}(h:p:=by simp only[List.mem_singleton];omega):p:=h
theorem oq{p:Prop}(h:p:=by simp only[List.mem_cons,List.not_mem_nil,or_false];omega):p:=h
theorem ot{p:Prop}(h:p:=by simp[ow]):p:=h
abbrev oD(j:Nat):Nat×Bool:=(j,true)
abbrev oE(j:Nat):Nat×Bool:=(j,false)
abbrev OT:=@if_neg
abbrev OU:=@if_pos
abbrev OV:=@congrArg
abbrev OW:=@absurd
abbrev OX:=@decide_eq_true
abbrev OY:=@of_decide_eq_true
abbrev OZ:=@decide_eq_false
abbrev O0:=@of_decide_eq_false
end Go
open Go
open Go.Value renaming int->oF
open Go.IntKind renaming i64->oG
open _root_.List renaming mem_singleton->oI,not_mem_nil->oJ,mem_cons->oL,length_append->oM,replicate->oN,length_singleton->oO,length->oP,getD->oQ,range'->oR,all_cons->oS,range->oT,mem_append->oV,length_cons->oW,map_cons->oX,getElem?_toArray->oZ,append_assoc->o0,length_drop->o6,length_take->Oa,cons_append->Ob,length_map->Oc,size_toArray->Od,flatMap_cons->Oe,getElem?_eq_getElem->Of,nil_append->Ok,all_eq_true->Om,forall_mem_cons->Oq,singleton_append->Ov,append_nil->Ox,range'_succ->OB,take_append->OK,map_set->OQ
open _root_.Bool renaming and_eq_true->oK,not_eq_true'->Og,or_eq_false_iff->Oh,true_and->OO
open _root_.Array renaming replicate->oU,getElem?_eq_getElem->Oj
open _root_.Nat renaming zero_add->oY,add_mul->Oo,add_zero->OC,lt_or_ge->OH,sub_zero->OI,le_of_not_lt->OJ,add_assoc->ON,zero_mul->OP,beq->OS
open _root_.Int renaming toNat_natCast->Ot
open _root_.Option renaming map_some->Oy
open Go renaming World->O1,Value->O2,Operand->O3,Program->O4
open Go.Proofs Go.Proofs.Tryz
variable {w w':O1}{n t i sz b T j E g N id o ty cap b1 B kt lo hi b2 et G M gp:Nat}{H:xC}{α β:Type}{y:O3}{z va ve vm vt v' vl vs vx vb vk:O2}{P:O4}{fn:Func}{s:Int}{d:xF}{af:xD}{gd:xt}{k':IntKind}{at_:Array Nat}{ops:xE}{rest:xu}
namespace Go
abbrev nS:O2:=.slice none 0 0
abbrev LI:=List Int
abbrev LN:=List Nat
abbrev LV:=List O2
theorem U.{u}{α:Sort u}{a:α}:a=a:=rfl
theorem Z:True:=trivial
theorem La.{u}{α:Sort u}{a:α}:a=a/\True:=⟨rfl,trivial⟩
abbrev Lb:=@List.mem_singleton
abbrev Lc:=@List.mem_append
abbrev Lh:=@List.length_map
abbrev Li:=@List.mem_cons
abbrev Lj:=@List.mem_cons_of_mem
abbrev Lk:=@List.length_append
abbrev Ll:=@List.getElem_mem
abbrev Lm:=@List.take_succ_eq_append_getElem
abbrev Ln:=@Nat.zero_le
abbrev Lo:=@Decidable.not_not
abbrev Lp:=@List.eq_nil_of_length_eq_zero
abbrev Lq:=@List.drop_of_length_le
abbrev Lr:=@List.mem_cons_self
abbrev Ls:=@List.map_append
abbrev Lt:=@List.take_of_length_le
abbrev Lu:=@Nat.le_refl
abbrev Lv:=@List.not_mem_nil
abbrev Lx:=@Bool.and_eq_true
abbrev Ly:=@List.length_take
abbrev LA:=@List.flatMap_append
abbrev LB:=@List.append_assoc
abbrev LC:=@List.mem_map
abbrev LD:=@List.length_singleton
abbrev LE:=@List.drop_eq_getElem_cons
abbrev LF:=@List.getElem?_eq_getElem
abbrev LG:=@Array.getElem?_eq_some_iff
abbrev LH:=@List.flatMap_cons
abbrev LJ:=@Nat.le_trans
abbrev LK:=@List.map_cons
abbrev LM:=@List.getElem_of_mem
abbrev LO:=@List.mem_map_of_mem
abbrev LP:=@List.size_toArray
abbrev LQ:=@List.append_nil
abbrev LR:=@Nat.zero_add
abbrev LS:=@List.length_cons
abbrev LT:=@List.length_drop
abbrev LU:=@List.getElem?_take
abbrev LW:=@Nat.lt_of_lt_of_le
abbrev LX:=@List.mem_of_mem_take
abbrev LY:=@Nat.mul_le_mul_right
abbrev LZ:=@List.foldl_cons
abbrev L3:=@List.pairwise_cons
abbrev L4:=@List.all_cons
abbrev L5:=@List.filter_append
abbrev L6:=@List.mem_of_mem_drop
abbrev L7:=@List.length_set
abbrev L8:=@List.nil_append
abbrev L9:=@List.mem_filter
abbrev Ma:=@Nat.le_of_ble_eq_true
abbrev Mb:=@List.mem_flatMap
abbrev Mc:=@List.mem_append_left
abbrev Md:=@Array.size_modify
abbrev Me:=@List.getElem?_eq_some_iff
abbrev Mf:=@List.filter_cons
abbrev Mg:=@List.all_eq_true
abbrev Mh:=@Array.getElem?_append
abbrev Mi:=@List.length_filter_le
abbrev Mj:=@Nat.min_eq_left
abbrev Mk:=@List.getElem?_toArray
abbrev Ml:=@List.cons_append
abbrev Mn:=@List.getElem?_append_left
abbrev Mo:=@Array.getElem?_toList
abbrev Mq:=@List.getElem_map
abbrev Mr:=@List.mem_of_getElem?
abbrev Ms:=@Nat.add_mul
abbrev Mt:=@List.ext_getElem
abbrev Mu:=@List.map_map
abbrev Mv:=@Array.getElem?_modify
abbrev Mw:=@Array.getElem?_eq_getElem
abbrev Mx:=@List.filterMap_cons
abbrev My:=@Option.map_eq_some_iff
abbrev Mz:=@List.range'_1_concat
abbrev MA:=@List.idxOf_append
abbrev MB:=@List.mem_range'_1
abbrev MC:=@List.nodup_append
abbrev MD:=@List.foldl_append
abbrev ME:=@List.getElem?_drop
abbrev MF:=@List.pairwise_append
abbrev MG:=@List.getElem_append_left
abbrev MH:=@List.idxOf_lt_length_of_mem
abbrev MI:=@List.take_append_drop
abbrev MJ:=@List.take_succ_cons
abbrev MK:=@Nat.add_sub_cancel_left
abbrev ML:=@List.getElem?_append_right
abbrev MM:=@List.nodup_nil
abbrev MN:=@Int.toNat_natCast
abbrev MO:=@List.pairwise_map
abbrev MP:=@Bool.or_eq_false_iff
abbrev MQ:=@List.pairwise_iff_getElem
abbrev MR:=@List.mem_or_eq_of_mem_set
abbrev MS:=@List.getElem?_eq_none
abbrev MT:=@Array.size_append
abbrev MU:=@Bool.not_eq_true'
abbrev MW:=@Option.bind_eq_some_iff
abbrev MX:=@List.mem_filterMap
abbrev MY:=@List.filter_sublist
abbrev MZ:=@List.take_append_of_le_length
abbrev M0:=@List.headD_cons
abbrev M1:=@List.take_length
abbrev M2:=@List.ext_getElem?
abbrev M4:=@List.take_take
abbrev M5:=@List.tail_cons
abbrev M6:=@List.getElem_append_right
abbrev M7:=@List.getElem_set
abbrev M8:=@List.range'_succ
abbrev M9:=@Nat.mod_eq_of_lt
abbrev Na:=@List.map_singleton
abbrev Nb:=@Nat.add_comm
abbrev Nc:=@List.mem_range
abbrev Nd:=@List.forall_mem_cons
abbrev Nf:=@List.getElem?_map
abbrev Ng:=@List.getElem_take
abbrev Nh:=@List.pairwise_lt_range'
abbrev Ni:=@Nat.not_lt_zero
abbrev Nj:=@List.length_nil
abbrev Nk:=@List.filter_nil
abbrev Nl:=@List.map_congr_left
abbrev Nm:=@Nat.add_zero
abbrev Nn:=@List.filter_eq_nil_iff
abbrev Np:=@List.map_nil
abbrev Nq:=@Nat.lt_irrefl
abbrev Nr:=@List.any_eq_true
abbrev Ns:=@List.getD_eq_getElem?_getD
abbrev Nt:=@Array.getElem?_mapIdx
abbrev Nu:=@List.singleton_append
abbrev Nv:=@List.mem_append_right
abbrev Nw:=@Option.isNone_iff_eq_none
abbrev Nx:=@Option.map_some
abbrev Ny:=@List.range_succ
abbrev Nz:=@List.nodup_cons
abbrev NA:=@List.any_eq_false
abbrev NB:=@List.getElem?_set_ne
abbrev NC:=@List.eq_of_mem_replicate
abbrev ND:=@List.mergeSort_perm
abbrev NE:=@List.filter_eq_self
abbrev NF:=@List.pairwise_singleton
abbrev NG:=@List.zipIdx_cons
abbrev NH:=@List.foldl_nil
abbrev NI:=@Int.le_refl
abbrev NJ:=@Option.isSome_none
abbrev NK:=@Bool.false_eq_true
abbrev NL:=@Nat.sub_zero
abbrev NM:=@Nat.mod_lt
abbrev NN:=@List.set_cons_succ
abbrev NO:=@List.map_take
abbrev NP:=@Nat.one_mul
abbrev NQ:=@Nat.le_succ
theorem oA.{u,v}{α:Sort u}{β:Sort v}{a:α}{b:β}:a=a/\b=b/\True:=⟨rfl,rfl,trivial⟩
theorem oB.{u,v,w}{α:Sort u}{β:Sort v}{γ:Sort w}{a:α}{b:β}{c:γ}:a=a/\b=b/\c=c/\True:=⟨rfl,rfl,rfl,trivial⟩
theorem oC.{u,v,w,x}{α:Sort u}{β:Sort v}{γ:Sort w}{δ:Sort x}{a:α}{b:β}{c:γ}{d:δ}:a=a/\b=b/\c=c/\d=d/\True:=⟨rfl,rfl,rfl,rfl,trivial⟩
end Go
namespace Go.Lg
open Go.RowKit
abbrev Fr:=Nat->O2
def upd (f:Fr)(d:Nat)(v:O2):Fr:=λt=>bif OS t d then v else f t
def ev (f:Fr):O3->O2
 | .tmp t=>f t
 | .const v=>v
 | .global g=>.pointer (some ⟨g,0,none⟩)
 | .func g=>.func (.func g) #[] #[]
def QW (f:Fr):xF->O2->Fr
 | some d,v=>upd f d v
 | none,_=>f
structure Rel (n:Nat)(a:Act)(f:Fr):Prop where
 size:a.tmps.size=n
 defers:a.defers=[]
 get:∀t,a.tmps.getD t undef=f t
theorem YO (f:Fr)(d:Nat)(v:O2):upd f d v d=v:=by simp[upd]
theorem Ka (f:Fr){d:Nat}(v:O2)(h:t≠d):upd f d v t=f t:=by
 have:OS t d=false:=by
  cases e:OS t d with
  | false=>rfl
  | true=>exact OW (Nat.eq_of_beq_eq_true e) h
 simp[upd,this]
theorem Rel.eval {n:Nat}{a:Act}{f:Fr}(h:Rel n a f):a.eval=ev f:=by
 funext x;cases x with
 | tmp t=>exact h.get t
 | _=>rfl
theorem Rel.put {n:Nat}{a:Act}{f:Fr}(h:Rel n a f){dst:xF}(hd:∀d,dst=some d->d<n)(v:O2):Rel n (a.put dst v) (QW f dst v):=by
 cases dst with
 | none=>exact h
 | some d =>
  have E:d<a.tmps.size:=by rw[h.size];exact hd d U
  refine⟨by simp[Act.put,h.size],h.defers,λt=>?_⟩;by_cases e:t=d
  ·subst e;rw[QW,YO];simp[Act.put,E]
  rw[QW,Ka _ _ e,<-h.get t];simp[Act.put,Array.getElem?_setIfInBounds_ne (Ne.symm e)]
def Ye (l:xE)(t:Nat):Bool:=l.any λo=>match o.dst with|some d=>OS d t|none=>false
def wrs:Code->Nat->Bool
 | .region _ ops _,t=>Ye ops.toList t
 | .seq a b,t=>wrs a t || wrs b t
 | .cond _ a b,t=>wrs a t || wrs b t
 | .block _ a,t=>wrs a t
 | .loop a,t=>wrs a t
 | .skip,_| .exit _,_| .label _,_| .goto _,_| .ret,_=>false
 | _,_=>true
def Xi (D:xw)(t:Nat):Bool:=match D with
 | []=>false
 | (lo,hi)::D=>bif (Nat.ble lo t && Nat.ble t hi)then true else Xi D t
def inD (D:xw)(d:xF):Bool:=match d with|none=>true|some d=>Xi D d
def Qee (D:xw)(l:xE):Bool:=l.all λo=>inD D o.dst
def wr (D:xw):Code->Bool
 | .region _ ops _=>Qee D ops.toList
 | .seq a b=>wr D a && wr D b
 | .cond _ a b=>wr D a && wr D b
 | .block _ a=>wr D a
 | .loop a=>wr D a
 | .skip| .exit _| .label _| .goto _| .ret=>true
 | _=>false
theorem jp {D:xw}{l:xE}(h:Qee D l=true)(G:Xi D t=false):Ye l t=false:=by
 unfold Qee at h;unfold Ye;rw[NA];intro o H;have E:=Mg.1 h o H;cases hd:o.dst with
 | none=>simp
 | some d =>
  rw[hd]at E;simp only[inD]at E;intro e;have:=Nat.eq_of_beq_eq_true e;subst this;rw[E]at G;cases G
theorem K5 {D:xw}{t:Nat}(E:Xi D t=false):∀c:Code,wr D c=true->wrs c t=false
 | .region _ ops _,h=>jp h E
 | .seq a b,h=>by simp only[wr,oK]at h;simp[wrs,K5 E a h.1,K5 E b h.2]
 | .cond _ a b,h=>by simp only[wr,oK]at h;simp[wrs,K5 E a h.1,K5 E b h.2]
 | .block _ a,h=>K5 E a (by simpa[wr]using h)
 | .loop a,h=>K5 E a (by simpa[wr]using h)
 | .skip,_=>rfl
 | .exit _,_=>rfl
 | .label _,_=>rfl
 | .goto _,_=>rfl
 | .ret,_=>rfl
 | .rangeFunc ..,h=>by simp[wr]at h
 | .scope _,h=>by simp[wr]at h
 | .refuse _,h=>by simp[wr]at h
def mix (D:xw)(f g:Fr):Fr:=λt=>bif Xi D t then g t else f t
theorem Jg {D:xw}{f g:Fr}(h:∀t,Xi D t=false->g t=f t):mix D f g=g:=by
 funext t;unfold mix;cases e:Xi D t with
 | false=>exact(h t e).symm
 | true=>rfl
def qR (S:List (Nat×O2))(f:Fr):Fr:=match S with
 | []=>f
 | (t,v)::S=>upd (qR S f) t v
def Xy (f:Fr):List (Nat×O2)->Prop
 | []=>True
 | (t,v)::S=>f t=v/\Xy f S
theorem Y8 {f:Fr}:∀{S:List (Nat×O2)},Xy f S->qR S f=f
 | [],_=>rfl
 | (t,v)::S,h=>by
  funext s;simp only[qR,Y8 h.2];by_cases e:s=t
  ·subst e;rw[YO];exact h.1.symm
  exact Ka _ _ e
def W (P:O4)(n:Nat)(c:Code)(Q:Exit->Fr->O1->Prop)(f:Fr)(w:O1):Prop :=
 ∀a,Rel n a f->c.wp P (λe E w'=>∃f',Rel n E f'/\(∀t,wrs c t=false->f' t=f t)/\Q e f' w') a w
def thn (K:Fr->O1->Prop)(Q:Exit->Fr->O1->Prop):Exit->Fr->O1->Prop
 | .normal,f,w=>K f w
 | e,f,w=>Q e f w
def blk (id:Nat)(Q:Exit->Fr->O1->Prop):Exit->Fr->O1->Prop
 | .exit i,f,w=>bif OS i id then Q .normal f w else Q (.exit i) f w
 | e,f,w=>Q e f w
section
variable {Q:Exit->Fr->O1->Prop}{f:Fr}
theorem W.mono {c:Code}{Q':Exit->Fr->O1->Prop}(h:W P n c Q f w)(E:∀e f w,Q e f w->Q' e f w):W P n c Q' f w :=
 λa G=>wp_mono (h a G) λ_ _ _ ⟨H,I,J,O⟩=>⟨H,I,J,E _ _ _ O⟩
theorem W.keeps {c:Code}(h:W P n c Q f w):W P n c (λe E w'=>(∀t,wrs c t=false->E t=f t)/\Q e E w') f w :=
 λa H=>wp_mono (h a H) λ_ _ _ ⟨E,I,G,J⟩=>⟨E,I,G,G,J⟩
theorem Qh (h:Q .normal f w):W P n .skip Q f w:=λ_ E=>wp_skip ⟨f,E,λ_ _=>U,h⟩
theorem Qy (h:Q (.exit i) f w):W P n (.exit i) Q f w:=λ_ E=>wp_exit ⟨f,E,λ_ _=>U,h⟩
theorem Qk (h:Q .ret f w):W P n .ret Q f w:=λ_ E=>wp_ret ⟨f,E,λ_ _=>U,h⟩
theorem Qd {x y:Code}(h:W P n x (thn (λf w=>W P n y Q f w) Q) f w):W P n (.seq x y) Q f w:=by
 intro a J;refine wp_seq (wp_mono (h a J) ?_);rintro e O w' ⟨E,G,S,H⟩;have k1:∀t,wrs (.seq x y) t=false->E t=f t:=λt I=>S t (by simp only[wrs,Oh]at I;exact I.1);cases e with
 | normal =>
  refine wp_mono (H O G) λ_ _ _ ⟨T,g1,V,Y⟩=>⟨T,g1,λt I=>(V t ?_).D (k1 t I),Y⟩;simp only[wrs,Oh]at I;exact I.2
 | exit id=>exact⟨E,G,k1,H⟩
 | goto l=>exact⟨E,G,k1,H⟩
 | ret=>exact⟨E,G,k1,H⟩
 | panic ch=>exact⟨E,G,k1,H⟩
 | outgrown=>exact⟨E,G,k1,H⟩
theorem Q3 {x y:Code}(D:xw)(S:α->List (Nat×O2))(I:α->O1->Prop)(hD:wr D x=true)
  (J:W P n x (thn (λG w'=>∃z,Xy G (S z)/\I z w') Q) f w)
  (O:∀z g w',I z w'->W P n y Q (qR (S z) (mix D f g)) w'):W P n (.seq x y) Q f w:=by
 refine Qd (J.keeps.mono ?_);rintro e G w' ⟨T,E⟩;cases e with
 | normal =>
  obtain⟨z,V,hi⟩:=E;have H:=O z G w' hi;rw[Jg (λt Y=>T t (K5 Y x hD)),Y8 V]at H;exact H
 | exit id=>exact E
 | goto l=>exact E
 | ret=>exact E
 | panic ch=>exact E
 | outgrown=>exact E
theorem QX {c:O3}{x y:Code}{t:Bool}(H:ev f c=.bool t)(E:t=true->W P n x Q f w)(I:t=false->W P n y Q f w):
  W P n (.cond c x y) Q f w:=by
 intro a G;have J:a.eval c=.bool t:=by rw[G.eval];exact H
 refine wp_cond_split J (λe=>wp_mono (E e a G) ?_) (λe=>wp_mono (I e a G) ?_) <;>
  (rintro e Y w' ⟨O,S,T,V⟩
   refine⟨O,S,λt E=>T t ?_,V⟩;simp only[wrs,Oh]at E
   first|exact E.1|exact E.2)
theorem QY {c:O3}{x y:Code}{p:Prop}[Decidable p](E:ev f c=.bool (decide p))(G:p->W P n x Q f w)(H:¬p->W P n y Q f w):
  W P n (.cond c x y) Q f w :=
 QX E (λe=>G (OY e)) (λe=>H (O0 e))
theorem QG {c:O3}{x y:Code}{p:Prop}[Decidable p](E:ev f c=.bool (decide p))(G:¬p->W P n y Q f w)(H:p->W P n x Q f w):
  W P n (.cond c x y) Q f w:=QY E H G
theorem yQ {c:O3}{x y:Code}(E:ev f c=.bool true)(h:W P n x Q f w):W P n (.cond c x y) Q f w:=QX E (λ_=>h) (λe=>by cases e)
theorem ZL {c:O3}{x y:Code}(E:ev f c=.bool false)(h:W P n y Q f w):W P n (.cond c x y) Q f w:=QX E (λe=>by cases e) (λ_=>h)
theorem Qf {c:Code}(h:W P n c (blk id Q) f w):W P n (.block id c) Q f w:=by
 intro a I;refine wp_block (wp_mono (h a I) ?_);rintro e T w' ⟨G,H,J,E⟩;have k1:∀t,wrs (.block id c) t=false->G t=f t:=λt O=>J t (by simpa[wrs]using O);cases e with
 | exit i =>
  simp only[Exit.inBlock];simp only[blk]at E;by_cases hi:i=id
  ·subst hi;simp only[Nat.beq_refl,cond_true]at E;simp only[if_true];exact⟨G,H,k1,E⟩
  have S:OS i id=false:=by
   cases e:OS i id with
   | false=>rfl
   | true=>exact OW (Nat.eq_of_beq_eq_true e) hi
  rw[S]at E;rw[OT hi];exact⟨G,H,k1,E⟩
 | normal=>exact⟨G,H,k1,E⟩
 | goto l=>exact⟨G,H,k1,E⟩
 | ret=>exact⟨G,H,k1,E⟩
 | panic ch=>exact⟨G,H,k1,E⟩
 | outgrown=>exact⟨G,H,k1,E⟩
theorem QD {c:Code}(D:xw)(S:α->List (Nat×O2))(I:α->O1->Prop)(m:α->Nat)(hD:wr D c=true)(z:α)
  (h0:Xy f (S z)) (hI:I z w)
  (round:∀x g w',I x w'->W P n c (thn (λG V=>∃O,m O<m x/\Xy G (S O)/\I O V) Q) (qR (S x) (mix D f g)) w'):W P n (.loop c) Q f w:=by
 intro a ha;refine wp_loop_ghost (λ(x:α) T w'=>∃G,Rel n T G/\(∀t,wrs c t=false->G t=f t)/\Xy G (S x)/\I x w') m z ⟨f,ha,λ_ _=>U,h0,hI⟩ ?_;rintro x T w' ⟨G,h1,Y,h3,h4⟩;have h5:=round x G w' h4;rw[Jg (λt H=>Y t (K5 H c hD)),Y8 h3]at h5;refine wp_mono (h5 T h1) ?_;rintro e hb V ⟨E,g1,g2,J⟩;have k1:∀t,wrs c t=false->E t=f t:=λt H=>(g2 t H).D (Y t H);have k2:∀t,wrs (.loop c) t=false->E t=f t:=λt H=>k1 t (by simpa[wrs]using H);cases e with
 | normal=>obtain⟨O,hm,hs,hi⟩:=J;exact⟨O,hm,E,g1,k1,hs,hi⟩
 | exit id=>exact⟨E,g1,k2,J⟩
 | goto l=>exact⟨E,g1,k2,J⟩
 | ret=>exact⟨E,g1,k2,J⟩
 | panic ch=>exact⟨E,g1,k2,J⟩
 | outgrown=>exact⟨E,g1,k2,J⟩
 where
 wp_loop_ghost {α:Type} {P:O4} {c:Code} {Q:Exit->Act->O1->Prop} {a:Act} {w:O1} (J:α->Act->O1->Prop) (m:α->Nat) (z:α) (h₀:J z a w)
   (round:∀x a w,J x a w->c.wp P (Exit.then (λa' w'=>∃x',m x'<m x/\J x' a' w') Q) a w):(Code.loop c).wp P Q a w:=by
  intro b k cs
  have key:∀i x a w,m x=i->J x a w ->
    ∃e a' w',Q e a' w'/\Arrives P (lone (b.at a (.code c::.inLoop c::k)) cs w) b k cs e a' w':=by
   intro i
   induction i using Nat.strongRecOn with
   | _ i ih =>
    intro x a w hx hJ
    obtain⟨e,a₁,w₁,hq,harr⟩:=round x a w hJ b (.inLoop c::k) cs
    cases e with
    | normal =>
     obtain⟨x',hlt,hJ'⟩:=hq
     obtain⟨e₂,a₂,w₂,hq₂,harr₂⟩:=ih (m x') (hx ▸ hlt) x' a₁ w₁ rfl hJ'
     exact⟨e₂,a₂,w₂,hq₂,.of_steps (Steps.trans harr (.one step_inLoop)) harr₂⟩
    | exit id=>exact⟨_,a₁,w₁,hq,.pass (x:=.inLoop c) rfl (λ_ _=>.inl oe) harr⟩
    | goto l=>exact⟨_,a₁,w₁,hq,.pass (x:=.inLoop c) rfl (λ_ _=>.inl oe) harr⟩
    | ret=>exact⟨_,a₁,w₁,hq,.pass (x:=.inLoop c) rfl (λ_ _=>.inl oe) harr⟩
    | panic ch=>exact⟨_,a₁,w₁,hq,.pass (x:=.inLoop c) rfl (λ_ _=>.inl oe) harr⟩
    | outgrown=>exact⟨_,a₁,w₁,hq,.pass (x:=.inLoop c) rfl (λ_ _=>.inl oe) harr⟩
  obtain⟨e,a',w',hq,harr⟩:=key _ z a w rfl h₀
  exact⟨e,a',w',hq,.of_steps (.one step_loop) harr⟩
end
def upF (P:O4)(dst:xF)(f:Fr)(K:Fr->O1->Prop):Result Next->Prop
 | .ok (.value v) w'=>K (QW f dst v) w'
 | .ok .skip w'=>K (QW f dst undef) w'
 | .ok (.enter g args) w'=>Calls P g args w' λe E=>match e with| .returned v=>K (QW f dst v) E|_=>False
 | _=>False
def XO (P:O4)(o:Oper)(f:Fr)(w:O1)(K:Fr->O1->Prop):Prop:=upF P o.dst f K ((execOp (ev f) o).run P w)
def Yb (ops:xE)(f:Fr)(o:Oper):Bool:=match o.guard with
 | none=>true
 | some (j,want)=>match (ops[j]?).bind (·.dst)with
  | some d=>(match f d with| .bool b=>bif want then b else !b|_=>false)
  | none=>false
def XL (P:O4)(ops:xE)(K:Fr->O1->Prop):xE->Fr->O1->Prop
 | [],f,w=>K f w
 | o::l,f,w=>bif Yb ops f o then XO P o f w (XL P ops K l)else XL P ops K l (QW f o.dst undef) w
theorem UX {l:xE}{a:Act}{f:Fr}(h:Rel n a f)(H:∀o∈l,∀d,o.dst=some d->d<n)(o:Oper):Region.wanted o (yielded l.toArray a.tmps)=Yb l f o:=by
 unfold Region.wanted Yb;cases o.guard with
 | none=>rfl
 | some p =>
  obtain⟨j,want⟩:=p;simp only[yielded,oZ];cases I:(l[j]?)with
  | none=>simp
  | some o' =>
   cases hd:o'.dst with
   | none=>simp[hd]
   | some d =>
    have E:d<a.tmps.size:=by rw[h.size];exact H o' (Mr I) d hd
    have G:=h.get d;simp only[Option.bind_some,hd,Oj E];simp[E]at G;rw[G];cases f d <;> simp
    cases want <;> simp
theorem Qni {o:Oper}{a:Act}{f:Fr}{K:Fr->O1->Prop}{K':Act->O1->Prop}{Q:Exit->Act->O1->Prop}(h:Rel n a f)
  (hK:∀v w',K (QW f o.dst v) w'->K' (a.put o.dst v) w') (hx:XO P o f w K):o.wp P a w K' Q:=by
 unfold XO at hx;unfold Oper.wp;rw[h.eval];generalize (execOp (ev f) o).run P w=r at hx;cases r with
 | ok nx w' =>
  cases nx <;> simp only[upF]at hx <;> simp only[Oper.upon]
  case value v=>exact hK v w' hx
  case skip=>exact hK _ w' hx
  case enter g args =>
   refine Calls.mono hx λe G E=>?_;cases e with
   | returned v=>exact hK v G E
   | panicked c=>exact E.elim
   | outgrown=>exact E.elim
 | halt x w'=>exact hx.elim
theorem XO.mono {P:O4}{o:Oper}{f:Fr}{w:O1}{K K':Fr->O1->Prop}(hK:∀v w',K (QW f o.dst v) w'->K' (QW f o.dst v) w')(hx:XO P o f w K):XO P o f w K':=by
 unfold XO at *;generalize (execOp (ev f) o).run P w=r at *;cases r with
 | ok nx w' =>
  cases nx <;> simp only[upF]at hx ⊢
  case value v=>exact hK v w' hx
  case skip=>exact hK _ w' hx
  case enter g args =>
   refine Calls.mono hx λe G E=>?_;cases e with
   | returned v=>exact hK v G E
   | panicked c=>exact E.elim
   | outgrown=>exact E.elim
 | halt x w'=>exact hx.elim
def XS (n:Nat)(l:xE):Bool:=l.all λo=>match o.dst with|some d=>Nat.blt d n|none=>true
theorem Xq {l:xE}(h:XS n l=true):∀o∈l,∀d,o.dst=some d->d<n:=by
 intro o E d hd;have:=Mg.1 h o E;simp only[hd,Nat.blt_eq]at this;exact this
theorem JF {l:xE}{o:Oper}(E:o∈l)(h:Ye l t=false):o.dst≠some t:=by
 intro e;have:=NA.1 h o E;simp[e]at this
theorem Y9 {f:Fr}{dst:xF}(h:dst≠some t)(v:O2):QW f dst v t=f t:=by
 cases dst with
 | none=>rfl
 | some d=>exact Ka _ _ (λe=>h (by rw[e]))
section
variable {Q:Exit->Fr->O1->Prop}{f:Fr}
theorem Qnj {all:xE}(G:∀o∈all,∀d,o.dst=some d->d<n)(f0:Fr):
  ∀(l:xE) (k:Nat) (a:Act) (f:Fr) (w:O1),(∀j,l[j]?=all[k+j]?)->Rel n a f->(∀t,Ye all t=false->f t=f0 t) ->
   XL P all (λf w=>Q .normal f w) l f w ->
   wpOps P all.toArray (λe T w'=>∃f',Rel n T f'/\(∀t,Ye all t=false->f' t=f0 t)/\Q e f' w') (oR k l.length) a w
 | [],_,a,f,w,_,E,H,h=>⟨f,E,H,h⟩
 | o::l,k,a,f,w,hl,E,H,h=>by
  have J:all[k]?=some o:=by simpa using(hl 0).symm
  have I:o∈all:=Mr J;have ih:=λa f w=>Qnj G f0 l (k+1) a f w (λj=>by have:=hl (j+1);simpa[ON,Nat.add_comm 1 j]using this);have next:∀v,(∀t,Ye all t=false->QW f o.dst v t=f0 t):=λv t O=>(Y9 (JF I O) v).D (H t O);simp only[oW,OB,wpOps,oZ,J];rw[UX E G o];simp only[XL]at h;cases S:Yb all f o with
  | false =>
   rw[S]at h;exact ih _ _ _ (E.put (G o I) _) (next _) h
  | true =>
   rw[S]at h;exact .inl (Qni E (λv w' hx=>ih _ _ _ (E.put (G o I) v) (next v) hx) h)
theorem QcQ {l:xE}(E:XS n l=true)(h:XL P l (λf w=>Q .normal f w) l f w):W P n (.region id l.toArray false) Q f w:=by
 intro a G;refine wp_region ?_;have:=Qnj (Xq E) f l 0 a f w oe G (λ_ _=>rfl) h;simpa[List.range_eq_range',wrs]using this
end
def U4 (o:Oper):Bool:=match o.op with
 | .move _| .assign _| .pick .. | .alloc _| .box .. | .build .. | .buildSlice .. | .store .. | .nilCheck _| .binOp .. | .unOp .. | .makeFunc .. | .makeMap .. | .makeSlice .. | .fieldAddr .. | .field .. | .indexAddr .. | .index .. | .extract .. | .insert .. | .mapUpdate ..=>false
 | .slice ..=>false
 | .call ⟨.builtin .append,_,_⟩=>false
 | .call ⟨.builtin .min,_,_⟩=>false
 | .call ⟨.builtin .max,_,_⟩=>false
 | .call ⟨.builtin .len,_,_⟩=>false
 | .call ⟨.value _,_,_⟩=>false
 | _=>true
def VS (all:xE)(j:Nat):Bool:=match all[j]? with
 | none=>false
 | some o=>(oT all.length).all λi=>match all[i]? with
  | none=>true
  | some oi=>!U4 oi || i == j || o.after.any λe=>Region.binds .any e && e.on == i
def XA (P:O4)(all:xE)(C:xA)(K:Fr->O1->Prop):Nat->Array Bool->Fr->O1->Prop
 | 0,ls,f,w=>Region.ready .any all.toArray ls=[]/\K f w
 | k+1,ls,f,w=>(Region.ready .any all.toArray ls=[]->K f w) /\
  ∀i∈Region.ready .any all.toArray ls,∀o,all[i]?=some o ->
   bif Yb all f o then XO P o f w (λE w'=>(VS all i=true\/w'=w\/C w')/\XA P all C K k (ls.setIfInBounds i true) E w')else XA P all C K k (ls.setIfInBounds i true) (QW f o.dst undef) w
section
variable {f:Fr}{all:xE}{C:xA}{K:Fr->O1->Prop}
theorem Qfz {Q:Exit->Act->O1->Prop}(G:∀o∈all,∀d,o.dst=some d->d<n)(f0:Fr)
  (H:∀a f w,Rel n a f->(∀t,Ye all t=false->f t=f0 t)->K f w->Q .normal a w):
  ∀(k:Nat) (ls:Array Bool) (a:Act) (f:Fr) (w:O1),Rel n a f->(∀t,Ye all t=false->f t=f0 t)->XA P all C K k ls f w->wpAny P .any all.toArray Q k ls a w
 | 0,_,a,f,w,E,I,h=>⟨h.1,H a f w E I h.2⟩
 | k+1,ls,a,f,w,E,I,h=>by
  refine⟨λY=>H a f w E I (h.1 Y),λi hi=>?_⟩;unfold wpOp;simp only[oZ];cases O:all[i]? with
  | none =>
   exfalso;obtain⟨_,o,ha,_⟩:=mem_ready.1 hi;simp[O]at ha
  | some o =>
   have S:o∈all:=Mr O;have J:=h.2 i hi o O;have next:∀v,(∀t,Ye all t=false->QW f o.dst v t=f0 t):=λv t T=>(Y9 (JF S T) v).D (I t T);simp only[];rw[UX E G o];cases V:Yb all f o with
   | false =>
    rw[V]at J;exact Qfz G f0 H k _ _ _ _ (E.put (G o S) _) (next _) J
   | true =>
    rw[V]at J;exact .inl (Qni E (λv w' hx=>Qfz G f0 H k _ _ _ _ (E.put (G o S) v) (next v) hx.2) J)
theorem Kj (f:Fr){x y:xF}(v u:O2)(h:∀d,x=some d->y≠some d):QW (QW f x v) y u=QW (QW f y u) x v:=by
 cases x with
 | none=>rfl
 | some d =>
  cases y with
  | none=>rfl
  | some e =>
   have H:d≠e:=λI=>h d U (I ▸ U);funext t;simp only[QW];by_cases E:t=d
   ·subst E;rw[Ka _ _ H,YO,YO]
   by_cases G:t=e
   ·subst G;rw[YO,Ka _ _ E,YO]
   rw[Ka _ _ G,Ka _ _ E,Ka _ _ E,Ka _ _ G]
theorem Ql9 {f:Fr}{dst:xF}{v:O2}{x:O3}(h:∀d,dst=some d->x≠.tmp d):ev (QW f dst v) x=ev f x:=by
 cases dst with
 | none=>rfl
 | some d =>
  cases x with
  | tmp t=>exact Ka _ _ (λe=>h d U (by rw[e]))
  | _=>rfl
theorem Xw {o:Oper}(E:∀cs b,o.op≠.select cs b)(f:Fr)(dst:xF)(v:O2)(h:∀d,dst=some d->d∉o.looksAt all.toArray):
  execOp (ev (QW f dst v)) o=execOp (ev f) o :=
 execOp_congr o E λx hx=>Ql9 λd hd G=>h d hd (by
  subst G;exact Mc _ (MX.2 ⟨.tmp d,oz hx,rfl⟩))
theorem Jc (o:Oper)(f:Fr)(dst:xF)(v:O2)(h:∀d,dst=some d->d∉o.looksAt all.toArray):Yb all (QW f dst v) o=Yb all f o:=by
 unfold Yb;cases E:o.guard with
 | none=>rfl
 | some gw =>
  obtain⟨g,want⟩:=gw;simp only[];cases G:(all[g]?).bind (·.dst)with
  | none=>rfl
  | some t =>
   have H:dst≠some t:=λe=>h t e (by simp[Oper.looksAt,E,G]);simp only[];rw[Y9 H]
def QfB (P:O4)(all:xE)(D:xA)(o:Oper)(v:O2)(f:Fr):Prop :=
 (Yb all f o=true/\∀w,D w->(execOp (ev f) o).run P w=.ok (.value v) w)\/(Yb all f o=false/\v=undef)
theorem QlE {oi oj:Oper}(hi:all[i]?=some oi)(G:all[j]?=some oj)(H:U4 oi=true)(I:j≠i)(hl:VS all j=true)(J:∀e∈oj.after,Region.binds .any e=true->e.on≠i):False:=by
 simp only[VS,G,Om,List.mem_range]at hl;have O:i<all.length:=(Me.1 hi).1;have E:=hl i O;simp only[hi,H,Bool.not_true,Bool.false_or,Bool.or_eq_true,beq_iff_eq,Array.any_eq_true',oK]at E;rcases E with E|⟨e,S,T,V⟩
 ·exact I E.symm
 exact J e S T V
theorem Xj {oi:Oper}{v:O2}{D:xA}(hi:all[i]?=some oi)(hD:∀w,(U4 oi=true->C w)->D w)(ha:∀(j:Nat) (o:Oper) cs b,all[j]?=some o->o.op≠.select cs b):
  ∀(fuel:Nat) (ls:Array Bool) (f:Fr) (w:O1),(U4 oi=true->C w) ->
   (∀j oj,all[j]?=some oj->j≠i->ls.getD j true=false->(∀e∈oj.after,Region.binds .any e=true->e.on≠i)->oi.apart all.toArray oj=true) ->
   i∈Region.ready .any all.toArray ls->QfB P all D oi v f ->
   XA P all C K fuel (ls.setIfInBounds i true) (QW f oi.dst v) w->XA P all C K (fuel+1) ls f w:=by
 have hc:∀(fuel:Nat) (ls:Array Bool) (f:Fr) (w:O1),(U4 oi=true->C w)->QfB P all D oi v f->XA P all C K fuel (ls.setIfInBounds i true) (QW f oi.dst v) w->∀o,all[i]?=some o ->
   bif Yb all f o then XO P o f w (λf' w'=>(VS all i=true\/w'=w\/C w')/\XA P all C K fuel (ls.setIfInBounds i true) f' w')else XA P all C K fuel (ls.setIfInBounds i true) (QW f o.dst undef) w:=by
  intro fuel ls f w J T H o ho;rw[hi]at ho;cases ho
  rcases T with⟨V,hv⟩|⟨V,rfl⟩
  ·rw[V];simp only[cond_true,XO,hv w (hD w J),upF];exact⟨.inr (.inl Z),H⟩
  rw[V];exact H
 intro fuel;induction fuel with
 | zero =>
  intro ls f w J _ O T H;refine⟨λh=>(by rw[h]at O;cases O),λj hj=>?_⟩;by_cases I:j=i
  ·subst I;exact hc _ _ _ _ J T H
  have:=ready_mono hj I;rw[H.1]at this;cases this
 | succ fuel ih =>
  intro ls f w J hf O T H;refine⟨λh=>(by rw[h]at O;cases O),λj hj=>?_⟩;by_cases I:j=i
  ·subst I;exact hc _ _ _ _ J T H
  intro oj Y;have E:=H.2 j (ready_mono hj I) oj Y;obtain⟨hh,G,hm,ht⟩:=mem_ready.1 hj;have hu:G=oj:=by rw[Mk,Y]at hm;exact(Option.some.inj hm).symm
  subst hu;have hn:∀e∈G.after,Region.binds .any e=true->e.on≠i:=λe S hb hw=>by
   have E:=ht e S hb;have h0:=(mem_ready.1 O).1;rw[hw]at E;rcases OH i ls.size with h'|h'
   ·simp[h']at h0 E;rw[h0]at E;cases E
   simp[Array.getElem?_eq_none h']at E
  obtain⟨a1,a2,a3⟩:=Oper.apart_spec (hf j G Y I hh hn);have hz:∀k ok,all[k]?=some ok->k≠i->(ls.setIfInBounds j true).getD k true=false ->
    (∀e∈ok.after,Region.binds .any e=true->e.on≠i)->oi.apart all.toArray ok=true:=λk ok hk h2 hp h3=>by
   refine hf k ok hk h2 ?_ h3;by_cases hq:j=k
   ·subst hq;exact hh
   rw[getD_set_ne true hq]at hp;exact hp
  have keep:∀u,QfB P all D oi v (QW f G.dst u):=λu=>by
   unfold QfB at *;rw[Jc oi f G.dst u a3,Xw (all:=all) (ha i oi · · hi) f G.dst u a3];exact T
  have dOf:∀w',(VS all j=true\/w'=w\/C w')->(U4 oi=true->C w'):=λw' hl hs=>by
   rcases hl with hl|rfl|hl
   ·exact(QlE hi Y hs I hl hn).elim
   ·exact J hs
   exact hl
  have go:∀u w',(U4 oi=true->C w')->XA P all C K fuel ((ls.setIfInBounds i true).setIfInBounds j true) (QW (QW f oi.dst v) G.dst u) w' ->
    XA P all C K (fuel+1) (ls.setIfInBounds j true) (QW f G.dst u) w':=λu w' h4 hx=>by
   refine ih _ _ _ h4 hz (ready_mono O (Ne.symm I)) (keep u) ?_;rw[Array.setIfInBounds_comm _ _ I,<-Kj f v u a2];exact hx
  rw[Jc G f oi.dst v a1]at E;cases V:Yb all f G with
  | false=>rw[V]at E;exact go _ _ J E
  | true =>
   rw[V]at E;simp only[cond_true]at E ⊢;unfold XO at *;rw[Xw (all:=all) (ha j G · · Y) f oi.dst v a1]at E;generalize (execOp (ev f) G).run P w=r at *;cases r with
   | ok nx w' =>
    cases nx <;> simp only[upF]at E ⊢
    case value u=>exact⟨E.1,go _ _ (dOf _ E.1) E.2⟩
    case skip=>exact⟨E.1,go _ _ (dOf _ E.1) E.2⟩
    case enter g args =>
     refine Calls.mono E λe h5 S=>?_;cases e with
     | returned u=>exact⟨S.1,go _ _ (dOf _ S.1) S.2⟩
     | panicked c=>exact S.elim
     | outgrown=>exact S.elim
   | halt x w'=>exact E.elim
def Xe (all:Array Oper):xu->Array Bool->Bool
 | [],ls=>(Region.ready .any all ls).isEmpty
 | (i,true)::pl,ls=>(Region.ready .any all ls).contains i && Region.free .any all ls i && Xe all pl (ls.setIfInBounds i true)
 | (i,false)::pl,ls=>Region.ready .any all ls == [i] && Xe all pl (ls.setIfInBounds i true)
def z8 (all:xE)(pl:xu):Bool:=Region.noSelect all.toArray && pl.length == all.length && Xe all.toArray pl (oU all.length false)
def QV:xE->Nat->Oper
 | [],_=>default
 | o::_,0=>o
 | _::l,i+1=>QV l i
theorem Zm {l:xE}{o:Oper}(h:l[i]?=some o):QV l i=o:=by
 induction l generalizing i with
 | nil=>simp at h
 | cons a l ih=>cases i with
  | zero=>simp at h;subst h;rfl
  | succ i=>exact ih (oz h)
def XP (P:O4)(all:xE)(C:xA)(K:Fr->O1->Prop):xu->Fr->O1->Prop
 | [],f,w=>K f w
 | (i,q)::pl,f,w=>bif Yb all f (QV all i)then
    (bif q then ∃v,(∀w',(U4 (QV all i)=true->C w')->(execOp (ev f) (QV all i)).run P w'=.ok (.value v) w')/\XP P all C K pl (QW f (QV all i).dst v) w
     else XO P (QV all i) f w λE w'=>(VS all i=true\/w'=w\/C w')/\XP P all C K pl E w')
   else XP P all C K pl (QW f (QV all i).dst undef) w
def QcO (all:xE)(ls:Array Bool):Prop:=∀i o,all[i]?=some o->U4 o=true->ls.getD i false=true
theorem QcO.set {ls:Array Bool}(h:QcO all ls)(i:Nat):QcO all (ls.setIfInBounds i true):=λj o E G=>getD_set_true (h j o E G)
theorem ZQ (S:Region.noSelect all.toArray=true):∀(pl:xu) (ls:Array Bool) (f:Fr) (w:O1),ls.size=all.length->(C w\/QcO all ls)->Xe all.toArray pl ls=true->XP P all C K pl f w ->
  XA P all C K pl.length ls f w
 | [],ls,f,w,_,_,H,h=>⟨by simpa[Xe]using H,h⟩
 | (i,true)::pl,ls,f,w,T,V,H,h=>by
  simp only[Xe,oK]at H;obtain⟨⟨J,hf⟩,Y⟩:=H;simp only[XP]at h;have O:i∈Region.ready .any all.toArray ls:=by simpa using J
  cases E:all[i]? with
  | none =>
   exfalso;obtain⟨_,o,h2,_⟩:=mem_ready.1 O;simp[E]at h2
  | some o =>
   rw[Zm E]at h;have hn:∀(j:Nat) (o:Oper) cs b,all[j]?=some o->o.op≠.select cs b:=λj o cs b hj=>Region.noSelect_spec S j o cs b (oz hj);have hq:=λj oj hj=>Region.free_spec (ops:=all.toArray) (md:=.any) (i:=i) (oi:=o) (listed:=ls) (oz E) hf j oj (oz hj);have ht:=(mem_ready.1 O).1;have hu:U4 o=true->C w:=λhh=>V.resolve_right (λhi=>by
    have G:=hi i o E hh;have hm:i<ls.size:=by rw[T];exact(Me.1 E).1
    simp[hm]at ht G;rw[ht]at G;cases G)
   have hw:C w\/QcO all (ls.setIfInBounds i true):=V.imp id (λh=>h.set i);have ha:(ls.setIfInBounds i true).size=all.length:=by simpa using T
   cases I:Yb all f o with
   | false =>
    rw[I]at h;exact Xj (v:=undef) (D:=λw=>U4 o=true->C w) E (λ_ h=>h) hn pl.length ls f w hu hq O (.inr ⟨I,U⟩) (ZQ S pl _ _ _ ha hw Y h)
   | true =>
    rw[I]at h;simp only[cond_true]at h;obtain⟨v,hv,hx⟩:=h;exact Xj (v:=v) (D:=λw=>U4 o=true->C w) E (λ_ h=>h) hn pl.length ls f w hu hq O (.inl ⟨I,hv⟩) (ZQ S pl _ _ _ ha hw Y hx)
 | (i,false)::pl,ls,f,w,T,V,H,h=>by
  simp only[Xe,oK,beq_iff_eq]at H;obtain⟨J,Y⟩:=H;refine⟨λh0=>(by rw[h0]at J;cases J),?_⟩;have O:i∈Region.ready .any all.toArray ls:=by rw[J];simp
  rw[J];intro j hj o E;have:j=i:=by simpa using hj
  subst this;have ha:(ls.setIfInBounds j true).size=all.length:=by simpa using T
  simp only[XP,Zm E]at h;cases I:Yb all f o with
  | false=>rw[I]at h;exact ZQ S pl _ _ _ ha (V.imp id (λh=>h.set j)) Y h
  | true =>
   rw[I]at h;simp only[cond_true,cond_false]at h ⊢;refine h.mono λv w' hx=>⟨hx.1,ZQ S pl _ _ _ ha ?_ Y hx.2⟩;rcases hx.1 with hl|rfl|hc
   ·right;intro k ok hk hh;by_cases hy:k=j
    ·subst hy;have hm:k<ls.size:=by rw[T];exact(Me.1 hk).1
     simp[hm]
    simp only[VS,E,Om,List.mem_range]at hl;have G:=hl k (Me.1 hk).1;simp only[hk,hh,Bool.not_true,Bool.false_or,Bool.or_eq_true,beq_iff_eq,Array.any_eq_true',oK]at G;rcases G with G|⟨e,he,hb,h3⟩
    ·exact OW G hy
    obtain⟨_,o',hz,hi⟩:=mem_ready.1 O;have:o'=o:=by rw[Mk,E]at hz;exact(Option.some.inj hz).symm
    subst this;have:=hi e he hb;rw[h3]at this;exact getD_set_true this
   ·exact V.imp id (λh=>h.set j)
   exact .inl hc
theorem qD {Q:Exit->Fr->O1->Prop}(C:xA)(pl:xu)(I:P.follows .mixedOrders=true)(J:XS n all=true)(G:z8 all pl=true)
  (O:C { w with drawn:=w.drawn+1 }) (h:XP P all C (λf w=>Q .normal f w) pl f { w with drawn:=w.drawn+1 }):W P n (.region id all.toArray true) Q f w:=by
 intro a S;simp only[z8,oK,beq_iff_eq]at G;obtain⟨⟨T,hl⟩,G⟩:=G;refine wp_region_any I ?_;have H:=ZQ T pl _ _ _ oe (.inl O) G h;rw[hl]at H;have V:=Qfz (n:=n) (Q:=λe Y w'=>∃E,Rel n Y E/\(∀t,Ye all t=false->E t=f t)/\Q e E w') (Xq J) f
  (λa E w hr hk hq=>⟨E,hr,hk,hq⟩) _ _ a f _ S (λ_ _=>U) H
 simpa[wrs]using V
theorem JQ {Q:Exit->Fr->O1->Prop}(C:xA)(G:P.follows .mixedOrders=true)(H:XS n all=true)
  (h:XA P all C (λf w=>Q .normal f w) all.length (oU all.length false) f { w with drawn:=w.drawn+1 }):W P n (.region id all.toArray true) Q f w:=by
 intro a I;refine wp_region_any G ?_;have J:=Qfz (n:=n) (Q:=λe O w'=>∃E,Rel n O E/\(∀t,Ye all t=false->E t=f t)/\Q e E w') (Xq H) f
  (λa E w S T V=>⟨E,S,T,V⟩) _ _ a f _ I (λ_ _=>U) h
 simpa[wrs]using J
end
theorem XK {all:xE}{C:xA}{K:Fr->O1->Prop}{k:Nat}{ls:Array Bool}{f:Fr}(E:Region.ready .any all.toArray ls=[]->K f w)
  (h:∀i∈Region.ready .any all.toArray ls,∀o,all[i]?=some o ->
   bif Yb all f o then XO P o f w (λG w'=>(VS all i=true\/w'=w\/C w')/\XA P all C K k (ls.setIfInBounds i true) G w')else XA P all C K k (ls.setIfInBounds i true) (QW f o.dst undef) w):XA P all C K (k+1) ls f w:=⟨E,h⟩
attribute [irreducible] W XL XP XO XA
class Sl (P:O4)(t:Nat)(e sz bys:outParam Nat)(z:outParam O2):Prop where
 u:P.underlying t=some (.slice e)
 i:(P.info? e).map (λi=>(i.zero,i.size,i.bytes))=some (some z,sz,bys)
 zs:z.cells.size=sz
 pos:0<sz
def Qp4 (P:O4)(t j:Nat):xF:=match P.underlying t with
 | some (.struct fs)=>match fs[j]? with
  | some fd=>match P.info? fd.type with
   | some i=>if i.size=0 then none else some fd.offset
   | none=>none
  | none=>none
 | _=>none
class Zi (P:O4)(t j:Nat)(off:outParam Nat):Prop where
 h:Qp4 P t j=some off
class X6 (P:O4)(t:Nat):Prop where
 u:∃d,P.underlying t=some d/\(match d with| .struct _| .array ..=>false|_=>true)=true
 i:(P.info? t).map (·.size)=some 1
class Ag (P:O4)(t:Nat)(sz:outParam Nat):Prop where
 u:∃d,P.underlying t=some d/\(match d with| .struct _| .array ..=>true|_=>false)=true
 i:(P.info? t).map (·.size)=some sz
class Ze (P:O4)(t:Nat)(z:outParam O2):Prop where
 i:(P.info? t).map (·.zero)=some (some z)
class Fu (P:O4)(g:Nat)(fn:outParam Func):Prop where
 f:P.funcs[g]?=some fn
 b:fn.body.isNone=false
 nm:(fn.name == "runtime.NumGoroutine")=false
section
variable {K:Fr->O1->Prop}{f:Fr}
theorem xe (h:K f w):XL P ops K [] f w:=by simp only[XL];exact h
theorem xl {o:Oper}{l:xE}(E:Yb ops f o=true)(h:XO P o f w (XL P ops K l)):XL P ops K (o::l) f w:=by
 simp only[XL,E,cond_true];exact h
theorem xs {o:Oper}{l:xE}(E:Yb ops f o=false)(h:XL P ops K l (QW f o.dst undef) w):XL P ops K (o::l) f w:=by
 simp only[XL,E,cond_false];exact h
theorem xv {o:Oper}{v:O2}(E:(execOp (ev f) o).run P w=.ok (.value v) w')(h:K (QW f o.dst v) w'):XO P o f w K:=by
 simp only[XO,E,upF];exact h
theorem xk {o:Oper}(E:(execOp (ev f) o).run P w=.ok .skip w')(h:K (QW f o.dst undef) w'):XO P o f w K:=by
 simp only[XO,E,upF];exact h
theorem x {o:Oper}{l:xE}{v:O2}(E:(execOp (ev f) o).run P w=.ok (.value v) w)(h:XL P ops K l (QW f o.dst v) w)(G:Yb ops f o=true:=by rfl):XL P ops K (o::l) f w :=
 xl G (xv E h)
theorem xb {o:Oper}{l:xE}{q:Prop}[Decidable q](E:(execOp (ev f) o).run P w=.ok (.value (.bool (decide q))) w)(H:q->XL P ops K l (QW f o.dst (.bool true)) w)(I:¬q->XL P ops K l (QW f o.dst (.bool false)) w)
  (G:Yb ops f o=true:=by rfl):XL P ops K (o::l) f w:=by
 by_cases h:q
 ·rw[OX h]at E;exact x E (H h) G
 rw[OZ h]at E;exact x E (I h) G
variable {C:xA}
theorem pe (h:K f w):XP P ops C K [] f w:=by simp only[XP];exact h
theorem pq {pl:xu}{v:O2}(E:∀w',C w'->(execOp (ev f) (QV ops i)).run P w'=.ok (.value v) w')(h:XP P ops C K pl (QW f (QV ops i).dst v) w)
  (hd:U4 (QV ops i)=true:=by rfl) (G:Yb ops f (QV ops i)=true:=by rfl):XP P ops C K ((i,true)::pl) f w:=by
 simp only[XP,G,cond_true];exact⟨v,λw' H=>E w' (H hd),h⟩
theorem p {pl:xu}{v:O2}(E:∀w',(execOp (ev f) (QV ops i)).run P w'=.ok (.value v) w')(h:XP P ops C K pl (QW f (QV ops i).dst v) w)
  (G:Yb ops f (QV ops i)=true:=by rfl):XP P ops C K ((i,true)::pl) f w:=by
 simp only[XP,G,cond_true];exact⟨v,λw' _=>E w',h⟩
theorem ps {q:Bool}{pl:xu}(h:XP P ops C K pl (QW f (QV ops i).dst undef) w)
  (E:Yb ops f (QV ops i)=false:=by rfl):XP P ops C K ((i,q)::pl) f w:=by
 simp only[XP,E,cond_false];exact h
theorem pb {pl:xu}{q:Prop}[Decidable q](E:∀w',(execOp (ev f) (QV ops i)).run P w'=.ok (.value (.bool (decide q))) w')(H:q->XP P ops C K pl (QW f (QV ops i).dst (.bool true)) w)(I:¬q->XP P ops C K pl (QW f (QV ops i).dst (.bool false)) w)
  (G:Yb ops f (QV ops i)=true:=by rfl):XP P ops C K ((i,true)::pl) f w:=by
 by_cases h:q
 ·rw[OX h]at E;exact p E (H h) G
 rw[OZ h]at E;exact p E (I h) G
theorem pk {pl:xu}(h:XO P (QV ops i) f w λE w'=>C w'/\XP P ops C K pl E w')
  (G:Yb ops f (QV ops i)=true:=by rfl):XP P ops C K ((i,false)::pl) f w:=by
 simp only[XP,G,cond_true,cond_false];exact h.mono λ_ _ hx=>⟨.inr (.inr hx.1),hx.2⟩
theorem pkl {pl:xu}(h:XO P (QV ops i) f w λE w'=>XP P ops C K pl E w')
  (hl:VS ops i=true:=by rfl) (G:Yb ops f (QV ops i)=true:=by rfl):XP P ops C K ((i,false)::pl) f w:=by
 simp only[XP,G,cond_true,cond_false];exact h.mono λ_ _ hx=>⟨.inl hl,hx⟩
end
section
variable {f:Fr}{pS:String}
theorem KD {x:O3}:(execOp (ev f) ⟨d,.move x,ty,pS,af,gd⟩).run P w=.ok (.value (ev f x)) w:=by simp[execOp]
theorem Ql {x:O3}:(execOp (ev f) ⟨d,.assign x,ty,pS,af,gd⟩).run P w=.ok (.value (ev f x)) w:=by simp[execOp]
theorem U7 {c a b:O3}{t:Bool}(h:ev f c=.bool t):(execOp (ev f) ⟨d,.pick c a b,ty,pS,af,gd⟩).run P w=.ok (.value (bif t then ev f a else ev f b)) w:=by
 cases t <;> simp[execOp,h,asBool]
theorem Zt {x:O3}{vs:LV}{v:O2}(h:ev f x=.tuple vs.toArray)(E:vs[j]?=some v):(execOp (ev f) ⟨d,.extract x j,ty,pS,af,gd⟩).run P w=.ok (.value v) w:=by
 simp[execOp,h,Instr.extract,E]
theorem Qch {op:BinOp}{t:TypeId}{x:O3}{k:IntKind}{a b:Int}:(eqGuard op t x y (.int k a) (.int k' b)).run P w=.ok () w:=by
 simp only[eqGuard];split <;> simp
theorem Ji {op:BinOp}{x:O3}{k:IntKind}{a b:Int}{v:O2}(hx:ev f x=.int k a)(G:ev f y=.int k' b)
  (h:(binOp op t (.int k a) (.int k' b)).run P w=.ok v w):(execOp (ev f) ⟨d,.binOp op t x y E,ty,pS,af,gd⟩).run P w=.ok (.value v) w:=by
 simp[execOp,hx,G,Qch,h]
def inK (k:IntKind)(n:Int):Prop:=match k with
 | .i64=>-9223372036854775808<=n/\n<=9223372036854775807
 | .u8=>0<=n/\n<=255
 | .u16=>0<=n/\n<=65535
 | .u32=>0<=n/\n<=4294967295
 | .u64=>0<=n/\n<=18446744073709551615
 | .i32=>-2147483648<=n/\n<=2147483647
 | _=>False
theorem YJ {k:IntKind}{n:Int}(h:inK k n):k.wrap n=n:=by
 cases k <;> simp only[inK]at h <;> simp only[IntKind.wrap,IntKind.bits,IntKind.signed] <;> first|exact h.elim|(simp;omega)
theorem XR {x:O3}{k:IntKind}{a b:Int}(hx:ev f x=.int k a)(G:ev f y=.int k b)(h:inK k (a+b)):
  (execOp (ev f) ⟨d,.binOp .add t x y E,ty,pS,af,gd⟩).run P w=.ok (.value (.int k (a+b))) w:=Ji hx G (by simp[binOp,Op.intArith,YJ h])
theorem Jh {x:O3}{k:IntKind}{a b:Int}(hx:ev f x=.int k a)(G:ev f y=.int k b)(h:inK k (a - b)):
  (execOp (ev f) ⟨d,.binOp .sub t x y E,ty,pS,af,gd⟩).run P w=.ok (.value (.int k (a - b))) w:=Ji hx G (by simp[binOp,Op.intArith,YJ h])
theorem QhU {x:O3}{k:IntKind}{a b:Int}(hx:ev f x=.int k a)(G:ev f y=.int k b)(h:inK k (a*b)):
  (execOp (ev f) ⟨d,.binOp .mul t x y E,ty,pS,af,gd⟩).run P w=.ok (.value (.int k (a*b))) w:=Ji hx G (by simp[binOp,Op.intArith,YJ h])
theorem YQ {x:O3}{k:IntKind}{a b:Int}(hx:ev f x=.int k a)(G:ev f y=.int k b):
  (execOp (ev f) ⟨d,.binOp .lss t x y E,ty,pS,af,gd⟩).run P w=.ok (.value (.bool (decide (a<b)))) w:=Ji hx G (by simp[binOp,Op.intCmp])
theorem KW {x:O3}{k:IntKind}{a b:Int}(hx:ev f x=.int k a)(G:ev f y=.int k b):
  (execOp (ev f) ⟨d,.binOp .leq t x y E,ty,pS,af,gd⟩).run P w=.ok (.value (.bool (decide (a<=b)))) w:=Ji hx G (by simp[binOp,Op.intCmp])
theorem Z7 {x:O3}{k:IntKind}{a b:Int}(hx:ev f x=.int k a)(G:ev f y=.int k b):
  (execOp (ev f) ⟨d,.binOp .gtr t x y E,ty,pS,af,gd⟩).run P w=.ok (.value (.bool (decide (b<a)))) w:=Ji hx G (by simp[binOp,Op.intCmp])
theorem Ys {x:O3}{k:IntKind}{a b:Int}(hx:ev f x=.int k a)(G:ev f y=.int k b):
  (execOp (ev f) ⟨d,.binOp .geq t x y E,ty,pS,af,gd⟩).run P w=.ok (.value (.bool (decide (b<=a)))) w:=Ji hx G (by simp[binOp,Op.intCmp])
theorem Q0 {x:O3}{k:IntKind}{a b:Int}(hx:ev f x=.int k a)(G:ev f y=.int k b):
  (execOp (ev f) ⟨d,.binOp .eql t x y E,ty,pS,af,gd⟩).run P w=.ok (.value (.bool (decide (a=b)))) w :=
 Ji hx G (by simp[binOp,Op.intCmp];by_cases h:a=b <;> simp[h])
theorem YP {x:O3}{k:IntKind}{a b:Int}(hx:ev f x=.int k a)(G:ev f y=.int k b):
  (execOp (ev f) ⟨d,.binOp .neq t x y E,ty,pS,af,gd⟩).run P w=.ok (.value (.bool (decide (¬a=b)))) w :=
 Ji hx G (by simp[binOp,Op.intCmp];by_cases h:a=b <;> simp[h])
theorem Zx {x:O3}{b:Bool}(hx:ev f x=.bool b):(execOp (ev f) ⟨d,.unOp .not t x,ty,pS,af,gd⟩).run P w=.ok (.value (.bool (!b))) w:=by
 simp[execOp,hx,Op.unary]
theorem Us {x:O3}{e bys:Nat}[h:Sl P t e sz bys z]{a:Option Addr}{c:Nat}(hx:ev f x=.slice a n c):
  (execOp (ev f) ⟨d,.call ⟨.builtin .len,#[x],#[t]⟩,ty,pS,af,gd⟩).run P w=.ok (.value (oF oG n)) w:=by
 simp[execOp,resolve,invoke,builtin,Builtin.len_,hx,run_underlying h.u,goInt]
theorem Sl.info {e bys:Nat}(h:Sl P t e sz bys z):∃i,P.info? e=some i/\i.zero=some z/\i.size=sz/\i.bytes=bys:=by
 have:=h.i;cases hi:P.info? e with
 | none=>simp[hi]at this
 | some i=>simp[hi]at this;exact⟨i,U,this.1,this.2.1,this.2.2⟩
theorem Xm {x:O3}{e bys:Nat}[h:Sl P t e sz bys z]{a:Addr}{c:Nat}{k:IntKind}{i:Int}(hx:ev f x=.slice (some a) n c)(E:ev f y=.int k i)(G:0<=i)(H:i<n):
  (execOp (ev f) ⟨d,.indexAddr t x y,ty,pS,af,gd⟩).run P w=.ok (.value (.pointer (some (a.add (i.toNat*sz))))) w:=by
 obtain⟨ii,hi,_,I,_⟩:=Sl.info h;simp[execOp,hx,E,Instr.indexAt,asIntOf,run_underlying h.u,G,H,sizeOf,typeInfo,hi,I]
theorem jT [h:X6 P t]:(isAgg t).run P w=.ok false w:=by
 obtain⟨d,E,hd⟩:=h.u;unfold isAgg;cases d <;> simp at hd <;> simp[run_underlying E]
theorem QiS [h:Ag P t sz]:(isAgg t).run P w=.ok true w:=by
 obtain⟨d,E,hd⟩:=h.u;unfold isAgg;cases d <;> simp at hd <;> simp[run_underlying E]
theorem Xl [h:X6 P t]{a:Addr}{v:O2}(E:w.cell? a=some v):(loadVar t a).run P w=.ok v w:=by
 simp[loadVar,jT,E]
theorem Qdg [h:X6 P t]:(sizeOf t).run P w=.ok 1 w:=by
 have:=h.i;cases hi:P.info? t with
 | none=>simp[hi]at this
 | some i=>simp[hi]at this;simp[sizeOf,typeInfo,hi,this]
theorem UZ [h:Ag P t sz]:(sizeOf t).run P w=.ok sz w:=by
 have:=h.i;cases hi:P.info? t with
 | none=>simp[hi]at this
 | some i=>simp[hi]at this;simp[sizeOf,typeInfo,hi,this]
theorem J1 {a:Addr}:∀(vs:LV) (i:Nat) (acc:Array O2),(∀j v,vs[j]?=some v->w.cell? (a.add (i+j))=some v)->(loadCellsFrom a i vs.length acc).run P w=.ok (acc++vs.toArray) w
 | [],_,acc,_=>by simp[loadCellsFrom]
 | v::vs,i,acc,h=>by
  have E:=h 0 v U;have ih:=J1 vs (i+1) (acc.push v) (λj u G=>by have:=h (j+1) u (oz G);simpa[ON,Nat.add_comm 1 j]using this);simp only[OC]at E;simp[loadCellsFrom,E,ih]
theorem Qn [h:Ag P t sz]{a:Addr}{vs:LV}(hl:vs.length=sz)(E:∀j v,vs[j]?=some v->w.cell? (a.add j)=some v):(loadVar t a).run P w=.ok (.agg vs.toArray) w:=by
 have:=J1 (P:=P) (w:=w) (a:=a) vs 0 #[] (oz E);subst hl;simp[loadVar,QiS,UZ (sz:=vs.length),loadCells,this]
theorem QhV [h:X6 P t]{x:O3}{a:Addr}{v:O2}(hx:ev f x=.pointer (some a))(E:w.cell? a=some v):
  (execOp (ev f) ⟨d,.load t x,ty,pS,af,gd⟩).run P w=.ok (.value v) w:=by
 simp[execOp,hx,Instr.loadAt,Instr.sureAddr,Xl E]
theorem zk [h:Ag P t sz]{x:O3}{a:Addr}{vs:LV}(hx:ev f x=.pointer (some a))(hl:vs.length=sz)(E:∀j v,vs[j]?=some v->w.cell? (a.add j)=some v):
  (execOp (ev f) ⟨d,.load t x,ty,pS,af,gd⟩).run P w=.ok (.value (.agg vs.toArray)) w:=by
 simp[execOp,hx,Instr.loadAt,Instr.sureAddr,Qn hl E]
theorem Zp {off:Nat}[h:Zi P t j off]{x:O3}{a:Addr}(hx:ev f x=.pointer (some a)):
  (execOp (ev f) ⟨d,.fieldAddr t x j,ty,pS,af,gd⟩).run P w=.ok (.value (.pointer (some (a.add off)))) w:=by
 have E:=h.h;unfold Qp4 at E;cases H:P.underlying t with
 | none=>simp[H]at E
 | some dd =>
  cases dd <;> simp[H]at E
  rename_i fs;cases G:fs[j]? with
  | none=>simp[G]at E
  | some fd =>
   cases hi:P.info? fd.type with
   | none=>simp[G,hi]at E
   | some i =>
    simp[G,hi]at E;simp[execOp,hx,Instr.fieldAt,run_underlying H,G,Instr.sureAddr,fieldPlace,sizeOf,typeInfo,hi,E]
theorem V1 {x:O3}{a:Addr}(hx:ev f x=.pointer (some a)):(execOp (ev f) ⟨d,.nilCheck x,ty,pS,af,gd⟩).run P w=.ok (.value (.pointer (some a))) w:=by
 simp[execOp,hx]
theorem Zy {fn:Fn}{l l':List O3}:(execOp (ev f) ⟨d,.makeFunc fn l.toArray l'.toArray,ty,pS,af,gd⟩).run P w=.ok (.value (.func fn (l.map (ev f)).toArray (l'.map (ev f)).toArray)) w:=by
 simp[execOp,Instr.makeFunc]
end
def Q6 (P:O4)(g:Nat)(args:LV)(w:O1)(R:O2->O1->Prop):Prop :=
 Calls P g args.toArray w λe w'=>match e with| .returned v=>R v w'|_=>False
theorem Q6.mono {P:O4}{g:Nat}{args:LV}{w:O1}{R R':O2->O1->Prop}(h:Q6 P g args w R)(G:∀v w',R v w'->R' v w'):Q6 P g args w R' :=
 Calls.mono h λe w' E=>by cases e <;> first|exact G _ _ E|exact E
theorem xc {f:Fr}{K:Fr->O1->Prop}{pS:String}{x:O3}{l:List O3}
    {first capt:LV} [hF:Fu P g fn] (hx:ev f x=.func (.func g) first.toArray capt.toArray) (h:Q6 P g (first++l.map (ev f)++capt) w λv w'=>K (QW f d v) w'):
  XO P ⟨d,.call ⟨.value x,l.toArray,at_⟩,ty,pS,af,gd⟩ f w K:=by
 have E:(execOp (ev f) ⟨d,.call ⟨.value x,l.toArray,at_⟩,ty,pS,af,gd⟩).run P w=.ok (.enter g (first++l.map (ev f)++capt).toArray) w:=by
  have G:¬fn.name = "runtime.NumGoroutine" := by simpa using hF.nm
  have H:¬fn.body=none:=by have:=hF.b;intro e;rw[e]at this;cases this
  simp[execOp,resolve,hx,Deferred.ofValue,invoke,callFunc,hF.f,G,H]
 simp only[XO,E,upF];exact h
theorem xf {f:Fr}{K:Fr->O1->Prop}{pS:String}{l:List O3}
    [hF:Fu P g fn] (h:Q6 P g (l.map (ev f)) w λv w'=>K (QW f d v) w'):
  XO P ⟨d,.call ⟨.value (.func g),l.toArray,at_⟩,ty,pS,af,gd⟩ f w K :=
 xc (first:=[]) (capt:=[]) (g:=g) (fn:=fn) U (oz h)
def ent:LV->Fr
 | [],_=>undef
 | v::_,0=>v
 | _::l,t+1=>ent l t
def US (P:O4)(f:Fr)(w:O1):List ResultVar->LV->Prop
 | [],[]=>True
 | .tmp t::rs,v::vs=>f t=v/\US P f w rs vs
 | .cell a t::rs,v::vs=>(∃ad,f a=.pointer (some ad)/\(loadVar t ad).run P w=.ok v w)/\US P f w rs vs
 | _,_=>False
def tup:LV->O2
 | [v]=>v
 | vs=>.tuple vs.toArray
def rq (P:O4)(rs:List ResultVar)(R:O2->O1->Prop):Exit->Fr->O1->Prop
 | .ret,f,w=>∃vs,US P f w rs vs/\R (tup vs) w
 | .normal,f,w=>∃vs,US P f w rs vs/\R (tup vs) w
 | _,_,_=>False
theorem J0 {P:O4}{n:Nat}{a:Act}{f:Fr}{w:O1}(G:Rel n a f)(g:ResultVar->Sem O2)(g1:∀t,g (.tmp t)=pure (a.tmps.getD t undef))
  (H:∀ad t,g (.cell ad t)=(do loadVar t (<-asAddr (a.tmps.getD ad undef)))):∀(rs:List ResultVar) (vs:LV),US P f w rs vs->(rs.mapM g).run P w=.ok vs w
 | [],[],_=>oe
 | [],_::_,h=>h.elim
 | .tmp t::rs,[],h=>h.elim
 | .cell _ _::rs,[],h=>h.elim
 | .tmp t::rs,v::vs,h=>by
  have ih:=J0 G g g1 H rs vs h.2;have E:=G.get t;rw[h.1]at E;simp only[List.mapM_cons,Sem.run_bind,Sem.run_pure,Result.andThen_ok,ih,E,g1]
 | .cell ad t::rs,v::vs,h=>by
  have ih:=J0 G g g1 H rs vs h.2;obtain⟨⟨I,J,O⟩,_⟩:=h;have E:=G.get ad;rw[J]at E;have S:(asAddr (.pointer (some I))).run P w=.ok I w:=rfl;simp only[List.mapM_cons,Sem.run_bind,H,E,S,Sem.run_pure,Result.andThen_ok,O,ih]
theorem Q6.of_W {c:Code}{args:LV}{R:O2->O1->Prop}{rs:List ResultVar}
  (J:P.funcs[g]?=some fn) (O:fn.body=some c) (S:fn.ntmps=n) (T:fn.results=rs.toArray) (hl:args.length<=n)
  (h:W P n c (rq P rs R) (ent args) w):Q6 P g args w R:=by
 unfold W at h;refine calls_of_wp J O (wp_mono (h _ ?_) ?_)
 ·refine⟨by simp[S];omega,U,λt=>?_⟩;have key:∀(l:LV) (t:Nat),l[t]?.getD undef=ent l t:=by
   intro l;induction l with
   | nil=>intro t;rfl
   | cons v l ih=>intro t;cases t with|zero=>rfl|succ t=>simpa[ent]using ih t
  rw[<-key];simp only[Array.getD_eq_getD_getElem?,Array.getElem?_append,Od,oZ];by_cases G:t<args.length
  ·simp[G]
  simp[G,Array.getElem?_replicate];split <;> rfl
 rintro e H w' ⟨V,I,_,E⟩;have fin:(∃vs,US P V w' rs vs/\R (tup vs) w')->H.defers=[]/\∃v,(results fn H.tmps).run P w'=.ok v w'/\R v w':=by
  rintro⟨vs,Y,hR⟩;refine⟨I.defers,tup vs,?_,hR⟩;simp only[results,T,List.mapM_toArray,Sem.run_bind,Sem.run_map];rw[J0 I _ (λ_=>rfl) (λ_ _=>rfl) rs vs Y];cases vs with
  | nil=>rfl
  | cons v vs=>cases vs with|nil=>rfl|cons u us=>rfl
 cases e with
 | normal=>exact fin E
 | ret=>exact fin E
 | exit id=>exact E.elim
 | goto l=>exact E.elim
 | panic c=>exact E.elim
 | outgrown=>exact E.elim
attribute [irreducible] Q6
theorem YD (f:P.funcs[g]?=some fn)(b:fn.body.isNone=false:=by kernel_rfl)(nm:(fn.name == "runtime.NumGoroutine")=false:=by kernel_rfl):Fu P g fn:=⟨f,b,nm⟩
theorem Qc {f:Fr}{Q:Exit->Fr->O1->Prop}{l:xE}{y:Code}(h:XL P l (λf w=>thn (λf w=>W P n y Q f w) Q .normal f w) l f w)(E:XS n l=true:=by rfl):W P n (.seq (.region id l.toArray false) y) Q f w:=Qd (QcQ E h)
theorem Qw {f:Fr}{Q:Exit->Fr->O1->Prop}{l:xE}(h:XL P l (λf w=>Q .normal f w) l f w)(E:XS n l=true:=by rfl):W P n (.region id l.toArray false) Q f w:=QcQ E h
section
variable {K:Fr->O1->Prop}{f:Fr}{pS:String}{l:xE}
theorem Qa (h:XL P ops K l (QW f d (ev f y)) w)(E:Yb ops f ⟨d,.move y,ty,pS,af,gd⟩=true:=by rfl):XL P ops K (⟨d,.move y,ty,pS,af,gd⟩::l) f w:=x KD h E
theorem QP {H:Nat}{E G:O3}{k:IntKind}{a b:Int}(hx:ev f E=.int k a)(I:ev f G=.int k b)(h:XL P ops K l (QW f d (.int k (a+b))) w)(J:inK k (a+b):=by exact⟨oa,oa⟩)
  (O:Yb ops f ⟨d,.binOp .add t E G H,ty,pS,af,gd⟩=true:=by rfl):XL P ops K (⟨d,.binOp .add t E G H,ty,pS,af,gd⟩::l) f w:=x (XR hx I J) h O
theorem Qb (h:K (QW f d (ev f y)) w)(E:Yb ops f ⟨d,.assign y,ty,pS,af,gd⟩=true:=by rfl):XL P ops K [⟨d,.assign y,ty,pS,af,gd⟩] f w:=x Ql (xe h) E
end
section
variable {C:xA}{K:Fr->O1->Prop}{f:Fr}{pS:String}{l:xE}
theorem Qe {o:Oper}(h:XO P o f w (XL P ops K l))(E:Yb ops f o=true:=by rfl):XL P ops K (o::l) f w:=xl E h
theorem Qr {o:Oper}(h:XL P ops K l (QW f o.dst undef) w)(E:Yb ops f o=false:=by rfl):XL P ops K (o::l) f w:=xs E h
theorem Q7 {E:O3}{vs:LV}{v:O2}(G:ev f E=.tuple vs.toArray)(H:vs[j]?=some v)(h:XL P ops K l (QW f d v) w)(I:Yb ops f ⟨d,.extract E j,ty,pS,af,gd⟩=true:=by rfl):XL P ops K (⟨d,.extract E j,ty,pS,af,gd⟩::l) f w:=x (Zt G H) h I
theorem QH {c a b:O3}{t:Bool}(E:ev f c=.bool t)(h:XL P ops K l (QW f d (bif t then ev f a else ev f b)) w)(G:Yb ops f ⟨d,.pick c a b,ty,pS,af,gd⟩=true:=by rfl):XL P ops K (⟨d,.pick c a b,ty,pS,af,gd⟩::l) f w:=x (U7 E) h G
theorem ZA {H:Nat}{E G:O3}{k:IntKind}{a b:Int}(hx:ev f E=.int k a)(I:ev f G=.int k b)(h:XL P ops K l (QW f d (.bool (decide (¬a=b)))) w)(J:Yb ops f ⟨d,.binOp .neq t E G H,ty,pS,af,gd⟩=true:=by rfl):XL P ops K (⟨d,.binOp .neq t E G H,ty,pS,af,gd⟩::l) f w:=x (YP hx I) h J
theorem QZ {H:Nat}{E G:O3}{k:IntKind}{a b:Int}(hx:ev f E=.int k a)(I:ev f G=.int k b)(h:XL P ops K l (QW f d (.bool (decide (a<b)))) w)(J:Yb ops f ⟨d,.binOp .lss t E G H,ty,pS,af,gd⟩=true:=by rfl):XL P ops K (⟨d,.binOp .lss t E G H,ty,pS,af,gd⟩::l) f w:=x (YQ hx I) h J
theorem Yl {E:O3}{a:Addr}(hx:ev f E=.pointer (some a))(h:XL P ops K l (QW f d (.pointer (some a))) w)(G:Yb ops f ⟨d,.nilCheck E,ty,pS,af,gd⟩=true:=by rfl):XL P ops K (⟨d,.nilCheck E,ty,pS,af,gd⟩::l) f w:=x (V1 hx) h G
theorem Zq {c:Code}{args:LV}{R:O2->O1->Prop}{rs:List ResultVar}(E:P.funcs[g]?=some fn)(h:W P n c (rq P rs R) (ent args) w)(G:fn.body=some c:=by rfl)(H:fn.ntmps=n:=by rfl)(I:fn.results=rs.toArray:=by rfl)(hl:Nat.ble args.length n=true:=by rfl):Q6 P g args w R:=Q6.of_W E G H I (Ma hl) h
def Xb:Nat->Nat->LN->List (Nat×Bool)
 | _,0,_=>[]
 | i,n+1,fs=>(i,!fs.contains i)::Xb (i+1) n fs
def fuB (P:O4)(g:Nat):Bool:=match P.funcs[g]? with|some fn=>!fn.body.isNone && !(fn.name == "runtime.NumGoroutine")|none=>false
theorem fuE (h:fuB P g=true):∃fn,Fu P g fn:=by
 unfold fuB at h;split at h
 ·next fn E=>simp only[oK,Og]at h;exact⟨fn,E,h.1,h.2⟩
 cases h
theorem xg {f:Fr}{K:Fr->O1->Prop}{pS:String}{l:List O3}(h:Q6 P g (l.map (ev f)) w λv w'=>K (QW f d v) w')(E:fuB P g=true:=by kernel_rfl):XO P ⟨d,.call ⟨.value (.func g),l.toArray,at_⟩,ty,pS,af,gd⟩ f w K:=(fuE E).elim λ_ _=>xf h
theorem QM {l':List O3}(h:Q6 P g (l'.map (ev f)) w λv w'=>XL P ops K l (QW f d v) w')(E:fuB P g=true:=by kernel_rfl)(G:Yb ops f ⟨d,.call ⟨.value (.func g),l'.toArray,at_⟩,ty,pS,af,gd⟩=true:=by rfl):XL P ops K (⟨d,.call ⟨.value (.func g),l'.toArray,at_⟩,ty,pS,af,gd⟩::l) f w:=xl G (xg h E)
theorem ZP {l':List O3}[Fu P g fn](h:Q6 P g (l'.map (ev f)) w λv w'=>XL P ops K l (QW f d v) w')(E:Yb ops f ⟨d,.call ⟨.value (.func g),l'.toArray,at_⟩,ty,pS,af,gd⟩=true:=by rfl):XL P ops K (⟨d,.call ⟨.value (.func g),l'.toArray,at_⟩,ty,pS,af,gd⟩::l) f w:=xl E (xf h)
theorem QE {E:O3}:∀w',(execOp (ev f) ⟨d,.move E,ty,pS,af,gd⟩).run P w'=.ok (.value (ev f E)) w':=λ_=>KD
theorem ZN {E:O3}:∀w',(execOp (ev f) ⟨d,.assign E,ty,pS,af,gd⟩).run P w'=.ok (.value (ev f E)) w':=λ_=>Ql
theorem Xg {c a b:O3}{t:Bool}(h:ev f c=.bool t):∀w',(execOp (ev f) ⟨d,.pick c a b,ty,pS,af,gd⟩).run P w'=.ok (.value (bif t then ev f a else ev f b)) w':=λ_=>U7 h
theorem Xh {E:O3}{a:Addr}(hx:ev f E=.pointer (some a)):∀w',(execOp (ev f) ⟨d,.nilCheck E,ty,pS,af,gd⟩).run P w'=.ok (.value (.pointer (some a))) w':=λ_=>V1 hx
theorem Qm {Q:Exit->Fr->O1->Prop}{c:Code}(h:XL P (⟨d,.move y,ty,pS,af,gd⟩::l) (λf w=>thn (λf w=>W P n c Q f w) Q .normal f w) l (QW f d (ev f y)) w)(E:Yb (⟨d,.move y,ty,pS,af,gd⟩::l) f ⟨d,.move y,ty,pS,af,gd⟩=true:=by rfl)(G:XS n (⟨d,.move y,ty,pS,af,gd⟩::l)=true:=by rfl):W P n (.seq (.region id (⟨d,.move y,ty,pS,af,gd⟩::l).toArray false) c) Q f w:=Qc (Qa h E) G
end
structure O5 (L:LN)(w w':O1):Prop where
 os:w'.os=w.os
 tape:w'.tape=w.tape
 output:w'.output=w.output
 size:w.heap.size<=w'.heap.size
 block:∀k,k<w.heap.size->k∉L->w'.heap[k]?=w.heap[k]?
theorem O5.Z (L:LN)(w:O1):O5 L w w:=⟨U,U,U,Lu _,λ_ _ _=>U⟩
theorem O5.C (L:LN)(w:O1):O5 L w { w with drawn:=w.drawn+1 }:=⟨U,U,U,Lu _,λ_ _ _=>U⟩
theorem O5.mono {L L':LN}(h:O5 L w w')(E:∀b∈L,b∈L'):O5 L' w w' :=
 ⟨h.os,h.tape,h.output,h.size,λk G H=>h.block k G (λI=>H (E k I))⟩
theorem O5.any {L:LN}(h:O5 [] w w'):O5 L w w':=h.mono (λ_ E=>by cases E)
theorem O5.then {L L':LN}{E:O1}(h:O5 L E w)(k:O5 L' w w')(I:∀b∈L',b∈L\/E.heap.size<=b):O5 L E w' :=
 ⟨k.os.D h.os,k.tape.D h.tape,k.output.D h.output,LJ h.size k.size,λi hi G =>
  (k.block i (LW hi h.size) (λJ=>by rcases I i J with H|H;exact G H;omega)).D (h.block i hi G)⟩
theorem O5.D {L:LN}{E:O1}(h:O5 L E w)(k:O5 [] w w'):O5 L E w':=h.then k (λ_ G=>by cases G)
theorem O5.Q {L:LN}{E:O1}(h:O5 L E w)(k:O5 L w w'):O5 L E w':=h.then k (λ_ G=>.inl G)
theorem O5.below (h:O5 [] w w'):Below w.heap.size w w':=⟨h.os,h.tape,h.output,h.size,λk E=>h.block k E oe⟩
theorem O5.of_below (h:Below w.heap.size w w'):O5 [] w w':=⟨h.os,h.tape,h.output,h.size,λk E _=>h.block k E⟩
theorem O5.of_grown {row:xF}(h:w.grownBy w' row):O5 row.toList w w' :=
 ⟨h.os,h.tape,h.output,h.size,λk E G=>h.block k E (λe=>G (by simp[<-e]))⟩
theorem qB (w:O1)(o:Obj)(k:Nat)(h:k<w.heap.size):(w.alloc o).heap[k]?=w.heap[k]?:=by
 show(w.heap.push o)[k]?=_;rw[Array.getElem?_push,OT oa]
theorem Kg (w:O1)(o:Obj):(w.alloc o).heap[w.heap.size]?=some o:=by
 show(w.heap.push o)[w.heap.size]?=_;simp
theorem VF (w:O1)(o:Obj):(w.alloc o).heap.size=w.heap.size+1:=by show(w.heap.push o).size=_;simp
theorem O5.alloc (w:O1)(o:Obj):O5 [] w (w.alloc o):=⟨U,U,U,by rw[VF];omega,λk E _=>qB w o k E⟩
theorem O5.setRow (w:O1)(g:Nat)(cs:Array O2):O5 [g] w (w.setRow g cs):=
 ⟨U,U,U,by simp[World.setRow],λk _ E=>setRow_other w g k cs (λe=>E (by simp[e]))⟩
def cel (H:xC)(a:Addr):Option O2:=match H[a.block]? with
 | some (.cells c _ _)=>if a.spot.isSome then none else c[a.off]?
 | _=>none
theorem Kt (w:O1)(a:Addr):w.cell? a=cel w.heap a:=rfl
structure At (L:LN)(H:xC)(a:Addr)(us:LV):Prop where
 out:∀u∈us,a.block∉L
 lt:∀u∈us,a.block<H.size
 cell:∀j u,us[j]?=some u->cel H (a.add j)=some u
theorem YE (a:Addr)(j:Nat):(a.add j).block=a.block:=by unfold Addr.add;split <;> rfl
theorem QjU {L:LN}(h:O5 L w w'){a:Addr}(E:a.block∉L)(hl:a.block<w.heap.size):cel w'.heap a=cel w.heap a:=by
 unfold cel;rw[h.block _ hl E]
theorem At.J {L X:LN}{a:Addr}{us:LV}(h:At L w.heap a us)(G:O5 X w w')(I:∀b∈X,b∈L):At L w'.heap a us :=
 ⟨h.out,λu E=>LW (h.lt u E) G.size,λj u E=>by
  have H:=Mr E;rw[QjU (L:=X) G (by rw[YE];exact λhx=>h.out u H (I _ hx)) (by rw[YE];exact h.lt u H)];exact h.cell j u E⟩
theorem At.I {L:LN}{a:Addr}{us:LV}(h:At L w.heap a us)(E:O5 [] w w'):At L w'.heap a us:=h.J E (λ_ G=>by cases G)
theorem At.st {L:LN}{a:Addr}{us:LV}(h:At L w.heap a us)(E:O5 L w w'):At L w'.heap a us:=h.J E (λ_ G=>G)
theorem At.one {L:LN}{a:Addr}{u:O2}(h:At L w.heap a [u]):w.cell? a=some u:=by
 have:=h.cell 0 u U;simp only[Addr.add,if_true]at this;exact this
theorem At.cells {L:LN}{a:Addr}{us:LV}(h:At L w.heap a us):∀j v,us[j]?=some v->w.cell? (a.add j)=some v:=h.cell
theorem Addr.add_add (a:Addr)(i j:Nat):(a.add i).add j=a.add (i+j):=by
 unfold Addr.add;by_cases hi:i=0
 ·subst hi;simp
 by_cases E:j=0
 ·subst E;simp
 simp[hi,E,ON]
theorem At.fld {L:LN}{a:Addr}{us:LV}(h:At L H a us)(j:Nat)(u:O2)(E:us[j]?=some u):At L H (a.add j) [u]:=
 ⟨λ_ _=>by rw[YE];exact h.out u (Mr E),λ_ _=>by rw[YE];exact h.lt u (Mr E),λi v G=>by
  cases i with
  | zero=>simp at G;subst G;rw[Addr.add_add,Nm];exact h.cell j u E
  | succ i=>simp at G⟩
theorem At.up {L L':LN}{a:Addr}{us:LV}(h:At L H a us)(I:∀b∈L',b∈L\/H.size<=b):At L' H a us :=
 ⟨λu E J=>by rcases I _ J with G|G;exact h.out u E G;have:=h.lt u E;omega,h.lt,h.cell⟩
def Zn (L:LN)(H:xC)(v:O2)(n sz:Nat)(cs:LV):Prop :=
 cs.length=n*sz/\n<=1099511627776/\((v=nS/\n=0)\/∃a cap,v=.slice (some a) n cap/\n<=cap/\At L H a cs)
theorem Zn.J {L X:LN}{w w':O1}{v:O2}{n sz:Nat}{cs:LV}(h:Zn L w.heap v n sz cs)(E:O5 X w w')(G:∀b∈X,b∈L):Zn L w'.heap v n sz cs :=
 ⟨h.1,h.2.1,h.2.2.imp id λ⟨a,cap,H,I,J⟩=>⟨a,cap,H,I,J.J E G⟩⟩
theorem Zn.I {L:LN}{v:O2}{cs:LV}(h:Zn L w.heap v n sz cs)(E:O5 [] w w'):Zn L w'.heap v n sz cs:=h.J E (λ_ G=>by cases G)
theorem Zn.st {L:LN}{v:O2}{cs:LV}(h:Zn L w.heap v n sz cs)(E:O5 L w w'):Zn L w'.heap v n sz cs:=h.J E (λ_ G=>G)
theorem Zn.up {L L':LN}{H:xC}{v:O2}{n sz:Nat}{cs:LV}(h:Zn L H v n sz cs)(E:∀b∈L',b∈L\/H.size<=b):Zn L' H v n sz cs :=
 ⟨h.1,h.2.1,h.2.2.imp id λ⟨a,cap,G,I,J⟩=>⟨a,cap,G,I,J.up E⟩⟩
theorem Zn.nil (L:LN)(H:xC)(sz:Nat):Zn L H (nS) 0 sz []:=⟨oe,oa,.inl ⟨rfl,rfl⟩⟩
theorem Zn.shape {L:LN}{v:O2}{cs:LV}(h:Zn L H v n sz cs):∃a cap,v=.slice a n cap:=by
 rcases h.2.2 with⟨E,G⟩|⟨a,cap,E,_⟩
 ·exact⟨none,0,by rw[E,G]⟩
 exact⟨some a,cap,E⟩
theorem Zn.one {L:LN}{v:O2}{cs:LV}(h:Zn L H v n sz cs):v.oneCell'=true:=by obtain⟨a,cap,rfl⟩:=h.shape;rfl
theorem Zn.cells {L:LN}{H:xC}{v:O2}{n sz:Nat}{cs:LV}(h:Zn L H v n sz cs):v.cells=#[v]:=by obtain⟨a,cap,rfl⟩:=h.shape;rfl
theorem Zn.le {L:LN}{v:O2}{cs:LV}(h:Zn L H v n sz cs):n<=1099511627776:=h.2.1
theorem Zn.at {L:LN}{H:xC}{v:O2}{n sz:Nat}{cs:LV}(h:Zn L H v n sz cs){i:Nat}(hi:i<n):
  ∃a cap,v=.slice (some a) n cap/\At L H (a.add (i*sz)) ((cs.drop (i*sz)).take sz):=by
 rcases h.2.2 with⟨_,J⟩|⟨a,cap,I,_,G⟩
 ·omega
 refine⟨a,cap,I,λu E=>by rw[YE];exact G.out u (L6 (LX E)),λu E=>by rw[YE];exact G.lt u (L6 (LX E)),λj u E=>?_⟩;rw[Addr.add_add];refine G.cell _ u ?_;rw[LU]at E;split at E
 ·simpa using E
 cases E
abbrev QQ (L:LN)(H:xC)(v:O2)(l:LI):Prop:=Zn L H v l.length 1 (l.map (.int .i64))
theorem QQ.at {L:LN}{H:xC}{v:O2}{l:LI}(h:QQ L H v l){i:Nat}(hi:i<l.length):
  ∃a cap,v=.slice (some a) l.length cap/\At L H (a.add (i*1)) [oF oG l[i]]:=by
 obtain⟨a,cap,G,E⟩:=Zn.at h hi;refine⟨a,cap,G,?_⟩;have:((l.map (Value.int .i64)).drop (i*1)).take 1=[oF oG l[i]]:=by
  rw[Nat.mul_one,LE (oz hi)];simp
 rw[this]at E;exact E
def Zb (H:xC)(b T:Nat)(cs:LV):Prop:=H[b]?=some (.cells cs.toArray T (0,0))
theorem Zb.lt {cs:LV}(h:Zb H b T cs):b<H.size:=(LG.1 h).1
theorem Zb.J {X:LN}{cs:LV}(h:Zb w.heap b T cs)(E:O5 X w w')(G:b∉X):Zb w'.heap b T cs:=by
 unfold Zb;rw[E.block b h.lt G];exact h
theorem Zb.I {cs:LV}(h:Zb w.heap b T cs)(E:O5 [] w w'):Zb w'.heap b T cs:=h.J E oe
theorem Zb.cell {cs:LV}(h:Zb H b T cs)(j:Nat):cel H ⟨b,j,none⟩=cs[j]?:=by
 unfold Zb at h;simp[cel,h]
theorem QeL (b j:Nat):(⟨b,0,none⟩:Addr).add j=⟨b,j,none⟩:=by unfold Addr.add;split <;> simp_all
theorem Km (b i j:Nat):(⟨b,i,none⟩:Addr).add j=⟨b,i+j,none⟩:=by unfold Addr.add;split <;> simp_all
theorem Zb.at {L:LN}{cs:LV}(h:Zb H b T cs)(E:b∉L):At L H ⟨b,0,none⟩ cs :=
 ⟨λ_ _=>E,λ_ _=>h.lt,λj u G=>by rw[QeL,h.cell];exact G⟩
theorem Zb.arr {L:LN}{cs:LV}(h:Zb H b T cs)(E:b∉L)(hl:cs.length=n*sz)(G:n<=1099511627776)(I:n<=cap):
  Zn L H (.slice (some ⟨b,0,none⟩) n cap) n sz cs:=⟨hl,G,.inr ⟨_,_,U,I,h.at E⟩⟩
def ob:O2->LN
 | .slice (some a) _ _=>[a.block]
 | _=>[]
theorem yc (v:O2):ob v=v.ownBlock.toList:=by
 cases v <;> try rfl
 rename_i a _ _;cases a <;> rfl
theorem Qg {X:LN}{base e:Nat}{v:O2}{cs:LV}(h:w.ownsRow base e sz v n cs)(H:O5 X w w')(I:∀b∈ob v,b∉X):w'.ownsRow base e sz v n cs:=by
 refine⟨h.1,h.2.imp id λ⟨g,cap,cur,E,J,G,O⟩=>⟨g,cap,cur,E,J,?_,O⟩⟩;rw[H.block g (LG.1 G).1 (I g (by rw[E];simp[ob]))];exact G
theorem Qp {base e:Nat}{v:O2}{cs:LV}(h:w.ownsRow base e sz v n cs)(E:O5 [] w w'):w'.ownsRow base e sz v n cs:=Qg h E (λ_ _=>oe)
theorem Qi {base e:Nat}{v:O2}{cs:LV}(h:w.ownsRow base e sz v n cs):∀b∈ob v,base<=b/\b<w.heap.size:=by
 intro b E;rcases h.2 with⟨G,_⟩|⟨g,cap,cur,G,H,I,_⟩
 ·subst G;simp[ob]at E
 subst G;simp[ob]at E;subst E;exact⟨H,(LG.1 I).1⟩
theorem Zv {base base' e:Nat}{v:O2}{cs:LV}(h:w.ownsRow base e sz v n cs)(E:base'<=base):w.ownsRow base' e sz v n cs :=
 ⟨h.1,h.2.imp id λ⟨g,cap,cur,G,H,I⟩=>⟨g,cap,cur,G,LJ E H,I⟩⟩
theorem QJ {L:LN}{base e:Nat}{v:O2}{cs:LV}(h:w.ownsRow base e sz v n cs)(I:n<=1099511627776)(J:∀b∈ob v,b∉L):Zn L w.heap v n sz cs:=by
 refine⟨h.1,I,?_⟩;rcases h.2 with E|⟨g,cap,cur,E,T,H,O,V,Y,S⟩
 ·exact .inl E
 refine .inr ⟨_,_,E,O,λ_ _=>J g (by rw[E];simp[ob]),λ_ _=>(LG.1 H).1,λj u G=>?_⟩;rw[QeL];unfold cel;simp only[H];rw[<-S,LU]at G;split at G
 ·simpa using G
 cases G
theorem QL (w:O1)(base e sz:Nat):w.ownsRow base e sz (nS) 0 []:=World.ownsRow_nil w base e sz
theorem Zb.own {cs:LV}(h:Zb w.heap b T cs)(hl:cs.length=n*sz)(G:n<=1099511627776){base:Nat}(E:base<=b):w.ownsRow base T sz (.slice (some ⟨b,0,none⟩) n n) n cs :=
 ⟨hl,.inr ⟨b,n,cs.toArray,U,E,h,Lu _,by simp only[maxLen];omega,by simp[hl],by simp[<-hl]⟩⟩
section
variable {K:Fr->O1->Prop}{f:Fr}{pS:String}{l:xE}
theorem Xo {x:O3}{e bys:Nat}[Sl P t e E bys z]{L:LN}{cs:LV}{v:O2}(h:Zn L H v n sz cs)(G:ev f x=v):
  (execOp (ev f) ⟨d,.call ⟨.builtin .len,#[x],#[t]⟩,ty,pS,af,gd⟩).run P w=.ok (.value (oF oG n)) w:=by
 obtain⟨a,cap,I⟩:=h.shape;exact Us (G.D I)
theorem xi {x:O3}{e bys:Nat}[Sl P t e sz bys z]{L:LN}{cs:LV}{v:O2}{k:IntKind}
  (h:Zn L w.heap v n sz cs) (E:ev f x=v) (G:ev f y=.int k i) (hi:i<n)
  (hK:∀a,At L w.heap a ((cs.drop (i*sz)).take sz)->XL P ops K l (QW f d (.pointer (some a))) w) (H:Yb ops f ⟨d,.indexAddr t x y,ty,pS,af,gd⟩=true:=by rfl):
  XL P ops K (⟨d,.indexAddr t x y,ty,pS,af,gd⟩::l) f w:=by
 obtain⟨a,cap,I,J⟩:=h.at hi;refine xl H (xv (Xm (E.D I) G oa oa) (hK _ ?_));simpa using J
theorem xii {x:O3}{e bys:Nat}[Sl P t e 1 bys z]{L:LN}{li:LI}{v:O2}{k:IntKind}
  (h:QQ L w.heap v li) (E:ev f x=v) (G:ev f y=.int k i) (hi:i<li.length)
  (hK:∀a,At L w.heap a [oF oG li[i]]->XL P ops K l (QW f d (.pointer (some a))) w) (H:Yb ops f ⟨d,.indexAddr t x y,ty,pS,af,gd⟩=true:=by rfl):
  XL P ops K (⟨d,.indexAddr t x y,ty,pS,af,gd⟩::l) f w:=by
 obtain⟨a,cap,I,J⟩:=QQ.at h hi;refine xl H (xv (Xm (E.D I) G oa oa) (hK _ ?_));simpa using J
theorem QA [X6 P t]{x:O3}{a:Addr}{L:LN}{u:O2}(h:At L w.heap a [u])(hx:ev f x=.pointer (some a)):
  (execOp (ev f) ⟨d,.load t x,ty,pS,af,gd⟩).run P w=.ok (.value u) w:=QhV hx h.one
theorem Qx [Ag P t sz]{x:O3}{a:Addr}{L:LN}{us:LV}(h:At L w.heap a us)(hx:ev f x=.pointer (some a))(hl:us.length=sz):
  (execOp (ev f) ⟨d,.load t x,ty,pS,af,gd⟩).run P w=.ok (.value (.agg us.toArray)) w:=zk hx hl h.cells
theorem Qq [X6 P t]{x:O3}{cs:LV}{u:O2}(h:Zb w.heap b T cs)(hx:ev f x=.pointer (some ⟨b,j,none⟩))(E:cs[j]?=some u):
  (execOp (ev f) ⟨d,.load t x,ty,pS,af,gd⟩).run P w=.ok (.value u) w:=QhV hx (by rw[Kt,h.cell];exact E)
theorem ZY [Ag P t sz]{x:O3}{cs:LV}(h:Zb w.heap b T cs)(hx:ev f x=.pointer (some ⟨b,0,none⟩))(hl:cs.length=sz):
  (execOp (ev f) ⟨d,.load t x,ty,pS,af,gd⟩).run P w=.ok (.value (.agg cs.toArray)) w:=zk hx hl (h.at (L:=[]) oe).cells
theorem Vc {off:Nat}[Zi P t j off]{x:O3}(hx:ev f x=.pointer (some ⟨b,o,none⟩)):
  (execOp (ev f) ⟨d,.fieldAddr t x j,ty,pS,af,gd⟩).run P w=.ok (.value (.pointer (some ⟨b,o+off,none⟩))) w:=by
 rw[<-Km];exact Zp hx
end
section
variable {K:Fr->O1->Prop}{f:Fr}{pS:String}
theorem QS {x:O3}{us:LV}(hx:(ev f x).cells=us.toArray)
  (hK:∀b w',O5 [] w w'->w.heap.size<=b->Zb w'.heap b t us->K (QW f d (.pointer (some ⟨b,0,none⟩))) w'):XO P ⟨d,.box t x,ty,pS,af,gd⟩ f w K:=by
 have E:(execOp (ev f) ⟨d,.box t x,ty,pS,af,gd⟩).run P w=.ok (.value (.pointer (some ⟨w.heap.size,0,none⟩))) (w.alloc (.cells us.toArray t)):=by
  simp[execOp,Instr.box,newVar,newRow,hx]
 exact xv E (hK _ _ (O5.alloc w _) (Lu _) (Kg w _))
theorem Qo [h:Ze P t z]{us:LV}(G:z.cells=us.toArray)
  (hK:∀b w',O5 [] w w'->w.heap.size<=b->Zb w'.heap b t us->K (QW f d (.pointer (some ⟨b,0,none⟩))) w'):XO P ⟨d,.alloc t,ty,pS,af,gd⟩ f w K:=by
 have H:(execOp (ev f) ⟨d,.alloc t,ty,pS,af,gd⟩).run P w=.ok (.value (.pointer (some ⟨w.heap.size,0,none⟩))) (w.alloc (.cells us.toArray t)):=by
  have hi:=h.i;cases E:P.info? t with
  | none=>simp[E]at hi
  | some i =>
   simp[E]at hi;simp[execOp,Instr.alloc,newVar,newRow,zeroValue,typeInfo,E,hi,G]
 exact xv H (hK _ _ (O5.alloc w _) (Lu _) (Kg w _))
def Qbl (sz:Nat):LV->List (LV)->Prop
 | [],[]=>True
 | v::vs,u::us=>v.cells=u.toArray/\u.length=sz/\Qbl sz vs us
 | _,_=>False
theorem yA {sz:Nat}:∀(vs:LV) (us:List (LV)) (E:Nat) (pre rest:LV),Qbl sz vs us->pre.length=E*sz->rest.length=vs.length*sz ->
  Instr.fill (λi=>some (i*sz,sz)) (pre++rest).toArray ((vs.zipIdx E).map λx=>(x.2,x.1))=some (pre++us.flatten).toArray
 | [],[],E,pre,rest,_,_,G=>by
  have:rest=[]:=Lp (oz G);subst this;simp[Instr.fill]
 | [],_::_,_,_,_,h,_,_=>h.elim
 | _::_,[],_,_,_,h,_,_=>h.elim
 | v::vs,u::us,E,pre,rest,h,H,G=>by
  obtain⟨I,J,T⟩:=h;have ha:sz<=rest.length:=by rw[G];simp[Oo]
  have ih:=yA vs us (E+1) (pre++u) (rest.drop sz) T (by simp[H,J,Oo]) (by simp only[o6,G,oW,Oo,Nat.one_mul];omega);simp only[List.zipIdx_cons,oX];unfold Instr.fill;have V:v.cells.size=sz:=by rw[I];simp[J]
  simp only[V];rw[OT (by simp;omega)];have key:v.cells.zipIdx.foldl (λcs (x:O2×Nat)=>cs.setIfInBounds (E*sz+x.2) x.1) (pre++rest).toArray=(pre++u++rest.drop sz).toArray:=by
   rw[<-Array.foldl_toList,Array.toList_zipIdx,I];obtain⟨g1,Y⟩:=Great.foldl_set (E*sz) u 0 (pre++rest).toArray;apply Array.ext';apply M2;intro k;have g3:=Y k;simp only[Array.getElem?_toList];rw[g3];simp only[OC,Od,oM,oZ];split
   ·rename_i O;rw[LB,ML oa,Mn oa,<-H]
   rename_i O;by_cases S:k<pre.length
   ·rw[LB,Mn S,Mn S]
   rw[LB,ML oa,ML oa];by_cases hb:k<pre.length+sz
   ·exfalso;apply O;omega
   rw[ML oa,ME];congr 1;omega
  have he:=ih;rw[LB pre u]at key;rw[show(v.cells.zipIdx.foldl (λcs (x:O2×Nat)=>cs.setIfInBounds (E*sz+x.2) x.1) (pre++rest).toArray)=(pre++u++rest.drop sz).toArray by rw[key,LB]];rw[ih];simp
theorem jo (f:Fr):∀(ps:List (Nat×O3)) (i:Nat),ps.map (·.1)=oR i ps.length->(ps.map λx=>(x.1,ev f x.2))=((ps.map λx=>ev f x.2).zipIdx i).map λx=>(x.2,x.1)
 | [],_,_=>rfl
 | p::ps,i,h=>by
  simp only[oX,oW,OB,List.cons.injEq]at h;simp only[oX,List.zipIdx_cons];rw[jo f ps (i+1) h.2,h.1]
theorem QC {e bys:Nat}[h:Sl P t e sz bys z]{parts:List (Nat×O3)}{us:List (LV)}(G:parts.map (·.1)=oR 0 n)(H:parts.length=n)(I:0<n)(hs:n*sz<=1000000)
  (J:Qbl sz (parts.map λx=>ev f x.2) us)
  (hK:∀b w',O5 [] w w'->w.heap.size<=b->Zb w'.heap b e us.flatten->K (QW f d (.slice (some ⟨b,0,none⟩) n n)) w'):XO P ⟨d,.buildSlice t n parts.toArray,ty,pS,af,gd⟩ f w K:=by
 obtain⟨ie,O,S,E,_⟩:=Sl.info h;subst H;have T:=h.pos;have hm:0<parts.length*sz:=Nat.mul_pos I T;have V:Instr.fill (λi=>some (i*ie.size,ie.size)) ((Array.range (parts.length*ie.size)).map (z.cells[· % z.cells.size]!)) (parts.toArray.map λ(i,x)=>(i,ev f x)).toList=some us.flatten.toArray:=by
  rw[E];have:=yA (parts.map λx=>ev f x.2) us 0 [] ((Array.range (parts.length*sz)).map (z.cells[· % z.cells.size]!)).toList J oe oe;simp only[Ok,Array.toArray_toList]at this;rw[<-this,<-jo f parts 0 G];simp
 have Y:(execOp (ev f) ⟨d,.buildSlice t parts.length parts.toArray,ty,pS,af,gd⟩).run P w=.ok (.value (.slice (some ⟨w.heap.size,0,none⟩) parts.length parts.length)) (w.alloc (.cells us.flatten.toArray e)):=by
  have:=run_buildSlice (P:=P) w t e parts.length (parts.toArray.map λ(i,x)=>(i,ev f x)) us.flatten.toArray ie z h.u O S (by rw[E];omega) (by rw[E];omega) V;simp only[execOp,Sem.run_bind,this,Result.andThen_ok,Sem.run_pure]
 exact xv Y (hK _ _ (O5.alloc w _) (Lu _) (Kg w _))
theorem y8 {base e:Nat}{bys:Nat}[h:Sl P t e sz bys z]{v:O2}{cs:LV}(G:w.ownsRow base e sz v n cs)
  {a:Addr} {m c:Nat} {news:LV} (hl:news.length=m*sz) (S:∀j u,news[j]?=some u->w.cell? (a.add j)=some u) (h1:∀u∈news,u.oneCell'=true)
  (hb:n+m<=1099511627776) (hq:bys<=128) (hc:base<=w.heap.size):
  ∃v' w',(Builtin.append_ #[t,t] ty #[v,.slice (some a) m c]).run P w=.ok v' w'/\w'.ownsRow base e sz v' (n+m) (cs++news)/\O5 (ob v) w w'/\(∀b∈ob v',b∈ob v\/w.heap.size<=b):=by
 obtain⟨i,hi,V,J,Y⟩:=Sl.info h;have ha:(n+m)*bys<=140737488355328:=LJ (Nat.mul_le_mul hb hq) oa;have he:n+m<=maxLen:=by simp only[maxLen];omega
 by_cases hg:∃g cap cur,v=.slice (some ⟨g,0,none⟩) n cap/\w.heap[g]?=some (.cells cur e (0,0))/\n+m<=cap
 ·obtain⟨v',w',H,ho,hs,_⟩:=run_append_own (P:=P) w base t ty e i z sz bys h.u hi V J Y h.zs h.pos v n cs G a m c news hl S h1 he ha hc;refine⟨v',w',H,ho,by rw[yc];exact O5.of_grown hs,?_⟩;obtain⟨g,cap,cur,rfl,hf,O⟩:=hg;rcases G.2 with⟨h2,_⟩|⟨g2,cap2,hh,h2,h3,h4,h5,h6,h7,h8⟩
  ·cases h2
  cases h2
  have ht:n*i.size+news.length<=hh.size:=by rw[hl,h7,J,<-Ms];exact LY _ O
  have hu:=run_append_room (P:=P) w t ty e i h.u hi g n cap hh h4 a m c news (by rw[J];exact hl) S h1 O ht;rw[hu]at H;cases H
  intro b E;exact .inl E
 have new:∀(old:Nat),old<n+m->∀I,I=(Obj.cells (cs.toArray++news.toArray++Builtin.zeroCells z.cells (grownCap w (n+m) old e - (n+m))) e) ->
   (w.drew.alloc I).ownsRow base e sz (.slice (some ⟨w.heap.size,0,none⟩) (n+m) (grownCap w (n+m) old e)) (n+m) (cs++news):=by
  intro old ho I hv;subst hv;have hge:=grownCap_ge w (n+m) old e;have hj:grownCap w (n+m) old e<=maxLen:=grownCap_le_maxLen w (n+m) old e he;have hp:(cs++news).length=(n+m)*sz:=by rw[Lk,G.1,hl,Ms]
  refine⟨hp,.inr ⟨w.heap.size,_,_,U,hc,Kg w.drew _,hge,hj,?_,?_⟩⟩
  ·simp only[Array.size_append,Od,size_zeroCells,h.zs,G.1,hl,<-Oo];congr 1;omega
  simp only[Array.toList_append,o0];rw[<-LB,<-hp];exact List.take_left
 have stp:∀I,O5 (ob v) w (w.drew.alloc I):=λI=>⟨U,U,U,by rw[VF];exact NQ _,λk hk _=>qB w.drew I k hk⟩;have fin:∀(b:Nat),b∈ob (.slice (some ⟨w.heap.size,0,none⟩) (n+m) 0)->b∈ob v\/w.heap.size<=b:=λb E=>by simp[ob]at E;omega
 rcases G.2 with⟨rfl,rfl⟩|⟨g,cap,cur,rfl,h9,hf,hA,hj,hB,hC⟩
 ·have hx:cs=[]:=Lp (oz G.1);subst hx;by_cases hm:m=0
  ·subst hm;have T:news=[]:=Lp (oz hl);subst T;refine⟨nS,w,?_,QL _ _ _ _,O5.Z _ _,λb E=>by simp[ob]at E⟩;simp[Builtin.append_,run_underlying h.u,sizeOf,typeInfo,hi,Builtin.lenOf,Builtin.firstCells,loadCells,loadCellsFrom]
  have H:=run_append_nil (P:=P) w t ty e i z h.u hi V a m c news (by rw[J];exact hl) S oa oa (by rw[Y];have hw:=ha;simp only[oY]at hw;omega);have T:=new 0 oa _ U;simp only[oY,Ok,Array.empty_append]at T ⊢;exact⟨_,_,H,T,stp _,λb E=>fin b E⟩
 have O:cap<n+m:=by
  rcases OH cap (n+m)with hy|hge
  ·exact hy
  exact OW ⟨g,cap,cur,U,hf,hge⟩ hg
 have h0:∀j u,cs[j]?=some u->w.cell? ((⟨g,0,none⟩:Addr).add j)=some u:=G.cells (g:=g) U;have H:=run_append_grow (P:=P) w t ty e i z h.u hi V ⟨g,0,none⟩ n cap cs (by rw[J];exact G.1) h0 a m c news (by rw[J];exact hl) S O oa (growslice_fits O (by rw[Y];exact ha));exact⟨_,_,H,new cap O _ U,stp _,λb E=>fin b E⟩
theorem Za {e bys:Nat}[h:Sl P t e sz bys z]{s:O3}{base:Nat}{v:O2}{cs:LV}(E:w.ownsRow base e sz v n cs)(G:ev f s=v)
  {a:Addr} {m c:Nat} {news:LV} (H:ev f y=.slice (some a) m c) (hl:news.length=m*sz) {L:LN} (I:At L w.heap a news) (J:∀u∈news,u.oneCell'=true)
  (O:n+m<=1099511627776) (S:base<=w.heap.size)
  (hK:∀v' w',w'.ownsRow base e sz v' (n+m) (cs++news)->O5 (ob v) w w'->(∀b∈ob v',b∈ob v\/w.heap.size<=b)->K (QW f d v') w') (T:bys<=128:=by decide):
  XO P ⟨d,.call ⟨.builtin .append,#[s,y],#[t,t]⟩,ty,pS,af,gd⟩ f w K:=by
 obtain⟨v',w',V,Y,h3,h4⟩:=y8 (P:=P) (t:=t) (ty:=ty) E hl I.cells J O T S (c:=c);have ha:(execOp (ev f) ⟨d,.call ⟨.builtin .append,#[s,y],#[t,t]⟩,ty,pS,af,gd⟩).run P w=.ok (.value v') w':=by
  simp[execOp,resolve,invoke,builtin,G,H,V]
 exact xv ha (hK v' w' Y h3 h4)
end
def Qo3 (P:O4)(t:Nat):Option (LV×LN):=match P.info? t,P.underlying t with
 | some it,some (.struct fs)=>match it.zero,fs.toList.mapM (λf=>(P.info? f.type).bind λi=>if i.size=1 then some f.offset else none)with
  | some (.agg zs),some offs=>some (zs.toList,offs)
  | _,_=>none
 | some it,some (.array n e)=>match it.zero,P.info? e with
  | some (.agg zs),some ie=>if ie.size=1 then some (zs.toList,oT n)else none
  | _,_=>none
 | _,_=>none
class Bs (P:O4)(t:Nat)(zs:outParam (LV))(offs:outParam (LN)):Prop where
 h:Qo3 P t=some (zs,offs)
 b:offs.all (·<zs.length)=true
def bld (offs:LN)(zs:LV):List (Nat×O2)->LV
 | []=>zs
 | (j,v)::ps=>bld offs (zs.set (offs.getD j 0) v) ps
def QmS:LV->Prop
 | []=>True
 | v::vs=>v.cells=#[v]/\QmS vs
theorem yz {place:Nat->Option (Nat×Nat)}{offs:LN}(G:∀j,j<offs.length->place j=some (offs.getD j 0,1)):∀(ps:List (Nat×O2)) (zs:LV),QmS (ps.map (·.2))->ps.all (λp=>p.1<offs.length)=true ->
  (∀o∈offs,o<zs.length)->Instr.fill place zs.toArray ps=some (bld offs zs ps).toArray
 | [],zs,_,_,_=>rfl
 | (j,v)::ps,zs,H,E,I=>by
  simp only[oS,oK,decide_eq_true_eq]at E;have J:=G j E.1;have T:offs.getD j 0<zs.length:=I _ (by simp[oQ,Of E.1]);unfold Instr.fill;simp only[J];have O:v.cells=#[v]:=H.1;simp only[O];rw[OT (by rw[show(#[v]:Array O2).size=1 from rfl,LP];simp only[ne_eq,not_true,decide_false,Bool.false_or,decide_eq_true_eq];omega)];have:(#[v]:Array O2).zipIdx.foldl (λcs (x:O2×Nat)=>cs.setIfInBounds (offs.getD j 0+x.2) x.1) zs.toArray=(zs.set (offs.getD j 0) v).toArray:=by
   simp[Array.zipIdx]
  rw[this];exact yz G ps _ H.2 E.2 (λo S=>by rw[L7];exact I o S)
theorem QdX {zs:LV}{offs:LN}(h:Qo3 P t=some (zs,offs))(hb:offs.all (·<zs.length)=true)(ps:List (Nat×O2))(S:QmS (ps.map (·.2)))(T:ps.all (λp=>p.1<offs.length)=true):
  P.built t ps=some (bld offs zs ps).toArray:=by
 have V:∀o∈offs,o<zs.length:=λo ho=>oz (Mg.1 hb o ho)
 unfold Qo3 at h;unfold Program.built;cases hi:P.info? t with
 | none=>simp[hi]at h
 | some it =>
  cases Y:P.underlying t with
  | none=>simp[hi,Y]at h
  | some dd =>
   simp only[hi,Y]at h;cases dd <;> simp only[]at h <;> try (cases h)
   case struct fs =>
    cases E:it.zero with
    | none=>simp[E]at h
    | some z =>
     cases z <;> simp only[E]at h <;> try (cases h)
     rename_i za;cases I:fs.toList.mapM (λf=>(P.info? f.type).bind λi=>if i.size=1 then some f.offset else none)with
     | none=>simp[I]at h
     | some offs' =>
      simp only[I,Option.some.injEq,Prod.mk.injEq]at h;obtain⟨rfl,rfl⟩:=h;have key:∀(l:List Field) (offs:LN),l.mapM (λf=>(P.info? f.type).bind λi=>if i.size=1 then some f.offset else none)=some offs ->
        l.mapM (λf=>(P.info? f.type).map λi=>(f.offset,i.size))=some (offs.map λo=>(o,1)):=by
       intro l;induction l with
       | nil=>intro offs h;simp at h;subst h;rfl
       | cons f l ih =>
        intro offs h;simp only[List.mapM_cons]at h ⊢;cases J:P.info? f.type with
        | none=>simp[J]at h
        | some i =>
         by_cases G:i.size=1
         ·simp only[J,Option.bind_some,G,if_true,Option.bind_eq_bind]at h;cases hl:l.mapM (λf=>(P.info? f.type).bind λi=>if i.size=1 then some f.offset else none)with
          | none=>simp[hl]at h
          | some os =>
           simp[hl]at h;subst h;simp[ih os hl,G]
         simp[J,G]at h
      have ha:=key _ _ I;simp only[E,ha,Value.cells];rw[<-yz (place:=λj=>((offs'.map λo=>(o,1)).toArray)[j]?) (λj H=>by simp[Of H,oQ]) ps za.toList S T V]
   case array n e =>
    cases E:it.zero with
    | none=>simp[E]at h
    | some z =>
     cases z <;> simp only[E]at h <;> try (cases h)
     rename_i za;cases O:P.info? e with
     | none=>simp[O]at h
     | some ie =>
      simp only[O]at h;split at h
      ·rename_i G;simp only[Option.some.injEq,Prod.mk.injEq]at h;obtain⟨rfl,rfl⟩:=h;simp only[E,O,Value.cells];rw[<-yz (place:=λi=>some (i*ie.size,ie.size)) (λj H=>by simp at H;simp[G,oQ,H]) ps za.toList S T V]
      cases h
theorem Qz {f:Fr}{pS:String}{zs:LV}{offs:LN}[h:Bs P t zs offs]{parts:List (Nat×O3)}
  (E:QmS (parts.map λx=>ev f x.2)) (G:parts.all (λp=>p.1<offs.length)=true:=by rfl):
  (execOp (ev f) ⟨d,.build t parts.toArray,ty,pS,af,gd⟩).run P w=.ok (.value (.agg (bld offs zs (parts.map λx=>(x.1,ev f x.2))).toArray)) w:=by
 have H:=QdX h.h h.b (parts.map λx=>(x.1,ev f x.2)) (by rw[Mu];exact E) (by rw[List.all_map];exact G);have I:=run_build (P:=P) w t (parts.toArray.map λ(i,x)=>(i,ev f x)) _ (oz H);simp only[execOp,Sem.run_bind,I,Result.andThen_ok,Sem.run_pure]
section
variable {K:Fr->O1->Prop}{f:Fr}{pS:String}{l:xE}
theorem Q2 {off:Nat}[Zi P t j off]{E:O3}(hx:ev f E=.pointer (some ⟨b,o,none⟩))(h:XL P ops K l (QW f d (.pointer (some ⟨b,o+off,none⟩))) w)(G:Yb ops f ⟨d,.fieldAddr t E j,ty,pS,af,gd⟩=true:=by rfl):XL P ops K (⟨d,.fieldAddr t E j,ty,pS,af,gd⟩::l) f w:=x (Vc hx) h G
theorem Y7 [X6 P t]{E:O3}{cs:LV}{u:O2}(G:Zb w.heap b T cs)(hx:ev f E=.pointer (some ⟨b,j,none⟩))(H:cs[j]?=some u)(h:XL P ops K l (QW f d u) w)(I:Yb ops f ⟨d,.load t E,ty,pS,af,gd⟩=true:=by rfl):XL P ops K (⟨d,.load t E,ty,pS,af,gd⟩::l) f w:=x (Qq G hx H) h I
theorem Q5 [Ag P t sz]{E:O3}{cs:LV}(G:Zb w.heap b T cs)(hx:ev f E=.pointer (some ⟨b,0,none⟩))(hl:cs.length=sz)(h:XL P ops K l (QW f d (.agg cs.toArray)) w)(H:Yb ops f ⟨d,.load t E,ty,pS,af,gd⟩=true:=by rfl):XL P ops K (⟨d,.load t E,ty,pS,af,gd⟩::l) f w:=x (ZY G hx hl) h H
theorem QK {E:O3}{e bys:Nat}[Sl P t e G bys z]{L:LN}{cs:LV}{v:O2}(I:Zn L H v n sz cs)(J:ev f E=v)(h:XL P ops K l (QW f d (oF oG n)) w)(O:Yb ops f ⟨d,.call ⟨.builtin .len,#[E],#[t]⟩,ty,pS,af,gd⟩=true:=by rfl):XL P ops K (⟨d,.call ⟨.builtin .len,#[E],#[t]⟩,ty,pS,af,gd⟩::l) f w:=x (Xo I J) h O
theorem QR {off:Nat}[Zi P t j off]{E:O3}(hx:ev f E=.pointer (some ⟨b,o,none⟩)):∀w',(execOp (ev f) ⟨d,.fieldAddr t E j,ty,pS,af,gd⟩).run P w'=.ok (.value (.pointer (some ⟨b,o+off,none⟩))) w':=λ_=>Vc hx
theorem Qs {off:Nat}[Zi P t j off]{E:O3}[X6 P G]{d2:xF}{I:Nat}{pS2:String}{J:xD}{O:xt}{H:O3}{cs:LV}{u:O2}(hx:ev f E=.pointer (some ⟨b,o,none⟩))(S:Zb w.heap b T cs)(V:ev (QW f d (.pointer (some ⟨b,o+off,none⟩))) H=.pointer (some ⟨b,i,none⟩))(Y:cs[i]?=some u)(h:XL P ops K l (QW (QW f d (.pointer (some ⟨b,o+off,none⟩))) d2 u) w)
  (hg:Yb ops f ⟨d,.fieldAddr t E j,ty,pS,af,gd⟩=true:=by rfl) (ha:Yb ops (QW f d (.pointer (some ⟨b,o+off,none⟩))) ⟨d2,.load G H,I,pS2,J,O⟩=true:=by rfl):XL P ops K (⟨d,.fieldAddr t E j,ty,pS,af,gd⟩::⟨d2,.load G H,I,pS2,J,O⟩::l) f w:=Q2 hx (Y7 S V Y h ha) hg
end
section
variable {κ:Type}[DecidableEq κ]
def xd:List (κ×O2)->κ->Option O2
 | [],_=>none
 | (k',v)::m,k=>if k'=k then some v else xd m k
def xh:List (κ×O2)->κ->O2->List (κ×O2)
 | [],k,v=>[(k,v)]
 | (k',v')::m,k,v=>if k'=k then(k',v)::m else(k',v')::xh m k v
theorem Xv (m:List (κ×O2))(k k':κ)(v:O2):xd (xh m k v) k'=if k=k' then some v else xd m k':=by
 induction m with
 | nil=>simp[xd,xh]
 | cons p m ih =>
  obtain⟨q,u⟩:=p;simp only[xh];by_cases h:q=k
  ·subst h;simp[xd];by_cases E:q=k' <;> simp[E]
  simp only[h,if_false,xd,ih];by_cases E:q=k'
  ·subst E;simp[Ne.symm h]
  simp[E]
def fnd (k:κ):List κ->List MapEntry->Nat->Option (Nat×O2)
 | q::ks,e::es,i=>if k=q then some (i,e.val)else fnd k ks es (i+1)
 | _,_,_=>none
end
class Key (P:O4)(kt:Nat){κ:Type}[DecidableEq κ](enc:κ->O2):Prop where
 check:∀(w:O1) (em:Bool) (k:κ),(Instr.checkKey em 10000 kt (enc k)).run P w=.ok () w
 find:∀(w:O1) (k:κ) (ks:List κ) (es:List MapEntry),es.map (·.key)=ks.map enc->(Instr.findKey kt (enc k) es).run P w=.ok (fnd k ks es 0) w
 same:∀k,Instr.sameBits 10000 (enc k) (enc k)=true
abbrev V4 (n:Int):O2:=oF oG n
abbrev Jj (p:Int×Int):O2:=.agg #[oF oG p.1,oF oG p.2]
abbrev JL (s:ByteArray):O2:=.string s
theorem QlH (G:P.underlying kt=some (.int .i64)):Key P kt V4:=by
 refine⟨λw em k=>?_,λw k ks es h=>?_,λk=>by simp[Instr.sameBits]⟩
 ·have H:∀n,(Instr.checkKey em (n+1) kt (V4 k)).run P w=.ok () w:=λn=>by simp[Instr.checkKey,run_underlying G]
  exact H 9999
 have key:∀(ks:LI) (es:List MapEntry) (i:Nat),es.map (·.key)=ks.map V4->Instr.findNow (.int .i64) (V4 k) es i=some (fnd k ks es i):=by
  intro ks;induction ks with
  | nil=>intro es i h;simp at h;subst h;rfl
  | cons q ks ih =>
   intro es i h;cases es with
   | nil=>simp at h
   | cons e es =>
    simp only[oX,List.cons.injEq]at h;have I:=ih es (i+1) h.2;simp only[Instr.findNow,h.1,Instr.sameNow,V4,if_true,fnd];by_cases E:k=q
    ·subst E;simp
    have:(k == q)=false:=by simpa using E
    simp[E,this,I]
 simp[Instr.findKey,run_underlying G,key ks es 0 h]
theorem QlG (G:P.underlying kt=some .string):Key P kt JL:=by
 refine⟨λw em k=>?_,λw k ks es h=>?_,λk=>by simp[Instr.sameBits,(MapKept.bytes_beq k k).2 rfl]⟩
 ·have H:∀n,(Instr.checkKey em (n+1) kt (JL k)).run P w=.ok () w:=λn=>by simp[Instr.checkKey,run_underlying G]
  exact H 9999
 have key:∀(ks:List ByteArray) (es:List MapEntry) (i:Nat),es.map (·.key)=ks.map JL->Instr.findNow .string (JL k) es i=some (fnd k ks es i):=by
  intro ks;induction ks with
  | nil=>intro es i h;simp at h;subst h;rfl
  | cons q ks ih =>
   intro es i h;cases es with
   | nil=>simp at h
   | cons e es =>
    simp only[oX,List.cons.injEq]at h;have I:=ih es (i+1) h.2;simp only[Instr.findNow,h.1,Instr.sameNow,JL,fnd];by_cases E:k=q
    ·subst E;simp[(MapKept.bytes_beq k k).2 rfl]
    have:(k == q)=false:=by
     cases J:(k == q)with
     | false=>rfl
     | true=>exact OW ((MapKept.bytes_beq k q).1 J) E
    simp[E,this,I]
 simp[Instr.findKey,run_underlying G,key ks es 0 h]
theorem zT {e:Nat}(V:P.underlying kt=some (.array 2 e))(I:P.underlying e=some (.int .i64))(E:(P.info? e).map (·.size)=some 1)(w:O1)(p q:Int×Int):
  (Op.equal kt (Jj p) (Jj q)).run P w=.ok (decide (p=q)) w:=by
 obtain⟨a,b⟩:=p;obtain⟨c,d⟩:=q;cases hi:P.info? e with
 | none=>simp[hi]at E
 | some ie =>
  simp[hi]at E;have J:∀w,(isAgg e).run P w=.ok false w:=λw=>by simp[isAgg,run_underlying I]
  have G:∀(x y:Int) (w:O1),(part e #[oF oG x,oF oG y] 0).run P w=.ok (oF oG x) w:=λx y w=>by simp[part,J]
  have O:∀(x y:Int) (w:O1),(part e #[oF oG x,oF oG y] 1).run P w=.ok (oF oG y) w:=λx y w=>by simp[part,J]
  have H:∀(m:Nat) (x y:Int) (w:O1),(Op.equalIn (m+1) e (oF oG x) (oF oG y)).run P w=.ok (x == y) w:=λm x y w=>by simp[Op.equalIn,run_underlying I]
  simp only[Op.equal,Op.maxDepth,Jj];unfold Op.equalIn;simp only[Sem.run_bind,run_underlying V,Result.andThen_ok,sizeOf,typeInfo,run_program,hi,Sem.run_pure,E];simp only[Std.Legacy.Range.forIn_eq_forIn_range',Std.Legacy.Range.size,OI,Nat.add_sub_cancel,Nat.div_one,OB,List.range'_zero,List.forIn_cons,List.forIn_nil,OP,Nat.one_mul,oY];by_cases S:a=c
  ·subst S;by_cases T:b=d
   ·subst T;simp[G,O,H]
   simp[G,O,H,T]
  simp[G,H,S]
theorem QiC {e:Nat}(E:P.underlying kt=some (.array 2 e))(H:P.underlying e=some (.int .i64))(G:(P.info? e).map (·.size)=some 1):Key P kt Jj:=by
 refine⟨λw em k=>?_,λw k ks es h=>?_,λk=>?_⟩
 ·obtain⟨a,b⟩:=k;cases hi:P.info? e with
  | none=>simp[hi]at G
  | some ie =>
   simp[hi]at G;have J:∀w,(isAgg e).run P w=.ok false w:=λw=>by simp[isAgg,run_underlying H]
   have S:∀(x y:Int) (w:O1),(part e #[oF oG x,oF oG y] 0).run P w=.ok (oF oG x) w:=λx y w=>by simp[part,J]
   have T:∀(x y:Int) (w:O1),(part e #[oF oG x,oF oG y] 1).run P w=.ok (oF oG y) w:=λx y w=>by simp[part,J]
   have V:∀(m:Nat) (x:Int) (w:O1),(Instr.checkKey em (m+1) e (oF oG x)).run P w=.ok () w:=λm x w=>by simp[Instr.checkKey,run_underlying H]
   simp only[Jj];unfold Instr.checkKey;simp only[Sem.run_bind,run_underlying E,Result.andThen_ok,sizeOf,typeInfo];simp[Std.Legacy.Range.forIn_eq_forIn_range',Std.Legacy.Range.size,OB,hi,G,S,T,V]
 ·have Y:∀es i,es.map (·.key)=ks.map Jj->Instr.findNow (.array 2 e) (Jj k) es i=none\/es=[]:=by
   intro es i h;cases es with
   | nil=>exact .inr U
   | cons e es=>left;simp[Instr.findNow,Instr.sameNow]
  have ask:∀(ks:xx) (es:List MapEntry) (i:Nat),es.map (·.key)=ks.map Jj->(Instr.findAsking kt (Jj k) es i).run P w=.ok (fnd k ks es i) w:=by
   intro ks;induction ks with
   | nil=>intro es i h;simp at h;subst h;simp[Instr.findAsking,fnd]
   | cons q ks ih =>
    intro es i h;cases es with
    | nil=>simp at h
    | cons e es =>
     simp only[oX,List.cons.injEq]at h;have ha:=ih es (i+1) h.2;simp only[Instr.findAsking,h.1,Sem.run_bind,zT E H G,Result.andThen_ok,fnd];by_cases O:k=q
     ·subst O;simp
     simp[O,ha]
  rcases Y es 0 h with I|I
  ·simp[Instr.findKey,run_underlying E,I,ask ks es 0 h]
  subst I;have:ks=[]:=by simpa using h.symm
  subst this;simp[Instr.findKey,run_underlying E,Instr.findNow,fnd]
 simp[Instr.sameBits]
class Mp (P:O4)(t:Nat)(kt et:outParam Nat)(z:outParam O2):Prop where
 u:P.underlying t=some (.map kt et)
 z:(P.info? et).map (·.zero)=some (some z)
def Yk {κ:Type}(enc:κ->O2)(H:xC)(b:Nat)(m:List (κ×O2)):Prop :=
 ∃es clock,H[b]?=some (.map es clock)/\es.toList.map (λe=>(e.key,e.val))=m.map (λp=>(enc p.1,p.2))
section
variable {κ:Type}{enc:κ->O2}
theorem Yk.lt {m:List (κ×O2)}(h:Yk enc H b m):b<H.size:=by
 obtain⟨es,c,E,_⟩:=h;exact(LG.1 E).1
theorem Yk.J {X:LN}{m:List (κ×O2)}(h:Yk enc w.heap b m)(E:O5 X w w')(G:b∉X):Yk enc w'.heap b m:=by
 have hl:=h.lt;obtain⟨es,c,H,I⟩:=h;exact⟨es,c,by rw[E.block b hl G];exact H,I⟩
theorem Yk.I {m:List (κ×O2)}(h:Yk enc w.heap b m)(E:O5 [] w w'):Yk enc w'.heap b m:=h.J E oe
theorem QaV {m:List (κ×O2)}{es:List MapEntry}(h:es.map (λe=>(e.key,e.val))=m.map (λp=>(enc p.1,p.2))):es.map (·.key)=(m.map (·.1)).map enc:=by
 have:=OV (List.map Prod.fst) h;simp only[List.map_map]at this ⊢;exact this
variable [DecidableEq κ]
theorem UD {k:κ}:∀{m:List (κ×O2)}{es:List MapEntry}{i:Nat},es.map (λe=>(e.key,e.val))=m.map (λp=>(enc p.1,p.2))->xd m k=none->fnd k (m.map (·.1)) es i=none
 | [],es,i,h,_=>by simp[fnd]
 | (q,u)::m,[],i,h,_=>by simp at h
 | (q,u)::m,e::es,i,h,E=>by
  simp only[oX,List.cons.injEq]at h;simp only[xd]at E;by_cases G:q=k
  ·simp[G]at E
  simp only[G,if_false]at E;simp only[oX,fnd,Ne.symm G,if_false];exact UD h.2 E
theorem UC {k:κ}{u:O2}:∀{m:List (κ×O2)}{es:List MapEntry}{i:Nat},es.map (λe=>(e.key,e.val))=m.map (λp=>(enc p.1,p.2))->xd m k=some u ->
  ∃j,fnd k (m.map (·.1)) es i=some (i+j,u)/\j<es.length/\(∃e,es[j]?=some e/\e.key=enc k) /\
   ∀v,(es.modify j λe=>{ e with key:=enc k,val:=v }).map (λe=>(e.key,e.val))=(xh m k v).map (λp=>(enc p.1,p.2))
 | [],es,i,_,h=>by simp[xd]at h
 | (q,x)::m,[],i,h,_=>by simp at h
 | (q,x)::m,e::es,i,h,E=>by
  simp only[oX,List.cons.injEq,Prod.mk.injEq]at h;simp only[xd]at E;by_cases G:q=k
  ·subst G;simp at E;subst E;refine⟨0,by simp[fnd,h.1.2],oe,⟨e,rfl,h.1.1⟩,λv=>?_⟩;simp[xh,h.2]
  simp only[G,if_false]at E;obtain⟨j,H,T,⟨I,J,O⟩,S⟩:=UC (i:=i+1) h.2 E;refine⟨j+1,?_,by simp;omega,⟨I,oz J,O⟩,λv=>?_⟩
  ·simp only[oX,fnd,Ne.symm G,if_false,H];congr 2;omega
  simp only[xh,G,if_false,List.modify_succ_cons,oX,S v,h.1]
end
section
variable {K:Fr->O1->Prop}{f:Fr}{pS:String}{κ:Type}[DecidableEq κ]
omit [DecidableEq κ] in
theorem YC (enc:κ->O2)
  (hK:∀b w',O5 [] w w'->w.heap.size<=b->Yk enc w'.heap b []->K (QW f d (.map (some b))) w'):XO P ⟨d,.makeMap t none,ty,pS,af,gd⟩ f w K:=by
 have E:(execOp (ev f) ⟨d,.makeMap t none,ty,pS,af,gd⟩).run P w=.ok (.value (.map (some w.heap.size))) (w.alloc (.map #[] 0)):=by
  simp[execOp,Instr.makeMap]
 exact xv E (hK _ _ (O5.alloc w _) (Lu _) ⟨#[],0,Kg w _,U⟩)
theorem X3 {es:Array MapEntry}{c:Nat}(h:w.heap[b]?=some (.map es c)):(getObj b).run P w=.ok (.map es c) w:=by
 simp[getObj,Sem.run,h]
theorem VR {es E:Array MapEntry}{c:Nat}(h:w.heap[b]?=some (.map es c)):(setObj b (.map E G)).run P w=.ok () { w with heap:=w.heap.setIfInBounds b (.map E G) }:=by
 simp[setObj,Sem.run,h]
theorem Vb [hm:Mp P t kt et z]{enc:κ->O2}[G:Key P kt enc]{x:O3}{m:List (κ×O2)}{k:κ}(h:Yk enc w.heap b m)(hx:ev f x=.map (some b))(I:ev f y=enc k):
  (execOp (ev f) ⟨d,.lookup t x y true,ty,pS,af,gd⟩).run P w=.ok (.value (match xd m k with|some u=>.tuple #[u,.bool true]|none=>.tuple #[z,.bool false])) w:=by
 obtain⟨es,c,J,E⟩:=h;have O:=G.find w k (m.map (·.1)) es.toList (QaV E);have S:(zeroValue et).run P w=.ok z w:=by
  have:=hm.z;cases hi:P.info? et with
  | none=>simp[hi]at this
  | some i=>simp[hi]at this;simp[zeroValue,typeInfo,hi,this]
 simp only[execOp,Sem.run_bind,Instr.lookup,run_underlying hm.u,Result.andThen_ok,hx,I,X3 J,Sem.run_pure,G.check,O];cases H:xd m k with
 | none=>rw[UD E H];simp[S]
 | some u =>
  obtain⟨j,T,_⟩:=UC (i:=0) E H;rw[T];simp
theorem Jz [hm:Mp P t kt et z]{enc:κ->O2}[G:Key P kt enc]{x:O3}{m:List (κ×O2)}{k:κ}(h:Yk enc w.heap b m)(hx:ev f x=.map (some b))(I:ev f y=enc k):
  (execOp (ev f) ⟨d,.lookup t x y false,ty,pS,af,gd⟩).run P w=.ok (.value (match xd m k with|some u=>u|none=>z)) w:=by
 obtain⟨es,c,J,E⟩:=h;have O:=G.find w k (m.map (·.1)) es.toList (QaV E);have S:(zeroValue et).run P w=.ok z w:=by
  have:=hm.z;cases hi:P.info? et with
  | none=>simp[hi]at this
  | some i=>simp[hi]at this;simp[zeroValue,typeInfo,hi,this]
 simp only[execOp,Sem.run_bind,Instr.lookup,run_underlying hm.u,Result.andThen_ok,hx,I,X3 J,Sem.run_pure,G.check,O];cases H:xd m k with
 | none=>rw[UD E H];simp[S]
 | some u =>
  obtain⟨j,T,_⟩:=UC (i:=0) E H;rw[T];simp
theorem zS [hm:Mp P t kt et z]{enc:κ->O2}[I:Key P kt enc]{m:List (κ×O2)}{k:κ}{u:O2}(h:Yk enc w.heap b m):
  ∃w',(Instr.mapUpdate t (.map (some b)) (enc k) u).run P w=.ok () w'/\O5 [b] w w'/\Yk enc w'.heap b (xh m k u):=by
 have hl:=h.lt;obtain⟨es,c,J,G⟩:=h;have E:=I.find w k (m.map (·.1)) es.toList (QaV G);have stp:∀S T,O5 [b] w { w with heap:=w.heap.setIfInBounds b (.map S T) }:=λS T =>
  ⟨rfl,rfl,rfl,oe,λi hi V=>by
   have:b≠i:=λe=>V (by simp[e]);simp[Array.getElem?_setIfInBounds_ne this]⟩
 cases H:xd m k with
 | none =>
  rw[UD G H]at E;refine⟨_,?_,stp (es.push { key:=enc k,val:=u,born:=c }) (c+1),es.push { key:=enc k,val:=u,born:=c },c+1,?_,?_⟩
  ·simp only[Instr.mapUpdate,Sem.run_bind,run_underlying hm.u,Result.andThen_ok,X3 J,I.check,E,VR J]
  ·simp[hl]
  have Y:xh m k u=m++[(k,u)]:=by
   clear G E;induction m with
   | nil=>rfl
   | cons p m ih =>
    obtain⟨q,x⟩:=p;by_cases O:q=k
    ·simp[xd,O]at H
    simp only[xd,O,if_false]at H;simp[xh,O,ih H]
  simp[Y,G]
 | some u0 =>
  obtain⟨j,hj,ho,⟨e,he,ha⟩,hb⟩:=UC (i:=0) G H;rw[hj]at E;simp only[oY]at E;have hc:∀w,(Instr.keyThatStays (enc k) (enc k)).run P w=.ok (enc k) w:=λw=>by simp[Instr.keyThatStays,I.same]
  have hh:((es[j]?).map (·.key)).getD (enc k)=enc k:=by
   have:es[j]?=some e:=by simpa using he
   simp[this,ha]
  refine⟨_,?_,stp (es.modify j λe=>{ e with key:=enc k,val:=u }) c,es.modify j λe=>{ e with key:=enc k,val:=u },c,?_,?_⟩
  ·simp only[Instr.mapUpdate,Sem.run_bind,run_underlying hm.u,Result.andThen_ok,X3 J,I.check,E,hh,hc,VR J]
  ·simp[hl]
  rw[Array.toList_modify];exact hb u
theorem XD [hm:Mp P t kt et z]{enc:κ->O2}[hk:Key P kt enc]{x v:O3}{m:List (κ×O2)}{k:κ}(h:Yk enc w.heap b m)(hx:ev f x=.map (some b))(E:ev f y=enc k)
  (hK:∀w',O5 [b] w w'->Yk enc w'.heap b (xh m k (ev f v))->K (QW f d undef) w'):XO P ⟨d,.mapUpdate t x y v,ty,pS,af,gd⟩ f w K:=by
 obtain⟨w',G,H,I⟩:=zS (P:=P) (t:=t) (k:=k) (u:=ev f v) h;exact xk (w':=w') (by simp[execOp,hx,E,G]) (hK w' H I)
theorem X9 [hm:Mp P t kt et z]{enc:κ->O2}[hk:Key P kt enc]{x v:O3}{m:List (κ×O2)}{k:κ}(h:Yk enc w.heap b m)(hx:ev f x=.map (some b))(E:ev f y=enc k)
  (hK:∀w',O5 [b] w w'->Yk enc w'.heap b (xh m k (ev f v))->K (QW f d undef) w'):XO P ⟨d,.insert t x y v,ty,pS,af,gd⟩ f w K:=by
 obtain⟨w',G,H,I⟩:=zS (P:=P) (t:=t) (k:=k) (u:=ev f v) h;exact xk (w':=w') (by simp[execOp,hx,E,G]) (hK w' H I)
end
section
def eqV:O2->O2->Bool
 | .int _ a,.int _ b=>a == b
 | .string a,.string b=>a == b
 | .bool a,.bool b=>a == b
 | _,_=>false
def tvB:LN->LV->LV->Bool
 | [],[],[]=>true
 | 0::ks,oF oG _::xs,oF oG _::ys=>tvB ks xs ys
 | 1::ks,.string _::xs,.string _::ys=>tvB ks xs ys
 | 2::ks,.bool _::xs,.bool _::ys=>tvB ks xs ys
 | _,_,_=>false
def KN:LV->LV->Bool
 | x::xs,y::ys=>eqV x y && KN xs ys
 | _,_=>true
inductive Fks (P:O4):Nat->List Field->LN->Prop
 | nil {o:Nat}:Fks P o [] []
 | int {o:Nat} {f:Field} {fs:List Field} {ks:LN} (hn:f.name ≠ "_") (ho:f.offset=o) (hu:P.underlying f.type=some (.int .i64)) (h:Fks P (o+1) fs ks):Fks P o (f::fs) (0::ks)
 | str {o:Nat} {f:Field} {fs:List Field} {ks:LN} (hn:f.name ≠ "_") (ho:f.offset=o) (hu:P.underlying f.type=some .string) (h:Fks P (o+1) fs ks):Fks P o (f::fs) (1::ks)
 | flag {o:Nat} {f:Field} {fs:List Field} {ks:LN} (hn:f.name ≠ "_") (ho:f.offset=o) (hu:P.underlying f.type=some .bool) (h:Fks P (o+1) fs ks):Fks P o (f::fs) (2::ks)
theorem zn {k:Nat}{v:O2}{l:LV}(h:∀w,(isAgg t).run P w=.ok false w)(E:l[k]?=some v)(w:O1):(part t l.toArray k).run P w=.ok v w:=by
 have e:l.toArray[k]?=some v:=by simpa using E
 simp[part,h w,e]
theorem yD {d:Nat}{f:Field}{fs:List Field}{x y:O2}{xs ys X Y:LV}(I:f.name ≠ "_") (J:f.offset=o) (E:∀w,(isAgg f.type).run P w=.ok false w) (O:∀m w,(Op.equalIn (m+1) f.type x y).run P w=.ok (eqV x y) w)
  (G:X.drop o=x::xs) (H:Y.drop o=y::ys) (ih:X.drop (o+1)=xs->Y.drop (o+1)=ys->∀w,(Op.eqFields (d+1) X.toArray Y.toArray fs).run P w=.ok (KN xs ys) w) (w:O1):
  (Op.eqFields (d+1) X.toArray Y.toArray (f::fs)).run P w=.ok (KN (x::xs) (y::ys)) w:=by
 have hx:X[o]?=some x:=by rw[<-List.head?_drop,G];rfl
 have S:Y[o]?=some y:=by rw[<-List.head?_drop,H];rfl
 have T:X.drop (o+1)=xs:=by rw[<-List.tail_drop,G];rfl
 have V:Y.drop (o+1)=ys:=by rw[<-List.tail_drop,H];rfl
 simp only[Op.eqFields,I,ne_eq,not_false_eq_true,if_true,Sem.run_bind,J,zn E hx,zn E S,O,Result.andThen_ok,Sem.run_ite,KN];cases hv:eqV x y with
 | false=>simp
 | true=>simpa using ih T V w
theorem Fks.run {d:Nat}{o:Nat}{fs:List Field}{ks:LN}(h:Fks P o fs ks):∀{xs ys X Y:LV},tvB ks xs ys=true->X.drop o=xs->Y.drop o=ys->∀w,(Op.eqFields (d+1) X.toArray Y.toArray fs).run P w=.ok (KN xs ys) w:=by
 induction h with
 | nil =>
  intro xs ys X Y E _ _ w;cases xs with
  | nil=>simp[Op.eqFields,KN]
  | cons x xs=>cases ys <;> simp[tvB]at E
 | @int o f fs ks H I G h ih =>
  intro xs ys X Y E J O w
  match xs,ys,E with
  | oF oG a::xs,oF oG b::ys,E=>exact yD H I (λw=>by simp[isAgg,run_underlying G]) (λm w=>by simp[Op.equalIn,run_underlying G,eqV]) J O (λS T=>ih E S T) w
 | @str o f fs ks H I G h ih =>
  intro xs ys X Y E J O w
  match xs,ys,E with
  | .string a::xs,.string b::ys,E=>exact yD H I (λw=>by simp[isAgg,run_underlying G]) (λm w=>by simp[Op.equalIn,run_underlying G,eqV]) J O (λS T=>ih E S T) w
 | @flag o f fs ks H I G h ih =>
  intro xs ys X Y E J O w
  match xs,ys,E with
  | .bool a::xs,.bool b::ys,E=>exact yD H I (λw=>by simp[isAgg,run_underlying G]) (λm w=>by simp[Op.equalIn,run_underlying G,eqV]) J O (λS T=>ih E S T) w
class Sk (P:O4)(t:Nat)(ks:outParam (LN)):Prop where
 u:∃fs:List Field,P.underlying t=some (.struct fs.toArray)/\Fks P 0 fs ks
 s:P.stoodInHeld t=false
 g:P.eqGuardType P.depth t=false
theorem KC {ks:LN}[h:Sk P t ks]{xs ys:LV}(I:tvB ks xs ys=true)(w:O1):(Op.equal t (.agg xs.toArray) (.agg ys.toArray)).run P w=.ok (KN xs ys) w:=by
 obtain⟨fs,E,J⟩:=h.u;have G:P.fieldsOf t=fs.toArray:=by unfold Program.fieldsOf;rw[E]
 have O:P.underlying t=some (.struct (P.fieldsOf t)):=by rw[G];exact E
 have H:=run_equalIn_struct (P:=P) w 9999 t xs.toArray ys.toArray O h.s;rw[G]at H;exact H.D (J.run (d:=9998) I U U w)
variable {f:Fr}{pS:String}
theorem Qh0 {ks:LN}[h:Sk P t ks]{x:O3}{xs ys:LV}(G:tvB ks xs ys=true)(hx:ev f x=.agg xs.toArray)(H:ev f y=.agg ys.toArray):
  (execOp (ev f) ⟨d,.binOp .eql t x y E,ty,pS,af,gd⟩).run P w=.ok (.value (.bool (KN xs ys))) w:=by
 have I:(eqGuard .eql t x y (.agg xs.toArray) (.agg ys.toArray)).run P w=.ok () w:=by simp[eqGuard,h.g]
 simp only[execOp,hx,H,Sem.run_bind,I,Result.andThen_ok,binOp,KC G,Sem.run_pure]
theorem Va {ks:LN}[h:Sk P t ks]{x:O3}{xs ys:LV}(G:tvB ks xs ys=true)(hx:ev f x=.agg xs.toArray)(H:ev f y=.agg ys.toArray):
  (execOp (ev f) ⟨d,.binOp .neq t x y E,ty,pS,af,gd⟩).run P w=.ok (.value (.bool (!KN xs ys))) w:=by
 have I:(eqGuard .neq t x y (.agg xs.toArray) (.agg ys.toArray)).run P w=.ok () w:=by simp[eqGuard,h.g]
 simp only[execOp,hx,H,Sem.run_bind,I,Result.andThen_ok,binOp,KC G,Sem.run_pure]
end
abbrev kKy (k:Int×ByteArray):O2:=.agg #[oF oG k.1,.string k.2]
theorem QlF (k k':Int×ByteArray):KN [oF oG k.1,.string k.2] [oF oG k'.1,.string k'.2]=decide (k=k'):=by
 obtain⟨a,b⟩:=k;obtain⟨c,e⟩:=k';have E:(b == e)=decide (b=e):=by
  cases E:(b == e)with
  | true=>exact(OX ((MapKept.bytes_beq b e).1 E)).symm
  | false=>exact(OZ λh=>by rw[(MapKept.bytes_beq b e).2 h]at E;cases E).symm
 simp only[KN,eqV,E,Bool.and_true,Prod.mk.injEq];by_cases G:a=c
 ·subst G;simp
 simp[G]
theorem Qn7 {f0 f1:Field}[h:Sk P kt [0,1]](G:P.underlying kt=some (.struct #[f0,f1]))(T:f0.name ≠ "_") (n1:f1.name ≠ "_") (V:f0.offset=0) (o1:f1.offset=1) (H:P.underlying f0.type=some (.int .i64)) (I:P.underlying f1.type=some .string):Key P kt kKy:=by
 have Y:∀w,(isAgg f0.type).run P w=.ok false w:=λw=>by simp[isAgg,run_underlying H]
 have ha:∀w,(isAgg f1.type).run P w=.ok false w:=λw=>by simp[isAgg,run_underlying I]
 refine⟨λw em k=>?_,λw k ks es J=>?_,λk=>?_⟩
 ·obtain⟨a,b⟩:=k;have p0:∀w,(part f0.type #[oF oG a,.string b] 0).run P w=.ok (oF oG a) w:=λw=>zn (l:=[oF oG a,.string b]) (k:=0) Y U w;have p1:∀w,(part f1.type #[oF oG a,.string b] 1).run P w=.ok (.string b) w:=λw=>zn (l:=[oF oG a,.string b]) (k:=1) ha U w;have c0:∀(m:Nat) (w:O1),(Instr.checkKey em (m+1) f0.type (oF oG a)).run P w=.ok () w:=λm w=>by simp[Instr.checkKey,run_underlying H]
  have c1:∀(m:Nat) (w:O1),(Instr.checkKey em (m+1) f1.type (.string b)).run P w=.ok () w:=λm w=>by simp[Instr.checkKey,run_underlying I]
  simp only[kKy];unfold Instr.checkKey;simp only[Sem.run_bind,run_underlying G,Result.andThen_ok];simp[T,n1,V,o1,p0,p1,c0,c1]
 ·have ask:∀(ks:List (Int×ByteArray)) (es:List MapEntry) (i:Nat),es.map (·.key)=ks.map kKy->(Instr.findAsking kt (kKy k) es i).run P w=.ok (fnd k ks es i) w:=by
   intro ks;induction ks with
   | nil=>intro es i h;simp at h;subst h;simp[Instr.findAsking,fnd]
   | cons q ks ih =>
    intro es i E;cases es with
    | nil=>simp at E
    | cons e es =>
     simp only[oX,List.cons.injEq]at E;have hb:=ih es (i+1) E.2;have O:=KC (P:=P) (t:=kt) (xs:=[oF oG k.1,.string k.2]) (ys:=[oF oG q.1,.string q.2]) U w;rw[QlF]at O;have hc:(Op.equal kt (kKy k) (kKy q)).run P w=.ok (decide (k=q)) w:=O;simp only[Instr.findAsking,E.1,Sem.run_bind,hc,Result.andThen_ok,fnd];by_cases S:k=q
     ·subst S;simp
     simp[S,hb]
  cases es with
  | nil =>
   have:ks=[]:=by simpa using J.symm
   subst this;simp[Instr.findKey,run_underlying G,Instr.findNow,fnd]
  | cons e es =>
   have hn:Instr.findNow (.struct #[f0,f1]) (kKy k) (e::es) 0=none:=by simp[Instr.findNow,Instr.sameNow]
   simp only[Instr.findKey,Sem.run_bind,run_underlying G,Result.andThen_ok,hn];exact ask ks (e::es) 0 J
 simp[Instr.sameBits,(MapKept.bytes_beq k.2 k.2).2 rfl]
section
variable {K:Fr->O1->Prop}{f:Fr}{pS:String}{l:xE}
theorem XX {cs cs':LV}(h:Zb w.heap b T cs):Zb (w.setRow b cs'.toArray).heap b T cs':=setRow_heap w b cs.toArray cs'.toArray T (0,0) h
theorem y0 (cs:LV)(j:Nat)(u:O2)(h:j<cs.length):cs.take j++[u]++cs.drop (j+1)=cs.set j u:=by
 rw[List.set_eq_take_append_cons_drop,OU h];simp
theorem QB [h1:X6 P t]{x:O3}{cs:LV}{u:O2}(E:Zb w.heap b T cs)(hx:ev f x=.pointer (some ⟨b,j,none⟩))(J:ev f y=u)(O:j<cs.length)(G:u.oneCell'=true)
  (hK:∀w',O5 [b] w w'->Zb w'.heap b T (cs.set j u)->K (QW f d undef) w'):XO P ⟨d,.store t x y,ty,pS,af,gd⟩ f w K:=by
 have S:u.cells=#[u]:=by cases u <;> first|rfl|cases G
 have I:=run_storeCells_at P b j T [u] 0 cs.toArray w E (by simp;omega) (by simp[G]);simp only[OC,oO,y0 cs j u O]at I;refine xk (w':=w.setRow b (cs.set j u).toArray) ?_ (hK _ (O5.setRow _ _ _) (XX E));simp[execOp,hx,J,Instr.storeAt,Instr.sureAddr,storeVar,Qdg,S,I]
def Zr:LV->Prop
 | []=>True
 | u::us=>u.oneCell'=true/\Zr us
theorem Zr.all:∀{us:LV},Zr us->∀u∈us,u.oneCell'=true
 | [],_,u,E=>by cases E
 | v::us,h,u,E=>by
  rcases Li.1 E with rfl|E
  ·exact h.1
  exact Zr.all h.2 u E
theorem Qj [h1:Ag P t sz]{x:O3}{cs us:LV}(E:Zb w.heap b T cs)(hx:ev f x=.pointer (some ⟨b,0,none⟩))(I:ev f y=.agg us.toArray)(hl:us.length=sz)(J:cs.length=sz)(O:Zr us)
  (hK:∀w',O5 [b] w w'->Zb w'.heap b T us->K (QW f d undef) w'):XO P ⟨d,.store t x y,ty,pS,af,gd⟩ f w K:=by
 have G:=run_storeCells_at P b 0 T us 0 cs.toArray w E (by simp;omega) O.all;have e:(cs.take 0++us++cs.drop us.length)=us:=by rw[hl,<-J];simp
 simp only[OC,oY,e]at G;refine xk (w':=w.setRow b us.toArray) ?_ (hK _ (O5.setRow _ _ _) (XX E));subst hl;simp[execOp,hx,I,Instr.storeAt,Instr.sureAddr,storeVar,UZ (sz:=us.length),Value.cells,G]
theorem Zu {x:O3}{e bys:Nat}[h:Sl P t e sz bys z]{c:Nat}{k:IntKind}(hx:ev f x=.slice (some ⟨b,o,none⟩) n c)(E:ev f y=.int k i)(G:i<n):
  (execOp (ev f) ⟨d,.indexAddr t x y,ty,pS,af,gd⟩).run P w=.ok (.value (.pointer (some ⟨b,o+i*sz,none⟩))) w:=by
 have:=Xm (P:=P) (w:=w) (d:=d) (ty:=ty) (pS:=pS) (af:=af) (gd:=gd) (t:=t) hx E oa oa;rw[Km]at this;simpa using this
theorem Qlq {e bys:Nat}[h:Sl P t e sz bys z]{x:O3}{k:IntKind}(hx:ev f x=.int k n)(J:ev f y=.int k' n)(O:bys*n<=281474976710656)(hn:n<=1099511627776)
  (hK:∀b w',O5 [] w w'->w.heap.size<=b->Zb w'.heap b e (oN n z.cells.toList).flatten->K (QW f d (.slice (some ⟨b,0,none⟩) n n)) w'):
  XO P ⟨d,.makeSlice t x y,ty,pS,af,gd⟩ f w K:=by
 obtain⟨i,hi,S,T,V⟩:=Sl.info h;have hb:i.bytes*n<=281474976710656:=by rw[V];exact O
 have Y:(i.bytes:Int)*(n:Int)<=281474976710656:=by
  have h:((i.bytes*n:Nat):Int)<=281474976710656:=oa
  rwa [Int.natCast_mul]at h
 have G:=run_make (P:=P) w t e i z h.u hi S k k' n n oa (NI _) Y oa;simp only[Ot]at G;have ha:madeCells z.cells (n*i.size)=(oN n z.cells.toList).flatten.toArray:=by
  have hc:z.cells.size=i.size:=by rw[h.zs,T]
  apply Array.ext';apply M2;intro j;simp only[madeCells,<-hc,Array.toList_map,Array.toList_range,List.getElem?_map];have he:∀n,(oN n z.cells.toList).flatten.length=n*z.cells.size:=λn=>oe
  have key:∀n j,j<n*z.cells.size->(oN n z.cells.toList).flatten[j]?=some z.cells[j % z.cells.size]!:=by
   intro n;induction n with
   | zero=>intro j E;omega
   | succ n ih =>
    intro j E;rw[List.replicate_succ,List.flatten_cons];by_cases I:j<z.cells.size
    ·rw[Mn (oz I),M9 I];simp[I]
    rw[ML (by simp;omega)];have:=ih (j - z.cells.size) (by rw[Ms]at E;omega);rw[Array.length_toList,this];rw[<-Nat.mod_eq_sub_mod oa]
  by_cases E:j<n*z.cells.size
  ·rw[key n j E];simp[E]
  rw[MS (oz (OJ E)),List.getElem?_eq_none (by rw[he];omega)];rfl
 rw[ha]at G;refine xv (w':=w.alloc (.cells (oN n z.cells.toList).flatten.toArray e)) (v:=.slice (some ⟨w.heap.size,0,none⟩) n n) ?_ (hK _ _ (O5.alloc w _) (Lu _) (Kg w _));simp[execOp,hx,J,G]
theorem qa {e bys:Nat}[h:Sl P t e sz bys z]{x:O3}{k:IntKind}(hx:ev f x=.int k n)(G:ev f y=.int k' n)(E:n<=1099511627776)
  (hK:∀b w',O5 [] w w'->w.heap.size<=b->Zb w'.heap b e (oN n z.cells.toList).flatten->K (QW f d (.slice (some ⟨b,0,none⟩) n n)) w') (I:bys<=128:=by decide):
  XO P ⟨d,.makeSlice t x y,ty,pS,af,gd⟩ f w K:=Qlq hx G (LJ (Nat.mul_le_mul I E) oa) E hK
theorem ZM {k:IntKind}{y:Nat}{c:BoundsCode}(h:i<=y):(Instr.sliceBound (.int k i) y c).run P w=.ok i w:=by
 simp[Instr.sliceBound,asIntOf,h]
theorem Zn.cut {L:LN}{a:Addr}{cs:LV}(h:Zn L H (.slice (some a) n cap) n sz cs)(S:lo<=hi)(T:hi<=n):
  Zn L H (.slice (if cap=lo then some a else some (a.add (lo*sz))) (hi - lo) (cap - lo)) (hi - lo) sz ((cs.drop (lo*sz)).take ((hi - lo)*sz)):=by
 obtain⟨J,V,O⟩:=h;rcases O with⟨G,_⟩|⟨a',cap',G,Y,I⟩
 ·cases G
 cases G
 refine⟨?_,oa,.inr ?_⟩
 ·simp only[Oa,o6,J,<-Nat.sub_mul];rw[Mj];exact LY _ oa
 split
 ·rename_i hc;have:hi - lo=0:=oa
  refine⟨a,cap - lo,by rw[this],oa,λu E=>?_,λu E=>?_,λj u E=>?_⟩
  ·simp[this]at E
  ·simp[this]at E
  simp[this]at E
 refine⟨a.add (lo*sz),cap - lo,U,oa,λu E=>by rw[YE];exact I.out u (L6 (LX E)),λu E=>by rw[YE];exact I.lt u (L6 (LX E)),λj u E=>?_⟩;rw[Addr.add_add];rw[LU]at E;split at E
 ·exact I.cell _ u (oz E)
 cases E
theorem Qlh {e bys:Nat}[h:Sl P t e sz bys z]{x y1 y2:O3}{L:LN}{v:O2}{cs:LV}{k:IntKind}(G:Zn L H v n sz cs)(hx:ev f x=v)(hl:ev f y1=.int k lo)(I:ev f y2=.int k' hi)
  (O:lo<=hi) (S:hi<=n):∃v',Zn L H v' (hi - lo) sz ((cs.drop (lo*sz)).take ((hi - lo)*sz))/\∀w,(execOp (ev f) ⟨d,.slice t x (some y1) (some y2) none,ty,pS,af,gd⟩).run P w=.ok (.value v') w:=by
 obtain⟨i,J,_,T,_⟩:=Sl.info h;rcases G.2.2 with⟨E,V⟩|⟨a,cap,E,Y,ha⟩
 ·have e1:hi=0:=oa
  have e2:lo=0:=oa
  subst e1 e2;refine⟨nS,⟨oe,oa,.inl ⟨rfl,rfl⟩⟩,λw=>?_⟩;simp[execOp,hx,E,hl,I,Instr.sliceAt,Instr.slice,run_underlying h.u,Instr.sliceBounds,Instr.sliceBound,asIntOf,sizeOf,typeInfo,J]
 subst E;refine⟨_,G.cut O S,λw=>?_⟩;have e1:(Instr.sliceBound (.int k' hi) cap .sliceAcap).run P w=.ok hi w:=ZM oa;have e2:(Instr.sliceBound (.int k lo) hi .sliceB).run P w=.ok lo w:=ZM oa;simp[execOp,hx,hl,I,Instr.sliceAt,Instr.slice,run_underlying h.u,Instr.sliceBounds,e1,e2,sizeOf,typeInfo,J,T]
theorem QbN {e bys:Nat}[h:Sl P t e sz bys z]{x y1:O3}{L:LN}{v:O2}{cs:LV}{k:IntKind}(E:Zn L H v n sz cs)(hx:ev f x=v)(hl:ev f y1=.int k lo)
  (I:lo<=n):∃v',Zn L H v' (n - lo) sz (cs.drop (lo*sz))/\∀w,(execOp (ev f) ⟨d,.slice t x (some y1) none none,ty,pS,af,gd⟩).run P w=.ok (.value v') w:=by
 obtain⟨i,J,_,S,_⟩:=Sl.info h;rcases E.2.2 with⟨G,T⟩|⟨a,cap,G,V,Y⟩
 ·have e2:lo=0:=oa
  subst e2 T;have:cs=[]:=Lp (oz E.1);subst this;refine⟨nS,⟨oe,oa,.inl ⟨rfl,rfl⟩⟩,λw=>?_⟩;simp[execOp,hx,G,hl,Instr.sliceAt,Instr.slice,run_underlying h.u,Instr.sliceBounds,Instr.sliceBound,asIntOf,sizeOf,typeInfo,J]
 subst G;have O:=E.cut I (Lu n);have e:(cs.drop (lo*sz)).take ((n - lo)*sz)=cs.drop (lo*sz):=Lt (by rw[LT,E.1,<-Nat.sub_mul];exact Lu _);rw[e]at O;refine⟨_,O,λw=>?_⟩;have e2:(Instr.sliceBound (.int k lo) n .sliceB).run P w=.ok lo w:=ZM I;simp[execOp,hx,hl,Instr.sliceAt,Instr.slice,run_underlying h.u,Instr.sliceBounds,e2,sizeOf,typeInfo,J,S]
theorem QbO {e bys:Nat}[h:Sl P t e sz bys z]{x y2:O3}{L:LN}{v:O2}{cs:LV}{k:IntKind}(G:Zn L H v n sz cs)(hx:ev f x=v)(I:ev f y2=.int k hi)
  (S:hi<=n):∃v',Zn L H v' hi sz (cs.take (hi*sz))/\∀w,(execOp (ev f) ⟨d,.slice t x none (some y2) none,ty,pS,af,gd⟩).run P w=.ok (.value v') w:=by
 obtain⟨i,J,_,T,_⟩:=Sl.info h;rcases G.2.2 with⟨E,V⟩|⟨a,cap,E,Y,ha⟩
 ·have e2:hi=0:=oa
  subst e2;refine⟨nS,⟨oe,oa,.inl ⟨rfl,rfl⟩⟩,λw=>?_⟩;simp[execOp,hx,E,I,Instr.sliceAt,Instr.slice,run_underlying h.u,Instr.sliceBounds,Instr.sliceBound,asIntOf,sizeOf,typeInfo,J]
 subst E;have O:=G.cut (Ln hi) S;simp only[OP,List.drop_zero,OI]at O;refine⟨_,O,λw=>?_⟩;have e2:(Instr.sliceBound (.int k hi) cap .sliceAcap).run P w=.ok hi w:=ZM oa;simp[execOp,hx,I,Instr.sliceAt,Instr.slice,run_underlying h.u,Instr.sliceBounds,e2,sizeOf,typeInfo,J]
end
section
variable {K:Fr->O1->Prop}{C:xA}{f:Fr}{w0:O1}{pS:String}{pl:xu}{i0:Nat}
theorem pi {x:O3}{e bys:Nat}[Sl P t e sz bys z]{L:LN}{cs:LV}{v:O2}{k:IntKind}
  (E:QV ops i0=⟨d,.indexAddr t x y,ty,pS,af,gd⟩) (h:Zn L H v n sz cs) (G:ev f x=v) (I:ev f y=.int k i) (hi:i<n)
  (hK:∀a,At L H a ((cs.drop (i*sz)).take sz)->XP P ops C K pl (QW f d (.pointer (some a))) w) (J:Yb ops f (QV ops i0)=true:=by rfl):
  XP P ops C K ((i0,true)::pl) f w:=by
 obtain⟨a,cap,O,S⟩:=h.at hi;refine Lg.p (λw'=>by rw[E];exact Xm (G.D O) I oa oa) ?_ J;rw[E];refine hK _ ?_;simpa using S
theorem pii {x:O3}{e bys:Nat}[Sl P t e 1 bys z]{L:LN}{li:LI}{v:O2}{k:IntKind}
  (E:QV ops i0=⟨d,.indexAddr t x y,ty,pS,af,gd⟩) (h:QQ L H v li) (G:ev f x=v) (I:ev f y=.int k i) (hi:i<li.length)
  (hK:∀a,At L H a [oF oG li[i]]->XP P ops C K pl (QW f d (.pointer (some a))) w) (J:Yb ops f (QV ops i0)=true:=by rfl):
  XP P ops C K ((i0,true)::pl) f w:=by
 obtain⟨a,cap,O,S⟩:=QQ.at h hi;refine Lg.p (λw'=>by rw[E];exact Xm (G.D O) I oa oa) ?_ J;rw[E];refine hK _ ?_;simpa using S
end
abbrev Ed:=Int×Int×Int
def QF (e:Ed):LV:=[oF oG e.1,oF oG e.2.1,oF oG e.2.2]
abbrev zg (L:LN)(H:xC)(v:O2)(es:List Ed):Prop:=Zn L H v es.length 3 (es.flatMap QF)
theorem XH {α:Type}(g:α->LV)(sz:Nat)(E:∀x,(g x).length=sz):∀(l:List α) (i:Nat) (h:i<l.length),((l.flatMap g).drop (i*sz)).take sz=g l[i]
 | x::l,0,_=>by simp[E]
 | x::l,i+1,h=>by
  have:=XH g sz E l i (oz h);simp only[Oe,List.getElem_cons_succ];rw[<-this,Ms,NP,Nb,List.drop_append,E];simp[Nat.add_sub_cancel_left,List.drop_eq_nil_of_le,E]
theorem Y5 (g:α->LV)(sz:Nat)(E:∀x,(g x).length=sz)(l:List α):(l.flatMap g).length=l.length*sz:=by
 induction l with
 | nil=>simp
 | cons x l ih=>simp[ih,E,Oo,Nat.add_comm]
theorem J4 (e:Ed):(QF e).length=3:=rfl
structure Q9 where
 al:LI
 st:Int
 mr:LI
 ed:List Ed
structure ZH (L:LN)(H:xC)(va vm ve:O2)(a:Q9):Prop where
 al:QQ L H va a.al
 mr:QQ L H vm a.mr
 ed:zg L H ve a.ed
def Qrs (L:LN)(H:xC)(v:O2)(a:Q9):Prop:=∃va vm ve,v=.agg #[va,oF oG a.st,vm,ve]/\ZH L H va vm ve a
theorem ZH.I {L:LN}{w w':O1}{va vm ve:O2}{a:Q9}(h:ZH L w.heap va vm ve a)(E:O5 [] w w'):ZH L w'.heap va vm ve a:=⟨h.al.I E,h.mr.I E,h.ed.I E⟩
theorem ZH.st {L:LN}{w w':O1}{va vm ve:O2}{a:Q9}(h:ZH L w.heap va vm ve a)(E:O5 L w w'):ZH L w'.heap va vm ve a:=⟨h.al.st E,h.mr.st E,h.ed.st E⟩
theorem ZH.up {L L':LN}{H:xC}{va vm ve:O2}{a:Q9}(h:ZH L H va vm ve a)(E:∀b∈L',b∈L\/H.size<=b):ZH L' H va vm ve a:=⟨h.al.up E,h.mr.up E,h.ed.up E⟩
section
variable {f:Fr}{pS:String}
class Ik (P:O4)(t:Nat)(k:outParam IntKind):Prop where
 u:P.underlying t=some (.int k)
theorem Z3 {k:IntKind}[h:Ik P t k][h':Ik P E k']{x:O3}{n:Int}{G:IntKind}(hx:ev f x=.int G n)(I:inK k' n):
  (execOp (ev f) ⟨d,.convert t E x,ty,pS,af,gd⟩).run P w=.ok (.value (.int k' n)) w:=by
 simp[execOp,hx,convert,run_underlying h.u,run_underlying h'.u,Conv.intToInt,YJ I]
class St (P:O4)(t:Nat):Prop where
 u:P.underlying t=some .string
end
theorem Zg {l:List α}{k:Nat}(h:k<l.length):l.drop k=l[k]::l.drop (k+1):=LE h
theorem zg.at {L:LN}{H:xC}{v:O2}{es:List Ed}(h:zg L H v es){i:Nat}(hi:i<es.length):
  ∃a cap,v=.slice (some a) es.length cap/\At L H (a.add (i*3)) (QF es[i]):=by
 obtain⟨a,cap,G,E⟩:=Zn.at h hi;rw[XH QF 3 J4 es i hi]at E;exact⟨a,cap,G,E⟩
section
variable {K:Fr->O1->Prop}{f:Fr}{pS:String}{l:xE}{C:xA}{pl:xu}{i0:Nat}
theorem xie {x:O3}{e bys:Nat}[Sl P t e 3 bys z]{L:LN}{es:List Ed}{v:O2}{k:IntKind}
  (h:zg L w.heap v es) (E:ev f x=v) (G:ev f y=.int k i) (hi:i<es.length)
  (hK:∀a,At L w.heap a (QF es[i])->XL P ops K l (QW f d (.pointer (some a))) w) (I:Yb ops f ⟨d,.indexAddr t x y,ty,pS,af,gd⟩=true:=by rfl):
  XL P ops K (⟨d,.indexAddr t x y,ty,pS,af,gd⟩::l) f w:=by
 obtain⟨a,cap,J,O⟩:=zg.at h hi;refine xl I (xv (Xm (E.D J) G oa oa) (hK _ ?_));simpa using O
theorem pie {x:O3}{e bys:Nat}[Sl P t e 3 bys z]{L:LN}{es:List Ed}{v:O2}{k:IntKind}
  (E:QV ops i0=⟨d,.indexAddr t x y,ty,pS,af,gd⟩) (h:zg L H v es) (G:ev f x=v) (I:ev f y=.int k i) (hi:i<es.length)
  (hK:∀a,At L H a (QF es[i])->XP P ops C K pl (QW f d (.pointer (some a))) w) (J:Yb ops f (QV ops i0)=true:=by rfl):
  XP P ops C K ((i0,true)::pl) f w:=by
 obtain⟨a,cap,O,S⟩:=zg.at h hi;refine Lg.p (λw'=>by rw[E];exact Xm (G.D O) I oa oa) ?_ J;rw[E];refine hK _ ?_;simpa using S
end
section
variable {f:Fr}{pS:String}
theorem jD {x:O3}{k:IntKind}{a:Int}(hx:ev f x=.int k a)(G:ev f y=.int k' n)(I:n<=k.bits):
  (execOp (ev f) ⟨d,.binOp .shr t x y E,ty,pS,af,gd⟩).run P w=.ok (.value (.int k (a / 2 ^ n))) w:=by
 refine Ji hx G ?_;have J:¬((n:Int)<0):=oa
 simp only[binOp,Op.shift,J,if_false,Ot,Nat.min_eq_left I,Sem.run_pure];rw[Int.fdiv_eq_ediv_of_nonneg _ (Int.le_of_lt (Int.pow_pos og))]
class S3 (P:O4)(t:Nat):Prop where
 u:∃f0 f1 f2,P.underlying t=some (.struct #[f0,f1,f2])/\f0.name ≠ "_" /\ f1.name ≠ "_" /\ f2.name ≠ "_" /\ f0.offset=0/\f1.offset=1/\f2.offset=2 /\
  P.underlying f0.type=some (.int .i64)/\P.underlying f1.type=some (.int .i64)/\P.underlying f2.type=some (.int .i64)
 s:P.stoodInHeld t=false
 g:P.eqGuardType P.depth t=false
theorem Up [h:S3 P t](w:O1)(p q:Ed):(Op.equal t (.agg (QF p).toArray) (.agg (QF q).toArray)).run P w=.ok (decide (p=q)) w:=by
 obtain⟨a,b,c⟩:=p;obtain⟨V,Y,c'⟩:=q;obtain⟨f0,f1,f2,hu,O,n1,n2,S,o1,o2,I,J,u2⟩:=h.u;have ha:∀e w,P.underlying e=some (.int .i64)->(isAgg e).run P w=.ok false w:=λe w E=>by simp[isAgg,run_underlying E]
 have T:∀e (x y z:Int) (w:O1),P.underlying e=some (.int .i64)->(part e #[oF oG x,oF oG y,oF oG z] 0).run P w=.ok (oF oG x) w:=λe x y z w E=>by simp[part,ha e w E]
 have hb:∀e (x y z:Int) (w:O1),P.underlying e=some (.int .i64)->(part e #[oF oG x,oF oG y,oF oG z] 1).run P w=.ok (oF oG y) w:=λe x y z w E=>by simp[part,ha e w E]
 have hc:∀e (x y z:Int) (w:O1),P.underlying e=some (.int .i64)->(part e #[oF oG x,oF oG y,oF oG z] 2).run P w=.ok (oF oG z) w:=λe x y z w E=>by simp[part,ha e w E]
 have G:∀e (m:Nat) (x y:Int) (w:O1),P.underlying e=some (.int .i64)->(Op.equalIn (m+1) e (oF oG x) (oF oG y)).run P w=.ok (x == y) w:=λe m x y w E=>by simp[Op.equalIn,run_underlying E]
 have key:∀m,(Op.equalIn (m+2) t (.agg (QF (a,b,c)).toArray) (.agg (QF (V,Y,c')).toArray)).run P w=.ok (decide ((a,b,c)=(V,Y,c'))) w:=by
  intro m;simp only[QF];unfold Op.equalIn;simp only[Sem.run_bind,run_underlying hu,Result.andThen_ok];by_cases e1:a=V
  ·subst e1;by_cases e2:b=Y
   ·subst e2;by_cases e3:c=c'
    ·subst e3;simp[h.s,O,n1,n2,S,o1,o2,T _ _ _ _ _ I,hb _ _ _ _ _ J,hc _ _ _ _ _ u2,G _ _ _ _ _ I,G _ _ _ _ _ J,G _ _ _ _ _ u2]
    simp[h.s,O,n1,n2,S,o1,o2,T _ _ _ _ _ I,hb _ _ _ _ _ J,hc _ _ _ _ _ u2,G _ _ _ _ _ I,G _ _ _ _ _ J,G _ _ _ _ _ u2,e3]
   simp[h.s,O,n1,S,o1,T _ _ _ _ _ I,hb _ _ _ _ _ J,G _ _ _ _ _ I,G _ _ _ _ _ J,e2]
  simp[h.s,O,S,T _ _ _ _ _ I,G _ _ _ _ _ I,e1]
 exact key 9998
theorem Ur [h:S3 P t]{x:O3}{p q:Ed}(hx:ev f x=.agg (QF p).toArray)(G:ev f y=.agg (QF q).toArray):
  (execOp (ev f) ⟨d,.binOp .neq t x y E,ty,pS,af,gd⟩).run P w=.ok (.value (.bool (decide (¬p=q)))) w:=by
 have I:(eqGuard .neq t x y (.agg (QF p).toArray) (.agg (QF q).toArray)).run P w=.ok () w:=by simp[eqGuard,h.g]
 simp only[execOp,hx,G,Sem.run_bind,I,Result.andThen_ok,binOp,Up,Sem.run_pure];by_cases e:p=q <;> simp[e]
end
theorem O5.O {L:LN}{w0:O1}(h:O5 L w0 w)(k:O5 [b] w w')(G:w0.heap.size<=b):O5 L w0 w':=h.then k (λc E=>.inr (by simp at E;omega))
section
variable {K:Fr->O1->Prop}{f:Fr}{pS:String}
theorem XB {e bys:Nat}[h:Sl P t e sz bys z]{x:O3}{a:Option Addr}{c:Nat}(hx:ev f x=.slice a n c)(G:ev f y=nS):
  (execOp (ev f) ⟨d,.binOp .eql t x y E,ty,pS,af,gd⟩).run P w=.ok (.value (.bool a.isNone)) w:=by
 have I:(eqGuard .eql t x y (.slice a n c) (nS)).run P w=.ok () w:=by simp[eqGuard]
 have key:∀m,(Op.equalIn (m+1) t (.slice a n c) (nS)).run P w=.ok a.isNone w:=by
  intro m;unfold Op.equalIn;cases a <;> simp[run_underlying h.u]
 have J:(Op.equal t (.slice a n c) (nS)).run P w=.ok a.isNone w:=key 9999;simp only[execOp,hx,G,Sem.run_bind,I,Result.andThen_ok,binOp,J,Sem.run_pure]
theorem XG {e bys:Nat}[h:Sl P t e sz bys z]
  (hK:∀b w',O5 [] w w'->w.heap.size<=b->Zb w'.heap b e []->K (QW f d (.slice (some ⟨b,0,none⟩) 0 0)) w'):XO P ⟨d,.buildSlice t 0 #[],ty,pS,af,gd⟩ f w K:=by
 obtain⟨ie,E,I,J,_⟩:=Sl.info h;have G:(execOp (ev f) ⟨d,.buildSlice t 0 #[],ty,pS,af,gd⟩).run P w=.ok (.value (.slice (some ⟨w.heap.size,0,none⟩) 0 0)) (w.alloc (.cells #[] e)):=by
  simp[execOp,Instr.buildSlice,run_underlying h.u,sizeOf,typeInfo,E,Instr.fill,newRow];have e0:Array.map (λ_=>(default:O2)) (Array.range 0)=#[]:=by apply Array.ext';simp
  rw[e0]
 exact xv G (hK _ _ (O5.alloc w _) (Lu _) (Kg w _))
end
abbrev Qu (e base:Nat)(w:O1)(v:O2)(l:LI):Prop:=w.ownsRow base e 1 v l.length (l.map (.int .i64))
theorem Qu.ints {e base:Nat}{v:O2}{l:LI}{L:LN}(h:Qu e base w v l)(E:l.length<=1099511627776)(G:∀b∈L,b<base):QQ L w.heap v l :=
 QJ h E (λb I hbL=>ov (Qi h b I).1 (G b hbL))
theorem Uu (l:LI):∀u∈l.map (Value.int .i64),u.oneCell'=true:=by
 intro u E;obtain⟨n,_,rfl⟩:=LC.1 E;rfl
section
variable {P:O4}{ops:xE}{K:Fr->O1->Prop}{f:Fr}{w:O1}{d:xF}{ty:Nat}{pS:String}{af:xD}{gd:xt}{l:xE}{C:xA}{pl:xu}{i0:Nat}
 {t e sz bys:Nat} {z:O2} {x y1 y2:O3} {L:LN} {v:O2} {n:Nat} {cs:LV} {H:xC} {k k':IntKind} {lo hi:Nat}
theorem QnQ [h:Sl P t e sz bys z](E:QV ops i0=⟨d,.slice t x (some y1) none none,ty,pS,af,gd⟩)(G:Zn L H v n sz cs)(hx:ev f x=v)(hl:ev f y1=.int k lo)(I:lo<=n)(hK:∀v',Zn L H v' (n - lo) sz (cs.drop (lo*sz))->XP P ops C K pl (QW f d v') w)
  (J:Yb ops f (QV ops i0)=true:=by rfl):XP P ops C K ((i0,true)::pl) f w:=by
 obtain⟨v',O,S⟩:=QbN (P:=P) (d:=d) (ty:=ty) (pS:=pS) (af:=af) (gd:=gd) (t:=t) G hx hl I;exact Lg.p (λw'=>by rw[E];exact S w') (by rw[E];exact hK v' O) J
theorem QqI [h:Sl P t e sz bys z](E:Zn L H v n sz cs)(hx:ev f x=v)(hl:ev f y1=.int k lo)(G:lo<=n)(hK:∀v',Zn L H v' (n - lo) sz (cs.drop (lo*sz))->XL P ops K l (QW f d v') w)
  (I:Yb ops f ⟨d,.slice t x (some y1) none none,ty,pS,af,gd⟩=true:=by rfl):XL P ops K (⟨d,.slice t x (some y1) none none,ty,pS,af,gd⟩::l) f w:=by
 obtain⟨v',J,O⟩:=QbN (P:=P) (d:=d) (ty:=ty) (pS:=pS) (af:=af) (gd:=gd) (t:=t) E hx hl G;exact xl I (xv (O w) (hK v' J))
theorem QqJ [h:Sl P t e sz bys z](E:Zn L H v n sz cs)(hx:ev f x=v)(hl:ev f y1=.int k lo)(G:ev f y2=.int k' hi)(I:lo<=hi)(J:hi<=n)(hK:∀v',Zn L H v' (hi - lo) sz ((cs.drop (lo*sz)).take ((hi - lo)*sz))->XL P ops K l (QW f d v') w)
  (O:Yb ops f ⟨d,.slice t x (some y1) (some y2) none,ty,pS,af,gd⟩=true:=by rfl):XL P ops K (⟨d,.slice t x (some y1) (some y2) none,ty,pS,af,gd⟩::l) f w:=by
 obtain⟨v',S,T⟩:=Qlh (P:=P) (d:=d) (ty:=ty) (pS:=pS) (af:=af) (gd:=gd) (t:=t) E hx hl G I J;exact xl O (xv (T w) (hK v' S))
theorem Qnr [h:Sl P t e sz bys z](E:Zn L H v n sz cs)(hx:ev f x=v)(G:ev f y2=.int k hi)(I:hi<=n)(hK:∀v',Zn L H v' hi sz (cs.take (hi*sz))->XL P ops K l (QW f d v') w)
  (J:Yb ops f ⟨d,.slice t x none (some y2) none,ty,pS,af,gd⟩=true:=by rfl):XL P ops K (⟨d,.slice t x none (some y2) none,ty,pS,af,gd⟩::l) f w:=by
 obtain⟨v',O,S⟩:=QbO (P:=P) (d:=d) (ty:=ty) (pS:=pS) (af:=af) (gd:=gd) (t:=t) E hx G I;exact xl J (xv (S w) (hK v' O))
end
theorem QQ.drop {L:LN}{H:xC}{v:O2}{l:LI}{lo:Nat}(h:Zn L H v (l.length - lo) 1 ((l.map (Value.int .i64)).drop (lo*1))):QQ L H v (l.drop lo):=by
 rw[Nat.mul_one,<-List.map_drop]at h;have e:(l.drop lo).length=l.length - lo:=LT;unfold QQ;rw[e];exact h
theorem Qu.snoc {e base:Nat}{v:O2}{l:LI}{n:Int}(h:w.ownsRow base e 1 v (l.length+1) (l.map (Value.int .i64)++[oF oG n])):Qu e base w v (l++[n]):=by
 unfold Qu;rw[Lk,Ls];exact h
def Dj (u v:O2):Prop:=∀b∈ob u,b∉ob v
theorem Dj.symm {u v:O2}(h:Dj u v):Dj v u:=λb E G=>h b G E
theorem Dj.nil (v:O2):Dj (nS) v:=λb E=>by simp[ob]at E
theorem Dj.nil' (v:O2):Dj v (nS):=(Dj.nil v).symm
theorem Dj.grow {u v:O2}(h:Dj u v)(I:∀b∈ob v',b∈ob v\/N<=b)(J:∀b∈ob u,b<N):Dj u v' :=
 λb E O=>by rcases I b O with G|G;exact h b E G;have:=J b E;omega
theorem Zc {base e:Nat}{v:O2}{cs:LV}(h:w.ownsRow base e sz v n cs):∀b∈ob v,b<w.heap.size:=λb E=>(Qi h b E).2
theorem QT {base e:Nat}{v:O2}{cs:LV}(h:w.ownsRow base e sz v n cs)(G:b<base):b∉ob v:=λE=>ou (Qi h b E).1
abbrev YH (e base:Nat)(w:O1)(v:O2)(l:List Ed):Prop:=w.ownsRow base e 3 v l.length (l.flatMap QF)
theorem YH.snoc {e base:Nat}{v:O2}{l:List Ed}{n:Ed}(h:w.ownsRow base e 3 v (l.length+1) (l.flatMap QF++QF n)):YH e base w v (l++[n]):=by
 unfold YH;rw[Lk,LA];simpa using h
theorem YH.eds {e base:Nat}{v:O2}{l:List Ed}{L:LN}(h:YH e base w v l)(E:l.length<=1099511627776)(G:∀b∈L,b<base):zg L w.heap v l :=
 QJ h E (λb I hbL=>ov (Qi h b I).1 (G b hbL))
def Jv (N:Nat)(H:xC)(v:O2)(a:Q9):Prop:=∃va vm ve,v=.agg #[va,oF oG a.st,vm,ve]/\∀L:LN,(∀b∈L,b<N)->ZH L H va vm ve a
theorem Jv.v {N:Nat}{H:xC}{v:O2}{a:Q9}(h:Jv N H v a){L:LN}(E:∀b∈L,b<N):Qrs L H v a:=let⟨va,vm,ve,G,I⟩:=h;⟨va,vm,ve,G,I L E⟩
theorem Jv.mono {v:O2}{a:Q9}(h:Jv N H v a)(hM:M<=N):Jv M H v a:=let⟨va,vm,ve,E,G⟩:=h;⟨va,vm,ve,E,λL I=>G L (λb J=>LW (I b J) hM)⟩
section
variable {K:Fr->O1->Prop}{f:Fr}{pS:String}
theorem zl [X6 P t]{x:O3}{l:LI}(h:Zb w.heap b T (l.map (.int .i64)))(hx:ev f x=.pointer (some ⟨b,0+i*1,none⟩))(hi:i<l.length):
  (execOp (ev f) ⟨d,.load t x,ty,pS,af,gd⟩).run P w=.ok (.value (oF oG l[i])) w:=Qq h hx (by simp[hi])
theorem Kk [h1:X6 P t]{x:O3}{l:LI}{u:Int}(E:Zb w.heap b T (l.map (.int .i64)))(hx:ev f x=.pointer (some ⟨b,0+i*1,none⟩))(G:ev f y=oF oG u)(hi:i<l.length)
  (hK:∀w',O5 [b] w w'->Zb w'.heap b T ((l.set i u).map (.int .i64))->K (QW f d undef) w'):XO P ⟨d,.store t x y,ty,pS,af,gd⟩ f w K:=by
 refine QB E hx G (oz hi) rfl λw' I J=>hK w' I ?_;rw[OQ];simpa using J
end
theorem QbM (n:Nat)(u:O2):(oN n [u]).flatten=oN n u:=by
 induction n with
 | zero=>rfl
 | succ n ih=>simp[List.replicate_succ,ih]
end Go.Lg
namespace Go.Proofs
open Go.Proofs.Tryz
open Go.Lg
instance:Sl prog 32 113 4 4 (.agg #[.int .u8 0,.int .u8 0,.int .u8 0,.int .u8 0]):=⟨underlying32,od,U,og⟩
instance:Sl prog 39 183 5 32 (.agg #[.string ByteArray.empty,.bool false,.bool false,.bool false,oF oG 0]):=⟨underlying39,od,U,og⟩
instance:Sl prog 40 71 5 96 (.agg #[.string ByteArray.empty,nS,oF oG 0,nS,nS]):=⟨underlying40,od,U,og⟩
instance:Sl prog 41 116 2 40 (.agg #[.string ByteArray.empty,nS]):=⟨underlying41,od,U,og⟩
instance:Sl prog 42 121 3 48 (.agg #[.string ByteArray.empty,nS,oF oG 0]):=⟨underlying42,od,U,og⟩
instance:Sl prog 51 75 2 24 (.agg #[oF oG 0,.string ByteArray.empty]):=⟨underlying51,od,U,og⟩
instance:Sl prog 56 3 1 8 (oF oG 0):=⟨underlying56,od,U,og⟩
instance:Sl prog 57 167 3 24 (.agg #[oF oG 0,oF oG 0,oF oG 0]):=⟨underlying57,od,U,og⟩
instance:Sl prog 60 143 2 24 (.agg #[.string ByteArray.empty,oF oG 0]):=⟨underlying60,od,U,og⟩
instance:Sl prog 61 145 2 24 (.agg #[.string ByteArray.empty,oF oG 0]):=⟨underlying61,od,U,og⟩
instance:Sl prog 69 65 10 168 (.agg #[.bool false,oF oG 0,.string ByteArray.empty,nS,oF oG 0,nS,nS,nS,nS,oF oG 0]):=⟨underlying69,od,U,og⟩
instance:Sl prog 80 90 10 184 (.agg #[oF oG 0,.string ByteArray.empty,oF oG 0,nS,oF oG 0,nS,nS,nS,nS,nS]):=⟨underlying80,od,U,og⟩
instance:Sl prog 86 241 4 32 (.agg #[oF oG 0,oF oG 0,oF oG 0,oF oG 0]):=⟨underlying86,od,U,og⟩
instance:Sl prog 101 53 3 72 (.agg #[nS,nS,nS]):=⟨underlying101,od,U,og⟩
instance:Sl prog 114 118 2 16 (.agg #[oF oG 0,oF oG 0]):=⟨underlying114,od,U,og⟩
instance:Sl prog 119 123 2 16 (.agg #[oF oG 0,oF oG 0]):=⟨underlying119,od,U,og⟩
instance:Sl prog 126 63 9 160 (.agg #[oF oG 0,.string ByteArray.empty,nS,oF oG 0,nS,nS,nS,nS,oF oG 0]):=⟨underlying126,od,U,og⟩
instance:Sl prog 131 149 15 304 (.agg #[oF oG 0,.string ByteArray.empty,oF oG 0,nS,oF oG 0,nS,nS,nS,nS,nS,nS,nS,nS,nS,nS]):=⟨underlying131,od,U,og⟩
instance:Sl prog 134 139 1 8 (.nilFunc):=⟨underlying134,od,U,og⟩
instance:Sl prog 168 59 4 80 (.agg #[nS,oF oG 0,nS,nS]):=⟨underlying168,od,U,og⟩
instance:Sl prog 174 56 1 24 (nS):=⟨underlying174,od,U,og⟩
instance:Sl prog 175 185 4 32 (.agg #[oF oG 0,oF oG 0,oF oG 0,oF oG 0]):=⟨underlying175,od,U,og⟩
instance:Sl prog 188 5 1 1 (.int .u8 0):=⟨underlying188,od,U,og⟩
instance:Sl prog 197 71 5 96 (.agg #[.string ByteArray.empty,nS,oF oG 0,nS,nS]):=⟨underlying197,od,U,og⟩
instance:Sl prog 213 219 3 40 (.agg #[oF oG 0,oF oG 0,nS]):=⟨underlying213,od,U,og⟩
instance:Sl prog 275 4 1 1 (.bool false):=⟨underlying275,od,U,og⟩
instance:Sl prog 302 306 3 24 (.agg #[oF oG 0,oF oG 0,.nilFunc]):=⟨underlying302,od,U,og⟩
instance:Sl prog 327 398 1 8 (.map none):=⟨underlying327,od,U,og⟩
instance:Sl prog 348 403 1 8 (.nilFunc):=⟨underlying348,od,U,og⟩
instance:Sl prog 376 375 2 32 (.agg #[nS,oF oG 0]):=⟨underlying376,od,U,og⟩
instance:Sl prog 415 414 2 32 (.agg #[nS,oF oG 0]):=⟨underlying415,od,U,og⟩
instance:Sl prog 429 57 1 24 (nS):=⟨underlying429,od,U,og⟩
instance:Zi prog 28 0 0:=⟨od⟩
instance:Zi prog 28 1 1:=⟨od⟩
instance:Zi prog 28 2 2:=⟨od⟩
instance:Zi prog 36 0 0:=⟨od⟩
instance:Zi prog 36 1 5:=⟨od⟩
instance:Zi prog 36 2 6:=⟨od⟩
instance:Zi prog 36 3 9:=⟨od⟩
instance:Zi prog 36 4 90:=⟨od⟩
instance:Zi prog 36 5 91:=⟨od⟩
instance:Zi prog 36 6 93:=⟨od⟩
instance:Zi prog 36 7 147:=⟨od⟩
instance:Zi prog 36 8 148:=⟨od⟩
instance:Zi prog 36 9 151:=⟨od⟩
instance:Zi prog 44 0 0:=⟨od⟩
instance:Zi prog 44 1 1:=⟨od⟩
instance:Zi prog 44 2 2:=⟨od⟩
instance:Zi prog 44 3 3:=⟨od⟩
instance:Zi prog 44 4 4:=⟨od⟩
instance:Zi prog 53 0 0:=⟨od⟩
instance:Zi prog 53 1 1:=⟨od⟩
instance:Zi prog 53 2 2:=⟨od⟩
instance:Zi prog 59 0 0:=⟨od⟩
instance:Zi prog 59 1 1:=⟨od⟩
instance:Zi prog 59 2 2:=⟨od⟩
instance:Zi prog 59 3 3:=⟨od⟩
instance:Zi prog 63 0 0:=⟨od⟩
instance:Zi prog 63 1 1:=⟨od⟩
instance:Zi prog 63 2 2:=⟨od⟩
instance:Zi prog 63 3 6:=⟨od⟩
instance:Zi prog 63 4 7:=⟨od⟩
instance:Zi prog 63 5 8:=⟨od⟩
instance:Zi prog 65 0 0:=⟨od⟩
instance:Zi prog 65 1 1:=⟨od⟩
instance:Zi prog 68 0 0:=⟨od⟩
instance:Zi prog 68 1 1:=⟨od⟩
instance:Zi prog 68 2 2:=⟨od⟩
instance:Zi prog 71 0 0:=⟨od⟩
instance:Zi prog 71 1 1:=⟨od⟩
instance:Zi prog 75 1 1:=⟨od⟩
instance:Zi prog 88 0 0:=⟨od⟩
instance:Zi prog 88 1 1:=⟨od⟩
instance:Zi prog 88 2 2:=⟨od⟩
instance:Zi prog 90 0 0:=⟨od⟩
instance:Zi prog 90 1 2:=⟨od⟩
instance:Zi prog 90 2 3:=⟨od⟩
instance:Zi prog 90 3 7:=⟨od⟩
instance:Zi prog 116 0 0:=⟨od⟩
instance:Zi prog 116 1 1:=⟨od⟩
instance:Zi prog 118 0 0:=⟨od⟩
instance:Zi prog 118 1 1:=⟨od⟩
instance:Zi prog 121 0 0:=⟨od⟩
instance:Zi prog 121 1 1:=⟨od⟩
instance:Zi prog 121 2 2:=⟨od⟩
instance:Zi prog 123 0 0:=⟨od⟩
instance:Zi prog 123 1 1:=⟨od⟩
instance:Zi prog 136 0 0:=⟨od⟩
instance:Zi prog 136 1 5:=⟨od⟩
instance:Zi prog 136 2 6:=⟨od⟩
instance:Zi prog 136 3 7:=⟨od⟩
instance:Zi prog 136 4 8:=⟨od⟩
instance:Zi prog 143 0 0:=⟨od⟩
instance:Zi prog 143 1 1:=⟨od⟩
instance:Zi prog 145 0 0:=⟨od⟩
instance:Zi prog 145 1 1:=⟨od⟩
instance:Zi prog 149 0 0:=⟨od⟩
instance:Zi prog 149 1 10:=⟨od⟩
instance:Zi prog 167 0 0:=⟨od⟩
instance:Zi prog 167 1 1:=⟨od⟩
instance:Zi prog 167 2 2:=⟨od⟩
instance:Zi prog 177 0 0:=⟨od⟩
instance:Zi prog 177 1 4:=⟨od⟩
instance:Zi prog 177 2 5:=⟨od⟩
instance:Zi prog 177 3 6:=⟨od⟩
instance:Zi prog 177 4 7:=⟨od⟩
instance:Zi prog 183 0 0:=⟨od⟩
instance:Zi prog 183 1 1:=⟨od⟩
instance:Zi prog 183 2 2:=⟨od⟩
instance:Zi prog 183 3 3:=⟨od⟩
instance:Zi prog 183 4 4:=⟨od⟩
instance:Zi prog 185 0 0:=⟨od⟩
instance:Zi prog 206 0 0:=⟨od⟩
instance:Zi prog 206 1 1:=⟨od⟩
instance:Zi prog 206 2 2:=⟨od⟩
instance:Zi prog 219 0 0:=⟨od⟩
instance:Zi prog 219 1 1:=⟨od⟩
instance:Zi prog 219 2 2:=⟨od⟩
instance:Zi prog 224 0 0:=⟨od⟩
instance:Zi prog 224 1 3:=⟨od⟩
instance:Zi prog 224 2 4:=⟨od⟩
instance:Zi prog 224 3 8:=⟨od⟩
instance:Zi prog 241 0 0:=⟨od⟩
instance:Zi prog 266 0 0:=⟨od⟩
instance:Zi prog 266 1 5:=⟨od⟩
instance:Zi prog 266 2 9:=⟨od⟩
instance:Zi prog 266 3 10:=⟨od⟩
instance:Zi prog 266 4 14:=⟨od⟩
instance:Zi prog 266 5 15:=⟨od⟩
instance:Zi prog 266 6 18:=⟨od⟩
instance:Zi prog 306 0 0:=⟨od⟩
instance:Zi prog 306 1 1:=⟨od⟩
instance:Zi prog 306 2 2:=⟨od⟩
instance:Zi prog 309 0 0:=⟨od⟩
instance:Zi prog 309 1 1:=⟨od⟩
instance:Zi prog 309 2 2:=⟨od⟩
instance:Zi prog 309 3 3:=⟨od⟩
instance:Zi prog 329 0 0:=⟨od⟩
instance:Zi prog 329 1 1:=⟨od⟩
instance:Zi prog 329 2 2:=⟨od⟩
instance:Zi prog 339 0 0:=⟨od⟩
instance:Zi prog 339 1 1:=⟨od⟩
instance:Zi prog 375 0 0:=⟨od⟩
instance:Zi prog 375 1 1:=⟨od⟩
instance:Zi prog 388 0 0:=⟨od⟩
instance:Zi prog 388 1 4:=⟨od⟩
instance:Zi prog 388 2 5:=⟨od⟩
instance:Zi prog 388 3 6:=⟨od⟩
instance:Zi prog 414 0 0:=⟨od⟩
instance:Zi prog 414 1 1:=⟨od⟩
instance:X6 prog 3:=⟨⟨_,underlying3,U⟩,od⟩
instance:X6 prog 4:=⟨⟨_,underlying4,U⟩,od⟩
instance:X6 prog 5:=⟨⟨_,underlying5,U⟩,od⟩
instance:X6 prog 9:=⟨⟨_,underlying9,U⟩,od⟩
instance:X6 prog 24:=⟨⟨_,underlying24,U⟩,od⟩
instance:X6 prog 32:=⟨⟨_,underlying32,U⟩,od⟩
instance:X6 prog 33:=⟨⟨_,underlying33,U⟩,od⟩
instance:X6 prog 39:=⟨⟨_,underlying39,U⟩,od⟩
instance:X6 prog 40:=⟨⟨_,underlying40,U⟩,od⟩
instance:X6 prog 41:=⟨⟨_,underlying41,U⟩,od⟩
instance:X6 prog 42:=⟨⟨_,underlying42,U⟩,od⟩
instance:X6 prog 47:=⟨⟨_,underlying47,U⟩,od⟩
instance:X6 prog 51:=⟨⟨_,underlying51,U⟩,od⟩
instance:X6 prog 56:=⟨⟨_,underlying56,U⟩,od⟩
instance:X6 prog 57:=⟨⟨_,underlying57,U⟩,od⟩
instance:X6 prog 60:=⟨⟨_,underlying60,U⟩,od⟩
instance:X6 prog 61:=⟨⟨_,underlying61,U⟩,od⟩
instance:X6 prog 86:=⟨⟨_,underlying86,U⟩,od⟩
instance:X6 prog 101:=⟨⟨_,underlying101,U⟩,od⟩
instance:X6 prog 114:=⟨⟨_,underlying114,U⟩,od⟩
instance:X6 prog 119:=⟨⟨_,underlying119,U⟩,od⟩
instance:X6 prog 131:=⟨⟨_,underlying131,U⟩,od⟩
instance:X6 prog 134:=⟨⟨_,underlying134,U⟩,od⟩
instance:X6 prog 139:=⟨⟨_,underlying139,U⟩,od⟩
instance:X6 prog 168:=⟨⟨_,underlying168,U⟩,od⟩
instance:X6 prog 174:=⟨⟨_,underlying174,U⟩,od⟩
instance:X6 prog 175:=⟨⟨_,underlying175,U⟩,od⟩
instance:X6 prog 188:=⟨⟨_,underlying188,U⟩,od⟩
instance:X6 prog 261:=⟨⟨_,underlying261,U⟩,od⟩
instance:X6 prog 264:=⟨⟨_,underlying264,U⟩,od⟩
instance:X6 prog 275:=⟨⟨_,underlying275,U⟩,od⟩
instance:X6 prog 304:=⟨⟨_,underlying304,U⟩,od⟩
instance:X6 prog 327:=⟨⟨_,underlying327,U⟩,od⟩
instance:X6 prog 337:=⟨⟨_,underlying337,U⟩,od⟩
instance:X6 prog 386:=⟨⟨_,underlying386,U⟩,od⟩
instance:X6 prog 398:=⟨⟨_,underlying398,U⟩,od⟩
instance:X6 prog 403:=⟨⟨_,underlying403,U⟩,od⟩
instance:Ag prog 23 5:=⟨⟨_,underlying23,U⟩,od⟩
instance:Ag prog 28 27:=⟨⟨_,underlying28,U⟩,od⟩
instance:Ag prog 36 152:=⟨⟨_,underlying36,U⟩,od⟩
instance:Ag prog 44 5:=⟨⟨_,underlying44,U⟩,od⟩
instance:Ag prog 53 3:=⟨⟨_,underlying53,U⟩,od⟩
instance:Ag prog 59 4:=⟨⟨_,underlying59,U⟩,od⟩
instance:Ag prog 63 9:=⟨⟨_,underlying63,U⟩,od⟩
instance:Ag prog 65 10:=⟨⟨_,underlying65,U⟩,od⟩
instance:Ag prog 68 3:=⟨⟨_,underlying68,U⟩,od⟩
instance:Ag prog 71 5:=⟨⟨_,underlying71,U⟩,od⟩
instance:Ag prog 75 2:=⟨⟨_,underlying75,U⟩,od⟩
instance:Ag prog 88 3:=⟨⟨_,underlying88,U⟩,od⟩
instance:Ag prog 90 10:=⟨⟨_,underlying90,U⟩,od⟩
instance:Ag prog 113 4:=⟨⟨_,underlying113,U⟩,od⟩
instance:Ag prog 116 2:=⟨⟨_,underlying116,U⟩,od⟩
instance:Ag prog 118 2:=⟨⟨_,underlying118,U⟩,od⟩
instance:Ag prog 121 3:=⟨⟨_,underlying121,U⟩,od⟩
instance:Ag prog 123 2:=⟨⟨_,underlying123,U⟩,od⟩
instance:Ag prog 143 2:=⟨⟨_,underlying143,U⟩,od⟩
instance:Ag prog 145 2:=⟨⟨_,underlying145,U⟩,od⟩
instance:Ag prog 149 15:=⟨⟨_,underlying149,U⟩,od⟩
instance:Ag prog 167 3:=⟨⟨_,underlying167,U⟩,od⟩
instance:Ag prog 177 8:=⟨⟨_,underlying177,U⟩,od⟩
instance:Ag prog 183 5:=⟨⟨_,underlying183,U⟩,od⟩
instance:Ag prog 185 4:=⟨⟨_,underlying185,U⟩,od⟩
instance:Ag prog 206 3:=⟨⟨_,underlying206,U⟩,od⟩
instance:Ag prog 219 3:=⟨⟨_,underlying219,U⟩,od⟩
instance:Ag prog 224 9:=⟨⟨_,underlying224,U⟩,od⟩
instance:Ag prog 241 4:=⟨⟨_,underlying241,U⟩,od⟩
instance:Ag prog 306 3:=⟨⟨_,underlying306,U⟩,od⟩
instance:Ag prog 309 4:=⟨⟨_,underlying309,U⟩,od⟩
instance:Ag prog 329 3:=⟨⟨_,underlying329,U⟩,od⟩
instance:Ag prog 375 2:=⟨⟨_,underlying375,U⟩,od⟩
instance:Ag prog 414 2:=⟨⟨_,underlying414,U⟩,od⟩
instance:Ze prog 3 (oF oG 0):=⟨od⟩
instance:Ze prog 4 (.bool false):=⟨od⟩
instance:Ze prog 44 (.agg #[nS,nS,nS,nS,nS]):=⟨od⟩
instance:Ze prog 47 (oF oG 0):=⟨od⟩
instance:Ze prog 53 (.agg #[nS,nS,nS]):=⟨od⟩
instance:Ze prog 56 (nS):=⟨od⟩
instance:Ze prog 59 (.agg #[nS,oF oG 0,nS,nS]):=⟨od⟩
instance:Ze prog 63 (.agg #[oF oG 0,.string ByteArray.empty,nS,oF oG 0,nS,nS,nS,nS,oF oG 0]):=⟨od⟩
instance:Ze prog 65 (.agg #[.bool false,oF oG 0,.string ByteArray.empty,nS,oF oG 0,nS,nS,nS,nS,oF oG 0]):=⟨od⟩
instance:Ze prog 71 (.agg #[.string ByteArray.empty,nS,oF oG 0,nS,nS]):=⟨od⟩
instance:Ze prog 75 (.agg #[oF oG 0,.string ByteArray.empty]):=⟨od⟩
instance:Ze prog 88 (.agg #[nS,nS,nS]):=⟨od⟩
instance:Ze prog 90 (.agg #[oF oG 0,.string ByteArray.empty,oF oG 0,nS,oF oG 0,nS,nS,nS,nS,nS]):=⟨od⟩
instance:Ze prog 113 (.agg #[.int .u8 0,.int .u8 0,.int .u8 0,.int .u8 0]):=⟨od⟩
instance:Ze prog 116 (.agg #[.string ByteArray.empty,nS]):=⟨od⟩
instance:Ze prog 118 (.agg #[oF oG 0,oF oG 0]):=⟨od⟩
instance:Ze prog 121 (.agg #[.string ByteArray.empty,nS,oF oG 0]):=⟨od⟩
instance:Ze prog 123 (.agg #[oF oG 0,oF oG 0]):=⟨od⟩
instance:Ze prog 131 (nS):=⟨od⟩
instance:Ze prog 143 (.agg #[.string ByteArray.empty,oF oG 0]):=⟨od⟩
instance:Ze prog 145 (.agg #[.string ByteArray.empty,oF oG 0]):=⟨od⟩
instance:Ze prog 149 (.agg #[oF oG 0,.string ByteArray.empty,oF oG 0,nS,oF oG 0,nS,nS,nS,nS,nS,nS,nS,nS,nS,nS]):=⟨od⟩
instance:Ze prog 167 (.agg #[oF oG 0,oF oG 0,oF oG 0]):=⟨od⟩
instance:Ze prog 177 (.agg #[nS,oF oG 0,nS,nS,nS,nS,nS,nS]):=⟨od⟩
instance:Ze prog 183 (.agg #[.string ByteArray.empty,.bool false,.bool false,.bool false,oF oG 0]):=⟨od⟩
instance:Ze prog 185 (.agg #[oF oG 0,oF oG 0,oF oG 0,oF oG 0]):=⟨od⟩
instance:Ze prog 206 (.agg #[nS,nS,nS]):=⟨od⟩
instance:Ze prog 219 (.agg #[oF oG 0,oF oG 0,nS]):=⟨od⟩
instance:Ze prog 224 (.agg #[nS,nS,nS,oF oG 0,nS,oF oG 0,nS,nS,nS]):=⟨od⟩
instance:Ze prog 241 (.agg #[oF oG 0,oF oG 0,oF oG 0,oF oG 0]):=⟨od⟩
instance:Ze prog 306 (.agg #[oF oG 0,oF oG 0,.nilFunc]):=⟨od⟩
instance:Ze prog 309 (.agg #[nS,nS,nS,nS]):=⟨od⟩
instance:Ze prog 329 (.agg #[nS,nS,nS]):=⟨od⟩
instance:Ze prog 339 (.agg #[.pointer none,nS]):=⟨od⟩
instance:Ze prog 375 (.agg #[nS,oF oG 0]):=⟨od⟩
instance:Ze prog 414 (.agg #[nS,oF oG 0]):=⟨od⟩
instance:Bs prog 44 [nS,nS,nS,nS,nS] [0,1,2,3,4]:=⟨od,og⟩
instance:Bs prog 53 [nS,nS,nS] [0,1,2]:=⟨od,og⟩
instance:Bs prog 59 [nS,oF oG 0,nS,nS] [0,1,2,3]:=⟨od,og⟩
instance:Bs prog 75 [oF oG 0,.string ByteArray.empty] [0,1]:=⟨od,og⟩
instance:Bs prog 88 [nS,nS,nS] [0,1,2]:=⟨od,og⟩
instance:Bs prog 116 [.string ByteArray.empty,nS] [0,1]:=⟨od,og⟩
instance:Bs prog 118 [oF oG 0,oF oG 0] [0,1]:=⟨od,og⟩
instance:Bs prog 121 [.string ByteArray.empty,nS,oF oG 0] [0,1,2]:=⟨od,og⟩
instance:Bs prog 123 [oF oG 0,oF oG 0] [0,1]:=⟨od,og⟩
instance:Bs prog 143 [.string ByteArray.empty,oF oG 0] [0,1]:=⟨od,og⟩
instance:Bs prog 145 [.string ByteArray.empty,oF oG 0] [0,1]:=⟨od,og⟩
instance:Bs prog 167 [oF oG 0,oF oG 0,oF oG 0] [0,1,2]:=⟨od,og⟩
instance:Bs prog 183 [.string ByteArray.empty,.bool false,.bool false,.bool false,oF oG 0] [0,1,2,3,4]:=⟨od,og⟩
instance:Bs prog 185 [oF oG 0,oF oG 0,oF oG 0,oF oG 0] [0,1,2,3]:=⟨od,og⟩
instance:Bs prog 206 [nS,nS,nS] [0,1,2]:=⟨od,og⟩
instance:Bs prog 219 [oF oG 0,oF oG 0,nS] [0,1,2]:=⟨od,og⟩
instance:Bs prog 241 [oF oG 0,oF oG 0,oF oG 0,oF oG 0] [0,1,2,3]:=⟨od,og⟩
instance:Bs prog 306 [oF oG 0,oF oG 0,.nilFunc] [0,1,2]:=⟨od,og⟩
instance:Bs prog 309 [nS,nS,nS,nS] [0,1,2,3]:=⟨od,og⟩
instance:Bs prog 329 [nS,nS,nS] [0,1,2]:=⟨od,og⟩
instance:Bs prog 375 [nS,oF oG 0] [0,1]:=⟨od,og⟩
instance:Bs prog 399 [oF oG 0,oF oG 0] [0,1]:=⟨od,og⟩
instance:Bs prog 414 [nS,oF oG 0] [0,1]:=⟨od,og⟩
instance:Ik prog 3 .i64:=⟨underlying3⟩
instance:Ik prog 5 .u8:=⟨underlying5⟩
instance:St prog 9:=⟨underlying9⟩
instance:Ik prog 21 .i32:=⟨underlying21⟩
instance:Ik prog 33 .i8:=⟨underlying33⟩
instance:Ik prog 285 .u64:=⟨underlying285⟩
instance:S3 prog 167:=⟨⟨_,_,_,underlying167,og,og,og,U,U,U,underlying3,underlying3,underlying3⟩,od,od⟩
instance:Mp prog 202 9 4 (.bool false):=⟨underlying202,od⟩
instance:Key prog 9 JL:=QlG underlying9
instance:Mp prog 216 75 149 (.agg #[oF oG 0,.string ByteArray.empty,oF oG 0,nS,oF oG 0,nS,nS,nS,nS,nS,nS,nS,nS,nS,nS]):=⟨underlying216,od⟩
instance:Mp prog 217 75 4 (.bool false):=⟨underlying217,od⟩
instance:Mp prog 264 9 3 (oF oG 0):=⟨underlying264,od⟩
instance:Mp prog 380 3 379 (.nilFunc):=⟨underlying380,od⟩
instance:Key prog 3 V4:=QlH underlying3
instance:Mp prog 386 3 56 (nS):=⟨underlying386,od⟩
instance:Mp prog 398 399 3 (oF oG 0):=⟨underlying398,od⟩
instance:Key prog 399 Jj:=QiC underlying399 underlying3 od
instance:Mp prog 430 3 3 (oF oG 0):=⟨underlying430,od⟩
instance:Fu prog 38 f38:=YD func38
instance:Fu prog 41 f41:=YD func41
instance:Fu prog 43 f43:=YD func43
instance:Fu prog 48 f48:=YD func48
instance:Fu prog 51 f51:=YD func51
instance:Fu prog 55 f55:=YD func55
instance:Fu prog 56 f56:=YD func56
instance:Fu prog 70 f70:=YD func70
instance:Fu prog 74 f74:=YD func74
instance:Fu prog 76 f76:=YD func76
instance:Fu prog 77 f77:=YD func77
instance:Fu prog 80 f80:=YD func80
instance:Fu prog 81 f81:=YD func81
instance:Fu prog 86 f86:=YD func86
instance:Fu prog 96 f96:=YD func96
instance:Fu prog 105 f105:=YD func105
instance:Fu prog 107 f107:=YD func107
instance:Fu prog 112 f112:=YD func112
instance:Fu prog 113 f113:=YD func113
instance:Fu prog 114 f114:=YD func114
instance:Fu prog 115 f115:=YD func115
instance:Fu prog 116 f116:=YD func116
instance:Fu prog 118 f118:=YD func118
instance:Fu prog 119 f119:=YD func119
instance:Fu prog 122 f122:=YD func122
instance:Fu prog 124 f124:=YD func124
instance:Fu prog 125 f125:=YD func125
instance:Fu prog 126 f126:=YD func126
instance:Fu prog 127 f127:=YD func127
instance:Fu prog 128 f128:=YD func128
instance:Fu prog 142 f142:=YD func142
instance:Fu prog 146 f146:=YD func146
instance:Fu prog 147 f147:=YD func147
instance:Fu prog 149 f149:=YD func149
instance:Fu prog 150 f150:=YD func150
instance:Fu prog 151 f151:=YD func151
instance:Fu prog 152 f152:=YD func152
instance:Fu prog 153 f153:=YD func153
instance:Fu prog 154 f154:=YD func154
instance:Fu prog 155 f155:=YD func155
instance:Fu prog 156 f156:=YD func156
instance:Fu prog 157 f157:=YD func157
instance:Fu prog 158 f158:=YD func158
instance:Fu prog 159 f159:=YD func159
instance:Fu prog 160 f160:=YD func160
instance:Fu prog 166 f166:=YD func166
instance:Fu prog 167 f167:=YD func167
instance:Fu prog 168 f168:=YD func168
instance:Fu prog 176 f176:=YD func176
instance:Fu prog 177 f177:=YD func177
instance:Fu prog 178 f178:=YD func178
instance:Fu prog 187 f187:=YD func187
instance:Fu prog 188 f188:=YD func188
instance:Fu prog 189 f189:=YD func189
instance:Fu prog 193 f193:=YD func193
instance:Fu prog 196 f196:=YD func196
instance:Fu prog 197 f197:=YD func197
instance:Fu prog 220 f220:=YD func220
instance:Fu prog 223 f223:=YD func223
instance:Fu prog 224 f224:=YD func224
instance:Fu prog 225 f225:=YD func225
instance:Fu prog 226 f226:=YD func226
instance:Fu prog 227 f227:=YD func227
instance:Fu prog 228 f228:=YD func228
instance:Fu prog 229 f229:=YD func229
instance:Fu prog 230 f230:=YD func230
instance:Fu prog 232 f232:=YD func232
instance:Fu prog 237 f237:=YD func237
instance:Fu prog 250 f250:=YD func250
instance:Fu prog 255 f255:=YD func255
instance:Fu prog 256 f256:=YD func256
instance:Fu prog 259 f259:=YD func259
instance:Fu prog 262 f262:=YD func262
instance:Fu prog 263 f263:=YD func263
instance:Fu prog 272 f272:=YD func272
instance:Fu prog 295 f295:=YD func295
instance:Fu prog 296 f296:=YD func296
instance:Fu prog 297 f297:=YD func297
instance:Fu prog 298 f298:=YD func298
instance:Fu prog 310 f310:=YD func310
instance:Fu prog 332 f332:=YD func332
instance:Fu prog 333 f333:=YD func333
instance:Fu prog 334 f334:=YD func334
theorem mixed:prog.follows .mixedOrders=true:=od
theorem ZD {all:xE}{f:Fr}{Q:Exit->Fr->O1->Prop}(L:LN)(pl:xu)(h:XP prog all (O5 L w) (λf w=>Q .normal f w) pl f { w with drawn:=w.drawn+1 })(E:XS n all=true:=by rfl)(G:z8 all pl=true:=by kernel_rfl):W prog n (.region id all.toArray true) Q f w:=qD (O5 L w) pl mixed E G (O5.C _ _) h
end Go.Proofs
namespace Go.Lg
def xj (es:List Ed)(s e:Int):Int:=match es with
 | []=>-1
 | x::es=>if x.1=s/\x.2.1=e then x.2.2 else xj es s e
abbrev YY (l:LI):Prop:=l.Pairwise (·<·)
def jd:Option Int->Int->Bool
 | none,_=>false
 | some b,a=>decide (a<=b)
def Kr (n:Int):Option Int->LI->Int
 | _,[]=>0
 | pr,a::l=>if a<0\/n<=a then 2 else if jd pr a=true then 5 else Kr n (some a) l
def pv {α:Type}(l:List α)(k:Nat):Option α:=if k=0 then none else l[k - 1]?
theorem Vw {l:List α}{k:Nat}(h:k<l.length):pv l (k+1)=some l[k]:=by simp[pv,h]
def edO:Option Ed->Ed->Bool
 | none,_=>false
 | some y,a=>decide (a.1<y.1\/(a.1=y.1/\a.2.1<=y.2.1))
def ckE (al:LI)(st:Int):Option Ed->List Ed->Int
 | _,[]=>0
 | pr,a::l=>if a.1<0\/st<=a.1\/a.2.2<0\/st<=a.2.2 then 2 else if a.2.1∉al then 9 else if edO pr a=true then 5 else ckE al st (some a) l
def Jl (a:Q9):Int :=
 if Kr 32 none a.al≠0 then Kr 32 none a.al else if a.st<0 then 2 else if 4096<a.st then 3 else if Kr a.st none a.mr≠0 then Kr a.st none a.mr else ckE a.al a.st none a.ed
def Jq:LI->LI->Bool
 | [],_=>false
 | _::_,[]=>true
 | a::_,b::_=>decide (a<=b)
def tl (c:Bool)(l:LI):LI:=bif c then l.tail else l
def hx (a b:LI):Int:=bif Jq b a then b.headD 0 else a.headD 0
def jc (keep:Bool->Bool->Bool):Nat->LI->LI->LI
 | 0,_,_=>[]
 | n+1,a,b=>if a=[]/\b=[]then[]else(bif keep (Jq a b) (Jq b a)then[hx a b]else[])++jc keep n (tl (Jq a b) a) (tl (Jq b a) b)
def mrg (keep:Bool->Bool->Bool)(a b:LI):LI:=jc keep (a.length+b.length) a b
theorem yr {a b:LI}(h:¬(a=[]/\b=[])):(tl (Jq a b) a).length+(tl (Jq b a) b).length<a.length+b.length:=by
 cases a with
 | nil=>cases b with
  | nil=>simp at h
  | cons y b=>simp[Jq,tl]
 | cons x a=>cases b with
  | nil=>simp[Jq,tl]
  | cons y b =>
   simp only[Jq,tl];by_cases E:x<=y <;> by_cases G:y<=x <;> simp[E,G] <;> omega
theorem jM (keep:Bool->Bool->Bool):∀(n:Nat) (a b:LI),a.length+b.length<=n->jc keep n a b=mrg keep a b:=by
 have key:∀(n m:Nat) (a b:LI),a.length+b.length<=n->a.length+b.length<=m->jc keep n a b=jc keep m a b:=by
  intro n;induction n with
  | zero =>
   intro m a b E _;have G:a=[]:=Lp oa;have H:b=[]:=Lp oa;subst G H;cases m <;> simp[jc]
  | succ n ih =>
   intro m a b E I;by_cases h:a=[]/\b=[]
   ·obtain⟨rfl,rfl⟩:=h;cases m <;> simp[jc]
   have J:=yr h;cases m with
   | zero=>omega
   | succ m=>rw[jc,jc,OT h,OT h,ih m _ _ oa oa]
 intro n a b h;exact key n _ a b h (Lu _)
theorem KK (keep:Bool->Bool->Bool):mrg keep [] []=[]:=rfl
theorem Kl (keep:Bool->Bool->Bool){a b:LI}(h:¬(a=[]/\b=[])):
  mrg keep a b=(bif keep (Jq a b) (Jq b a)then[hx a b]else[])++mrg keep (tl (Jq a b) a) (tl (Jq b a) b):=by
 have E:=yr h;rw[<-jM keep (a.length+b.length - 1+1) a b oa,jc,OT h,jM keep _ _ _ oa]
theorem Qdq (keep:Bool->Bool->Bool):∀(n:Nat) (a b:LI),a.length+b.length<=n->(mrg keep a b).length<=a.length+b.length:=by
 intro n;induction n with
 | zero =>
  intro a b h;have E:a=[]:=Lp oa;have G:b=[]:=Lp oa;subst E G;simp[KK]
 | succ n ih =>
  intro a b H;by_cases h:a=[]/\b=[]
  ·obtain⟨rfl,rfl⟩:=h;simp[KK]
  have I:=yr h;rw[Kl keep h];have:=ih (tl (Jq a b) a) (tl (Jq b a) b) oa;cases keep (Jq a b) (Jq b a) <;> simp <;> omega
theorem QaP (keep:Bool->Bool->Bool)(a b:LI):(mrg keep a b).length<=a.length+b.length:=Qdq keep _ a b (Lu _)
theorem QdM (q:α->Bool)(es:List α)(lo hi:Nat)(O:lo<=hi)(S:hi<=es.length)(H:∀m (E:m<es.length),m<lo->q es[m]=false)(I:∀m (E:m<es.length),lo<=m->m<hi->q es[m]=true)
  (J:∀m (E:m<es.length),hi<=m->q es[m]=false):(es.drop lo).take (hi - lo)=es.filter q:=by
 have e1:es=es.take lo++((es.drop lo).take (hi - lo)++es.drop hi):=by
  conv=>lhs;rw[<-MI lo es]
  congr 1;conv=>lhs;rw[<-MI (hi - lo) (es.drop lo)]
  rw[List.drop_drop];congr 2;omega
 have f1:(es.take lo).filter q=[]:=by
  rw[Nn];intro a G;obtain⟨m,E,rfl⟩:=LM G;rw[Ly]at E;rw[Ng,H m oa oa];simp
 have f3:(es.drop hi).filter q=[]:=by
  rw[Nn];intro a G;obtain⟨m,E,rfl⟩:=LM G;rw[LT]at E;rw[List.getElem_drop,J (hi+m) oa oa];simp
 have f2:((es.drop lo).take (hi - lo)).filter q=(es.drop lo).take (hi - lo):=by
  rw[NE];intro a G;obtain⟨m,E,rfl⟩:=LM G;rw[Ly,LT]at E;rw[Ng,List.getElem_drop];exact I (lo+m) oa oa oa
 conv=>rhs;rw[e1]
 rw[L5,L5,f1,f2,f3];simp
def Z4 (es:List Ed)(s:Int):List Ed:=es.filter λe=>decide (e.1=s)
theorem QiT {L:LN}{v:O2}{l:LI}(h:QQ L w.heap v l)(n:Int):
  Q6 prog 75 [v,oF oG n] w λr w'=>w'=w/\∃i:Int,r=oF oG i/\(0<=i↔n∈l):=by
 have O:=h.le;refine Zq func75 ?_;refine Qc<|Qb<|Qd<|Qm<|QK h U<|Qa<|xe<|Qf<|QD (α:=Nat) [(4,5),(8,18)] (λk=>[(8,oF oG k)]) (λk w'=>w'=w/\k<=l.length/\(n∈l↔n∈l.drop k)) (λk=>l.length - k) ol 0 La ⟨U,Ln _,oe⟩ ?_;rintro k g S ⟨rfl,T,E⟩;refine Qc<|QZ U U<|xe<|Qd<|QG U (λI=>?_) (λI=>?_)
 ·refine Qy<|Qc<|Qb<|Qk ⟨[oF oG (-1)],La,U,-1,U,?_⟩;rw[Lq oa]at E;simp[E]
 have H:k<l.length:=oa
 have hd:=Zg H;refine Qh<|Qd<|Qf<|Qm<|Qb<|Qm<|Qa<|Qa<|xii h U U H λV J=>x (QA J U)<|x (Q0 U U)<|xe<|QY rfl (λG=>?_) (λG=>?_)
 ·refine Qm<|Qb<|Qk ⟨[oF oG k],La,U,k,U,?_⟩;have:n∈l:=by rw[E,hd,G];exact Lr
  simp[this]
 refine Qh<|Qw<|QP U U<|Qa<|xe<|⟨k+1,oa,La,U,oa,?_⟩;rw[E,hd,Li];exact⟨λh=>h.resolve_left G,.inr⟩
theorem Yj {L:LN}{v:O2}{l:LI}(h:QQ L w.heap v l)(n:Int):
  Q6 prog 39 [v,oF oG n] w λr w'=>r=.bool (decide (n∈l))/\w'=w:=by
 refine Zq func39 ?_;refine Qc<|Qb<|Qm<|Qa<|QM<|(QiT h n).mono ?_;rintro E G ⟨rfl,i,rfl,hi⟩;refine x (Ys U U)<|Qb<|Qk ⟨[.bool (decide (0<=i))],La,?_,U⟩;simp[tup,hi]
theorem JD {L L':LN}{v:O2}{l l':LI}(h:QQ L w.heap v l)(E:QQ L' w.heap v' l'):
  Q6 prog 107 [v,v'] w λr w'=>r=.bool (decide (l=l'))/\O5 [] w w':=by
 have hf:=h.le;refine Zq func107 ?_;refine Qc<|Qb<|Qd<|Qm<|QK h U<|Qa<|QK E U<|ZA U U<|xe<|QY rfl (λO=>?_) (λO=>?_)
 ·refine Qc<|Qb<|Qk ⟨[.bool false],La,?_,O5.Z _ _⟩;have:l≠l':=λe=>O (by rw[e]);simp[tup,this]
 refine Qh<|Qd<|Qm<|QK h U<|Qa<|xe<|Qf<|QD (α:=Nat) [(4,5),(13,25)] (λk=>[(13,oF oG k)]) (λk w'=>O5 [] w w'/\k<=l.length/\(l=l'↔l.drop k=l'.drop k)) (λk=>l.length - k) ol 0 La ⟨O5.Z _ _,Ln _,oe⟩ ?_;rintro k g Y ⟨G,hk,H⟩
 replace h:=h.I G
 replace E:=E.I G;refine Qc<|QZ U U<|xe<|Qd<|QG U (λha=>?_) (λha=>?_)
 ·refine Qy<|Qc<|Qb<|Qk ⟨[.bool true],La,?_,G⟩;rw[Lq oa,Lq oa]at H;simp[tup,H]
 have S:k<l.length:=oa
 have T:k<l'.length:=oa
 refine Qh<|Qd<|Qf<|Qm<|Qb<|Qd<|ZD [] (Xb 0 9 [])<|p QE<|p QE<|pii U h U U S λhg hb=>pq (λ_ I=>QA (hb.I I) U) <|
  p QE<|p QE<|pii U E U U T λhh he=>pq (λ_ I=>QA (he.I I) U)<|p (λ_=>YP U U)<|pe ?_
 have V:=G.D (O5.C [] Y);refine QY rfl (λJ=>?_) (λJ=>?_)
 ·refine Qc<|Qb<|Qk ⟨[.bool false],La,?_,V⟩;have:l≠l':=λe=>J (by simp[e]);simp[tup,this]
 refine Qh<|Qw<|QP U U<|Qa<|xe<|⟨k+1,oa,La,V,oa,?_⟩;have e:l[k]=l'[k]:=Lo.1 J;rw[H,Zg S,Zg T,e];exact⟨λh=>(List.cons.inj h).2,λh=>by rw[h]⟩
theorem j4 {L L':LN}{v:O2}{l l':List Ed}(h:zg L w.heap v l)(E:zg L' w.heap v' l'):
  Q6 prog 108 [v,v'] w λr w'=>r=.bool (decide (l=l'))/\O5 [] w w':=by
 have hf:=h.le;refine Zq func108 ?_;refine Qc<|Qb<|Qd<|Qm<|QK h U<|Qa<|QK E U<|ZA U U<|xe<|QY rfl (λO=>?_) (λO=>?_)
 ·refine Qc<|Qb<|Qk ⟨[.bool false],La,?_,O5.Z _ _⟩;have:l≠l':=λe=>O (by rw[e]);simp[tup,this]
 refine Qh<|Qd<|Qm<|QK h U<|Qa<|xe<|Qf<|QD (α:=Nat) [(4,5),(13,25)] (λk=>[(13,oF oG k)]) (λk w'=>O5 [] w w'/\k<=l.length/\(l=l'↔l.drop k=l'.drop k)) (λk=>l.length - k) ol 0 La ⟨O5.Z _ _,Ln _,oe⟩ ?_;rintro k g Y ⟨G,hk,H⟩
 replace h:=h.I G
 replace E:=E.I G;refine Qc<|QZ U U<|xe<|Qd<|QG U (λha=>?_) (λha=>?_)
 ·refine Qy<|Qc<|Qb<|Qk ⟨[.bool true],La,?_,G⟩;rw[Lq oa,Lq oa]at H;simp[tup,H]
 have S:k<l.length:=oa
 have T:k<l'.length:=oa
 refine Qh<|Qd<|Qf<|Qm<|Qb<|Qd<|ZD [] (Xb 0 9 [])<|p QE<|p QE<|pie U h U U S λhg hb=>pq (λ_ I=>Qx (hb.I I) U U) <|
  p QE<|p QE<|pie U E U U T λhh he=>pq (λ_ I=>Qx (he.I I) U U)<|p (λ_=>Ur U U)<|pe ?_
 have V:=G.D (O5.C [] Y);refine QY rfl (λJ=>?_) (λJ=>?_)
 ·refine Qc<|Qb<|Qk ⟨[.bool false],La,?_,V⟩;have:l≠l':=λe=>J (by simp[e]);simp[tup,this]
 refine Qh<|Qw<|QP U U<|Qa<|xe<|⟨k+1,oa,La,V,oa,?_⟩;have e:l[k]=l'[k]:=Lo.1 J;rw[H,Zg S,Zg T,e];exact⟨λh=>(List.cons.inj h).2,λh=>by rw[h]⟩
theorem Qb8 (n:Int):Q6 prog 175 [oF oG n] w λr w'=>r=.bool false/\w'=w:=by
 refine Zq func175 ?_;refine Qc<|Qb<|Qm<|Qa<|ZA U U<|Qb<|Qk ⟨[.bool (decide (¬n=n))],La,by simp[tup],rfl⟩
theorem Qgf (n:Int):Q6 prog 248 [oF oG n] w λr w'=>r=.bool false/\w'=w:=by
 refine Zq func248 ?_;refine Qc<|Qb<|Qm<|Qa<|ZA U U<|Qb<|Qk ⟨[.bool (decide (¬n=n))],La,by simp[tup],rfl⟩
theorem QeN (m n:Int):Q6 prog 174 [oF oG m,oF oG n] w λr w'=>r=.bool (decide (m<n))/\w'=w:=by
 refine Zq func174 ?_;refine Qc<|Qb<|Qm<|QM<|(Qgf m).mono ?_;rintro E G ⟨rfl,rfl⟩;refine Qa<|Qr<|Qr<|Qr<|QH U<|Qa<|Qa<|Qa<|QZ U U<|QH U<|Qb<|Qk ⟨[.bool (decide (m<n))],La,U,U⟩
theorem YY.get {l:LI}(h:YY l)(E:j<l.length)(G:i<j):l[i]<l[j]:=MQ.1 h i j oa E G
theorem yN {L:LN}{v:O2}{l:LI}(h:QQ L w.heap v l)(hi:YY l)(n:Int):
  Q6 prog 104 [v,oF oG n] w λr w'=>w'=w/\∃i:Int,r=.tuple #[oF oG i,.bool (decide (n∈l))]:=by
 have ht:=h.le;refine Zq func104 ?_;refine Qc<|x Ql<|Qb<|Qm<|QK h U<|Qb<|Qm<|x Ql<|Qb<|Qd<|Qf<|QD (α:=Nat×Nat) [(7,9),(13,30)] (λz=>[(7,oF oG z.1),(8,oF oG z.2)])
  (λz w'=>w'=w/\z.1<=z.2/\z.2<=l.length/\(∀m (E:m<l.length),m<z.1->l[m]<n)/\(∀m (E:m<l.length),z.2<=m->n<=l[m])) (λz=>z.2 - z.1) ol (0,l.length) oA
  ⟨U,Ln _,Lu _,λm _ J=>OW J (Ni m),λm h1 J=>OW h1 (by simp only[]at J;omega)⟩ ?_
 rintro⟨i,j⟩ g w1 ⟨rfl,hb,T,G,O⟩;simp only[]at hb T G O;refine Qd<|Qm<|Qa<|QZ U U<|xe<|QG rfl (λhc=>?_) (λhc=>?_)
 ·have e:i=j:=oa
  subst e;refine Qy<|Q3 (α:=Bool) [(4,5),(31,53)] (λz=>[(4,oF oG i),(5,.bool z)]) (λz w'=>w'=w1/\z=decide (n∈l)) ol ?_ ?_
  ·refine Qw<|Qa<|Qa<|Qa<|xb (YQ U U) (λhe=>?_) (λhe=>?_)
   ·have H:i<l.length:=oa
    refine Qa<|Qa<|Qa<|xii h U U H λhu hf=>x (QA hf U)<|Qa<|xb (Q0 U U) (λS=>?_) (λS=>?_)
    ·refine Qa<|Qr<|Qr<|Qr<|Qr<|Qr<|Qr<|Qr<|Qr<|Qr<|QH U<|QH U<|x Ql<|Qb ?_;have:n∈l:=by rw[<-S];exact Ll H
     exact⟨true,oA,U,by simp[this]⟩
    refine Qa<|Qa<|Qa<|xii h U U H λhv hg=>x (QA hg U)<|QM<|(Qb8 _).mono ?_;rintro r3 w3 ⟨rfl,rfl⟩;refine Qa<|Qr<|Qr<|QH U<|QH U<|QH U<|x Ql<|Qb<|⟨false,oA,U,?_⟩;have:n∉l:=by
     intro E;obtain⟨m,I,V⟩:=LM E;by_cases hk:m<i
     ·have:=G m I hk;omega
     by_cases hl:m=i
     ·subst hl;exact S V
     have:=YY.get hi I (show i<m by omega);have:=O i H (Lu _);omega
    simp[this]
   refine Qa<|Qr<|Qr<|Qr<|Qr<|Qr<|Qr<|Qr<|Qr<|Qr<|Qr<|Qr<|Qr<|Qr<|Qr<|Qr<|Qr<|xs U <|
    QH rfl<|x Ql<|Qb<|⟨false,oA,U,?_⟩
   have:n∉l:=by
    intro E;obtain⟨m,I,V⟩:=LM E;have:=G m I oa;omega
   simp[this]
  rintro z g w7 ⟨rfl,rfl⟩;exact Qk ⟨[oF oG i,.bool (decide (n∈l))],oA,U,i,U⟩
 refine Qh<|Qf<|Qm<|Qa<|QP U U<|x (Z3 U (by exact⟨oa,oa⟩))<|x (jD (n:=1) U U og)<|x (Z3 U (by exact⟨oa,oa⟩))<|Qb ?_;have hh:(((i:Int)+(j:Int)) / 2 ^ 1)=(((i+j) / 2:Nat):Int):=oa
 rw[hh];generalize hq:(i+j) / 2=q;have hn:i<=q:=oa
 have ho:q<j:=oa
 have Y:q<l.length:=oa
 refine Qm<|Qa<|xii h U U Y λhw hp=>x (QA hp U)<|Qa<|QM<|(QeN _ _).mono ?_;rintro r8 w8 ⟨rfl,rfl⟩;refine xe<|QG rfl (λha=>?_) (λha=>?_)
 ·refine Qw<|Qa<|Qb<|⟨(i,q),oh,oA,U,hn,oa,G,λm E hr=>?_⟩;by_cases e:q=m
  ·subst e;omega
  have:=YY.get hi E (show q<m by simp only[]at hr;omega);omega
 refine Qw<|Qa<|QP U U<|Qb<|⟨(q+1,j),oh,oA,U,ho,T,λm E hs=>?_,O⟩;by_cases e:m=q
 ·subst e;exact ha
 have:=YY.get hi Y (show m<q by simp only[]at hs;omega);omega
theorem Kh {L:LN}{v:O2}{l:LI}(h:QQ L w.heap v l)(hi:YY l)(n:Int):
  Q6 prog 251 [v,oF oG n] w λr w'=>r=.bool (decide (n∈l))/\w'=w:=by
 refine Zq func251 ?_;refine Qc<|Qb<|Qm<|Qa<|QM<|(yN h hi n).mono ?_;rintro E G ⟨rfl,i,rfl⟩;refine Qa<|Q7 U U<|Q7 U U<|x Ql<|Qb<|Qm<|Qb<|Qk ⟨[.bool (decide (n∈l))],La,U,U⟩
theorem qO {L:LN}{v:O2}{l:LI}(h:QQ L w.heap v l)(n:Int):
  Q6 prog 102 [v,oF oG n] w λr w'=>r=oF oG (Kr n none l)/\w'=w:=by
 have hc:=h.le;refine Zq func102 ?_;refine Qc<|Qb<|Qd<|Qm<|QK h U<|Qa<|xe<|Qf<|QD (α:=Nat) [(4,6),(9,34)] (λk=>[(9,oF oG k)]) (λk w'=>w'=w/\k<=l.length/\Kr n (pv l k) (l.drop k)=Kr n none l) (λk=>l.length - k) ol 0 La ⟨U,Ln _,U⟩ ?_;rintro k g S ⟨rfl,hk,E⟩;refine Qc<|QZ U U<|xe<|Qd<|QG U (λT=>?_) (λT=>?_)
 ·refine Qy<|Qc<|Qb<|Qk ⟨[oF oG 0],La,?_,U⟩;rw[<-E,Lq oa];rfl
 have G:k<l.length:=oa
 have hd:=Zg G;rw[hd,Kr]at E;refine Qh<|Qd<|Qf<|Qm<|xii h U U G λhe V=>x (QA V U)<|x Ql<|Qb<|Qf<|Q3 (α:=Bool) [(14,21)] (λz=>[(14,.bool z)]) (λz w'=>w'=S/\z=decide (l[k]<0\/n<=l[k])) ol ?_ ?_
 ·refine Qw<|Qa<|xb (YQ U U) (λH=>?_) (λH=>?_)
  ·refine Qa<|Qr<|Qr<|Qr<|QH U<|Qb<|⟨true,La,U,by simp[H]⟩
  refine Qa<|Qa<|Qa<|x (Ys U U)<|QH U<|Qb<|⟨_,La,U,by simp[H]⟩
 rintro z g Y ⟨rfl,rfl⟩;refine QY rfl (λI=>?_) (λI=>?_)
 ·refine Qc<|Qb<|Qk ⟨[oF oG 2],La,?_,U⟩;rw[<-E,OU I];rfl
 rw[OT I]at E;refine Q3 (α:=Bool) [(22,33)] (λz=>[(22,.bool z)]) (λz w'=>w'=Y/\z=jd (pv l k) l[k]) ol ?_ ?_
 ·refine Qw<|Qa<|xb (Z7 U U) (λha=>?_) (λha=>?_)
  ·have hk1:((k:Int) - 1)=((k - 1:Nat):Int):=oa
   refine Qa<|Qa<|Qa<|Qa<|x (Jh U U ⟨oa,oa⟩)<|xii (i:=k - 1) h U (by show Value.int _ ((k:Int) - 1)=_;rw[hk1]) oa λhf hb=>x (QA hb rfl)<|x (KW rfl rfl)<|QH rfl<|Qb<|⟨_,⟨rfl,Z⟩,rfl,?_⟩;have:pv l k=some l[k - 1]:=by
    have J:k≠0:=oa
    simp[pv,J,show k - 1<l.length by omega]
   rw[this];rfl
  refine Qa<|Qr<|Qr<|Qr<|Qr<|Qr<|Qr<|Qr<|QH U<|Qb ?_;have J:k=0:=oa
  exact⟨false,La,U,by simp[pv,J,jd]⟩
 rintro z g w3 ⟨rfl,rfl⟩;refine QX rfl (λO=>?_) (λO=>?_)
 ·refine Qc<|Qb<|Qk ⟨[oF oG 5],La,?_,U⟩;rw[<-E,OU O];rfl
 rw[OT (by simp[O])]at E;refine Qh<|Qw<|QP U U<|Qa<|xe ?_;exact⟨k+1,oa,La,U,oa,by rw[Vw G];exact E⟩
theorem jg {L:LN}{a:Q9}(h:ZH L w.heap va vm ve a):
  Q6 prog 103 [.agg #[va,oF oG a.st,vm,ve]] w λr w'=>r=oF oG (ckE a.al a.st none a.ed)/\O5 [] w w':=by
 obtain⟨J,_,H⟩:=h;have h2:=H.le;refine Zq func103 ?_;refine Qc<|Qe<|QS (us:=[va,oF oG a.st,vm,ve]) U λb1 w1 Y h3 I=>Qb ?_
 replace J:=J.I Y
 replace H:=H.I Y;refine Qd<|Qc<|Qs U I U U<|QK H U<|Qa<|xe<|Qf<|QD (α:=Nat) [(2,5),(9,71)] (λk=>[(9,oF oG k)]) (λk w'=>O5 [] w1 w'/\k<=a.ed.length/\ckE a.al a.st (pv a.ed k) (a.ed.drop k)=ckE a.al a.st none a.ed) (λk=>a.ed.length - k) ol 0 La
  ⟨O5.Z _ _,Ln _,U⟩ ?_
 rintro k g w2 ⟨O,hk,E⟩
 replace J:=J.I O
 replace H:=H.I O
 replace I:=I.I O;refine Qc<|QZ U U<|xe<|Qd<|QG U (λhq=>?_) (λhq=>?_)
 ·refine Qy<|Qc<|Qb<|Qk ⟨[oF oG 0],La,?_,Y.D O⟩;rw[<-E,Lq oa];rfl
 have ha:k<a.ed.length:=oa
 have hd:=Zg ha;rw[hd,ckE]at E;refine Qh<|Qd<|Qf<|Qm<|xie H U U ha λh4 hr=>x (Qx hr U U)<|Qe<|Qo (us:=[oF oG 0,oF oG 0,oF oG 0]) U λb4 w3 hs ht G=>x Ql <|
  Qe<|Qj G U U U U oB λw4 hu G=>xe ?_
 have S:=hs.O hu ht
 replace J:=J.I S
 replace H:=H.I S
 replace I:=I.I S;have T:=(Y.D O).D S;refine Qd<|Qf<|Q3 (α:=Bool) [(14,36)] (λz=>[(14,.bool z)]) (λz w'=>w'=w4/\z=decide (a.ed[k].1<0\/a.st<=a.ed[k].1\/a.ed[k].2.2<0\/a.st<=a.ed[k].2.2)) ol ?_ ?_
 ·refine Qw<|Qs U G U U<|xb (YQ U U) (λhb=>?_) (λhb=>?_)
  ·refine Qa<|Qr<|Qr<|Qr<|Qr<|Qr<|QH U<|Qa<|Qr<|Qr<|Qr<|QH U<|Qa<|Qr<|Qr<|Qr<|Qr<|Qr<|QH U<|Qb<|⟨true,La,U,by simp[hb]⟩
  refine Qa<|Qs U G U U<|Qs U I U U<|xb (Ys U U) (λhc=>?_) (λhc=>?_)
  ·refine QH U<|Qa<|Qr<|Qr<|Qr<|QH U<|Qa<|Qr<|Qr<|Qr<|Qr<|Qr<|QH U<|Qb<|⟨true,La,U,by simp[hc]⟩
  refine QH U<|Qa<|Qs U G U U<|xb (YQ U U) (λhe=>?_) (λhe=>?_)
  ·refine QH U<|Qa<|Qr<|Qr<|Qr<|Qr<|Qr<|QH U<|Qb<|⟨true,La,U,by simp[he]⟩
  refine QH U<|Qa<|Qs U G U U<|Qs U I U U<|x (Ys U U)<|QH U<|Qb<|⟨_,La,U,by simp[hb,hc,he]⟩
 rintro z g w5 ⟨rfl,rfl⟩;refine QY rfl (λhf=>?_) (λhf=>?_)
 ·refine Qc<|Qb<|Qk ⟨[oF oG 2],La,?_,T⟩;rw[<-E,OU hf];rfl
 rw[OT hf]at E;refine Qc<|Qs U I U U<|Qs U G U U<|QM<|(Yj J _).mono ?_;rintro r4 w6 ⟨rfl,rfl⟩;refine x (Zx U)<|Qb<|QX U (λhg=>?_) (λhg=>?_)
 ·have hn:a.ed[k].2.1∉a.al:=by simpa using hg
  refine Qc<|Qb<|Qk ⟨[oF oG 9],La,?_,T⟩;rw[<-E,OU hn];rfl
 have hn:¬(a.ed[k].2.1∉a.al):=by simpa using hg
 rw[OT hn]at E;refine Qh<|Qd<|Qm<|x (Q0 U U)<|xe<|QY rfl (λhv=>?_) (λhv=>?_)
 ·have h0:k=0:=oa
  rw[OT (by simp[pv,h0,edO])]at E;refine Qy<|Qw<|QP U U<|Qa<|xe ?_;exact⟨k+1,oa,La,O.D S,oa,by rw[Vw ha];exact E⟩
 have h0:k≠0:=oa
 have hk1:((k:Int) - 1)=((k - 1:Nat):Int):=oa
 have ho:k - 1<a.ed.length:=oa
 refine Qh<|Qc<|Qs U I U U<|Qa<|x (Jh U U ⟨oa,oa⟩)<|xie (i:=k - 1) H U (by show Value.int _ ((k:Int) - 1)=_;rw[hk1]) ho λh5 hw =>
  x (Qx hw U U)<|Qe<|Qo (us:=[oF oG 0,oF oG 0,oF oG 0]) U λb5 w7 hy hz V=>Qe<|Qj V U U U U oB λw8 h1 V=>xe ?_
 have hh:=hy.O h1 hz
 replace G:=G.I hh
 replace T:=T.D hh;have hp:pv a.ed k=some a.ed[k - 1]:=by simp[pv,h0,ho]
 rw[hp]at E;refine Q3 (α:=Bool) [(52,70)] (λz=>[(70,.bool z)]) (λz w'=>w'=w8/\z=edO (some a.ed[k - 1]) a.ed[k]) ol ?_ ?_
 ·refine Qw<|Qs U G U U<|Qs U V U U<|xb (YQ U U) (λhi=>?_) (λhi=>?_)
  ·refine Qa<|Qr<|Qr<|Qr<|Qr<|Qr<|Qr<|Qr<|Qr<|Qr<|Qr<|Qr<|Qr<|QH U<|xe ?_;exact⟨true,La,U,by simp[edO,hi]⟩
  refine Qa<|Qs U G U U<|Qs U V U U<|xb (Q0 U U) (λhj=>?_) (λhj=>?_)
  ·refine Qa<|Qs U G U U<|Qs U V U U<|x (KW U U)<|QH U<|QH U<|xe ?_;exact⟨_,La,U,by simp[edO,hj]⟩
  refine Qa<|Qr<|Qr<|Qr<|Qr<|Qr<|QH U<|QH U<|xe ?_;exact⟨false,La,U,by simp[edO,hj,hi]⟩
 rintro z g w9 ⟨rfl,rfl⟩;refine QX rfl (λhl=>?_) (λhl=>?_)
 ·refine Qc<|Qb<|Qk ⟨[oF oG 5],La,?_,T⟩;rw[<-E,OU hl];rfl
 rw[OT (by simp[hl])]at E;refine Qh<|Qw<|QP U U<|Qa<|xe ?_;exact⟨k+1,oa,La,(O.D S).D hh,oa,by rw[Vw ha];exact E⟩
theorem Je {L:LN}{a:Q9}(h:ZH L w.heap va vm ve a):
  Q6 prog 51 [.agg #[va,oF oG a.st,vm,ve]] w λr w'=>r=oF oG (Jl a)/\O5 [] w w':=by
 refine Zq func51 ?_;refine Qc<|Qe<|QS (us:=[va,oF oG a.st,vm,ve]) U λb1 T E V G=>Qb ?_
 replace h:=h.I E;refine Qd<|Qc<|Qs U G U U<|QM<|(qO h.al 32).mono ?_;rintro r2 Y ⟨rfl,rfl⟩;refine Qb<|Qm<|ZA U U<|xe<|QY rfl (λH=>?_) (λH=>?_)
 ·refine Qm<|Qb<|Qk ⟨[oF oG (Kr 32 none a.al)],La,?_,E⟩;rw[Jl,OU H];rfl
 refine Qh<|Qd<|Qf<|Qc<|Qs U G U U<|QZ U U<|Qb<|QY U (λI=>?_) (λI=>?_)
 ·refine Qc<|Qb<|Qk ⟨[oF oG 2],La,?_,E⟩;rw[Jl,OT H,OU I];rfl
 refine Qc<|Qs U G U U<|x (Z7 U U)<|Qb<|QY U (λJ=>?_) (λJ=>?_)
 ·refine Qc<|Qb<|Qk ⟨[oF oG 3],La,?_,E⟩;rw[Jl,OT H,OT I,OU J];rfl
 refine Qh<|Qd<|Qc<|Qs U G U U<|Qs U G U U<|QM<|(qO h.mr a.st).mono ?_;rintro r3 w3 ⟨rfl,rfl⟩;refine Qb<|Qm<|ZA U U<|xe<|QY rfl (λO=>?_) (λO=>?_)
 ·refine Qm<|Qb<|Qk ⟨[oF oG (Kr a.st none a.mr)],La,?_,E⟩;rw[Jl,OT H,OT I,OT J,OU O];rfl
 refine Qh<|Qc<|Q5 G U U<|QM<|(jg h).mono ?_;rintro r4 w4 ⟨rfl,S⟩;refine Qb<|Qk ⟨[oF oG (ckE a.al a.st none a.ed)],La,?_,E.D S⟩;rw[Jl,OT H,OT I,OT J,OT O];rfl
theorem Z0 {L:LN}{v:O2}{l:LI}(h:QQ L w.heap v l):
  Q6 prog 70 [v] w λr w'=>O5 [] w w'/\Qu 3 w.heap.size w' r l:=by
 have ha:=h.le;refine Zq func70 ?_;refine Qc<|Qb ?_;obtain⟨ao,cap,G⟩:=h.shape;refine Qd<|Qm<|x (XB (show ev _ _=_ from G) U)<|xe<|QX rfl (λH=>?_) (λH=>?_)
 ·refine Qc<|Qb<|Qk ⟨[nS],La,O5.Z _ _,?_⟩;rcases h.2.2 with⟨E,I⟩|⟨a,c,E,_⟩
  ·have:l=[]:=Lp I;subst this;exact QL _ _ _ _
  rw[E]at G;cases G;cases H
 rcases h.2.2 with⟨E,I⟩|⟨a,c,E,I,T⟩
 ·rw[E]at G;injection G with e1;subst e1;cases H
 refine Qh<|Qc<|Qe<|XG λb5 w1 J O S=>Qa<|Qe<|Za (base:=w.heap.size) (S.own (n:=0) (sz:=1) U oa O) U (show ev _ _=_ from E) oe (T.I J) (Uu l) oa (ou S.lt) λv2 w2 V Y hb=>Qb<|Qk ⟨[v2],La,J.O Y O,?_⟩;simpa[tup]using V
theorem Qb1 [Fu prog g fn]{keep:Bool->Bool->Bool}(hk:∀(p q:Bool) (w:O1),Q6 prog g [.bool p,.bool q] w λr w'=>r=.bool (keep p q)/\w'=w)
  {L L':LN}   {a b:LI} (H:QQ L w.heap va a) (G:QQ L' w.heap vb b) (hH:a.length+b.length<=1099511627776):
  Q6 prog 153 [va,vb,.func (.func g) #[] #[]] w λr w'=>O5 [] w w'/\Qu 3 w.heap.size w' r (mrg keep a b):=by
 refine Zq func153 ?_;refine Qc<|Qb<|Qc<|Qb<|Qd<|Qf<|QD (α:=(LI×O2)×(LI×O2)×(LI×O2)) [(0,1),(7,72)] (λz=>[(0,z.1.2),(1,z.2.1.2),(7,z.2.2.2)])
  (λz w'=>QQ L w.heap z.1.2 z.1.1/\QQ L' w.heap z.2.1.2 z.2.1.1/\Qu 3 w.heap.size w' z.2.2.2 z.2.2.1/\O5 [] w w'/\z.2.2.1++mrg keep z.1.1 z.2.1.1=mrg keep a b/\z.2.2.1.length+z.1.1.length+z.2.1.1.length<=1099511627776)
  (λz=>z.1.1.length+z.2.1.1.length) ol ((a,va),(b,vb),([],nS)) oB ⟨H,G,QL _ _ _ _,O5.Z _ _,U,by simp;omega⟩ ?_
 clear H G;rintro⟨⟨a1,h2⟩,⟨b1,h3⟩,⟨o,vo⟩⟩ g1 w1 ⟨H,G,I,E,T,hl⟩;simp only[]at H G I E T hl;refine Qd<|Q3 (α:=Bool) [(11,18)] (λz=>[(18,.bool z)]) (λz w'=>w'=w1/\z=decide (¬(a1=[]/\b1=[]))) ol ?_ ?_
 ·refine Qw<|Qa<|QK H U<|xb (Z7 U U) (λhn=>?_) (λhn=>?_)
  ·refine Qa<|Qr<|Qr<|Qr<|QH U<|xe ?_;have:a1≠[]:=by intro e;subst e;simp at hn
   exact⟨true,La,U,by simp[this]⟩
  refine Qa<|Qa<|QK G U<|x (Z7 U U)<|QH U<|xe ?_;have:a1=[]:=Lp oa;refine⟨_,La,U,?_⟩;cases b1 <;> simp[this]
 rintro z g2 w2 ⟨rfl,rfl⟩;refine QG rfl (λhe=>?_) (λhe=>?_)
 ·refine Qy<|Qm<|Qb<|Qk ⟨[vo],La,E,?_⟩;obtain⟨rfl,rfl⟩:=Lo.1 he;rw[KK,LQ]at T;rw[<-T];exact I
 refine Qh ?_;rw[Kl keep he]at T;have hp:=yr he;have hI:=H.le;have hJ:=G.le;refine Qf<|Q3 (α:=Bool) [(8,8),(19,35)] (λz=>[(8,.bool z)]) (λz w'=>O5 [] w2 w'/\z=Jq a1 b1) ol ?_ ?_
 ·refine ZD [] (Xb 0 18 [])<|p QE<|p (λ_=>Xo H U)<|pb (λ_=>Z7 U U) (λhq=>?_) (λhq=>?_)
  ·refine p QE<|p QE<|p (λ_=>Xo G U)<|pb (λ_=>Q0 U U) (λh4=>?_) (λh4=>?_)
   ·refine p QE<|ps<|ps<|ps<|ps<|ps<|ps<|ps<|p (Xg U)<|p (Xg U)<|p ZN<|pe ?_;refine⟨true,La,O5.C _ _,?_⟩;have:b1=[]:=Lp oa;subst this;cases a1 with
    | nil=>simp at hq
    | cons y a1=>rfl
   have O:0<a1.length:=oa
   have S:0<b1.length:=oa
   refine p QE<|p QE<|pii U (i:=0) (H.I E) U U O λhK h5=>pq (λ_ J=>QA (h5.I J) U) <|
    p QE<|pii U (i:=0) (G.I E) U U S λhL h6=>pq (λ_ J=>QA (h6.I J) U)<|p (λ_=>KW U U) <|
    p (Xg rfl)<|p (Xg U)<|p ZN<|pe ?_
   refine⟨_,La,O5.C _ _,?_⟩;cases a1 with
   | nil=>simp at O
   | cons y a1=>cases b1 with
    | nil=>simp at S
    | cons z b1=>rfl
  refine p QE<|ps<|ps<|ps<|ps<|ps<|ps<|ps<|ps<|ps<|ps<|ps<|ps<|p (Xg U)<|p ZN<|pe ?_;refine⟨false,La,O5.C _ _,?_⟩;have:a1=[]:=Lp oa;subst this;rfl
 rintro z g3 w3 ⟨hr,rfl⟩
 replace I:=Qp I hr
 replace E:=E.D hr;refine Q3 (α:=Bool) [(9,9),(36,52)] (λz=>[(9,.bool z)]) (λz w'=>O5 [] w3 w'/\z=Jq b1 a1) ol ?_ ?_
 ·refine ZD [] (Xb 0 18 [])<|p QE<|p (λ_=>Xo G U)<|pb (λ_=>Z7 U U) (λht=>?_) (λht=>?_)
  ·refine p QE<|p QE<|p (λ_=>Xo H U)<|pb (λ_=>Q0 U U) (λh7=>?_) (λh7=>?_)
   ·refine p QE<|ps<|ps<|ps<|ps<|ps<|ps<|ps<|p (Xg U)<|p (Xg U)<|p ZN<|pe ?_;refine⟨true,La,O5.C _ _,?_⟩;have:a1=[]:=Lp oa;subst this;cases b1 with
    | nil=>simp at ht
    | cons y b1=>rfl
   have O:0<a1.length:=oa
   have S:0<b1.length:=oa
   refine p QE<|p QE<|pii U (i:=0) (G.I E) U U S λhM h8=>pq (λ_ J=>QA (h8.I J) U) <|
    p QE<|pii U (i:=0) (H.I E) U U O λhN h9=>pq (λ_ J=>QA (h9.I J) U)<|p (λ_=>KW U U) <|
    p (Xg rfl)<|p (Xg U)<|p ZN<|pe ?_
   refine⟨_,La,O5.C _ _,?_⟩;cases a1 with
   | nil=>simp at O
   | cons y a1=>cases b1 with
    | nil=>simp at S
    | cons z b1=>rfl
  refine p QE<|ps<|ps<|ps<|ps<|ps<|ps<|ps<|ps<|ps<|ps<|ps<|ps<|p (Xg U)<|p ZN<|pe ?_;refine⟨false,La,O5.C _ _,?_⟩;have:b1=[]:=Lp oa;subst this;rfl
 rintro z g4 w4 ⟨hu,rfl⟩
 replace I:=Qp I hu
 replace E:=E.D hu;refine Qc<|Qb<|Q3 (α:=O2) [(0,0),(10,10),(53,58)] (λz=>[(0,z),(10,oF oG (bif Jq a1 b1 then a1.headD 0 else 0))]) (λz w'=>O5 [] w4 w'/\QQ L w.heap z (tl (Jq a1 b1) a1)) ol ?_ ?_
 ·refine Qm<|xe<|QX U (λV=>?_) (λV=>?_)
  ·have O:0<a1.length:=by cases a1 with|nil=>simp[Jq]at V|cons y a1=>simp
   refine ZD [] (Xb 0 7 [])<|p QE<|pii U (i:=0) (H.I E) U U O λhC hf=>pq (λ_ J=>QA (hf.I J) U)<|p QE <|
    QnQ rfl (lo:=1) H U U O λv' hg=>p ZN<|p ZN<|pe ?_
   have hh:=QQ.drop hg;refine⟨v',⟨U,?_,Z⟩,O5.C _ _,?_⟩
   ·show oF oG a1[0]=_;rw[V];cases a1 with|nil=>simp at O|cons y a1=>rfl
   rw[V];simpa[tl]using hh
  refine Qh<|⟨h2,⟨U,by show _=_;rw[V];rfl,Z⟩,O5.Z _ _,?_⟩;rw[V];exact H
 rintro hv g5 w5 ⟨hw,hy⟩
 replace I:=Qp I hw
 replace E:=E.D hw;refine Q3 (α:=O2) [(1,1),(10,10),(59,64)] (λz=>[(1,z),(10,oF oG (bif Jq b1 a1 then b1.headD 0 else bif Jq a1 b1 then a1.headD 0 else 0))]) (λz w'=>O5 [] w5 w'/\QQ L' w.heap z (tl (Jq b1 a1) b1)) ol ?_ ?_
 ·refine Qm<|xe<|QX U (λY=>?_) (λY=>?_)
  ·have S:0<b1.length:=by cases b1 with|nil=>simp[Jq]at Y|cons y b1=>simp
   refine ZD [] (Xb 0 7 [])<|p QE<|pii U (i:=0) (G.I E) U U S λhC hf=>pq (λ_ J=>QA (hf.I J) U)<|p QE <|
    QnQ rfl (lo:=1) G U U S λv' hg=>p ZN<|p ZN<|pe ?_
   have hh:=QQ.drop hg;refine⟨v',⟨U,?_,Z⟩,O5.C _ _,?_⟩
   ·show oF oG b1[0]=_;rw[Y];cases b1 with|nil=>simp at S|cons y b1=>rfl
   rw[Y];simpa[tl]using hh
  refine Qh<|⟨h3,⟨U,by show _=_;rw[Y];rfl,Z⟩,O5.Z _ _,?_⟩;rw[Y];exact G
 rintro hz g6 w6 ⟨h0,h1⟩
 replace I:=Qp I h0
 replace E:=E.D h0;have hD:(bif Jq b1 a1 then b1.headD 0 else bif Jq a1 b1 then a1.headD 0 else 0)=hx a1 b1:=by
  unfold hx;cases e:Jq b1 a1 with
  | true=>rfl
  | false =>
   cases e2:Jq a1 b1 with
   | true=>rfl
   | false=>rw[e,e2]at hp;simp[tl]at hp
 refine Qm<|Qa<|Qa<|Qe<|xc (first:=[]) (capt:=[]) U<|(hk _ _ _).mono ?_;rintro r7 w7 ⟨rfl,rfl⟩;refine xe<|QX rfl (λhi=>?_) (λhi=>?_)
 ·refine Qw ?_;rw[hi,cond_true]at T;refine Qa<|Qa<|Qe<|QC (us:=[[oF oG (hx a1 b1)]]) U U og oe ⟨by rw[<-hD];rfl,U,Z⟩ λhO w8 hj hP hE =>
   Qe<|Za (news:=[oF oG (hx a1 b1)]) (L:=[]) (Qp I hj) U U U (hE.at oe) (by simp[Value.oneCell']) oa (ov E.size hj.size) λv9 w9 hF hG hQ=>Qb ?_
  have hge:=Qi I;refine⟨((tl (Jq a1 b1) a1,hv),(tl (Jq b1 a1) b1,hz),(o++[hx a1 b1],v9)),oh,oB,hy,h1,?_,(E.D hj).then hG (λb G=>.inr (hge b G).1),by rw[LB];exact T,by simp only[oM,oO];omega⟩;exact Qu.snoc hF
 rw[hi,cond_false,L8]at T;refine Qh ?_;exact⟨((tl (Jq a1 b1) a1,hv),(tl (Jq b1 a1) b1,hz),(o,vo)),oh,oB,hy,h1,I,E,T,oh⟩
theorem QpL (p q:Bool)(w:O1):Q6 prog 154 [.bool p,.bool q] w λr w'=>r=.bool (p || q)/\w'=w:=by
 refine Zq func154 ?_;refine Qc<|Qb<|Qc ?_;cases p
 ·refine Qa<|Qa<|Qa<|QH U<|Qb<|Qk ⟨[.bool q],La,U,U⟩
 refine Qa<|Qa<|Qr<|QH U<|Qb<|Qk ⟨[.bool true],La,U,U⟩
theorem Qiq (p q:Bool)(w:O1):Q6 prog 272 [.bool p,.bool q] w λr w'=>r=.bool (p && !q)/\w'=w:=by
 refine Zq func272 ?_;refine Qc<|Qb<|Qc ?_;cases p
 ·refine Qa<|Qa<|Qr<|Qr<|QH U<|Qb<|Qk ⟨[.bool false],La,U,U⟩
 refine Qa<|Qa<|Qa<|x (Zx U)<|QH U<|Qb<|Qk ⟨[.bool (!q)],La,U,U⟩
theorem QcR {L L':LN}{a b:LI}(E:QQ L w.heap va a)(G:QQ L' w.heap vb b)(H:a.length+b.length<=1099511627776):
  Q6 prog 83 [va,vb] w λr w'=>O5 [] w w'/\Qu 3 w.heap.size w' r (mrg (· || ·) a b):=by
 refine Zq func83 ?_;refine Qc<|Qb<|Qm<|Qa<|ZP<|(Qb1 QpL E G H).mono ?_;rintro I S ⟨J,O⟩;refine Qb<|Qk ⟨[I],La,J,O⟩
theorem Qko {L L':LN}{a b:LI}(E:QQ L w.heap va a)(G:QQ L' w.heap vb b)(H:a.length+b.length<=1099511627776):
  Q6 prog 221 [va,vb] w λr w'=>O5 [] w w'/\Qu 3 w.heap.size w' r (mrg (λp q=>p && !q) a b):=by
 refine Zq func221 ?_;refine Qc<|Qb<|Qm<|Qa<|ZP<|(Qb1 Qiq E G H).mono ?_;rintro I S ⟨J,O⟩;refine Qb<|Qk ⟨[I],La,J,O⟩
theorem QgU {L L':LN}{a b:LI}(E:QQ L w.heap va a)(G:QQ L' w.heap vb b)(H:a.length+b.length<=1099511627776):
  Q6 prog 152 [va,vb] w λr w'=>O5 [] w w'/\r=.bool (decide (mrg (λp q=>p && !q) a b=[])):=by
 refine Zq func152 ?_;refine Qc<|Qb<|Qm<|Qa<|QM<|(Qko E G H).mono ?_;rintro O S ⟨I,J⟩;have T:=QaP (λp q=>p && !q) a b;have hi:=Qu.ints (L:=[]) J oa oe;refine QK hi U<|x (Q0 U U)<|Qb<|Qk ⟨[.bool (decide (((mrg (λp q=>p && !q) a b).length:Int)=0))],La,I,?_⟩;simp[tup]
theorem Qj3 [Fu prog g fn](Y:∀(e:Ed) (s:Int) (w:O1),0<=e.1->e.1<=1099511627776->0<=s->s<=1099511627776->Q6 prog g [.agg (QF e).toArray,oF oG s] w λr w'=>r=oF oG (e.1 - s)/\O5 [] w w')
  {L:LN}  {v:O2} {es:List Ed} (h:zg L w.heap v es) (hi:es.Pairwise (λa b=>a.1<=b.1)) (hb:∀e∈es,0<=e.1/\e.1<=1099511627776) (s:Int) (ha:0<=s) (hc:s<=1099511627776):
  Q6 prog 176 [v,oF oG s,.func (.func g) #[] #[]] w λr w'=>O5 [] w w'/\∃(i:Nat) (b:Bool),r=.tuple #[oF oG i,.bool b]/\i<=es.length /\
   (∀m (E:m<es.length),m<i->es[m].1<s)/\(∀m (E:m<es.length),i<=m->s<=es[m].1):=by
 have h3:=h.le;have he:∀{i j:Nat} (G:j<es.length) (I:i<j),es[i].1<=es[j].1:=λ{i j} G I=>MQ.1 hi i j oa G I;have hf:∀m (E:m<es.length),0<=es[m].1/\es[m].1<=1099511627776:=λm E=>hb _ (Ll E);refine Zq func176 ?_;refine Qc<|x Ql<|Qb<|Qm<|QK h U<|Qb<|Qm<|x Ql<|Qb<|Qd<|Qf<|QD (α:=Nat×Nat) [(9,11),(15,34)] (λz=>[(9,oF oG z.1),(10,oF oG z.2)])
  (λz w'=>O5 [] w w'/\z.1<=z.2/\z.2<=es.length/\(∀m (E:m<es.length),m<z.1->es[m].1<s)/\(∀m (E:m<es.length),z.2<=m->s<=es[m].1)) (λz=>z.2 - z.1) ol (0,es.length) oA
  ⟨O5.Z _ _,Ln _,Lu _,λm _ J=>OW J (Ni m),λm h1 J=>OW h1 (by simp only[]at J;omega)⟩ ?_
 rintro⟨i,j⟩ g1 w1 ⟨H,I,G,O,S⟩;simp only[]at I G O S;refine Qd<|Qm<|Qa<|QZ U U<|xe<|QG rfl (λho=>?_) (λho=>?_)
 ·have e:i=j:=oa
  subst e;refine Qy<|Q3 (α:=Bool) [(6,7),(35,48)] (λz=>[(6,oF oG i),(7,.bool z)]) (λz w'=>O5 [] w1 w') ol ?_ ?_
  ·refine Qw<|Qa<|Qa<|Qa<|xb (YQ U U) (λhp=>?_) (λhp=>?_)
   ·have hg:i<es.length:=oa
    have T:=hf i hg;refine Qa<|Qa<|Qa<|Qa<|xie (h.I H) U U hg λh4 hr=>x (Qx hr U U)<|Qa<|Qe<|xc (first:=[]) (capt:=[]) U<|(Y es[i] s _ T.1 T.2 ha hc).mono ?_;rintro r2 w2 ⟨rfl,hs⟩;refine x (Q0 U U)<|QH U<|x Ql<|Qb<|⟨_,oA,hs⟩
   refine Qa<|Qr<|Qr<|Qr<|Qr<|Qr<|Qr<|Qr<|Qr<|QH U<|x Ql<|Qb<|⟨false,oA,O5.Z _ _⟩
  rintro z g3 w3 ht;exact Qk ⟨[oF oG i,.bool z],oA,H.D ht,i,z,U,G,O,S⟩
 refine Qh<|Qf<|Qm<|Qa<|QP U U<|x (Z3 U (by exact⟨oa,oa⟩))<|x (jD (n:=1) U U og)<|x (Z3 U (by exact⟨oa,oa⟩))<|Qb ?_;have hh:(((i:Int)+(j:Int)) / 2 ^ 1)=(((i+j) / 2:Nat):Int):=oa
 rw[hh];generalize T:(i+j) / 2=q;have hu:i<=q:=oa
 have hv:q<j:=oa
 have V:q<es.length:=oa
 have hl:=hf q V;refine Qm<|Qa<|Qa<|xie (h.I H) U U V λh5 hw=>x (Qx hw U U)<|Qa<|Qe<|xc (first:=[]) (capt:=[]) U<|(Y es[q] s _ hl.1 hl.2 ha hc).mono ?_;rintro r4 w4 ⟨rfl,hn⟩;refine QZ rfl U<|xe<|QG rfl (λhy=>?_) (λhy=>?_)
 ·refine Qw<|Qa<|Qb<|⟨(i,q),oh,oA,H.D hn,hu,oa,O,λm E hz=>?_⟩;by_cases e:q=m
  ·subst e;omega
  have:=he E (show q<m by simp only[]at hz;omega);omega
 refine Qw<|Qa<|QP U U<|Qb<|⟨(q+1,j),oh,oA,H.D hn,hv,G,λm E h2=>?_,S⟩;by_cases e:m=q
 ·subst e;omega
 have:=he V (show m<q by simp only[]at h2;omega);omega
theorem Qln (e:Ed)(s:Int)(w:O1)(H:0<=e.1)(I:e.1<=1099511627776)(J:0<=s)(O:s<=1099511627776):
  Q6 prog 177 [.agg (QF e).toArray,oF oG s] w λr w'=>r=oF oG (e.1 - s)/\O5 [] w w':=by
 refine Zq func177 ?_;refine Qc<|Qe<|QS (us:=QF e) U λb2 S E T G=>Qb<|Qc<|Qs U G U U<|Qa<|x (Jh U U ⟨oa,oa⟩)<|Qb<|Qk ⟨[oF oG (e.1 - s)],La,U,E⟩
theorem Qlm (e:Ed)(s:Int)(w:O1)(H:0<=e.1)(I:e.1<=1099511627776)(J:0<=s)(O:s<=1099511627776):
  Q6 prog 178 [.agg (QF e).toArray,oF oG s] w λr w'=>r=oF oG (e.1 - s)/\O5 [] w w':=by
 refine Zq func178 ?_;refine Qc<|Qe<|QS (us:=QF e) U λb2 S E T G=>Qb<|Qc<|Qs U G U U<|Qa<|x (Jh U U ⟨oa,oa⟩)<|Qb<|Qk ⟨[oF oG (e.1 - s)],La,U,E⟩
theorem QaK {L:LN}{st:Int}{es:List Ed}(h:zg L w.heap ve es)(hi:es.Pairwise (λa b=>a.1<=b.1))(S:∀e∈es,0<=e.1/\e.1<=1099511627776)(s:Int)(hf:0<=s)(hp:s<1099511627776):
  Q6 prog 105 [.agg #[va,oF oG st,vm,ve],oF oG s] w λr w'=>O5 [] w w'/\zg L w'.heap r (Z4 es s):=by
 refine Zq func105 ?_;refine Qc<|Qe<|QS (us:=[va,oF oG st,vm,ve]) U λb2 w1 T hq E=>Qb ?_
 replace h:=h.I T;refine Qc<|Qs U E U U<|Qa<|ZP<|(Qj3 Qln h hi S s hf oa).mono ?_;rintro r2 w2 ⟨J,lo,b,rfl,hr,V,hg⟩
 replace h:=h.I J
 replace E:=E.I J;refine Qa<|Q7 U U<|Q7 U U<|x Ql<|Qb<|Qc<|Qs U E U U<|Qa<|QP U U<|ZP<|(Qj3 Qlm h hi S (s+1) oa oa).mono ?_;rintro r3 w3 ⟨O,G,b',rfl,Y,hh,ha⟩
 replace h:=h.I O
 replace E:=E.I O;refine Qa<|Q7 U U<|Q7 U U<|x Ql<|Qb ?_;have he:lo<=G:=by
  rcases OH G lo with hj|hge
  ·have I:=V G oa hj;have h2:=ha G oa (Lu _);omega
  exact hge
 refine Qc<|Qs U E U U<|Qa<|Qa<|QqJ h U U U he Y λv' hk=>Qb<|Qk ⟨[v'],La,(T.D J).D O,?_⟩;have hc:=QdM (λe:Ed=>decide (e.1=s)) es lo G he Y (λm H hl=>by have:=V m H hl;simp;omega) (λm H I h2=>by have:=hg m H I;have:=hh m H h2;simp;omega) (λm H I=>by have:=ha m H I;simp;omega);have hn:(Z4 es s).length=G - lo:=by unfold Z4;rw[<-hc,Ly,LT];omega
 show Zn L w3.heap v' (Z4 es s).length 3 _;rw[hn];have e1:(Z4 es s).flatMap QF=((es.flatMap QF).drop (lo*3)).take ((G - lo)*3):=by
  unfold Z4;rw[<-hc];have key:∀(l:List Ed) (k:Nat),(l.flatMap QF).drop (k*3)=(l.drop k).flatMap QF:=by
   intro l;induction l with
   | nil=>intro k;simp
   | cons a l ih=>intro k;cases k with
    | zero=>simp
    | succ k=>simp only[Oe,List.drop_succ_cons,Oo,Nat.one_mul];rw[Nb,<-List.drop_drop,show(QF a++l.flatMap QF).drop 3=l.flatMap QF from rfl,ih]
  have ho:∀(l:List Ed) (k:Nat),(l.flatMap QF).take (k*3)=(l.take k).flatMap QF:=by
   intro l;induction l with
   | nil=>intro k;simp
   | cons a l ih=>intro k;cases k with
    | zero=>simp
    | succ k =>
     simp only[Oe,List.take_succ_cons,Oo,Nat.one_mul];rw[OK,J4,<-ih,Lt (by simp[J4])];simp
  rw[key,ho]
 rw[e1];exact hk
structure ZE (a:Q9):Prop where
 al:∀e∈a.al,0<=e/\e<32
 ali:YY a.al
 st0:0<=a.st
 st1:a.st<=4096
 mr:∀s∈a.mr,0<=s/\s<a.st
 mri:YY a.mr
 ed:∀e∈a.ed,0<=e.1/\e.1<a.st/\e.2.1∈a.al/\0<=e.2.2/\e.2.2<a.st
 edi:a.ed.Pairwise λx y=>x.1<y.1\/(x.1=y.1/\x.2.1<y.2.1)
theorem XI (n:Int):∀(l:LI) (pr:Option Int),Kr n pr l=0↔(∀x∈l,0<=x/\x<n)/\YY l/\∀y,pr=some y->∀x∈l,y<x
 | [],pr=>by simp[Kr]
 | a::l,pr=>by
  have ih:=XI n l (some a);rw[Kr];by_cases O:a<0\/n<=a
  ·rw[OU O];simp only[Oq];constructor
   ·intro h;cases h
   rintro⟨⟨h,_⟩,_⟩;omega
  rw[OT O];by_cases E:jd pr a=true
  ·rw[OU E];constructor
   ·intro h;cases h
   rintro⟨_,_,h⟩;cases pr with
   | none=>simp[jd]at E
   | some y=>simp[jd]at E;have:=h y U a Lr;omega
  rw[OT E,ih];simp only[Oq,List.pairwise_cons];constructor
  ·rintro⟨H,I,G⟩;refine⟨⟨oa,H⟩,⟨λb S=>G a U b S,I⟩,?_⟩;rintro y rfl;simp[jd]at E;exact⟨E,λz J=>ou (G a U z J)⟩
  rintro⟨⟨_,H⟩,⟨I,G⟩,_⟩;exact⟨H,G,λy T z J=>by cases T;exact I z J⟩
theorem QcC (al:LI)(st:Int):∀(l:List Ed) (pr:Option Ed),ckE al st pr l=0↔(∀e∈l,0<=e.1/\e.1<st/\e.2.1∈al/\0<=e.2.2/\e.2.2<st)/\(l.Pairwise λx y=>x.1<y.1\/(x.1=y.1/\x.2.1<y.2.1)) /\
  ∀y,pr=some y->∀e∈l,y.1<e.1\/(y.1=e.1/\y.2.1<e.2.1)
 | [],pr=>by simp[ckE]
 | a::l,pr=>by
  have ih:=QcC al st l (some a);rw[ckE];by_cases S:a.1<0\/st<=a.1\/a.2.2<0\/st<=a.2.2
  ·rw[OU S];simp only[Oq];constructor
   ·intro h;cases h
   rintro⟨⟨h,_⟩,_⟩;omega
  rw[OT S];by_cases G:a.2.1∉al
  ·rw[OU G];constructor
   ·intro h;cases h
   rintro⟨h,_⟩;exact OW (h a Lr).2.2.1 G
  rw[OT G];by_cases E:edO pr a=true
  ·rw[OU E];constructor
   ·intro h;cases h
   rintro⟨_,_,h⟩;cases pr with
   | none=>simp[edO]at E
   | some y=>simp[edO]at E;have:=h y U a Lr;omega
  rw[OT E,ih];simp only[Oq,List.pairwise_cons];have T:a.2.1∈al:=Lo.1 G;constructor
  ·rintro⟨I,J,H⟩;refine⟨⟨⟨oa,oa,T,oa,oa⟩,I⟩,⟨λb V=>H a U b V,J⟩,?_⟩;rintro y rfl;simp[edO]at E;have Y:y.1<a.1\/y.1=a.1/\y.2.1<a.2.1:=oa
   exact⟨Y,λz O=>ou (H a U z O)⟩
  rintro⟨⟨_,I⟩,⟨J,H⟩,_⟩;exact⟨I,H,λy hy z O=>by cases hy;exact J z O⟩
theorem Z1 (a:Q9):Jl a=0↔ZE a:=by
 unfold Jl;by_cases E:Kr 32 none a.al≠0
 ·rw[OU E];exact⟨λh=>OW h E,λh=>OW ((XI 32 a.al none).2 ⟨h.al,h.ali,λ_ h=>by cases h⟩) E⟩
 rw[OT E];have H:=(XI 32 a.al none).1 (Lo.1 E);by_cases I:a.st<0
 ·rw[OU I];exact⟨λh=>(by cases h),λh=>(ou h.st0)⟩
 rw[OT I];by_cases J:4096<a.st
 ·rw[OU J];exact⟨λh=>(by cases h),λh=>(ou h.st1)⟩
 rw[OT J];by_cases G:Kr a.st none a.mr≠0
 ·rw[OU G];exact⟨λh=>OW h G,λh=>OW ((XI a.st a.mr none).2 ⟨h.mr,h.mri,λ_ h=>by cases h⟩) G⟩
 rw[OT G,QcC];have O:=(XI a.st a.mr none).1 (Lo.1 G);exact⟨λh=>⟨H.1,H.2.1,oa,oa,O.1,O.2.1,h.1,h.2.1⟩,λh=>⟨h.ed,h.edi,λ_ h=>by cases h⟩⟩
theorem X0:∀(l:LI) (a n:Int),YY l->(∀x∈l,a<=x/\x<n)->(l.length:Int)<=max 0 (n - a)
 | [],a,n,_,_=>by simp;omega
 | x::l,a,n,E,G=>by
  simp only[List.pairwise_cons,Oq]at E G;have:=X0 l (x+1) n E.2 (λy H=>⟨ou (E.1 y H),(G.2 y H).2⟩);simp only[oW];omega
theorem ZE.al_le {a:Q9}(h:ZE a):a.al.length<=32:=by have:=X0 a.al 0 32 h.ali h.al;omega
theorem ZE.mr_le {a:Q9}(h:ZE a):a.mr.length<=4096:=by have:=X0 a.mr 0 a.st h.mri h.mr;have:=h.st1;omega
theorem ZE.eds {a:Q9}(h:ZE a):a.ed.Pairwise λx y=>x.1<=y.1:=h.edi.imp λh=>oa
structure Cs where
 ord:LI
 num:LI
 mk':LI
 ed:List Ed
def Ya (l:LI)(k:Int):Int:=l.getD k.toNat 0
def Zw (i:Nat)(c:Cs)(e:Ed):Cs :=
 if Ya c.num e.2.2<0 then⟨c.ord++[e.2.2],c.num.set e.2.2.toNat c.ord.length,c.mk',c.ed++[((i:Int),e.2.1,(c.ord.length:Int))]⟩
 else⟨c.ord,c.num,c.mk',c.ed++[((i:Int),e.2.1,Ya c.num e.2.2)]⟩
def Yi (a:Q9)(i:Nat)(c:Cs):Cs:=if Ya c.ord i∈a.mr then⟨c.ord,c.num,c.mk'++[(i:Int)],c.ed⟩else c
def qW (a:Q9)(i:Nat)(c:Cs):Cs:=(Z4 a.ed (Ya c.ord i)).foldl (Zw i) (Yi a i c)
def X1 (a:Q9):Nat->Nat->Cs->Cs
 | 0,_,c=>c
 | f+1,i,c=>if i<c.ord.length then X1 a f (i+1) (qW a i c)else c
def YR (a:Q9):Cs:=⟨[0],(oN a.st.toNat (-1)).set 0 0,[],[]⟩
def Yd (a:Q9):Q9:=if a.st=0 then⟨a.al,0,[],[]⟩else
 let c:=X1 a a.st.toNat 0 (YR a);⟨a.al,c.ord.length,c.mk',c.ed⟩
def neg (l:LI):Nat:=(l.filter (·<0)).length
theorem Uw:∀(l:LI) (k:Nat) (v:Int) (h:k<l.length),l[k]<0->0<=v->neg (l.set k v)+1=neg l
 | a::l,0,v,_,E,G=>by
  have H:a<0:=E;simp[neg,H,show ¬v<0 by omega]
 | a::l,k+1,v,h,E,G=>by
  have ih:=Uw l k v (oz h) E G;unfold neg at *;simp only[List.set_cons_succ,List.filter_cons];split
  ·simp only[oW];omega
  exact ih
structure Uh (st:Int)(c:Cs):Prop where
 nl:c.num.length=st.toNat
 sum:c.ord.length+neg c.num=st.toNat
 ord:∀s∈c.ord,0<=s/\s<st
 num:∀v∈c.num,v<c.ord.length
 el:c.ed.length<=1000000000
theorem Uh.le {st:Int}{c:Cs}(h:Uh st c):c.ord.length<=st.toNat:=by have:=h.sum;omega
theorem UB {l:LI}{k:Int}(h:k.toNat<l.length):Ya l k=l[k.toNat]:=by unfold Ya;simp[oQ,h]
theorem QbB {st:Int}{c:Cs}{e:Ed}(h:Uh st c)(J:0<=e.2.2)(O:e.2.2<st)(hl:c.ed.length+1<=1000000000):Uh st (Zw i c e):=by
 have H:e.2.2.toNat<c.num.length:=by rw[h.nl];omega
 unfold Zw;split
 ·rename_i I;rw[UB H]at I;refine⟨by simp[h.nl],?_,?_,?_,oz hl⟩
  ·have:=Uw c.num e.2.2.toNat c.ord.length H I oa;have:=h.sum;simp only[oM,oO];omega
  ·intro s E;simp only[oV,oI]at E;rcases E with E|rfl
   ·exact h.ord s E
   exact⟨J,O⟩
  intro v G;simp only[oM,oO];rcases MR G with G|rfl
  ·have:=h.num v G;omega
  omega
 exact⟨h.nl,h.sum,h.ord,h.num,oz hl⟩
theorem QbD (i:Nat)(c:Cs)(e:Ed):(Zw i c e).ed.length=c.ed.length+1:=by unfold Zw;split <;> simp
theorem Qis {a:Q9}{st:Int}{c:Cs}(h:Uh st c):Uh st (Yi a i c):=by
 unfold Yi;split
 ·exact⟨h.nl,h.sum,h.ord,h.num,h.el⟩
 exact h
theorem ZU {es:List Ed}{e:Ed}(h:e∈Z4 es s):e∈es/\e.1=s:=by unfold Z4 at h;simpa using h
theorem Qfq {a:Q9}(O:0<a.st):Uh a.st (YR a):=by
 have H:0<a.st.toNat:=oa
 refine⟨by simp[YR],?_,?_,?_,by simp[YR]⟩
 ·have I:0<(oN a.st.toNat (-1:Int)).length:=by simpa using H
  have S:=Uw (oN a.st.toNat (-1)) 0 0 I oe (NI _);have T:neg (oN a.st.toNat (-1))=a.st.toNat:=by
   unfold neg;rw[NE.2 (by intro b J;have:=NC J;subst this;rfl)];simp
  simp only[YR,oO];omega
 ·intro s G;simp[YR]at G;subst G;omega
 intro v E;simp only[YR,oO]at *;rcases MR E with E|rfl
 ·have:=NC E;omega
 omega
theorem Qah {a:Q9}{f:Nat}{c:Cs}(h:¬i<c.ord.length):X1 a f i c=c:=by
 cases f with
 | zero=>rfl
 | succ f=>rw[X1,OT h]
theorem ZE.ed_le {a:Q9}(h:ZE a):a.ed.length<=131072:=by
 have H:YY (a.ed.map λe=>e.1*32+e.2.1):=by
  refine MO.2 (List.Pairwise.imp_of_mem ?_ h.edi);intro x y hx I S;have E:=h.al _ (h.ed x hx).2.2.1;have G:=h.al _ (h.ed y I).2.2.1;omega
 have E:=X0 _ 0 131072 H (by
  intro v J;obtain⟨e,O,rfl⟩:=LC.1 J;have G:=h.ed e O;have T:=h.al _ G.2.2.1;have:=h.st1;omega)
 simp only[Oc]at E;omega
theorem Vd (es:List Ed)(s:Int):(Z4 es s).length<=es.length:=Mi _ _
structure KU (b3 b22:Nat)(r3:O2)(wS:O1)(c:Cs)(vo vk ve:O2)(w:O1):Prop where
 st:O5 [b3,b22] wS w
 B3:Zb w.heap b3 59 [r3,oF oG 0,vk,ve]
 B22:Zb w.heap b22 3 (c.num.map (Value.int .i64))
 o:Qu 3 wS.heap.size w vo c.ord
 k:Qu 3 wS.heap.size w vk c.mk'
 e:YH 167 wS.heap.size w ve c.ed
 d1:Dj vo vk
 d2:Dj vo ve
 d3:Dj vk ve
theorem KU.I {b3 b22:Nat}{r3:O2}{wS:O1}{c:Cs}{vo vk ve:O2}{w w':O1}(h:KU b3 b22 r3 wS c vo vk ve w)(E:O5 [] w w'):KU b3 b22 r3 wS c vo vk ve w' :=
 ⟨h.st.D E,h.B3.I E,h.B22.I E,Qp h.o E,Qp h.k E,Qp h.e E,h.d1,h.d2,h.d3⟩
section
variable {b3 b22:Nat}{r3:O2}{wS:O1}{c:Cs}{vo:O2}{w'':O1}
theorem KU.setK (h:KU b3 b22 r3 wS c vo vk ve w)(V:b3<wS.heap.size)(S:b22<wS.heap.size)(ne:b3≠b22){H:O2}{m:LI}(I:O5 (ob vk) w w')(J:Qu 3 wS.heap.size w' H m)
  (O:∀b∈ob H,b∈ob vk\/w.heap.size<=b) (G:O5 [b3] w' w'') (T:Zb w''.heap b3 59 [r3,oF oG 0,H,ve]):KU b3 b22 r3 wS ⟨c.ord,c.num,m,c.ed⟩ vo H ve w'':=by
 have hge:=Qi h.k;refine⟨(h.st.then I (λb E=>.inr (hge b E).1)).then G (λb E=>.inl (by simp at E;simp[E])),T,(h.B22.J I (QT h.k S)).J G (by simp;omega),
  Qg (Qg h.o I h.d1) G (λb E=>by have:=(Qi h.o b E).1;simp;omega),Qg J G (λb E=>by have:=(Qi J b E).1;simp;omega),
  Qg (Qg h.e I h.d3.symm) G (λb E=>by have:=(Qi h.e b E).1;simp;omega),h.d1.grow O (Zc h.o),h.d2,(h.d3.symm.grow O (Zc h.e)).symm⟩
theorem KU.setE (h:KU b3 b22 r3 wS c vo vk ve w)(V:b3<wS.heap.size)(S:b22<wS.heap.size)(ne:b3≠b22){H:O2}{m:List Ed}(I:O5 (ob ve) w w')(J:YH 167 wS.heap.size w' H m)
  (O:∀b∈ob H,b∈ob ve\/w.heap.size<=b) (G:O5 [b3] w' w'') (T:Zb w''.heap b3 59 [r3,oF oG 0,vk,H]):KU b3 b22 r3 wS ⟨c.ord,c.num,c.mk',m⟩ vo vk H w'':=by
 have hge:=Qi h.e;refine⟨(h.st.then I (λb E=>.inr (hge b E).1)).then G (λb E=>.inl (by simp at E;simp[E])),T,(h.B22.J I (QT h.e S)).J G (by simp;omega),
  Qg (Qg h.o I h.d2) G (λb E=>by have:=(Qi h.o b E).1;simp;omega),Qg (Qg h.k I h.d3) G (λb E=>by have:=(Qi h.k b E).1;simp;omega),
  Qg J G (λb E=>by have:=(Qi J b E).1;simp;omega),h.d1,h.d2.grow O (Zc h.o),h.d3.grow O (Zc h.k)⟩
theorem KU.setN (h:KU b3 b22 r3 wS c vo vk ve w)(I:b22<wS.heap.size)(ne:b3≠b22){m:LI}(G:O5 [b22] w w')(H:Zb w'.heap b22 3 (m.map (Value.int .i64))):KU b3 b22 r3 wS ⟨c.ord,m,c.mk',c.ed⟩ vo vk ve w' :=
 ⟨h.st.then G (λb E=>.inl (by simp at E;simp[E])),h.B3.J G (by simp;omega),H,Qg h.o G (λb E=>by have:=(Qi h.o b E).1;simp;omega),
  Qg h.k G (λb E=>by have:=(Qi h.k b E).1;simp;omega),Qg h.e G (λb E=>by have:=(Qi h.e b E).1;simp;omega),h.d1,h.d2,h.d3⟩
theorem KU.setO (h:KU b3 b22 r3 wS c vo vk ve w)(I:b3<wS.heap.size)(J:b22<wS.heap.size){G:O2}{m:LI}(E:O5 (ob vo) w w')(O:Qu 3 wS.heap.size w' G m)
  (H:∀b∈ob G,b∈ob vo\/w.heap.size<=b):KU b3 b22 r3 wS ⟨m,c.num,c.mk',c.ed⟩ G vk ve w' :=
 ⟨h.st.then E (λb S=>.inr (Qi h.o b S).1),h.B3.J E (QT h.o I),h.B22.J E (QT h.o J),O,Qg h.k E h.d1.symm,Qg h.e E h.d2.symm,
  (h.d1.symm.grow H (Zc h.k)).symm,(h.d2.symm.grow H (Zc h.e)).symm,h.d3⟩
end
def Yt (c:Cs)(e:Ed):Cs:=if Ya c.num e.2.2<0 then⟨c.ord++[e.2.2],c.num.set e.2.2.toNat c.ord.length,c.mk',c.ed⟩else c
theorem Qls (c:Cs)(e:Ed):(Yt c e).num.length=c.num.length:=by unfold Yt;split <;> simp
theorem zL {c:Cs}{e:Ed}(h:e.2.2.toNat<c.num.length):Zw i c e=⟨(Yt c e).ord,(Yt c e).num,(Yt c e).mk',(Yt c e).ed++[((i:Int),e.2.1,Ya (Yt c e).num e.2.2)]⟩:=by
 unfold Zw Yt;split
 ·simp[Ya,oQ,h]
 rfl
theorem Jt {L:LN}{a:Q9}(h:ZH L w.heap va vm ve a)(Y:ZE a):
  Q6 prog 52 [.agg #[va,oF oG a.st,vm,ve]] w λr w'=>O5 [] w w'/\Jv w.heap.size w'.heap r (Yd a):=by
 have hst0:=Y.st0;have hst1:=Y.st1;refine Zq func52 ?_;refine Qc<|Qe<|QS (us:=[va,oF oG a.st,vm,ve]) U λb1 w1 gn hb1 hp=>Qe<|Qo (us:=[nS,oF oG 0,nS,nS]) U λb2 w2 hh hb2 hr=>xe ?_;have hl1:=hp.lt;have hl2:=hr.lt;refine Qc<|Qs U (hp.I hh) U U<|QM<|(Z0 ((h.al.I gn).I hh)).mono ?_;rintro r3 w3 ⟨ha,O⟩;have hz3:=ha.size;refine x (Qz ⟨(Qu.ints (L:=[]) O h.al.le oe).cells,Z⟩)<|Qe<|Qo (us:=[nS,oF oG 0,nS,nS]) rfl λb3 w4 kq kr ht =>
  Qe<|Qj (us:=[r3,oF oG 0,nS,nS]) ht U U U U ⟨(Qu.ints (L:=[]) O h.al.le oe).one,rfl,rfl,rfl,Z⟩ λw5 kt ht=>xe ?_
 have J:O5 [] w3 w5:=kq.O kt kr;have hl3:=ht.lt;have go:O5 [] w w5:=((gn.D hh).D ha).D J;refine Qd<|Qc<|Q2 U<|x (Qq (((hp.I hh).I ha).I J) U U)<|x (Q0 U U)<|xe<|QY rfl (λhL=>?_) (λhL=>?_)
 ·refine Qc<|Q5 ht U U<|Qe<|Qj (us:=[r3,oF oG 0,nS,nS]) ((hr.I ha).I J) U U U U ⟨(Qu.ints (L:=[]) O h.al.le oe).one,rfl,rfl,rfl,Z⟩ λw6 gp hr=>xe ?_;refine Qk ⟨[.agg #[r3,oF oG 0,nS,nS]],⟨⟨_,U,Qn U (hr.at (L:=[]) oe).cells⟩,Z⟩,go.O gp oa,?_⟩;have ku:=Qg (Qp O J) gp (λb E=>by have:=(Qi O b E).1;simp;omega);unfold Yd;rw[OU hL];exact⟨r3,_,_,U,λL' hv=>⟨Qu.ints ku h.al.le (λb E=>ou (hv b E)),Zn.nil _ _ _,Zn.nil _ _ _⟩⟩
 have kv:0<a.st:=oa
 obtain⟨n,hn⟩:∃n:Nat,a.st=n:=⟨a.st.toNat,oa⟩;have kw:a.st.toNat=n:=oa
 refine Qh<|Qc<|Q2 U<|x (Qq (((hp.I hh).I ha).I J) U U)<|Qe<|qa (n:=n) (OV (Value.int .i64) hn) (OV (Value.int .i64) hn) oa λb22 w7 hw hb22 hM=>Qb ?_;have hl22:=hM.lt;have kx:=go.D hw;rw[show(oN n (oF oG 0).cells.toList).flatten=((oN n 0).map (Value.int .i64)) by rw[show(oF oG 0).cells.toList=[oF oG 0] from rfl,QbM,List.map_replicate]]at hM;have kz:O5 [] w3 w7:=J.D hw;refine Qd<|Qm<|x (Us U)<|Qa<|xe<|Qf<|QD (α:=Nat) [(5,5),(25,31)] (λk=>[(25,oF oG k)]) (λk w'=>O5 [b22] w7 w'/\k<=n/\Zb w'.heap b22 3 ((oN k (-1)++oN (n - k) 0).map (Value.int .i64))) (λk=>n - k) ol 0 La
  ⟨O5.Z _ _,Ln _,oz hM⟩ ?_
 rintro k g w8 ⟨hN,hk,hO⟩;refine Qc<|QZ U U<|xe<|Qd<|QG U (λk0=>?_) (λk0=>?_)
 rotate_left
 ·have T:k<n:=oa
  refine Qh<|Qd<|Qf<|Qm<|Qb<|Qw<|Qa<|Qa<|x (Zu U U T)<|Qe<|Kk hO U U (by simp;omega) λw9 h7 gq=>xe ?_;refine Qw<|QP U U<|Qa<|xe<|⟨k+1,oa,La,hN.Q h7,oa,?_⟩;have e:(oN k (-1:Int)++oN (n - k) 0).set k (-1)=oN (k+1) (-1)++oN (n - (k+1)) 0:=by
   rw[List.set_append_right _ _ oe];obtain⟨m,hm⟩:∃m,n - k=m+1:=⟨n - k - 1,oa⟩;rw[hm,show n - (k+1)=m by omega,List.replicate_succ,List.replicate_succ' (n:=k)];simp
  rw[e]at gq;exact gq
 have k4:n=k:=oa
 subst k4;simp only[Nat.sub_self,List.replicate_zero,Ox]at hO;refine Qy<|Qm<|x (Zu (i:=0) U U oa)<|Qe<|Kk (i:=0) hO U U (by simp;omega) λwS h7 k5=>xe ?_;have hzS:w8.heap.size<=wS.heap.size:=h7.size;have hz8:=hN.size;have hy:O5 [b22] w7 wS:=hN.Q h7;have hP:O5 [] w wS:=kx.O hy oa;have hA:ZH [b3,b22] wS.heap va vm ve a:=(h.up (λb E=>.inr (by simp at E;omega))).I hP;have gr:Zb wS.heap b1 59 [va,oF oG a.st,vm,ve]:=((((hp.I hh).I ha).I J).I hw).J hy (by simp;omega);have k6:Zb wS.heap b2 59 [nS,oF oG 0,nS,nS]:=(((hr.I ha).I J).I hw).J hy (by simp;omega);have k7:Zb wS.heap b3 59 [r3,oF oG 0,nS,nS]:=(ht.I hw).J hy (by simp;omega);have k8:Qu 3 w2.heap.size wS r3 a.al:=Qg (Qp O kz) hy (λb E=>by have:=Zc O b E;simp;omega);have k9:∀b∈ob r3,b<w3.heap.size:=Zc O;have hz:b3<wS.heap.size:=oa
 have h0:b22<wS.heap.size:=oa
 have hQ:b3≠b22:=oa
 refine Qc<|Qe<|QC (us:=[[oF oG 0]]) U U og oe ⟨rfl,rfl,Z⟩ λgs ma hR hb34 mf=>Qb ?_;have mg:Qu 3 wS.heap.size ma (.slice (some ⟨gs,0,none⟩) 1 1) [0]:=mf.own (n:=1) (sz:=1) U oa oa;refine Qd<|Qc<|Qb ?_;have hedle:=Y.ed_le;have mh:∀e∈a.ed,0<=e.1/\e.1<=1099511627776:=λe he=>ou (Y.ed e he)
 refine Qf<|QD (α:=Nat×Cs×O2×O2×O2) [(6,9),(11,11),(35,100)] (λz=>[(6,z.2.2.1),(7,oF oG z.1)])
  (λz w'=>KU b3 b22 r3 wS z.2.1 z.2.2.1 z.2.2.2.1 z.2.2.2.2 w'/\z.1<=z.2.1.ord.length/\Uh a.st z.2.1/\z.2.1.mk'.length<=z.1/\z.2.1.ed.length<=z.1*131072/\X1 a (a.st.toNat - z.1) z.1 z.2.1=X1 a a.st.toNat 0 (YR a))
  (λz=>a.st.toNat - z.1) ol (0,YR a,.slice (some ⟨gs,0,none⟩) 1 1,nS,nS) oA
  ⟨⟨hR.any,k7.I hR,by show Zb _ _ _ (List.map _ ((oN a.st.toNat (-1)).set 0 0));rw[kw];exact k5.I hR,mg,QL _ _ _ _,QL _ _ _ _,Dj.nil' _,Dj.nil' _,Dj.nil' _⟩,Ln _,Qfq kv,Ln _,Ln _,U⟩ ?_
 rintro⟨i,c,vo,vk,S⟩ g2 mj ⟨H,hi,G,mo,mq,hS⟩;simp only[]at H hi G mo mq hS;have hcle:=G.le;have hT:=Qu.ints (L:=[]) H.o oa oe;have ms:=hA.st H.st;have mt:=gr.J H.st (by simp;omega);refine Qd<|Qm<|Qa<|QK hT U<|QZ U U<|xe<|QG rfl (λmu=>?_) (λmu=>?_)
 ·have mv:c=X1 a a.st.toNat 0 (YR a):=by rw[<-hS,Qah oa]
  refine Qy<|Qm<|QK hT U<|Q2 U<|Qe<|QB H.B3 U U oe rfl λmw h8 my=>xe ?_;refine Qc ?_;have mz:=Qu.ints (L:=[]) H.k oa oe;have m2:=YH.eds (L:=[]) H.e (ou G.el) oe;have m3:=Qu.ints (L:=[]) O h.al.le oe;refine Q5 my U U<|Qe<|Qj (us:=[r3,oF oG c.ord.length,vk,S]) (((k6.J H.st (by simp;omega))).J h8 (by simp;omega)) U U U U ⟨m3.one,U,mz.one,m2.one,Z⟩ λm4 h9 m5=>xe ?_;have gt:O5 [b3,b22] wS mw:=H.st.then h8 (λb E=>.inl (by simp at E;simp[E]));have m6:O5 [] w m4:=(hP.then gt (λb E=>.inr (by simp at E;omega))).O h9 oa;refine Qk ⟨[.agg #[r3,oF oG c.ord.length,vk,S]],⟨⟨_,U,Qn U (m5.at (L:=[]) oe).cells⟩,Z⟩,m6,?_⟩;unfold Yd;rw[OT hL];simp only[];rw[<-mv];have k1:=Qg (Qg H.k h8 (λb E=>by have:=(Qi H.k b E).1;simp;omega)) h9 (λb E=>by have:=(Qi H.k b E).1;simp;omega);have k2:=Qg (Qg H.e h8 (λb E=>by have:=(Qi H.e b E).1;simp;omega)) h9 (λb E=>by have:=(Qi H.e b E).1;simp;omega);have k3:=Qg (Qg k8 gt (λb E=>by have:=k9 b E;simp;omega)) h9 (λb E=>by have:=(Qi O b E).1;simp;omega);exact⟨r3,vk,S,U,λL' hv=>⟨Qu.ints k3 h.al.le (λb E=>ou (hv b E)),Qu.ints k1 (by show c.mk'.length<=_;omega) (λb E=>ou (hv b E)),YH.eds k2 (by show c.ed.length<=_;have:=G.el;omega) (λb E=>ou (hv b E))⟩⟩
 have T:i<c.ord.length:=oa
 refine Qh<|Qd<|Qf<|Q3 (α:=O2) [(8,9),(41,57)] (λz=>[]) (λz w'=>KU b3 b22 r3 wS (Yi a i c) vo z S w') ol ?_ ?_
 ·refine Qd<|ZD [] (Xb 0 12 [6])<|p (QR U)<|pq (λ_ G=>Qq (mt.I G) U U)<|p QE<|p QE<|pii U hT U U T λa46 m7 =>
   pq (λ_ G=>QA (m7.I G) U)<|pk<|xg<|(yN (ms.mr.I (O5.C _ _)) Y.mri _).mono ?_
  rintro r14 w14 ⟨rfl,j14,rfl⟩;refine⟨O5.C _ _,?_⟩;refine p QE<|p (λ_=>Zt U U)<|p (λ_=>Zt U U)<|p ZN<|p ZN<|pe ?_;have hU:=H.I (O5.C [] mj);refine Qm<|xe ?_;have hB:Ya c.ord i=c.ord[i]:=UB (oz T);refine QG U (λhV=>?_) (λhV=>?_)
  ·refine Qh<|⟨vk,Z,?_⟩;unfold Yi;rw[hB,OT hV];exact hU
  refine Qw<|Qs U hU.B3 U U<|Qa<|Qe<|QC (us:=[[oF oG i]]) U U og oe ⟨rfl,rfl,Z⟩ λb55 w15 m8 hb55 m9=>?_;have h2:=hU.I m8;refine Qe<|Za (news:=[oF oG i]) (L:=[]) h2.k U U U (m9.at oe) (by simp[Value.oneCell']) oa h2.st.size λv16 pa pc gu pd=>?_;have gv:Qu 3 wS.heap.size pa v16 (c.mk'++[(i:Int)]):=Qu.snoc pc;refine Q2 U<|Qe<|QB (h2.B3.J gu (QT h2.k hz)) U U oe (Qu.ints (L:=[]) gv (by simp;omega) oe).one λw17 pf pg=>xe ?_;refine⟨v16,Z,?_⟩;unfold Yi;rw[hB,OU hV];exact h2.setK hz h0 hQ gu gv pd pf pg
 rintro hW g3 h3 hj;have ph:Uh a.st (Yi a i c):=Qis G;have hX:(Yi a i c).ord=c.ord:=by unfold Yi;split <;> rfl
 have pj:(Yi a i c).ed=c.ed:=by unfold Yi;split <;> rfl
 have pm:(Yi a i c).mk'.length<=i+1:=by
  unfold Yi;split
  ·simp only[oM,oO];omega
  omega
 have gw:QQ [] h3.heap vo (Yi a i c).ord:=Qu.ints (L:=[]) hj.o (by rw[hX];omega) oe;rw[hX]at gw;have pn:O5 [] w h3:=hP.then hj.st (λb E=>.inr (by simp at E;omega));have po:ZH (b3::b22::(ob vo++ob S)) h3.heap va vm ve a:=(h.up (λb E=>.inr (by
  simp only[oL,oV]at E;rcases E with rfl|rfl|E|E
  ·omega
  ·omega
  ·have:=(Qi hj.o b E).1;omega
  have:=(Qi hj.e b E).1;omega))).I pn
 have pp:=gr.J hj.st (by simp;omega);have hs:=G.ord c.ord[i] (Ll T);refine Qd<|ZD [] [oD 0,oD 1,oD 2,oD 3,oD 4,oD 7,oE 5,oD 6]<|pq (λ_ G=>ZY (pp.I G) U U)<|p QE<|p QE<|pii U gw U U T λa61 pu =>
  pq (λ_ G=>QA (pu.I G) U)<|p QE<|pk<|xg<|(QaK (po.ed.I (O5.C _ _)) Y.eds mh c.ord[i] hs.1 oa).mono ?_
 rintro r19 ho ⟨pw,gx⟩;have gy:O5 [] h3 ho:=(O5.C [] h3).D pw;refine⟨gy,?_⟩;refine p (λ_=>Xo gx U)<|pe ?_;have pz:=hj.I gy;have hB:Ya c.ord i=c.ord[i]:=UB (oz T);have hol:=Vd a.ed c.ord[i];have p0:qW a i c=(Z4 a.ed c.ord[i]).foldl (Zw i) (Yi a i c):=by unfold qW;rw[hB]
 generalize p1:Z4 a.ed c.ord[i]=os at *;have p2:∀e∈os,0<=e.2.2/\e.2.2<a.st:=λe he=>by rw[<-p1]at he;have:=Y.ed e (ZU he).1;omega
 refine Qf<|QD (α:=Nat×Cs×O2×O2) [(6,6),(11,11),(65,100)] (λz=>[(6,z.2.2.1),(65,oF oG z.1)])
  (λz w'=>KU b3 b22 r3 wS z.2.1 z.2.2.1 hW z.2.2.2 w'/\O5 (b3::b22::(ob vo++ob S)) ho w'/\(∀b∈ob z.2.2.1,b∈ob vo\/ho.heap.size<=b)/\(∀b∈ob z.2.2.2,b∈ob S\/ho.heap.size<=b)/\z.1<=os.length/\Uh a.st z.2.1/\z.2.1.mk'=(Yi a i c).mk'/\z.2.1.ed.length=c.ed.length+z.1/\c.ord.length<=z.2.1.ord.length/\(os.drop z.1).foldl (Zw i) z.2.1=qW a i c)
  (λz=>os.length - z.1) ol (0,Yi a i c,vo,S) oA
  ⟨pz,O5.Z _ _,λ_ E=>.inl E,λ_ E=>.inl E,Ln _,ph,U,by simp[pj],by simp[hX],by rw[p0];rfl⟩ ?_
 rintro⟨k,d,gz,hC⟩ g4 p3 ⟨hf,hD,hE,hY,p4,V,hZ,ga,p5,h4⟩;simp only[]at hf hD hE hY p4 V hZ ga p5 h4;refine Qc<|QZ U U<|xe<|Qd<|QG U (λp6=>?_) (λp6=>?_)
 ·rw[Lq oa,NH]at h4;subst h4;refine Qy<|Qw<|Qa<|QP U U<|Qb ?_;have p7:=V.le;refine⟨(i+1,qW a i c,gz,hW,hC),oh,oA,hf,oh,V,by simp only[];rw[hZ];exact pm,oh,?_⟩;simp only[];rw[<-hS];obtain⟨m,hm⟩:∃m,a.st.toNat - i=m+1:=⟨a.st.toNat - i - 1,oa⟩;rw[hm,X1,OU T,show a.st.toNat - (i+1)=m by omega]
 have gb:k<os.length:=oa
 have p8:=Zg gb;rw[p8,LZ]at h4;have g0:=p2 os[k] (Ll gb);have p9:=gx.st hD;have p7:=V.le;have hzS4:=hD.size;have hI4z:=hf.st.size;have qc:=Qu.ints (L:=[]) hf.o oa oe;obtain⟨q,hq⟩:∃q:Nat,os[k].2.2=q:=⟨os[k].2.2.toNat,oa⟩;have gc:os[k].2.2.toNat=q:=oa
 have gg:q<n:=oa
 have gh:q<d.num.length:=by rw[V.nl];omega
 have g6:Ya d.num os[k].2.2=d.num[q]:=by rw[UB oa];simp only[gc]
 have qf:=Zc hf.e;have ql:=Zc hf.o;refine Qh<|Qd<|Qf<|Qc<|xie p9 U U gb λa67 qo=>x (Qx qo U U)<|Qe<|Qo (us:=[oF oG 0,oF oG 0,oF oG 0]) U λg7 w21 qr q0 hg=>Qe<|Qj (us:=QF os[k]) hg U U U U oB λq1 q2 hg=>xe ?_;have g8:O5 [] p3 q1:=qr.O q2 q0;have hF:=hf.I g8;have hl11:=hg.lt;have J:=hD.D g8;refine Q3 (α:=O2) [(6,6),(69,85)] (λz=>[(6,z)]) (λz w'=>KU b3 b22 r3 wS (Yt d os[k]) z hW hC w'/\O5 (b3::b22::(ob vo++ob S)) ho w'/\(∀b∈ob z,b∈ob vo\/ho.heap.size<=b)/\Zb w'.heap g7 167 (QF os[k])) ol ?_ ?_
 ·refine Qm<|Qs U hg U U<|x (Zu U (OV (Value.int .i64) hq) gg)<|x (zl hF.B22 U gh)<|QZ U U<|xe<|QG U (λgi=>?_) (λgi=>?_)
  ·refine Qh<|⟨gz,La,?_,J,hE,hg⟩;unfold Yt;rw[g6,OT gi];exact hF
  refine Qm<|Qs U hg U U<|Qa<|QK qc U<|x (Zu U (OV (Value.int .i64) hq) gg)<|Qe<|Kk hF.B22 U U gh λw23 hG q3=>xe ?_;have q4:=hF.setN h0 hQ hG q3;have g9:=hg.J hG (by simp;omega);refine Qw<|Qa<|Qs U g9 U U<|Qe<|QC (us:=[[oF oG os[k].2.2]]) U U og oe ⟨rfl,rfl,Z⟩ λb84 w24 hH hb84 q5=>?_;have gj:=q4.I hH;refine Qe<|Za (news:=[oF oG os[k].2.2]) (L:=[]) gj.o U U U (q5.at oe) (by simp[Value.oneCell']) (by show d.ord.length+1<=_;omega) gj.st.size λka j1 j2 gk kb=>Qb ?_;have j3:Qu 3 wS.heap.size j1 ka (d.ord++[os[k].2.2]):=Qu.snoc j2;have hz23:=hG.size;have hz24:=hH.size;refine⟨ka,La,?_,?_,?_,(g9.I hH).J gk (λE=>ou (ql _ E))⟩
  ·unfold Yt;rw[g6,OU gi,gc];exact gj.setO hz h0 gk j3 kb
  ·refine((J.then hG (λb E=>.inl ?_)).D hH).then gk (λb E=>?_)
   ·simp at E;simp[E]
   rcases hE b E with I|I
   ·exact .inl (by simp[I])
   exact .inr I
  intro b E;rcases kb b E with I|I
  ·exact hE b I
  exact .inr oa
 rintro za g5 kc ⟨h5,ke,zb,kf⟩;have gl:Zw i d os[k]=⟨(Yt d os[k]).ord,(Yt d os[k]).num,(Yt d os[k]).mk',(Yt d os[k]).ed++[((i:Int),os[k].2.1,Ya (Yt d os[k]).num os[k].2.2)]⟩:=zL oa;have zv:q<(Yt d os[k]).num.length:=by rw[Qls];exact gh
 have z0:Ya (Yt d os[k]).num os[k].2.2=(Yt d os[k]).num[q]:=by rw[UB oa];simp only[gc]
 have kg:=QT h5.e hz;have z1:=QT h5.e h0;have kh:g7∉ob hC:=λE=>ou (qf _ E)
 have ki:(Yt d os[k]).ed=d.ed:=by unfold Yt;split <;> rfl
 have z2:Uh a.st (Zw i d os[k]):=QbB V g0.1 g0.2 (by rw[ga];omega);refine ZD (ob hC) (Xb 0 15 [11,12,14])<|p (QR U)<|pq (λ_ G=>Qq (h5.B3.J G kg) U U)<|p QE<|p (QR U)<|pq (λ_ G=>Qq (kf.J G kh) U U) <|
  p QE<|p (QR U)<|pq (λ_ G=>Qq (kf.J G kh) U U)<|p (λ_=>Zu U (OV (Value.int .i64) hq) gg) <|
  pq (λ_ G=>zl (h5.B22.J G z1) U zv)<|p (λ_=>Qz ⟨U,U,U,Z⟩)<|pk<|QC (us:=[QF ((i:Int),os[k].2.1,(Yt d os[k]).num[q])]) U U og (by exact(by decide:1*3<=1000000)) oA λb97 z3 z4 hb97 z5=>?_
 have h6:O5 [] kc z3:=(O5.C [] kc).D z4;refine⟨h6.any,?_⟩;have hJ:=h5.I h6;refine pk<|Za (news:=QF ((i:Int),os[k].2.1,(Yt d os[k]).num[q])) (L:=[]) hJ.e U U U (z5.at oe) (λu hu=>by simp only[QF,oL,oJ,or_false]at hu;rcases hu with rfl|rfl|rfl <;> rfl) (by rw[ki];have:=V.el;omega) hJ.st.size λkj w28 ho28 hK kk=>?_
 refine⟨h6.any.Q hK,?_⟩;have kn:YH 167 wS.heap.size w28 kj ((Yt d os[k]).ed++[((i:Int),os[k].2.1,(Yt d os[k]).num[q])]):=YH.snoc ho28;refine p (QR U)<|pkl (hl:=by kernel_rfl)<|QB (hJ.B3.J hK kg) U U oe (YH.eds (L:=[]) kn (by simp[ki];have:=V.el;omega) oe).one λw29 ko hB29=>pe ?_;have gm:=hJ.setE hz h0 hQ hK kn kk ko hB29;rw[<-z0]at gm;rw[<-gl]at gm;refine Qw<|QP U U<|Qa<|xe ?_;have hz26:=ke.size;have hz27:=h6.size;refine⟨(k+1,Zw i d os[k],za,kj),oh,oA,gm,?_,zb,?_,oh,z2,?_,?_,?_,h4⟩
 ·refine(((ke.D h6)).then hK (λb E=>?_)).then ko (λb E=>.inl (by simp at E;simp[E]));rcases hY b E with I|I
  ·exact .inl (by simp[I])
  exact .inr I
 ·intro b E;rcases kk b E with I|I
  ·exact hY b I
  exact .inr oa
 ·simp only[];rw[<-hZ,gl];simp only[];unfold Yt;split <;> rfl
 ·simp only[];rw[QbD,ga];omega
 simp only[];rw[gl];simp only[];unfold Yt;split
 ·simp only[oM];omega
 omega
end Go.Lg
namespace Go.Proofs
open Go.Proofs.Tryz
open Go.Shelf
def Tryz.lays169_ren:Go.Shelf.Ren:=⟨λ|169=>189|n=>n,λ|70=>337|9=>9|0=>0|72=>339|37=>188|127=>401|3=>3|5=>5|n=>n,λ|n=>n⟩
theorem Tryz.lays169:Go.Proofs.Lays.n169 prog Tryz.lays169_ren:={
 mixed:=od
 f169:=func189.D (OV some od)
 t0:=underlying0
 a0:=isAgg0
 z0:=sizeOf0
 v0:=zeroValue0
 t3:=underlying3
 a3:=isAgg3
 z3:=sizeOf3
 v3:=zeroValue3
 t9:=underlying9
 a9:=isAgg9
 z9:=sizeOf9
 v9:=zeroValue9
 t37:=underlying188
 a37:=isAgg188
 z37:=sizeOf188
 v37:=zeroValue188
 t70:=underlying337
 a70:=isAgg337
 z70:=sizeOf337
 v70:=zeroValue337
 t72:=underlying339
 a72:=isAgg339
 z72:=sizeOf339
 v72:=zeroValue339
 t127:=underlying401
 a127:=isAgg401
 z127:=sizeOf401
 v127:=zeroValue401 }
theorem Tryz.Builder_Extra_169:Builder.Extra prog Tryz.lays169_ren:={
 sizeBuilder:=od
 liesBuilder:=od
 t5:=underlying5
 a5:=isAgg5
 z5:=sizeOf5
 v5:=zeroValue5
 infoByte:=od
 cellsByte:=od
 sizeByte:=od
 neB5:=by decide }
open Go.RowKit in
open Go.RowKit in
open Go.RowKit in
theorem Tryz.Builder_String_any (B b:Nat)(l:List UInt8)(w:O1)(h:Lib.IsBuilder 339 5 B b (Lib.byteCells l) w)(E:B<=w.heap.size):
  Calls prog 189 #[.pointer (some ⟨b,0,none⟩)] w λe w'=>e=.returned (.string ⟨l.toArray⟩)/\Below B w w':=Any.Builder_String_any Tryz.lays169 Tryz.Builder_Extra_169 B b l w h E
def Tryz.laysM171_ren:Go.Shelf.Ren:=⟨λ|171=>188|243=>253|246=>294|283=>328|284=>329|285=>330|286=>331|129=>215|317=>344|318=>345|319=>346|320=>347|337=>350|338=>351|n=>n,λ|3=>3|9=>9|2=>2|4=>4|171=>464|0=>0|53=>369|37=>188|5=>5|173=>466|212=>479|51=>367|20=>20|213=>480|46=>285|232=>483|233=>484|n=>n,λ|17=>0|18=>1|19=>2|n=>n⟩
theorem Tryz.laysM171:Go.Proofs.LaysM.n171 prog Tryz.laysM171_ren:={
 mixed:=od
 f129:=func215.D (OV some od)
 f171:=func188.D (OV some od)
 f243:=func253.D (OV some od)
 f246:=func294.D (OV some od)
 f283:=func328.D (OV some od)
 f284:=func329.D (OV some od)
 f285:=func330.D (OV some od)
 f286:=func331.D (OV some od)
 f317:=func344.D (OV some od)
 f318:=func345.D (OV some od)
 f319:=func346.D (OV some od)
 f320:=func347.D (OV some od)
 f337:=func350.D (OV some od)
 f338:=func351.D (OV some od)
 t0:=underlying0
 a0:=isAgg0
 z0:=sizeOf0
 v0:=zeroValue0
 t2:=underlying2
 a2:=isAgg2
 z2:=sizeOf2
 v2:=zeroValue2
 t3:=underlying3
 a3:=isAgg3
 z3:=sizeOf3
 v3:=zeroValue3
 t4:=underlying4
 a4:=isAgg4
 z4:=sizeOf4
 v4:=zeroValue4
 t5:=underlying5
 a5:=isAgg5
 z5:=sizeOf5
 v5:=zeroValue5
 t9:=underlying9
 a9:=isAgg9
 z9:=sizeOf9
 v9:=zeroValue9
 t20:=underlying20
 a20:=isAgg20
 z20:=sizeOf20
 v20:=zeroValue20
 t37:=underlying188
 a37:=isAgg188
 z37:=sizeOf188
 v37:=zeroValue188
 t46:=underlying285
 a46:=isAgg285
 z46:=sizeOf285
 v46:=zeroValue285
 t51:=underlying367
 a51:=isAgg367
 z51:=sizeOf367
 v51:=zeroValue367
 t53:=underlying369
 a53:=isAgg369
 z53:=sizeOf369
 v53:=zeroValue369
 t171:=underlying464
 a171:=isAgg464
 z171:=sizeOf464
 v171:=zeroValue464
 t173:=underlying466
 a173:=isAgg466
 z173:=sizeOf466
 v173:=zeroValue466
 t212:=underlying479
 a212:=isAgg479
 z212:=sizeOf479
 v212:=zeroValue479
 t213:=underlying480
 a213:=isAgg480
 z213:=sizeOf480
 t232:=underlying483
 a232:=isAgg483
 z232:=sizeOf483
 v232:=zeroValue483
 t233:=underlying484
 a233:=isAgg484
 z233:=sizeOf484
 v233:=zeroValue484
 g17:=od
 g18:=od
 g19:=od
 i0:=od
 i2:=od
 i3:=od
 i4:=od
 i5:=od
 i9:=od
 i20:=od
 i37:=od
 i46:=od
 i51:=od
 i53:=od
 i171:=od
 i173:=od
 i212:=od
 i232:=od
 i233:=od
 m17:=od
 m18:=od
 m19:=by kernel_rfl }
open Go.RowKit Go.Sort Go.Lib in
theorem Tryz.strconv_Itoa (n:Int)(E:-9223372036854775808<=n)(G:n<=9223372036854775807)(w:O1)(H:Lib.TabIs prog w "internal/strconv.uint64pow10" .u64 Lib.pow10Tab):
  Calls prog 188 #[oF oG n] w λe w'=>e=.returned (.string ⟨(Lib.itoa n).toArray⟩)/\∃k os,w'=grow (w.drewN k) os:=Any.strconv_Itoa Tryz.laysM171 n E G w H
def Tryz.lays171_ren:Go.Shelf.Ren:=⟨λ|171=>188|243=>253|246=>294|283=>328|284=>329|285=>330|286=>331|129=>215|317=>344|318=>345|319=>346|320=>347|337=>350|338=>351|n=>n,λ|3=>3|9=>9|2=>2|4=>4|171=>464|0=>0|53=>369|37=>188|5=>5|173=>466|212=>479|51=>367|20=>20|213=>480|46=>285|232=>483|233=>484|n=>n,λ|17=>0|18=>1|19=>2|n=>n⟩
theorem Tryz.lays171:Go.Proofs.Lays.n171 prog Tryz.lays171_ren:={
 mixed:=od
 f129:=func215.D (OV some od)
 f171:=func188.D (OV some od)
 f243:=func253.D (OV some od)
 f246:=func294.D (OV some od)
 f283:=func328.D (OV some od)
 f284:=func329.D (OV some od)
 f285:=func330.D (OV some od)
 f286:=func331.D (OV some od)
 f317:=func344.D (OV some od)
 f318:=func345.D (OV some od)
 f319:=func346.D (OV some od)
 f320:=func347.D (OV some od)
 f337:=func350.D (OV some od)
 f338:=func351.D (OV some od)
 t0:=underlying0
 a0:=isAgg0
 z0:=sizeOf0
 v0:=zeroValue0
 t2:=underlying2
 a2:=isAgg2
 z2:=sizeOf2
 v2:=zeroValue2
 t3:=underlying3
 a3:=isAgg3
 z3:=sizeOf3
 v3:=zeroValue3
 t4:=underlying4
 a4:=isAgg4
 z4:=sizeOf4
 v4:=zeroValue4
 t5:=underlying5
 a5:=isAgg5
 z5:=sizeOf5
 v5:=zeroValue5
 t9:=underlying9
 a9:=isAgg9
 z9:=sizeOf9
 v9:=zeroValue9
 t20:=underlying20
 a20:=isAgg20
 z20:=sizeOf20
 v20:=zeroValue20
 t37:=underlying188
 a37:=isAgg188
 z37:=sizeOf188
 v37:=zeroValue188
 t46:=underlying285
 a46:=isAgg285
 z46:=sizeOf285
 v46:=zeroValue285
 t51:=underlying367
 a51:=isAgg367
 z51:=sizeOf367
 v51:=zeroValue367
 t53:=underlying369
 a53:=isAgg369
 z53:=sizeOf369
 v53:=zeroValue369
 t171:=underlying464
 a171:=isAgg464
 z171:=sizeOf464
 v171:=zeroValue464
 t173:=underlying466
 a173:=isAgg466
 z173:=sizeOf466
 v173:=zeroValue466
 t212:=underlying479
 a212:=isAgg479
 z212:=sizeOf479
 v212:=zeroValue479
 t213:=underlying480
 a213:=isAgg480
 z213:=sizeOf480
 t232:=underlying483
 a232:=isAgg483
 z232:=sizeOf483
 v232:=zeroValue483
 t233:=underlying484
 a233:=isAgg484
 z233:=sizeOf484
 v233:=zeroValue484
 g17:=od
 g18:=od
 g19:=by kernel_rfl }
open Go.RowKit Go.Sort Go.Lib in
theorem Tryz.strconv_Itoa_small (i:Nat)(hi:i<100)(w:O1):
  Calls prog 188 #[oF oG i] w λe w'=>e=.returned (.string ⟨(Lib.decDigits i).toArray⟩)/\w'=w:=Any.strconv_Itoa_small Tryz.lays171 i hi w
end Go.Proofs
namespace Go.Lg
open Go.RowKit
section
variable {K:Fr->O1->Prop}{f:Fr}{pS:String}
theorem X4 {te:Nat}(G:P.underlying t=some (.pointer te)){x:O3}{a:Option Addr}(hx:ev f x=.pointer a)(H:ev f y=.pointer none):
  (execOp (ev f) ⟨d,.binOp .eql t x y E,ty,pS,af,gd⟩).run P w=.ok (.value (.bool a.isNone)) w:=by
 have I:(eqGuard .eql t x y (.pointer a) (.pointer none)).run P w=.ok () w:=by simp[eqGuard]
 have key:∀m,(Op.equalIn (m+1) t (.pointer a) (.pointer none)).run P w=.ok a.isNone w:=by
  intro m;unfold Op.equalIn;cases a <;> simp[run_underlying G]
 have J:(Op.equal t (.pointer a) (.pointer none)).run P w=.ok a.isNone w:=key 9999;simp only[execOp,hx,H,Sem.run_bind,I,Result.andThen_ok,binOp,J,Sem.run_pure]
theorem QfW {te:Nat}{j:TypeInfo}(G:P.underlying t=some (.pointer te))(H:P.info? te=some j){x:O3}{a:Addr}(hx:ev f x=.pointer (some a))(I:ev f y=.pointer (some a)):
  (execOp (ev f) ⟨d,.binOp .neq t x y E,ty,pS,af,gd⟩).run P w=.ok (.value (.bool false)) w:=by
 have J:(eqGuard .neq t x y (.pointer (some a)) (.pointer (some a))).run P w=.ok () w:=by simp[eqGuard]
 simp only[execOp,hx,I,Sem.run_bind,J,Result.andThen_ok,Lib.run_neq_ptr_same w a G H,Sem.run_pure]
theorem zm {x:O3}{v:O2}(hx:ev f x=v)(h:(convert t E v).run P w=.ok v' w):
  (execOp (ev f) ⟨d,.convert t E x,ty,pS,af,gd⟩).run P w=.ok (.value v') w:=by
 simp[execOp,hx,h]
theorem QhZ {e:Array O2->Sem O2}{x:O3}{v:O2}{ts:Array Nat}(G:P.funcs[g]?=some fn)(H:(fn.name == "runtime.NumGoroutine")=false)
  (I:fn.body.isNone=true) (J:Extern.findNext fn=none) (O:Extern.find fn=some e) (h:(e #[ev f x]).run P w=.ok v w):
  (execOp (ev f) ⟨d,.call ⟨.value (.func g),#[x],ts⟩,ty,pS,af,gd⟩).run P w=.ok (.value v) w:=by
 have E:=run_callFunc_extern G H I J O #[ev f x] w;rw[h]at E;have S:ev f (.func g)=.func (.func g) #[] #[]:=rfl;simp[execOp,resolve,S,Deferred.ofValue,invoke,E,Result.andThen]
theorem QnT {e u:Nat}[h:Sl P t e 1 1 (.int .u8 0)](E:P.underlying u=some .string){s:O3}{base:Nat}{v:O2}{cs:LV}(G:w.ownsRow base e 1 v n cs)(H:ev f s=v)
  {b:ByteArray} (I:ev f y=.string b) (hb:n+b.size<=1099511627776) (J:base<=w.heap.size)
  (hK:∀v' w',w'.ownsRow base e 1 v' (n+b.size) (cs++Lib.strCells b)->O5 (ob v) w w'->K (QW f d v') w'):
  XO P ⟨d,.call ⟨.builtin .append,#[s,y],#[t,u]⟩,ty,pS,af,gd⟩ f w K:=by
 obtain⟨i,hi,O,S,T⟩:=Sl.info h;obtain⟨v',w',V,Y,h3,_⟩:=Lib.run_append_own_string (P:=P) w base t u ty e i h.u E hi O S T v n cs G b (by simp only[maxLen];omega) oa J;have ha:(execOp (ev f) ⟨d,.call ⟨.builtin .append,#[s,y],#[t,u]⟩,ty,pS,af,gd⟩).run P w=.ok (.value v') w':=by
  simp[execOp,resolve,invoke,builtin,H,I,V]
 exact xv ha (hK v' w' Y (by rw[yc];exact O5.of_grown h3))
theorem QhW {x:O3}{u:Nat}(E:P.underlying u=some .string){b:ByteArray}(hx:ev f x=.string b):
  (execOp (ev f) ⟨d,.call ⟨.builtin .len,#[x],#[u]⟩,ty,pS,af,gd⟩).run P w=.ok (.value (oF oG b.size)) w:=by
 simp[execOp,resolve,invoke,builtin,Builtin.len_,hx,run_underlying E,goInt]
end
def Bl (p:O2)(b:Nat)(E:List UInt8)(w:O1):Prop:=∃v,Zb w.heap b 339 [p,v]/\w.ownsRow (b+1) 5 1 v E.length (Lib.byteCells E)
def me (b:Nat):O2:=.pointer (some ⟨b,0,none⟩)
theorem QlV (h:(P.info? t).map (·.size)=some n):∃j,P.info? t=some j/\j.size=n:=by
 simpa using h
theorem Qaj {cs:LV}(h:Zb w.heap b T cs):w.shape? b=some (T,cs.length):=by
 unfold Zb at h;simp[World.shape?,h]
theorem UK {G:O1}{J:List UInt8}{p:O2}(O:O5 [] G w)(T:G.heap.size<=b)(V:p=.pointer none\/p=me b)(h:Bl p b J w):
  Q6 prog 252 [me b] w λr w'=>r=.tuple #[]/\O5 [] G w'/\Bl (me b) b J w':=by
 obtain⟨v,E,H⟩:=h;obtain⟨j,I,Y⟩:=QlV (P:=prog) (t:=339) (n:=2) od;refine Zq func252 ?_;refine Qc ?_;rcases V with rfl|rfl
 ·refine Qa<|Yl U<|Qs U E U U<|x (X4 underlying337 U U)<|xe<|yQ U ?_;refine Qw<|Qa<|Qa<|x (zm (v':=me b) U (Lib.run_to_unsafe w ⟨b,0,none⟩ underlying337 underlying441 I (by rw[Y];decide) (Qaj E) oe)) <|
   x (QhZ (v:=me b) func293 od od od (e:=Extern.AbiNoEscape.same) od U) <|
   x (zm (v':=me b) U (Lib.run_from_unsafe w ⟨b,0,none⟩ underlying441 underlying337 I (Qaj E) od))<|x (V1 U) <|
   Q2 rfl<|Qe<|QB E U U oe rfl λw2 S ha=>xe ?_
  exact⟨[],Z,U,O.O S T,v,ha,Qg H S (λc hc=>by have:=(Qi H c hc).1;simp;omega)⟩
 refine Qa<|Yl U<|Qs U E U U<|x (X4 underlying337 U U)<|xe<|ZL U<|Qm<|Yl U<|Qs U E U U<|Qa<|x (QfW underlying337 I U U)<|xe<|ZL U<|Qh ?_;exact⟨[],Z,U,O,v,E,H⟩
theorem Qat {I:O1}{E:List UInt8}{p:O2}(h0:O5 [] I w)(T:I.heap.size<=b)(hp:p=.pointer none\/p=me b)(h:Bl p b E w)(c:UInt8)(hl:E.length+1<=1000000000):
  Q6 prog 250 [me b,.int .u8 c.toNat] w λ_ w'=>O5 [] I w'/\Bl (me b) b (E++[c]) w':=by
 refine Zq func250 ?_;refine Qc<|Qb<|Qm<|QM<|(UK h0 T hp h).mono ?_;rintro r1 w1 ⟨rfl,ha,v,J,O⟩;refine xe ?_;have hj:=J.lt;refine Qm<|Qa<|Yl U<|Qs U J U U<|Qa<|Qe<|QC (us:=[[.int .u8 c.toNat]]) U U og oe ⟨rfl,rfl,Z⟩ λb13 w2 H hk he=>?_;have hm:=H.size;have hf:=Qp O H;refine Qe<|Za (news:=[.int .u8 c.toNat]) (L:=[]) hf U U U (he.at oe) (by simp[Value.oneCell']) oa oa λv3 w3 hg V hn=>?_;have hh:=(J.I H).J V (λG=>ou (Qi O b G).1);have S:w3.ownsRow (b+1) 5 1 v3 (E++[c]).length (Lib.byteCells (E++[c])):=by simpa[Lib.byteCells]using hg
 refine Yl rfl<|Q2 U<|Qe<|QB hh U U oe (QJ (L:=[]) S (by simp;omega) oe).one λw4 Y hi=>xe ?_;refine Qc<|Qb<|Qk ⟨[.nilIface],La,(((ha.D H).then V (λc G=>.inr ?_)).O Y T),v3,hi,Qg S Y (λc G=>by have:=(Qi S c G).1;simp;omega)⟩;have:=(Qi O c G).1;omega
theorem K6 {H:O1}{E:List UInt8}{p:O2}(h0:O5 [] H w)(S:H.heap.size<=b)(hp:p=.pointer none\/p=me b)(h:Bl p b E w)(s:ByteArray)(hl:E.length+s.size<=1000000000):
  Q6 prog 187 [me b,.string s] w λ_ w'=>O5 [] H w'/\Bl (me b) b (E++s.data.toList) w':=by
 refine Zq func187 ?_;refine Qc<|x Ql<|Qb<|Qm<|QM<|(UK h0 S hp h).mono ?_;rintro r1 w1 ⟨rfl,ha,v,I,J⟩;refine xe ?_;have hh:=I.lt;refine Qm<|Qa<|Yl U<|Qs U I U U<|Qa<|Qe<|QnT underlying9 J U U oa oa λv3 w3 he T=>?_;have hf:=I.J T (λG=>ou (Qi J b G).1);have V:s.size=s.data.toList.length:=rfl;have O:w3.ownsRow (b+1) 5 1 v3 (E++s.data.toList).length (Lib.byteCells (E++s.data.toList)):=by
  rw[Lk,<-V,show Lib.byteCells (E++s.data.toList)=Lib.byteCells E++Lib.strCells s by simp[Lib.byteCells,Lib.strCells_eq]];exact he
 refine Yl rfl<|Q2 U<|Qe<|QB hf U U oe (QJ (L:=[]) O (by rw[Lk,<-V];omega) oe).one λw4 Y hg=>xe ?_;refine Qm<|x (QhW underlying9 U)<|x Ql<|Qb<|Qk ⟨[oF oG s.size,.nilIface],oA,((ha.then T (λc G=>.inr ?_)).O Y S),v3,hg,Qg O Y (λc G=>by have:=(Qi O c G).1;simp;omega)⟩;have:=(Qi J c G).1;omega
theorem ju {I:O1}{H:List UInt8}{p:O2}(E:O5 [] I w)(hb:I.heap.size<=b)(T:p=.pointer none\/p=me b)(h:Bl p b H w):
  Q6 prog 189 [me b] w λr w'=>r=.string ⟨H.toArray⟩/\O5 [] I w':=by
 obtain⟨v,J,O⟩:=h;have ha:=J.lt;have S:Lib.BuilderAt 339 5 b b p (Lib.byteCells H) w:=⟨Lu _,v,J,by rw[Lib.byteCells_length];exact Zv O oa,λe=>by
  have:b∈ob v:=by rw[yc,e];simp
  have:=(Qi O b this).1;omega⟩
 unfold Q6;refine Calls.mono (Tryz.Builder_String_any b b H w (by rcases T with rfl|rfl;exact .inl S;exact .inr S) oa) ?_
 rintro e w' ⟨rfl,G⟩;exact⟨U,⟨G.os.D E.os,G.tape.D E.tape,G.output.D E.output,LJ E.size G.size,λk V Y=>(G.block k oa).D (E.block k V Y)⟩⟩
def Tb (w:O1):Prop:=Lib.TabIs prog w "internal/strconv.uint64pow10" .u64 Lib.pow10Tab
theorem Qhi {name:String}{v:Array O2}(h:w.var? P name=some v)(H:O5 [] w w'):w'.var? P name=some v:=by
 unfold World.var? at *;rw[MW]at *;obtain⟨g,I,E⟩:=h;refine⟨g,I,?_⟩;cases G:w.heap[g]? with
 | none=>rw[G]at E;cases E
 | some o =>
  have J:g<w.heap.size:=(LG.1 G).1;rw[H.block g J oe];exact E
theorem Tb.I (h:Tb w)(E:O5 [] w w'):Tb w':=Qhi h E
def Kb (w:O1)(m:Int):Prop:=m<=100\/(m<=1000000/\Tb w)
theorem Kb.I {w w':O1}{m:Int}(h:Kb w m)(E:O5 [] w w'):Kb w' m:=h.imp id λh=>⟨h.1,h.2.I E⟩
theorem Kb.le {m:Int}(h:Kb w m):m<=1000000:=by rcases h with h|h <;> omega
theorem Qc8 {k:Nat}{os:xC}:O5 [] w (Sort.grow (w.drewN k) os):=by
 refine⟨U,U,U,?_,λi hi _=>?_⟩
 ·show w.heap.size<=(w.heap++os).size;simp
 show(w.heap++os)[i]?=w.heap[i]?;rw[Array.getElem?_append_left hi]
theorem QeT {m:Int}(i:Nat)(hi:(i:Int)<m)(w:O1)(E:Kb w m):Q6 prog 188 [oF oG i] w λr w'=>r=.string ⟨(Lib.decDigits i).toArray⟩/\O5 [] w w':=by
 unfold Q6;rcases E with E|E
 ·refine Calls.mono (Tryz.strconv_Itoa_small i oa w) ?_;rintro e w' ⟨rfl,rfl⟩;exact⟨U,O5.Z _ _⟩
 refine Calls.mono (Tryz.strconv_Itoa i oa oa w E.2) ?_;rintro e w' ⟨rfl,k,os,rfl⟩;refine⟨?_,Qc8⟩;unfold Lib.itoa;rw[OT oa,MN]
def JS (l:LI):List UInt8:=l.flatMap λn=>Lib.decDigits n.toNat++[32]
theorem qv:∀(k u:Nat),u<10 ^ k->(Lib.decDigits u).length<=max 1 k
 | 0,u,h=>by
  unfold Lib.decDigits;rw[dif_pos (by simp at h;omega)];simp
 | k+1,u,h=>by
  unfold Lib.decDigits;split
  ·simp
  rename_i E;have ih:=qv k (u / 10) (by rw[Nat.pow_succ]at h;omega);rw[Lk];simp only[oO];have G:k≠0:=λe=>by subst e;simp at h;omega
  omega
theorem Bl.I {w w':O1}{p:O2}{b:Nat}{E:List UInt8}(h:Bl p b E w)(G:O5 [] w w'):Bl p b E w':=by
 obtain⟨v,H,I⟩:=h;exact⟨v,H.I G,Qp I G⟩
theorem QaW {L:LN}{v:O2}{l:LI}{m:Int}(h:QQ L w.heap v l)(S:Kb w m)(Y:∀n∈l,0<=n/\n<m)(hl:l.length<=1000000):
  Q6 prog 182 [v] w λr w'=>r=.string ⟨(JS l).toArray⟩/\O5 [] w w':=by
 refine Zq func182 ?_;refine Qc<|Qb<|Qc<|Qe<|Qo (us:=[.pointer none,nS]) U λH w1 ha I hc=>xe ?_;refine Qd<|Qm<|QK h U<|Qa<|xe<|Qf<|QD (α:=Nat×O2) [(5,5),(8,16)] (λz=>[(8,oF oG z.1)]) (λz w'=>z.1<=l.length/\O5 [] w w'/\(z.2=.pointer none\/z.2=me H)/\Bl z.2 H (JS (l.take z.1)) w'/\(JS (l.take z.1)).length<=8*z.1) (λz=>l.length - z.1) ol (0,.pointer none) La
  ⟨Ln _,ha,.inl U,⟨_,hc,QL _ _ _ _⟩,Lu _⟩ ?_
 rintro⟨k,p⟩ g w2 ⟨hk,E,J,G,he⟩;simp only[]at hk J G he;refine Qc<|QZ U U<|xe<|Qd<|QG U (λh9=>?_) (λh9=>?_)
 ·refine Qy<|Qc ?_;rw[Lt oa]at G;refine ZP<|(ju E I J G).mono ?_;rintro r3 w3 ⟨rfl,hf⟩;refine Qb<|Qk ⟨[.string ⟨(JS l).toArray⟩],La,U,hf⟩
 have O:k<l.length:=oa
 have ho:=Y l[k] (Ll O);obtain⟨q,hq⟩:∃q:Nat,l[k]=q:=⟨l[k].toNat,oa⟩;have hg:l[k].toNat=q:=oa
 have hr:=qv 7 q (ou S.le);have T:JS (l.take (k+1))=JS (l.take k)++Lib.decDigits q++[32]:=by
  rw[Lm O];unfold JS;rw[LA,List.flatMap_singleton,hg,LB]
 refine Qh<|Qd<|Qf<|Qc<|xii (h.I E) U U O λhs hh=>x (QA hh U)<|Qb<|Qm<|Qe<|xf ?_;refine(show Q6 _ _ [oF oG l[k]] _ _ by rw[hq];exact(QeT q oa w2 (S.I E))).mono ?_;rintro r4 w4 ⟨rfl,V⟩;refine ZP<|(K6 (E.D V) I J (G.I V) ⟨(Lib.decDigits q).toArray⟩ (by show _+(Lib.decDigits q).toArray.size<=_;simp;omega)).mono ?_;rintro r5 w5 ⟨hi,hj⟩;refine xe<|Qw<|ZP<|(Qat hi I (.inr U) hj 32 (by simp;omega)).mono ?_;rintro r6 w6 ⟨hm,hn⟩;refine xe<|Qw<|QP U U<|Qa<|xe<|⟨(k+1,me H),oh,La,oh,hm,.inr U,?_,?_⟩
 ·simp only[];rw[T];simpa using hn
 simp only[];rw[T];simp;omega
section
variable {K:Fr->O1->Prop}{f:Fr}{pS:String}{l:xE}{C:xA}{pl:xu}{i0:Nat}
theorem O8 {g:α->LV}{x:O3}{e bys:Nat}[Sl P t e sz bys z](G:∀x,(g x).length=sz){L:LN}{es:List α}{v:O2}{k:IntKind}
  (h:Zn L w.heap v es.length sz (es.flatMap g)) (H:ev f x=v) (I:ev f y=.int k i) (hi:i<es.length)
  (hK:∀a,At L w.heap a (g es[i])->XL P ops K l (QW f d (.pointer (some a))) w) (J:Yb ops f ⟨d,.indexAddr t x y,ty,pS,af,gd⟩=true:=by rfl):
  XL P ops K (⟨d,.indexAddr t x y,ty,pS,af,gd⟩::l) f w:=by
 obtain⟨a,cap,O,E⟩:=Zn.at h hi;rw[XH g sz G es i hi]at E;refine xl J (xv (Xm (H.D O) I oa oa) (hK _ ?_));simpa using E
theorem pig {g:α->LV}{x:O3}{e bys:Nat}[Sl P t e sz bys z](E:QV ops i0=⟨d,.indexAddr t x y,ty,pS,af,gd⟩)(I:∀x,(g x).length=sz){L:LN}{es:List α}{v:O2}{k:IntKind}
  (h:Zn L H v es.length sz (es.flatMap g)) (J:ev f x=v) (O:ev f y=.int k i) (hi:i<es.length)
  (hK:∀a,At L H a (g es[i])->XP P ops C K pl (QW f d (.pointer (some a))) w) (S:Yb ops f (QV ops i0)=true:=by rfl):
  XP P ops C K ((i0,true)::pl) f w:=by
 obtain⟨a,cap,T,G⟩:=Zn.at h hi;rw[XH g sz I es i hi]at G;refine Lg.p (λw'=>by rw[E];exact Xm (J.D T) O oa oa) ?_ S;rw[E];refine hK _ ?_;simpa using G
end
theorem Zn.grow {X X' Y:LN}{v:O2}{cs:LV}(h:Zn X w.heap v n sz cs)(H:O5 Y w w')(I:∀b∈Y,b∈X)(J:∀b∈X',b∈X\/w.heap.size<=b):Zn X' w'.heap v n sz cs:=by
 have E:Zn (X++X') w.heap v n sz cs:=h.up (λb G=>by
  rcases Lc.1 G with E|E
  ·exact .inl E
  exact J b E)
 have O:=E.J H (λb G=>Lc.2 (.inl (I b G)));exact O.up (λb G=>.inl (Lc.2 (.inr G)))
structure AV where
 va:O2
 vm:O2
 ve:O2
 a:Q9
abbrev ZV (p:AV):LV:=[p.va,oF oG p.a.st,p.vm,p.ve]
structure Kz (L:LN)(H:xC)(v:O2)(ps:List AV):Prop where
 arr:Zn L H v ps.length 4 (ps.flatMap ZV)
 each:∀p∈ps,ZH L H p.va p.vm p.ve p.a
theorem Kz.I {L:LN}{w w':O1}{v:O2}{ps:List AV}(h:Kz L w.heap v ps)(E:O5 [] w w'):Kz L w'.heap v ps:=⟨h.arr.I E,λp G=>(h.each p G).I E⟩
theorem Kz.st {L:LN}{w w':O1}{v:O2}{ps:List AV}(h:Kz L w.heap v ps)(E:O5 L w w'):Kz L w'.heap v ps:=⟨h.arr.st E,λp G=>(h.each p G).st E⟩
theorem Kz.up {L L':LN}{H:xC}{v:O2}{ps:List AV}(h:Kz L H v ps)(E:∀b∈L',b∈L\/H.size<=b):Kz L' H v ps:=⟨h.arr.up E,λp G=>(h.each p G).up E⟩
abbrev TV:=O2×LI
abbrev YK (p:TV):LV:=[p.1]
structure JV (L:LN)(H:xC)(v:O2)(ps:List TV):Prop where
 arr:Zn L H v ps.length 1 (ps.flatMap YK)
 each:∀p∈ps,QQ L H p.1 p.2
theorem JV.I {L:LN}{w w':O1}{v:O2}{ps:List TV}(h:JV L w.heap v ps)(E:O5 [] w w'):JV L w'.heap v ps:=⟨h.arr.I E,λp G=>(h.each p G).I E⟩
theorem JV.st {L:LN}{w w':O1}{v:O2}{ps:List TV}(h:JV L w.heap v ps)(E:O5 L w w'):JV L w'.heap v ps:=⟨h.arr.st E,λp G=>(h.each p G).st E⟩
theorem JV.up {L L':LN}{H:xC}{v:O2}{ps:List TV}(h:JV L H v ps)(E:∀b∈L',b∈L\/H.size<=b):JV L' H v ps:=⟨h.arr.up E,λp G=>(h.each p G).up E⟩
def Qd1 (N:Nat)(H:xC)(v:O2)(l:List (LI)):Prop:=∃ps:List TV,ps.map (·.2)=l/\∀L:LN,(∀b∈L,b<N)->JV L H v ps
theorem Qd1.mono {v:O2}{l:List (LI)}(h:Qd1 N H v l)(hM:M<=N):Qd1 M H v l:=let⟨ps,E,G⟩:=h;⟨ps,E,λL I=>G L (λb J=>LW (I b J) hM)⟩
abbrev ji (e base:Nat)(w:O1)(v:O2)(ps:List TV):Prop:=w.ownsRow base e 1 v ps.length (ps.flatMap YK)
theorem ji.snoc {e base:Nat}{v:O2}{ps:List TV}{p:TV}(h:w.ownsRow base e 1 v (ps.length+1) (ps.flatMap YK++[p.1])):ji e base w v (ps++[p]):=by
 unfold ji;rw[Lk,LA];simpa using h
theorem XZ {base e:Nat}{v:O2}{cs:LV}(h:w.ownsRow base e sz v n cs)(G:0<n):∃g cap,v=.slice (some ⟨g,0,none⟩) n cap:=by
 rcases h.2 with⟨_,H⟩|⟨g,cap,cur,E,_⟩
 ·omega
 exact⟨g,cap,E⟩
section
variable {K:Fr->O1->Prop}{f:Fr}{pS:String}{l:xE}
theorem Qic [h1:X6 P t]{x:O3}{base e:Nat}{cs:LV}{u:O2}(h:w.ownsRow base e 1 (.slice (some ⟨g,0,none⟩) n cap) n cs)(hx:ev f x=.pointer (some ⟨g,0+i*1,none⟩))(G:ev f y=u)(hi:i<n)(H:u.oneCell'=true)
  (hK:∀w',O5 [g] w w'->w'.ownsRow base e 1 (.slice (some ⟨g,0,none⟩) n cap) n (cs.set i u)->K (QW f d undef) w'):XO P ⟨d,.store t x y,ty,pS,af,gd⟩ f w K:=by
 obtain⟨hl,h⟩:=h;rcases h with⟨I,_⟩|⟨g',cap',cur,e1,J,O,S,T,E,V⟩
 ·cases I
 cases e1
 have Y:Zb w.heap g e cur.toList:=by unfold Zb;simpa using O
 refine QB (j:=i) Y (by rw[hx];simp) G (by simp[E];omega) H λw' hs ha=>hK w' hs ⟨oz hl,.inr ⟨g,cap,(cur.toList.set i u).toArray,rfl,J,ha,S,T,oz E,?_⟩⟩;rw[<-V];simp[List.take_set]
end
section
variable {f:Fr}{pS:String}{κ:Type}[DecidableEq κ]
theorem jE [hm:Mp P t kt et z]{enc:κ->O2}[hk:Key P kt enc]{x:O3}{m:List (κ×O2)}{k:κ}{u:O2}(h:Yk enc w.heap b m)(hx:ev f x=.map (some b))(E:ev f y=enc k)(G:xd m k=some u):
  (execOp (ev f) ⟨d,.lookup t x y true,ty,pS,af,gd⟩).run P w=.ok (.value (.tuple #[u,.bool true])) w:=by
 have:=Vb (P:=P) (t:=t) (d:=d) (ty:=ty) (pS:=pS) (af:=af) (gd:=gd) h hx E;rw[G]at this;exact this
theorem QfX [hm:Mp P t kt et z]{enc:κ->O2}[hk:Key P kt enc]{x:O3}{m:List (κ×O2)}{k:κ}(h:Yk enc w.heap b m)(hx:ev f x=.map (some b))(E:ev f y=enc k)(G:xd m k=none):
  (execOp (ev f) ⟨d,.lookup t x y true,ty,pS,af,gd⟩).run P w=.ok (.value (.tuple #[z,.bool false])) w:=by
 have:=Vb (P:=P) (t:=t) (d:=d) (ty:=ty) (pS:=pS) (af:=af) (gd:=gd) h hx E;rw[G]at this;exact this
end
def ckL:List Q9->Int
 | []=>0
 | a::l=>if Jl a≠0 then Jl a else ckL l
def UT (l:List Q9):Int:=if 12<l.length then 3 else ckL l
theorem QcA:∀(l:List Q9),ckL l=0↔∀a∈l,ZE a
 | []=>by simp[ckL]
 | a::l=>by
  rw[ckL];by_cases h:Jl a=0
  ·rw[OT (oz h),QcA l];simp[(Z1 a).1 h]
  rw[OU h];simp only[Oq];exact⟨λe=>OW e h,λe=>OW ((Z1 a).2 e.1) h⟩
def evs (l:List Q9):LI:=l.foldl (λacc a=>mrg (· || ·) acc a.al) []
def qM (m:List ((Int×Int)×O2))(es:List Ed):List ((Int×Int)×O2):=es.foldl (λm e=>xh m (e.1,e.2.1) (oF oG e.2.2)) m
def xo:List Ed->Int->Int->Option Int
 | [],_,_=>none
 | e::l,s,v=>if e.1=s/\e.2.1=v then some e.2.2 else xo l s v
theorem j5 {l:List Ed}{v:Int}(h:∀e∈l,¬(e.1=s/\e.2.1=v)):xo l s v=none:=by
 induction l with
 | nil=>rfl
 | cons e l ih =>
  rw[xo,OT (h e Lr)];exact ih λe E=>h e (Lj _ E)
theorem j6:∀(es:List Ed) (m:List ((Int×Int)×O2)) (s v:Int),(es.Pairwise λx y=>x.1<y.1\/(x.1=y.1/\x.2.1<y.2.1)) ->
  xd (qM m es) (s,v)=match xo es s v with|some t=>some (oF oG t)|none=>xd m (s,v)
 | [],m,s,v,_=>rfl
 | e::es,m,s,v,h=>by
  simp only[List.pairwise_cons]at h;have ih:=j6 es (xh m (e.1,e.2.1) (oF oG e.2.2)) s v h.2;unfold qM at *;rw[LZ,ih,xo];by_cases E:e.1=s/\e.2.1=v
  ·rw[OU E,j5 (λx hx H=>ou (h.1 x hx))];simp only[Xv];rw[OU (by rw[E.1,E.2])]
  rw[OT E];cases xo es s v with
  | some t=>rfl
  | none =>
   simp only[Xv];rw[OT (λG=>E (oz G))]
def YV (ev:Int):List Q9->LI->Option (LI)
 | a::bs,t::ts=>if ev∉a.al then(YV ev bs ts).map (t::·)else match xo a.ed t ev with|none=>none|some u=>(YV ev bs ts).map (u::·)
 | _,_=>some []
def JJ:List Q9->LI->Bool
 | a::bs,t::ts=>decide (t∈a.mr) && JJ bs ts
 | _,_=>true
structure Sy where
 tup:List (LI)
 mk':LI
 ed:List Ed
def syE (aa:List Q9)(i:Nat)(t:LI)(s:Sy)(v:Int):Option Sy :=
 match YV v aa t with
 | none=>some s
 | some u=>if u∈s.tup then some ⟨s.tup,s.mk',s.ed++[((i:Int),v,(s.tup.idxOf u:Int))]⟩
  else if s.tup.length=4096 then none else some ⟨s.tup++[u],s.mk',s.ed++[((i:Int),v,(s.tup.length:Int))]⟩
def zK (aa:List Q9)(i:Nat)(t:LI):LI->Sy->Option Sy
 | [],s=>some s
 | v::vs,s=>(syE aa i t s v).bind (zK aa i t vs)
def Yf (aa:List Q9)(i:Nat)(t:LI)(s:Sy):Sy:=if JJ aa t=true then⟨s.tup,s.mk'++[(i:Int)],s.ed⟩else s
def jq (s:Sy)(i:Nat):LI:=s.tup.getD i []
def syL (aa:List Q9):Nat->Nat->Sy->Option Sy
 | 0,_,s=>some s
 | f+1,i,s=>if i<s.tup.length then(zK aa i (jq s i) (evs aa) (Yf aa i (jq s i) s)).bind (syL aa f (i+1))else some s
def jt (aa:List Q9):Sy:=⟨[oN aa.length 0],[],[]⟩
def xp (aa:List Q9):Option (Q9×List (LI)):=
 if ∃a∈aa,a.st=0 then some (⟨evs aa,0,[],[]⟩,[])else(syL aa 4096 0 (jt aa)).map λs=>(⟨evs aa,s.tup.length,s.mk',s.ed⟩,s.tup)
theorem Qho {aa:List Q9}{f:Nat}{s:Sy}(h:¬i<s.tup.length):syL aa f i s=some s:=by
 cases f with
 | zero=>rfl
 | succ f=>rw[syL,OT h]
def Vt (aa:List Q9)(t:LI):Prop:=t.length=aa.length/\∀i (h:i<t.length) (E:i<aa.length),0<=t[i]/\t[i]<aa[i].st
theorem Vt.cons {a:Q9}{aa:List Q9}{u:Int}{t:LI}(E:0<=u)(G:u<a.st)(h:Vt aa t):Vt (a::aa) (u::t):=by
 refine⟨by simp[h.1],λi H I=>?_⟩;cases i with
 | zero=>exact⟨E,G⟩
 | succ i=>exact h.2 i (oz H) (oz I)
theorem Qck {l:List Ed}{v u:Int}(h:xo l s v=some u):(s,v,u)∈l:=by
 induction l with
 | nil=>cases h
 | cons e l ih =>
  rw[xo]at h;split at h
  ·rename_i E;obtain⟨e1,e2⟩:=E;cases h
   obtain⟨a,b,c⟩:=e;simp only[]at e1 e2;subst e1 e2;exact Lr
  exact Lj _ (ih h)
theorem JY {v:Int}:∀{aa:List Q9}{t u:LI},(∀a∈aa,ZE a)->Vt aa t->YV v aa t=some u->Vt aa u
 | [],t,u,_,h,E=>by
  cases t with
  | nil=>simp[YV]at E;subst E;exact h
  | cons x t=>have:=h.1;simp at this
 | a::aa,[],u,_,h,E=>by have:=h.1;simp at this
 | a::aa,x::t,u,H,h,E=>by
  have hx:=h.2 0 oe oe;have I:Vt aa t:=⟨by have:=h.1;simpa using this,λi O S=>h.2 (i+1) (oz O) (oz S)⟩;have J:∀a∈aa,ZE a:=λa T=>H a (Lj _ T);rw[YV]at E;split at E
  ·obtain⟨V,G,rfl⟩:=My.1 E;exact Vt.cons hx.1 hx.2 (JY J I G)
  split at E
  ·cases E
  rename_i q Y;obtain⟨V,G,rfl⟩:=My.1 E;have:=(H a Lr).ed _ (Qck Y);exact Vt.cons this.2.2.2.1 this.2.2.2.2 (JY J I G)
structure qE (aa:List Q9)(s:Sy):Prop where
 v:∀t∈s.tup,Vt aa t
 le:s.tup.length<=4096
theorem jr {aa:List Q9}{t:LI}{s:Sy}(h:qE aa s):qE aa (Yf aa i t s):=by
 unfold Yf;split
 ·exact⟨h.v,h.le⟩
 exact h
theorem Qhr {aa:List Q9}{t:LI}{s H:Sy}{v:Int}(I:∀a∈aa,ZE a)(h:qE aa s)(G:Vt aa t)(E:syE aa i t s v=some H):qE aa H:=by
 unfold syE at E;split at E
 ·cases E;exact h
 rename_i u J;have O:=JY I G J;split at E
 ·cases E;exact⟨h.v,h.le⟩
 split at E
 ·cases E
 cases E
 have:=h.le;refine⟨λt G=>?_,by simp;omega⟩;simp only[oV,oI]at G;rcases G with G|rfl
 ·exact h.v t G
 exact O
theorem qA (p:AV):(ZV p).length=4:=rfl
theorem V0 (p:TV):(YK p).length=1:=rfl
theorem Kz.le {L:LN}{H:xC}{v:O2}{ps:List AV}(h:Kz L H v ps):ps.length<=1099511627776:=h.arr.le
theorem QjQ {l:List Q9}{k:Nat}(h:k<l.length):ckL (l.drop k)=if Jl l[k]≠0 then Jl l[k]else ckL (l.drop (k+1)):=by
 rw[LE h,ckL]
theorem Qf2 {L:LN}{v:O2}{ps:List AV}(h:Kz L w.heap v ps):
  Q6 prog 179 [v] w λr w'=>r=oF oG (UT (ps.map (·.a)))/\O5 [] w w':=by
 have hi:=Kz.le h;refine Zq func179 ?_;refine Qc<|Qb<|Qd<|Qm<|QK h.arr U<|x (Z7 U U)<|xe<|QY rfl (λV=>?_) (λV=>?_)
 ·refine Qc<|Qb<|Qk ⟨[oF oG 3],La,?_,O5.Z _ _⟩;unfold UT;rw[OU (by simp;omega)];rfl
 refine Qh ?_;have Y:UT (ps.map (·.a))=ckL (ps.map (·.a)):=by unfold UT;rw[OT (by simp;omega)]
 rw[Y];refine Qd<|Qm<|QK h.arr U<|Qa<|xe<|Qf<|QD (α:=Nat) [(2,2),(4,5),(11,20)] (λz=>[(11,oF oG z)]) (λz w'=>z<=ps.length/\O5 [] w w'/\ckL (ps.map (·.a))=ckL ((ps.map (·.a)).drop z)) (λz=>ps.length - z) ol 0 La
  ⟨Ln _,O5.Z _ _,U⟩ ?_
 rintro k g w1 ⟨hk,E,G⟩;refine Qc<|QZ U U<|xe<|Qd<|QG U (λha=>?_) (λha=>?_)
 ·refine Qy<|Qc<|Qb<|Qk ⟨[oF oG 0],La,?_,E⟩;rw[G,Lq (by simp;omega)];rfl
 have H:k<ps.length:=oa
 have hb:k<(ps.map (·.a)).length:=by simpa using H
 rw[QjQ hb,Mq]at G;refine Qh<|Qd<|Qf<|Qc<|O8 qA (h.I E).arr U U H λhj hc=>x (Qx hc U U)<|Qe<|Qo (us:=[nS,oF oG 0,nS,nS]) U λb4 w2 he hf J=>?_;have I:=h.each ps[k] (Ll H);refine Qe<|Qj (us:=ZV ps[k]) J U U U U ⟨I.al.one,U,I.mr.one,I.ed.one,Z⟩ λw3 hg J=>xe ?_;have S:O5 [] w1 w3:=he.O hg hf;refine Qc<|Q5 J U U<|QM<|(Je ((I.I E).I S)).mono ?_;rintro r4 w4 ⟨rfl,hh⟩;refine Qb ?_;have T:=(E.D S).D hh;refine Qm<|ZA U U<|xe<|QY rfl (λO=>?_) (λO=>?_)
 ·refine Qm<|Qb<|Qk ⟨[oF oG (Jl ps[k].a)],La,?_,T⟩;rw[G,OU O];rfl
 refine Qh<|Qw<|QP U U<|Qa<|xe<|⟨k+1,oa,La,H,T,?_⟩;rw[G,OT O]
theorem Qjh {l:List Q9}{k:Nat}(h:k<l.length):evs (l.take (k+1))=mrg (· || ·) (evs (l.take k)) l[k].al:=by
 unfold evs;rw[Lm h,MD];rfl
theorem Qa7 (l:List Q9)(h:∀a∈l,a.al.length<=32):(evs l).length<=32*l.length:=by
 have key:∀(l:List Q9) (acc:LI),(∀a∈l,a.al.length<=32)->(l.foldl (λacc a=>mrg (· || ·) acc a.al) acc).length<=acc.length+32*l.length:=by
  intro l;induction l with
  | nil=>intro acc _;simp
  | cons a l ih =>
   intro acc h;have G:=ih (mrg (· || ·) acc a.al) (λa E=>h a (Lj _ E));have H:=QaP (· || ·) acc a.al;have I:=h a Lr;simp only[List.foldl_cons,oW];omega
 have:=key l [] h;unfold evs;simpa using this
theorem Qgp {L:LN}{v:O2}{ps:List AV}(h:Kz L w.heap v ps)(hn:ps.length<=12)(S:∀p∈ps,p.a.al.length<=32):
  Q6 prog 249 [v] w λr w'=>O5 [] w w'/\Qu 3 w.heap.size w' r (evs (ps.map (·.a))):=by
 refine Zq func249 ?_;refine Qc<|Qb<|Qc<|Qb<|Qd<|Qm<|QK h.arr U<|Qa<|xe<|Qf<|QD (α:=Nat×O2) [(3,3),(5,5),(8,16)] (λz=>[(3,z.2),(8,oF oG z.1)]) (λz w'=>z.1<=ps.length/\O5 [] w w'/\Qu 3 w.heap.size w' z.2 (evs ((ps.map (·.a)).take z.1))) (λz=>ps.length - z.1) ol (0,nS) oA
  ⟨Ln _,O5.Z _ _,QL _ _ _ _⟩ ?_
 rintro⟨k,vo⟩ g V ⟨Y,I,G⟩;simp only[]at Y G;have hi:=Qa7 ((ps.map (·.a)).take k) (λa ha=>by obtain⟨p,hp,rfl⟩:=LC.1 (LX ha);exact S p hp);have hj:((ps.map (·.a)).take k).length<=12:=by simp;omega
 refine Qc<|QZ U U<|xe<|Qd<|QG U (λh9=>?_) (λh9=>?_)
 ·refine Qy<|Qm<|Qb<|Qk ⟨[vo],La,I,?_⟩;rw[Lt (by simp;omega)]at G;exact G
 have E:k<ps.length:=oa
 refine Qh<|Qd<|Qf<|Qc<|O8 qA (h.I I).arr U U E λhl hb=>x (Qx hb U U)<|Qe<|Qo (us:=[nS,oF oG 0,nS,nS]) U λb5 w2 hc he J=>?_;have H:=h.each ps[k] (Ll E);have hm:=S ps[k] (Ll E);refine Qe<|Qj (us:=ZV ps[k]) J U U U U ⟨H.al.one,U,H.mr.one,H.ed.one,Z⟩ λw3 hf J=>xe ?_;have T:O5 [] V w3:=hc.O hf he;have O:=I.D T;refine Qw<|Qa<|Qs U J U U<|QM<|(QcR (Qu.ints (L:=[]) (Qp G T) oa oe) (H.al.I O) oa).mono ?_;rintro r4 w4 ⟨hg,hh⟩;refine Qb<|Qw<|QP U U<|Qa<|xe<|⟨(k+1,r4),oh,oA,E,O.D hg,?_⟩;simp only[];rw[Qjh (oz E),Mq];exact Zv hh O.size
abbrev QeH (b:Nat):LV:=[.map (some b)]
structure Vs (L:LN)(H:xC)(vl ve vs:O2)(ps:List AV)(ms:LN):Prop where
 al:Kz L H vl ps
 ev:QQ L H ve (evs (ps.map (·.a)))
 ml:ms.length=ps.length
 sl:Zn L H vs ms.length 1 (ms.flatMap QeH)
 mp:∀i (h:i<ms.length) (h':i<ps.length),Yk Jj H ms[i] (qM [] ps[i].a.ed)/\ms[i]∉L
theorem Vs.I {L:LN}{w w':O1}{vl ve vs:O2}{ps:List AV}{G:LN}(h:Vs L w.heap vl ve vs ps G)(E:O5 [] w w'):Vs L w'.heap vl ve vs ps G :=
 ⟨h.al.I E,h.ev.I E,h.ml,h.sl.I E,λi H I=>⟨(h.mp i H I).1.I E,(h.mp i H I).2⟩⟩
theorem Vs.st {L:LN}{w w':O1}{vl ve vs:O2}{ps:List AV}{I:LN}(h:Vs L w.heap vl ve vs ps I)(E:O5 L w w'):Vs L w'.heap vl ve vs ps I :=
 ⟨h.al.st E,h.ev.st E,h.ml,h.sl.st E,λi G H=>⟨(h.mp i G H).1.J E (h.mp i G H).2,(h.mp i G H).2⟩⟩
theorem Vs.up {L L':LN}{H:xC}{vl ve vs:O2}{ps:List AV}{J:LN}(h:Vs L H vl ve vs ps J)(E:∀b∈L',b∈L\/H.size<=b):Vs L' H vl ve vs ps J :=
 ⟨h.al.up E,h.ev.up E,h.ml,h.sl.up E,λi G I=>⟨(h.mp i G I).1,λS=>by rcases E _ S with O|O;exact(h.mp i G I).2 O;have:=(h.mp i G I).1.lt;omega⟩⟩
theorem QdJ {m:List ((Int×Int)×O2)}{es:List Ed}{k:Nat}(h:k<es.length):qM m (es.take (k+1))=xh (qM m (es.take k)) (es[k].1,es[k].2.1) (oF oG es[k].2.2):=by
 unfold qM;rw[Lm h,MD];rfl
theorem Qlp {L:LN}{ps:List AV}(h:Kz L w.heap vl ps)(hn:ps.length<=12)(hD:∀p∈ps,p.a.al.length<=32)(hL:∀b∈L,b<w.heap.size):
  Q6 prog 180 [vl] w λr w'=>O5 [] w w'/\∃ve vs G,r=.agg #[vl,ve,vs]/\Vs L w'.heap vl ve vs ps G/\Qu 3 w.heap.size w' ve (evs (ps.map (·.a))):=by
 refine Zq func180 ?_;refine Qc<|Qe<|Qo (us:=[nS,nS,nS]) U λb2 w1 hu hP hv=>xe ?_;refine Qm<|Qa<|QM<|(Qgp (h.I hu) hn hD).mono ?_;rintro ve w2 ⟨Y,hc⟩;have hQ:=Qa7 (ps.map (·.a)) (λa ha=>by obtain⟨p,hp,rfl⟩:=LC.1 ha;exact hD p hp);have g9:(evs (ps.map (·.a))).length<=1000:=by simp at hQ;omega
 have hw:=Qu.ints (L:=[]) hc oa oe;refine x (Qz ⟨h.arr.cells,hw.cells,Z⟩)<|Qe<|Qo (us:=[nS,nS,nS]) U λb3 w3 hR hS he =>
  Qe<|Qj (us:=[vl,ve,nS]) he U U U U ⟨h.arr.one,hw.one,U,Z⟩ λH hT he=>xe ?_
 have hU:=hu.size;have ka:=Y.size;have hf:O5 [] w2 H:=hR.O hT hS;have kb:=hv.lt;have kc:=he.lt;have hV:O5 [] w H:=(hu.D Y).D hf;have hW:=Qp hc hf;refine Qd<|Qm<|QK h.arr U<|Qa<|xe ?_;have hX:=Zc hc;refine Qf<|QD (α:=Nat×LN×O2) [(5,6),(8,8),(15,42)] (λz=>[(15,oF oG z.1)])
  (λz w'=>z.1<=ps.length/\z.2.1.length=z.1/\O5 [b3] H w'/\Zb w'.heap b3 329 [vl,ve,z.2.2]/\w'.ownsRow H.heap.size 398 1 z.2.2 z.2.1.length (z.2.1.flatMap QeH) /\
   (∀i (h:i<z.2.1.length) (h':i<ps.length),Yk Jj w'.heap z.2.1[i] (qM [] ps[i].a.ed)/\H.heap.size<=z.2.1[i]/\z.2.1[i]∉ob z.2.2)) (λz=>ps.length - z.1) ol (0,[],nS) La
  ⟨Ln _,U,O5.Z _ _,he,QL _ _ _ _,λi h=>by simp at h⟩ ?_
 rintro⟨k,G,vs⟩ g w5 ⟨hk,hg,I,hy,J,hh⟩;simp only[]at hk hg I hy J hh;have hl:O5 [] w w5:=hV.O I oa;have ke:=I.size;have ho:=Qi J;refine Qc<|QZ U U<|xe<|Qd<|QG U (λhY=>?_) (λhY=>?_)
 ·have hZ:k=ps.length:=oa
  subst hZ;refine Qy<|Qc ?_;have ga:=QJ (L:=[]) J oa oe;refine Q5 hy U U<|Qe<|Qj (us:=[vl,ve,vs]) (((hv.I Y).I hf).J I (by simp;omega)) U U U U ⟨h.arr.one,hw.one,ga.one,Z⟩ λw6 hr gb=>xe ?_;have hE:=hl.O hr hP;have hF:Qu 3 w1.heap.size w6 ve _:=Qg (Qg hW I (λb E=>by have:=hX b E;simp;omega)) hr (λb E=>by have:=(Qi hc b E).1;simp;omega);have hG:=Qg J hr (λb E=>by have:=(ho b E).1;simp;omega);refine Qk ⟨[.agg #[vl,ve,vs]],⟨⟨_,U,Qn U (gb.at (L:=[]) oe).cells⟩,Z⟩,hE,ve,vs,G,rfl,⟨h.I hE,Qu.ints hF oa (λb E=>ou (hL b E)),hg,QJ hG oa (λb E hbL=>ov (hL b hbL) (Qi hG b E).1),λi h1 h2=>⟨?_,λhbL=>ov (hL _ hbL) (hh i h1 h2).2.1⟩⟩,Zv hF hU⟩;obtain⟨m1,m2,_⟩:=hh i h1 h2;exact m1.J hr (λE=>by
   simp only[oI]at E;have h7:=(((hv.I Y).I hf).J I (by simp;omega));rw[E]at m1;obtain⟨es,c,m4,_⟩:=m1;unfold Zb at h7;rw[h7]at m4;cases m4)
 have hz:k<ps.length:=oa
 have O:=h.each ps[k] (Ll hz);refine Qh<|Qd<|Qf<|Qc<|O8 qA (h.I hl).arr U U hz λkf gc=>x (Qx gc U U)<|Qe<|Qo (us:=[nS,oF oG 0,nS,nS]) U λb5 w7 gg gh gi =>
  Qe<|Qj (us:=ZV ps[k]) gi U U U U ⟨O.al.one,U,O.mr.one,O.ed.one,Z⟩ λw8 gj hH=>xe ?_
 have gk:O5 [] w5 w8:=gg.O gj gh;have kg:=hH.lt;refine Qc<|Qe<|YC Jj λbm w9 hI kh hJ=>Qb ?_;have ki:=hJ.lt;have hK:=gk.D hI;have gl:=hl.D hK;refine Qd<|Qc<|Qs U (hH.I hI) U U<|QK O.ed U<|Qa<|xe ?_;have gm:=(O.ed.up (L':=[bm]) (λb E=>.inr (by simp at E;have:=hl.size;omega))).I gl;have kj:=O.ed.le;refine Qf<|QD (α:=Nat) [(8,8),(23,35)] (λz=>[(23,oF oG z)]) (λz w'=>z<=ps[k].a.ed.length/\O5 [bm] w9 w'/\Yk Jj w'.heap bm (qM [] (ps[k].a.ed.take z))) (λz=>ps[k].a.ed.length - z) ol 0 La
  ⟨Ln _,O5.Z _ _,hJ⟩ ?_
 rintro j g2 S ⟨hj,hs,h0⟩;have kk:=hs.size;refine Qc<|QZ U U<|xe<|Qd<|QG U (λgn=>?_) (λgn=>?_)
 ·refine Qy ?_;rw[Lt oa]at h0;have h3:O5 [] w5 S:=hK.O hs oa;have hM:Zb S.heap b3 329 [vl,ve,vs]:=hy.I h3;refine Qw<|Qs U hM U U<|Qa<|Qe<|QC (us:=[[.map (some bm)]]) U U og oe ⟨rfl,rfl,Z⟩ λkn go ht ko gp=>?_;have h4:=h3.D ht;have gq:=Qp J h4;have kq:=h4.size;refine Qe<|Za (news:=[.map (some bm)]) (L:=[]) gq U U U (gp.at oe) (by simp[Value.oneCell']) oa oa λh6 gr gs h8 hN=>?_;have h9:gr.ownsRow H.heap.size 398 1 h6 (G++[bm]).length ((G++[bm]).flatMap QeH):=by
   rw[Lk,LA];simpa using gs
  have gt:=(hM.I ht).J h8 (QT J oa);refine Q2 U<|Qe<|QB gt U U oe (QJ (L:=[]) h9 (by simp;omega) oe).one λgu hB gv=>xe ?_;refine Qw<|QP U U<|Qa<|xe ?_;have gw:∀b∈ob h6,H.heap.size<=b:=λb E=>(Qi h9 b E).1;have kr:S.heap.size<=go.heap.size:=ht.size;refine⟨(k+1,G++[bm],h6),oh,La,hz,by simp[hg],?_,gv,Qg h9 hB (λb E=>by have:=gw b E;simp;omega),?_⟩
  ·exact((I.D h4).then h8 (λb E=>.inr (ho b E).1)).Q hB
  intro i h1 h2;simp only[oM,oO]at h1;have keep:∀(c:Nat) (m:List ((Int×Int)×O2)),Yk Jj S.heap c m->c≠b3->c∉ob vs->Yk Jj gu.heap c m:=λc m hm gx gy =>
   ((hm.I ht).J h8 gy).J hB (oz gx)
  by_cases hi:i<G.length
  ·obtain⟨m1,m2,m3⟩:=hh i hi h2;simp only[List.getElem_append_left hi];refine⟨keep _ _ (m1.I h3) oa m3,m2,λE=>?_⟩;have kt:=m1.lt;rcases hN _ E with T|T
   ·exact m3 T
   omega
  have gz:i=G.length:=oa
  subst gz;simp only[List.getElem_append_right (Nat.le_refl _),Nat.sub_self,List.getElem_singleton];have hq:G.length=k:=hg;have e2:ps[G.length]=ps[k]:=by simp only[hq]
  rw[e2];refine⟨keep _ _ h0 oa (λE=>ou (ho _ E).2),oa,λE=>?_⟩;rcases hN _ E with T|T
  ·have:=(ho _ T).2;omega
  omega
 have hC:j<ps[k].a.ed.length:=oa
 refine Qh<|Qd<|Qf<|Qc<|xie (gm.st hs) U U hC λku g0=>x (Qx g0 U U)<|Qe<|Qo (us:=[oF oG 0,oF oG 0,oF oG 0]) U λb8 kv g3 g4 V=>Qe<|Qj (us:=QF ps[k].a.ed[j]) V U U U U oB λg5 g6 V=>xe ?_;have hO:O5 [] S g5:=g3.O g6 g4;refine Qw<|Qa<|Qs U V U U<|Qs U V U U<|x (Qz ⟨U,U,Z⟩)<|x (Vc U) <|
  Y7 V rfl U<|Qe<|XD (k:=(ps[k].a.ed[j].1,ps[k].a.ed[j].2.1)) (h0.I hO) U U λkw g7 g8=>xe ?_
 refine Qw<|QP U U<|Qa<|xe<|⟨j+1,oa,La,hC,(hs.D hO).Q g7,?_⟩;rw[QdJ hC];exact g8
theorem QdD {L:LN}{ps:List AV}{ms:LN}(h:Vs L w.heap vl ve vs ps ms)(hn:ps.length<=12):
  Q6 prog 181 [.agg #[vl,ve,vs]] w λr w'=>O5 [] w w' /\
   if ∃p∈ps,p.a.st=0 then r=.tuple #[nS,.bool false]else ∃v,r=.tuple #[v,.bool true]/\Qu 3 w.heap.size w' v (oN ps.length 0):=by
 refine Zq func181 ?_;refine Qc<|Qe<|QS (us:=[vl,ve,vs]) U λb1 w1 G hj S=>x Ql<|Qb<|Qd<|Qc<|Qs U S U U<|QK h.al.arr U<|Qa<|xe<|Qf<|QD (α:=Nat) [(2,3),(5,5),(9,16)] (λz=>[(9,oF oG z)]) (λz w'=>z<=ps.length/\O5 [] w1 w'/\∀i (h:i<ps.length),i<z->ps[i].a.st≠0) (λz=>ps.length - z) ol 0 La
  ⟨Ln _,O5.Z _ _,λi _ h=>oa⟩ ?_
 rintro k g w2 ⟨hk,E,T⟩;refine Qc<|QZ U U<|xe<|Qd<|QG U (λha=>?_) (λha=>?_)
 ·refine Qy<|Qc<|Qs U (S.I E) U U<|QK h.al.arr U<|Qe<|qa (n:=ps.length) U U oa λhb w3 hc hl V=>x Ql<|Qb ?_;rw[show(oN ps.length (oF oG 0).cells.toList).flatten=((oN ps.length 0).map (Value.int .i64)) by rw[show(oF oG 0).cells.toList=[oF oG 0] from rfl,QbM,List.map_replicate]]at V;have hz:=(G.D E).size;refine Qk ⟨[.slice (some ⟨hb,0,none⟩) ps.length ps.length,.bool true],oA,(G.D E).D hc,?_⟩;rw[OT (by
   rintro⟨p,hp,h0⟩;obtain⟨i,hi,rfl⟩:=LM hp;exact T i hi oa h0)]
  refine⟨_,U,?_⟩;have:=V.own (n:=ps.length) (sz:=1) (base:=w.heap.size) oe oa oa;unfold Qu;rw[List.length_replicate];exact this
 have H:k<ps.length:=oa
 have I:=h.al.each ps[k] (Ll H);refine Qh<|Qd<|Qf<|Qc<|O8 qA ((h.al.I G).I E).arr U U H λhm he=>x (Qx he U U)<|Qe<|Qo (us:=[nS,oF oG 0,nS,nS]) U λb5 w4 hf hg J =>
  Qe<|Qj (us:=ZV ps[k]) J U U U U ⟨I.al.one,U,I.mr.one,I.ed.one,Z⟩ λw5 hh J=>xe ?_
 have Y:O5 [] w2 w5:=hf.O hh hg;refine Qc<|Qs U J U U<|x (Q0 U U)<|xe<|QY rfl (λO=>?_) (λO=>?_)
 ·refine Qc<|x Ql<|Qb<|Qk ⟨[nS,.bool false],oA,(G.D E).D Y,?_⟩;rw[OU ⟨ps[k],Ll H,O⟩];rfl
 refine Qh<|Qw<|QP U U<|Qa<|xe<|⟨k+1,oa,La,H,E.D Y,λi hi ho=>?_⟩;by_cases e:i=k
 ·subst e;exact O
 exact T i hi oa
theorem Qdr {aa:List Q9}{ts:LI}{k:Nat}(h:k<aa.length)(E:k<ts.length):JJ (aa.drop k) (ts.drop k)=(decide (ts[k]∈aa[k].mr) && JJ (aa.drop (k+1)) (ts.drop (k+1))):=by
 rw[LE h,LE E,JJ]
theorem Qf7 {L:LN}{ps:List AV}{ms:LN}{ts:LI}(h:Vs L w.heap vl ve vs ps ms)(ht:QQ L w.heap vt ts)(hl:ts.length=ps.length)(hi:∀p∈ps,YY p.a.mr)(hn:ps.length<=12):
  Q6 prog 183 [.agg #[vl,ve,vs],vt] w λr w'=>r=.bool (JJ (ps.map (·.a)) ts)/\O5 [] w w':=by
 refine Zq func183 ?_;refine Qc<|Qe<|QS (us:=[vl,ve,vs]) U λb2 w1 hb hq he=>Qb<|Qd<|Qc<|Qs U he U U<|QK h.al.arr U<|Qa<|xe<|Qf<|QD (α:=Nat) [(4,6),(10,23)] (λz=>[(10,oF oG z)]) (λz w'=>z<=ps.length/\O5 [] w w'/\JJ (ps.map (·.a)) ts=JJ ((ps.map (·.a)).drop z) (ts.drop z)) (λz=>ps.length - z) ol 0 La
  ⟨Ln _,hb,U⟩ ?_
 rintro k g w2 ⟨hk,I,G⟩;refine Qc<|QZ U U<|xe<|Qd<|QG U (λhf=>?_) (λhf=>?_)
 ·refine Qy<|Qc<|Qb<|Qk ⟨[.bool true],La,?_,I⟩;rw[G,Lq (by simp;omega)];rfl
 have E:k<ps.length:=oa
 have V:k<ts.length:=oa
 have H:=h.al.each ps[k] (Ll E);rw[Qdr (oz E) V,Mq]at G;refine Qh<|Qd<|Qf<|Qm<|O8 qA (h.al.I I).arr U U E λhr hg=>x (Qx hg U U)<|Qe<|Qo (us:=[nS,oF oG 0,nS,nS]) U λb6 w3 hh hj J=>x Ql <|
  Qe<|Qj (us:=ZV ps[k]) J U U U U ⟨H.al.one,U,H.mr.one,H.ed.one,Z⟩ λY hm J=>xe ?_
 have ho:O5 [] w2 Y:=hh.O hm hj;have O:=I.D ho;refine Qd<|ZD [] (Xb 0 8 [6])<|p (QR U)<|pq (λ_ S=>Qq (J.I S) U U)<|p QE<|p QE<|pii U (ht.I O) U U V λhs hp =>
  pq (λ_ S=>QA (hp.I S) U)<|pk<|xg<|(Kh ((H.mr.I O).I (O5.C _ _)) (hi ps[k] (Ll E)) _).mono ?_
 rintro r5 w5 ⟨rfl,rfl⟩;refine⟨O5.C _ _,?_⟩;refine p (λ_=>Zx U)<|pe ?_;have ha:=O.D (O5.C [] Y);refine QX rfl (λT=>?_) (λT=>?_)
 ·refine Qc<|Qb<|Qk ⟨[.bool false],La,?_,ha⟩;rw[G,show decide (ts[k]∈ps[k].a.mr)=false by simpa using T];rfl
 refine Qh<|Qw<|QP U U<|Qa<|xe<|⟨k+1,oa,La,E,ha,?_⟩;rw[G,show decide (ts[k]∈ps[k].a.mr)=true by simpa using T,OO]
theorem Qc9 {aa:List Q9}{ts:LI}{k:Nat}{v:Int}(h:k<aa.length)(E:k<ts.length):YV v (aa.drop k) (ts.drop k) =
  if v∉aa[k].al then(YV v (aa.drop (k+1)) (ts.drop (k+1))).map (ts[k]::·)else match xo aa[k].ed ts[k] v with|none=>none|some u=>(YV v (aa.drop (k+1)) (ts.drop (k+1))).map (u::·):=by
 rw[LE h,LE E];show(if v∉aa[k].al then _ else _)=_
 split
 ·rfl
 cases xo aa[k].ed ts[k] v <;> rfl
theorem Qh2 {L:LN}{ps:List AV}{ms:LN}{ts:LI}(h:Vs L w.heap vl ve vs ps ms)(ht:QQ L w.heap vt ts)(hl:ts.length=ps.length)(hi:∀p∈ps,YY p.a.al)
  (hz:∀p∈ps,p.a.ed.Pairwise λx y=>x.1<y.1\/(x.1=y.1/\x.2.1<y.2.1)) (hn:ps.length<=12) (v:Int):
  Q6 prog 184 [.agg #[vl,ve,vs],vt,oF oG v] w λr w'=>O5 [] w w' /\
   match YV v (ps.map (·.a)) ts with|none=>r=.tuple #[nS,.bool false]|some u=>∃v',r=.tuple #[v',.bool true]/\Qu 3 w.heap.size w' v' u:=by
 refine Zq func184 ?_;refine Qc<|Qe<|QS (us:=[vl,ve,vs]) U λb3 w1 ha hL hf=>x Ql<|Qb<|Qm<|QM<|(Z0 (ht.I ha)).mono ?_;rintro vx w2 ⟨hg,hr⟩;refine Qb ?_;have h0:=ha.size;have hM:=hf.lt;have hh:=ha.D hg;refine Qd<|Qc<|Qs U (hf.I hg) U U<|QK h.al.arr U<|Qa<|xe ?_;have hge:=Qi hr;have h1:Vs (ob vx) w2.heap vl ve vs ps ms:=((h.up (L':=ob vx) (λb G=>.inr (ou (hge b G).1))).I hh);have h2:QQ (ob vx) w2.heap vt ts:=((ht.up (L':=ob vx) (λb G=>.inr (ou (hge b G).1))).I hh);refine Qf<|QD (α:=Nat×LI) [(6,7),(9,12),(18,49)] (λz=>[(18,oF oG z.1)])
  (λz w'=>z.1<=ps.length/\z.2.length=z.1/\O5 (ob vx) w2 w'/\Qu 3 w1.heap.size w' vx (z.2++ts.drop z.1)/\YV v (ps.map (·.a)) ts=(YV v ((ps.map (·.a)).drop z.1) (ts.drop z.1)).map (z.2++·)) (λz=>ps.length - z.1) ol (0,[]) La
  ⟨Ln _,U,O5.Z _ _,hr,oe⟩ ?_
 rintro⟨k,pre⟩ g w3 ⟨hk,T,O,S,E⟩;simp only[]at hk T S E;have hj:O5 [] w w3:=hh.then O (λb G=>.inr (ou (hge b G).1));refine Qc<|QZ U U<|xe<|Qd<|QG U (λh3=>?_) (λh3=>?_)
 ·refine Qy<|Qm<|x Ql<|Qb<|Qk ⟨[vx,.bool true],oA,hj,?_⟩;rw[Lq (by simp;omega),Lq oa]at E;rw[Lq oa]at S;rw[E];simp only[YV,Oy];exact⟨vx,U,Zv S h0⟩
 have H:k<ps.length:=oa
 have hm:k<ts.length:=oa
 have hs:k<ms.length:=by rw[h.ml];exact H
 have V:=h.al.each ps[k] (Ll H);rw[Qc9 (oz H) hm,Mq]at E;have hu:=h1.st O;have h4:=h2.st O;refine Qh<|Qd<|Qf<|Qm<|O8 qA hu.al.arr U U H λhN h5=>x (Qx h5 U U)<|Qe<|Qo (us:=[nS,oF oG 0,nS,nS]) U λhO w4 h6 h7 ho=>x Ql <|
  Qe<|Qj (us:=ZV ps[k]) ho U U U U ⟨V.al.one,U,V.mr.one,V.ed.one,Z⟩ λw5 h8 ho=>xe ?_
 have I:O5 [] w3 w5:=h6.O h8 h7;have h9:=hj.D I;refine Qd<|Qc<|Qs U ho U U<|Qa<|QM<|(Kh (V.al.I h9) (hi ps[k] (Ll H)) v).mono ?_;rintro r6 w6 ⟨rfl,rfl⟩;refine x (Zx U)<|xe ?_;have hv:=Zg hm;refine QX rfl (λhp=>?_) (λhp=>?_)
 ·have hB:v∉ps[k].a.al:=by simpa using hp
  refine Qy<|Qw<|QP U U<|Qa<|xe<|⟨(k+1,pre++[ts[k]]),oh,La,H,by simp[T],O.D I,?_,?_⟩
  ·simp only[o0,Ov];rw[<-hv];exact Qp S I
  simp only[];rw[E,OU hB,Option.map_map];congr 1;funext l;simp
 have hC:¬(v∉ps[k].a.al):=by simpa using hp
 rw[OT hC]at E;refine Qh ?_;have hD:=(hf.I hg).J O (λG=>ou (hge b3 G).1);have hw:=hu.I I;obtain⟨hE,hP⟩:=hw.mp k hs H;refine Qd<|ZD [] (Xb 0 17 [])<|p (QR U)<|pq (λ_ J=>Qq ((hD.I I).I J) U U)<|p QE<|pig U (g:=QeH) (λ_=>U) hw.sl U U hs λhQ hF =>
  pq (λ_ J=>QA (hF.I J) U)<|p QE<|p QE<|pii U (h4.I I) U U hm λhR hG=>pq (λ_ J=>QA (hG.I J) U) <|
  p QE<|p (λ_=>Qz ⟨U,U,Z⟩)<|pq (λ_ J=>Vb (k:=(ts[k],v)) (hE.I J) U U)<|?_
 rw[j6 ps[k].a.ed [] ts[k] v (hz ps[k] (Ll H))];have hq:O5 [] w3 { w6 with drawn:=w6.drawn+1 }:=I.D (O5.C [] w6)
 cases he:xo ps[k].a.ed ts[k] v with
 | none =>
  rw[he]at E;refine p QE<|p (λ_=>Zt U U)<|p (λ_=>Zt U U)<|p ZN<|p ZN<|pe ?_;refine Qd<|Qm<|x (Zx U)<|xe<|yQ U ?_;refine Qc<|x Ql<|Qb<|Qk ⟨[nS,.bool false],oA,hj.D hq,?_⟩;rw[E];rfl
 | some u =>
  rw[he]at E;refine p QE<|p (λ_=>Zt U U)<|p (λ_=>Zt U U)<|p ZN<|p ZN<|pe ?_;refine Qd<|Qm<|x (Zx U)<|xe<|ZL U<|Qh ?_;have hy:=Qp S hq;have hS:(pre++ts.drop k).length=ts.length:=by simp;omega
  obtain⟨gx,cx,Y⟩:=XZ S oa;have hH:ob vx=[gx]:=by rw[Y];rfl
  refine Qw<|Qa<|Qa<|Qa<|x (Zu Y U oa)<|Qe<|Qic (u:=oF oG u) (by rw[Y]at hy;exact hy) U U oa U λw7 hI hJ=>xe ?_;refine Qw<|QP U U<|Qa<|xe ?_;have hK:(pre++ts.drop k).set k u=(pre++[u])++ts.drop (k+1):=by
   rw[hv,List.set_append_right _ _ oa,T,Nat.sub_self,List.set_cons_zero,LB];rfl
  refine⟨(k+1,pre++[u]),oh,La,H,by simp[T],(O.D hq).then hI (λb G=>.inl (by rw[hH];exact G)),?_,?_⟩
  ·simp only[];rw[<-hK];unfold Qu;rw[L7,OQ,Y];exact hJ
  simp only[];rw[E,Option.map_map];congr 1;funext l;simp
theorem Ul (h:n<256):(UInt8.ofNat n).toNat=n:=by
 simp[Nat.mod_eq_of_lt h]
theorem Qcr (u:Nat):(32:UInt8)∉Lib.decDigits u:=by
 induction u using Nat.strongRecOn with
 | _ u ih =>
  unfold Lib.decDigits;split
  ·intro h;simp only[oI]at h;have:=OV UInt8.toNat h;rw[Ul oa]at this;have E:(32:UInt8).toNat=32:=rfl;omega
  intro h;rcases Lc.1 h with h|h
  ·exact ih _ oa h
  simp only[oI]at h;have:=OV UInt8.toNat h;rw[Ul oa]at this;have E:(32:UInt8).toNat=32:=rfl;omega
def dval (l:List UInt8):Nat:=l.foldl (λa b=>a*10+(b.toNat - 48)) 0
theorem Qcp (u:Nat):dval (Lib.decDigits u)=u:=by
 induction u using Nat.strongRecOn with
 | _ u ih =>
  unfold Lib.decDigits;split
  ·simp only[dval,List.foldl_cons,List.foldl_nil];rw[Ul oa];omega
  have:=ih (u / 10) oa;unfold dval at *;rw[MD,this];simp only[List.foldl_cons,List.foldl_nil];rw[Ul oa];omega
theorem Qel:∀{a b r H:List UInt8},(32:UInt8)∉a->(32:UInt8)∉b->a++32::r=b++32::H->a=b/\r=H
 | [],[],_,_,_,_,h=>oz h
 | [],y::b,_,_,_,E,h=>by simp at h;exact OW h.1 (by intro e;exact E (by simp[e]))
 | x::a,[],_,_,G,_,h=>by simp at h;exact OW h.1 (by intro e;exact G (by simp[e]))
 | x::a,y::b,_,_,G,E,h=>by
  simp only[Ob,List.cons.injEq]at h;have:=Qel (λe=>G (Lj _ e)) (λe=>E (Lj _ e)) h.2;exact⟨by rw[h.1,this.1],this.2⟩
theorem Qb5:∀{l l':LI},(∀n∈l,0<=n)->(∀n∈l',0<=n)->JS l=JS l'->l=l'
 | [],[],_,_,_=>rfl
 | [],y::b,_,_,h=>by simp[JS]at h
 | x::a,[],_,_,h=>by simp[JS]at h
 | x::a,y::b,G,H,h=>by
  have I:Lib.decDigits x.toNat++32::JS a=Lib.decDigits y.toNat++32::JS b:=by simpa[JS]using h
  obtain⟨J,O⟩:=Qel (Qcr _) (Qcr _) I;have T:x.toNat=y.toNat:=by rw[<-Qcp x.toNat,<-Qcp y.toNat,J]
  have S:=Qb5 (λn E=>G n (Lj _ E)) (λn E=>H n (Lj _ E)) O;have V:=G x Lr;have Y:=H y Lr;rw[S,show x=y by omega]
def KY (l:LI):ByteArray:=⟨(JS l).toArray⟩
theorem QiE {l l':LI}(E:∀n∈l,0<=n)(G:∀n∈l',0<=n)(h:KY l=KY l'):l=l':=by
 refine Qb5 E G ?_;have:=OV (λb:ByteArray=>b.data.toList) h;simpa[KY]using this
def qH (n:Nat)(m:List (ByteArray×O2))(tup:List (LI)):Prop :=
 ∀u:LI,u.length=n->(∀x∈u,0<=x)->xd m (KY u)=if u∈tup then some (oF oG (tup.idxOf u:Int))else none
theorem qH.add {m:List (ByteArray×O2)}{tup:List (LI)}(h:qH n m tup){u:LI}(H:u∉tup)(I:∀x∈u,0<=x):qH n (xh m (KY u) (oF oG (tup.length:Int))) (tup++[u]):=by
 intro v J G;rw[Xv];by_cases e:u=v
 ·subst e;rw[OU rfl,OU oe,MA,OT H];simp
 rw[OT (λO=>e (QiE I G O)),h v J G];by_cases E:v∈tup
 ·rw[OU E,OU (by simp[E]),MA,OU E]
 rw[OT E,OT (by simp[E,Ne.symm e])]
structure SyI (N b2 b38 b37:Nat)(ve:O2)(wS:O1)(s:Sy)(m:List (ByteArray×O2))(qs:List TV)(vt vk vd:O2)(w:O1):Prop where
 st:O5 [b2,b38,b37] wS w
 A:Zb w.heap b2 59 [ve,oF oG 0,vk,vd]
 M:Yk JL w.heap b38 m
 t:ji 56 N w vt qs
 tb:∀b∈ob vt,b=b37\/wS.heap.size<=b
 k:Qu 3 wS.heap.size w vk s.mk'
 e:YH 167 wS.heap.size w vd s.ed
 q:qs.map (·.2)=s.tup
 el:∀p∈qs,Qu 3 N w p.1 p.2
 sep:∀p∈qs,∀b∈ob p.1,b≠b38/\b∉ob vt/\b∉ob vk/\b∉ob vd
 d1:Dj vt vk
 d2:Dj vt vd
 d3:Dj vk vd
section
variable {b38 b37:Nat}{wS:O1}{s:Sy}{m:List (ByteArray×O2)}{qs:List TV}{vd:O2}{w'':O1}
theorem SyI.I (h:SyI N b2 b38 b37 ve wS s m qs vt vk vd w)(E:O5 [] w w'):SyI N b2 b38 b37 ve wS s m qs vt vk vd w' :=
 ⟨h.st.D E,h.A.I E,h.M.I E,Qp h.t E,h.tb,Qp h.k E,Qp h.e E,h.q,λp G=>Qp (h.el p G) E,h.sep,h.d1,h.d2,h.d3⟩
structure SyN (N b2 b38 b37:Nat)(wS:O1):Prop where
 l2:b2<N
 l38:b38<wS.heap.size
 l37:b37<wS.heap.size
 n37:N<=b37
 n38:b37<b38
 nS:N<=wS.heap.size
theorem SyI.setK (h:SyI N b2 b38 b37 ve wS s m qs vt vk vd w)(n:SyN N b2 b38 b37 wS){J:O2}{l:LI}(I:O5 (ob vk) w w')(S:Qu 3 wS.heap.size w' J l)
  (O:∀b∈ob J,b∈ob vk\/w.heap.size<=b) (H:O5 [b2] w' w'') (V:Zb w''.heap b2 59 [ve,oF oG 0,J,vd]):SyI N b2 b38 b37 ve wS ⟨s.tup,l,s.ed⟩ m qs vt J vd w'':=by
 have hge:=Qi h.k;have l2:=n.l2;have l38:=n.l38;have n37:=n.n37;have n38:=n.n38;have nS:=n.nS;refine⟨(h.st.then I (λb E=>.inr (hge b E).1)).then H (λb E=>.inl (by simp at E;simp[E])),V,(h.M.J I (QT h.k oa)).J H (by simp;omega),
  Qg (Qg h.t I h.d1) H (λb E=>by have:=(Qi h.t b E).1;simp;omega),h.tb,Qg S H (λb E=>by have:=(Qi S b E).1;simp;omega),
  Qg (Qg h.e I h.d3.symm) H (λb E=>by have:=(Qi h.e b E).1;simp;omega),h.q,
  λp G=>Qg (Qg (h.el p G) I (λb E=>(h.sep p G b E).2.2.1)) H (λb E=>by have:=(Qi (h.el p G) b E).1;simp;omega),
  λp G b E=>⟨(h.sep p G b E).1,(h.sep p G b E).2.1,λY=>?_,(h.sep p G b E).2.2.2⟩,h.d1.grow O (Zc h.t),h.d2,(h.d3.symm.grow O (Zc h.e)).symm⟩
 rcases O b Y with T|T
 ·exact(h.sep p G b E).2.2.1 T
 have:=Zc (h.el p G) b E;omega
theorem SyI.setE (h:SyI N b2 b38 b37 ve wS s m qs vt vk vd w)(n:SyN N b2 b38 b37 wS){J:O2}{l:List Ed}(I:O5 (ob vd) w w')(S:YH 167 wS.heap.size w' J l)
  (O:∀b∈ob J,b∈ob vd\/w.heap.size<=b) (H:O5 [b2] w' w'') (V:Zb w''.heap b2 59 [ve,oF oG 0,vk,J]):SyI N b2 b38 b37 ve wS ⟨s.tup,s.mk',l⟩ m qs vt vk J w'':=by
 have hge:=Qi h.e;have l2:=n.l2;have l38:=n.l38;have n37:=n.n37;have n38:=n.n38;have nS:=n.nS;refine⟨(h.st.then I (λb E=>.inr (hge b E).1)).then H (λb E=>.inl (by simp at E;simp[E])),V,(h.M.J I (QT h.e oa)).J H (by simp;omega),
  Qg (Qg h.t I h.d2) H (λb E=>by have:=(Qi h.t b E).1;simp;omega),h.tb,Qg (Qg h.k I h.d3) H (λb E=>by have:=(Qi h.k b E).1;simp;omega),
  Qg S H (λb E=>by have:=(Qi S b E).1;simp;omega),h.q,
  λp G=>Qg (Qg (h.el p G) I (λb E=>(h.sep p G b E).2.2.2)) H (λb E=>by have:=(Qi (h.el p G) b E).1;simp;omega),
  λp G b E=>⟨(h.sep p G b E).1,(h.sep p G b E).2.1,(h.sep p G b E).2.2.1,λY=>?_⟩,h.d1,h.d2.grow O (Zc h.t),h.d3.grow O (Zc h.k)⟩
 rcases O b Y with T|T
 ·exact(h.sep p G b E).2.2.2 T
 have:=Zc (h.el p G) b E;omega
theorem SyI.setM (h:SyI N b2 b38 b37 ve wS s m qs vt vk vd w)(n:SyN N b2 b38 b37 wS){H:List (ByteArray×O2)}(G:O5 [b38] w w')(J:Yk JL w'.heap b38 H):SyI N b2 b38 b37 ve wS s H qs vt vk vd w':=by
 have l2:=n.l2;have l38:=n.l38;have n37:=n.n37;have n38:=n.n38;have nS:=n.nS;exact⟨h.st.then G (λb E=>.inl (by simp at E;simp[E])),h.A.J G (by simp;omega),J,Qg h.t G (λb E=>by have:=h.tb b E;simp;omega),h.tb,
  Qg h.k G (λb E=>by have:=(Qi h.k b E).1;simp;omega),Qg h.e G (λb E=>by have:=(Qi h.e b E).1;simp;omega),h.q,
  λp I=>Qg (h.el p I) G (λb E=>by have:=(h.sep p I b E).1;simpa using this),h.sep,h.d1,h.d2,h.d3⟩
theorem SyI.setT (h:SyI N b2 b38 b37 ve wS s m qs vt vk vd w)(n:SyN N b2 b38 b37 wS){J:O2}{u:LI}(hx:Qu 3 wS.heap.size w vx u)(S:∀b∈ob vx,b∉ob vt/\b∉ob vk/\b∉ob vd)(H:O5 (ob vt) w w')
  (V:ji 56 N w' J (qs++[(vx,u)])) (O:∀b∈ob J,b∈ob vt\/w.heap.size<=b):SyI N b2 b38 b37 ve wS ⟨s.tup++[u],s.mk',s.ed⟩ m (qs++[(vx,u)]) J vk vd w':=by
 have l2:=n.l2;have l38:=n.l38;have n37:=n.n37;have n38:=n.n38;have nS:=n.nS;have he:=h.st.size;have nott:∀c,c<w.heap.size->c∉ob vt->c∉ob J:=λc hc Y ha=>by
  rcases O c ha with I|I
  ·exact Y I
  omega
 refine⟨h.st.then H (λb E=>by have:=h.tb b E;simp;omega),h.A.J H (λE=>ou (h.tb b2 E)),h.M.J H (λE=>ou (h.tb b38 E)),V,
  λb E=>?_,Qg h.k H h.d1.symm,Qg h.e H h.d2.symm,by rw[Ls,h.q];rfl,λp G=>?_,λp G b E=>?_,(h.d1.symm.grow O (Zc h.k)).symm,(h.d2.symm.grow O (Zc h.e)).symm,h.d3⟩
 ·rcases O b E with I|I
  ·exact h.tb b I
  exact .inr oa
 ·rcases Lc.1 G with G|G
  ·exact Qg (h.el p G) H (λb E=>(h.sep p G b E).2.1)
  simp only[oI]at G;subst G;exact Zv (Qg hx H (λb E=>(S b E).1)) nS
 rcases Lc.1 G with G|G
 ·have:=h.sep p G b E;exact⟨this.1,nott b (Zc (h.el p G) b E) this.2.1,this.2.2⟩
 simp only[oI]at G;subst G;have I:=(Qi hx b E);have T:=S b E;exact⟨oa,nott b I.2 T.1,T.2⟩
end
theorem Qq1 (o:Option α):o=none\/∃t,o=some t:=by cases o;exact .inl U;exact .inr ⟨_,U⟩
def zA:O2:=.agg #[nS,oF oG 0,nS,nS]
def Zz:O2:=nS
def YS (N:Nat)(H:xC)(aa:List Q9)(va vt:O2)(c:Int):Prop :=
 if UT aa≠0 then c=UT aa/\va=zA/\vt=Zz else match xp aa with
  | none=>c=3/\va=zA/\vt=Zz
  | some z=>c=0/\Jv N H va z.1/\Qd1 N H vt z.2
def YZ (s:Sy)(u:LI):Sy:=if u∈s.tup then s else⟨s.tup++[u],s.mk',s.ed⟩
theorem Qht (s:Sy)(u:LI):(YZ s u).mk'=s.mk':=by unfold YZ;split <;> rfl
theorem Qhu (s:Sy)(u:LI):(YZ s u).ed=s.ed:=by unfold YZ;split <;> rfl
theorem QkW {aa:List Q9}{t u:LI}{s:Sy}{v:Int}(h:YV v aa t=some u)(hl:u∈s.tup\/s.tup.length≠4096):
  syE aa i t s v=some ⟨(YZ s u).tup,(YZ s u).mk',(YZ s u).ed++[((i:Int),v,((YZ s u).tup.idxOf u:Int))]⟩:=by
 unfold syE YZ;rw[h];simp only[];by_cases E:u∈s.tup
 ·simp only[OU E]
 simp only[OT E];rw[OT (by rcases hl with G|G;exact OW G E;exact G),MA,OT E];simp
theorem Qhs {aa:List Q9}{t u:LI}{s:Sy}{v:Int}(h:YV v aa t=some u)(E:u∉s.tup)(hl:s.tup.length=4096):syE aa i t s v=none:=by
 unfold syE;rw[h];simp only[];rw[OT E,OU hl]
theorem Qhq {aa:List Q9}{t:LI}{s:Sy}{v:Int}(h:YV v aa t=none):syE aa i t s v=some s:=by
 unfold syE;rw[h]
theorem Qpx {s:Sy}{qs:List TV}(E:qs.map (·.2)=s.tup)(h:i<qs.length):jq s i=qs[i].2:=by
 unfold jq;rw[<-E];simp[oQ,h]
theorem Vt.bd {aa:List Q9}{t:LI}(h:Vt aa t){m:Int}(G:∀a∈aa,a.st<=m):∀x∈t,0<=x/\x<m:=by
 intro x hx;obtain⟨i,hi,rfl⟩:=LM hx;have E:i<aa.length:=by rw[<-h.1];exact hi
 have:=h.2 i hi E;have:=G aa[i] (Ll E);omega
theorem QcT {L:LN}{ps:List AV}{km:Int}(h:Kz L w.heap vl ps)(gn:Kb w km)(kg:0<km)(pc:∀p∈ps,p.a.st<=km):
  Q6 prog 123 [vl] w λr w'=>O5 [] w w'/\∃va vt c,r=.tuple #[va,vt,oF oG c]/\YS w.heap.size w'.heap (ps.map (·.a)) va vt c:=by
 refine Zq func123 ?_;generalize S:ps.map (·.a)=aa;refine Qc<|Qe<|Qo (us:=[nS,oF oG 0,nS,nS]) U λb2 w1 hQ hB go=>x Ql<|Qb ?_;have hl2:=go.lt;refine Qd<|Qm<|QM<|(Qf2 (h.I hQ)).mono ?_;rintro r2 w2 ⟨rfl,hq⟩;refine Qb ?_;rw[S];refine Qm<|ZA U U<|xe<|QY rfl (λh5=>?_) (λh5=>?_)
 ·refine Qc<|x (Qz Z)<|Qa<|Qe<|Qj (us:=[nS,oF oG 0,nS,nS]) (go.I hq) U U U U oC λw3 pd pf=>x Ql<|Qb<|Qk ⟨[zA,Zz,oF oG (UT aa)],⟨⟨_,U,Qn U (pf.at (L:=[]) oe).cells⟩,rfl,rfl,Z⟩,(hQ.D hq).O pd hB,zA,Zz,UT aa,rfl,?_⟩;unfold YS;rw[OU h5];exact⟨U,U,U⟩
 have hr:UT aa=0:=Lo.1 h5;have hn:ps.length<=12:=by
  unfold UT at hr;split at hr
  ·cases hr
  rename_i h1;rw[<-S]at h1;simp at h1;exact h1
 have hC:∀a∈aa,ZE a:=by
  unfold UT at hr;split at hr
  ·cases hr
  exact(QcA aa).1 hr
 have hR:∀p∈ps,ZE p.a:=λp G=>hC p.a (by rw[<-S];exact LO G);have pg:∀p∈ps,p.a.al.length<=32:=λp G=>(hR p G).al_le;have ph:∀a∈aa,a.st<=km:=λa ha=>by rw[<-S]at ha;obtain⟨p,G,rfl⟩:=LC.1 ha;exact pc p G
 have hD:aa.length=ps.length:=by rw[<-S];simp
 refine Qh<|Qm<|QM<|(Qlp (L:=[b2]) (((h.up (λb E=>.inr (by simp at E;omega))).I hQ).I hq) hn pg (λb E=>by simp at E;have:=hq.size;omega)).mono ?_;rintro r4 w4 ⟨gp,ve,vs,ms,rfl,kh,hm⟩;rw[S]at hm;have pj:=h.arr.one;have hel:=Qa7 aa (λa ha=>(hC a ha).al_le);have hevl:(evs aa).length<=1000:=oa
 have hS:=Qu.ints (L:=[]) hm oa oe;refine Qe<|Qo (us:=[nS,nS,nS]) U λb6 w5 pm pn hE=>Qe<|Qj (us:=[vl,ve,vs]) hE U U U U ⟨pj,hS.one,kh.sl.one,Z⟩ λw6 po hE=>xe ?_;have hU:O5 [] w4 w6:=pm.O po pn;have hz2:=hq.size;have hz4:=gp.size;have hl6:=hE.lt;refine Qc ?_;have pp:=((go.I hq).I gp).I hU;refine Qs rfl hE U U<|Q2 U<|Qe<|QB pp U U oe hS.one λw7 hF pu=>xe ?_;have hz7:=hF.size;have gq:O5 [] w w7:=((((hQ.D hq).D gp).D hU).O hF hB);have ki:Vs [b2] w7.heap vl ve vs ps ms:=(kh.I hU).st hF;have kj:Qu 3 w2.heap.size w7 ve (evs aa):=Qg (Qp hm hU) hF (λb E=>by have:=(Qi hm b E).1;simp;omega);have kk:=hE.J hF (by simp;omega);refine Qc<|Q5 kk U U<|QM<|(QdD ki hn).mono ?_;rintro r8 w8 ⟨hk,hV⟩;have hz8:=hk.size;have gr:=pu.I hk;have hW:(∃p∈ps,p.a.st=0)↔(∃a∈aa,a.st=0):=by
  rw[<-S];constructor
  ·rintro⟨p,G,h0⟩;exact⟨p.a,LO G,h0⟩
  rintro⟨a,ha,h0⟩;obtain⟨p,G,rfl⟩:=LC.1 ha;exact⟨p,G,h0⟩
 by_cases hz:∃p∈ps,p.a.st=0
 ·rw[OU hz]at hV;subst hV;refine Qa<|Q7 U U<|Q7 U U<|x Ql<|Qb<|Qd<|Qm<|x (Zx U)<|xe<|yQ U ?_;refine Qc<|Q5 gr U U<|Qe<|Qj (us:=[ve,oF oG 0,nS,nS]) gr U U U U ⟨hS.one,U,U,U,Z⟩ λw9 kn pw=>x Ql<|Qb<|Qk ⟨[.agg #[ve,oF oG 0,nS,nS],Zz,oF oG 0],⟨⟨_,U,Qn U (pw.at (L:=[]) oe).cells⟩,rfl,rfl,Z⟩,(gq.D hk).O kn hB,_,Zz,0,rfl,?_⟩;unfold YS;rw[OT h5];unfold xp;rw[OU (hW.1 hz)];have pz:=Qg (Qp kj hk) kn (λb E=>by have:=(Qi hm b E).1;simp;omega);refine⟨U,⟨ve,_,_,U,λL' hl=>⟨Qu.ints pz (by show(evs aa).length<=_;omega) (λb E=>ou (hl b E)),Zn.nil _ _ _,Zn.nil _ _ _⟩⟩,[],U,λL' hl=>⟨Zn.nil _ _ _,λp G=>by cases G⟩⟩
 rw[OT hz]at hV;obtain⟨vf,rfl,gs⟩:=hV;have ko:=Qu.ints (L:=[]) gs (by simp;omega) oe;refine Qa<|Q7 U U<|Q7 U U<|x Ql<|Qb<|Qd<|Qm<|x (Zx U)<|xe<|ZL rfl<|Qh<|Qm<|Qe<|QC (us:=[[vf]]) U U og oe ⟨ko.cells,rfl,Z⟩ λV w10 gt hb37 kq=>Qb ?_;have hl37:=kq.lt;refine Qc<|Qe<|YC JL λhg w11 hX hb38 kr=>?_;have hl38:=kr.lt;refine Qa<|QM<|(QaW ((ko.I gt).I hX) (gn.I ((gq.D hk).D (gt.D hX))) (λn hn=>ou (NC hn)) (by simp;omega)).mono ?_;rintro r12 p0 ⟨rfl,hY⟩;have hz12:=hY.size;refine Qe<|X9 (k:=KY (oN ps.length 0)) (kr.I hY) U U λwS gu p1=>Qa<|Qb ?_;have hzS:=gu.size;have p2:O5 [] w8 p0:=(gt.D hX).D hY;have h6:O5 [] w8 wS:=p2.O gu oa;have hZ:O5 [] w wS:=(gq.D hk).D h6;have p3:∀b∈[b2,hg,V],b∈[b2]\/w8.heap.size<=b:=λb E=>by
  simp only[oL,oJ,or_false]at E;rcases E with rfl|rfl|rfl
  ·exact .inl oe
  ·exact .inr oa
  exact .inr oa
 have gv:Vs [b2,hg,V] wS.heap vl ve vs ps ms:=((ki.I hk).up p3).I h6;have gw:Zb wS.heap b6 329 [vl,ve,vs]:=(kk.I hk).I h6;have p4:Qu 3 w2.heap.size wS ve (evs aa):=Qp (Qp kj hk) h6;have p5:=Zc hm;have p6:=Qi gs;have hG:SyN w1.heap.size b2 hg V wS:=⟨oa,oa,oa,oa,oa,oa⟩;have p7:SyI w1.heap.size b2 hg V ve wS (jt aa) (xh [] (KY (oN ps.length 0)) (oF oG 0)) [(vf,oN ps.length 0)] (.slice (some ⟨V,0,none⟩) 1 1) Zz Zz wS:=by
  refine⟨O5.Z _ _,gr.I h6,p1,?_,λb E=>by simp[ob]at E;exact .inl E,QL _ _ _ _,QL _ _ _ _,by simp[jt,hD],λp G=>?_,λp G b E=>?_,Dj.nil' _,Dj.nil' _,Dj.nil' _⟩
  ·exact(((kq.I hX).I hY).J gu (by simp;omega)).own (n:=1) (sz:=1) U oa oa
  ·simp only[oI]at G;subst G;exact Zv (Qp gs h6) oa
  simp only[oI]at G;subst G;have:=p6 b E;refine⟨oa,?_,by simp[ob,Zz],by simp[ob,Zz]⟩;simp[ob];omega
 have p8:qH ps.length (xh [] (KY (oN ps.length 0)) (oF oG 0)) (jt aa).tup:=by
  have kg:qH ps.length [] []:=λu _ _=>U;have:=kg.add (u:=oN ps.length 0) oe (λx hx=>ou (NC hx));simpa[jt,hD]using this
 have p9:qE aa (jt aa):=by
  refine⟨λt ht=>?_,by simp[jt]⟩;simp only[jt,oI]at ht;subst ht;refine⟨oe,λi h1 h2=>?_⟩;have h3:=(hC aa[i] (Ll h2)).st0;have h4:aa[i].st≠0:=λe=>hz (hW.2 ⟨aa[i],Ll h2,e⟩);simp only[List.getElem_replicate];omega
 generalize hT:syL aa 4096 0 (jt aa)=T;have qc:∀s,T=some s->xp aa=some (⟨evs aa,s.tup.length,s.mk',s.ed⟩,s.tup):=λs hs=>by
  unfold xp;rw[OT (λe=>hz (hW.2 e)),hT,hs];rfl
 have qf:T=none->xp aa=none:=λhs=>by unfold xp;rw[OT (λe=>hz (hW.2 e)),hT,hs];rfl
 refine Qd<|Qc<|Qb ?_;have gx:b6∉[b2,hg,V]:=by simp;omega
 refine Qf<|QD (α:=Nat×Sy×List (ByteArray×O2)×List TV×O2×O2×O2) [(3,4),(10,10),(12,16),(42,111)] (λz=>[(3,z.2.2.2.2.1),(10,oF oG z.1)])
  (λz w'=>SyI w1.heap.size b2 hg V ve wS z.2.1 z.2.2.1 z.2.2.2.1 z.2.2.2.2.1 z.2.2.2.2.2.1 z.2.2.2.2.2.2 w'/\qE aa z.2.1/\qH ps.length z.2.2.1 z.2.1.tup/\z.1<=z.2.1.tup.length/\z.2.1.mk'.length<=z.1/\z.2.1.ed.length<=z.1*1000/\syL aa (4096 - z.1) z.1 z.2.1=T)
  (λz=>4096 - z.1) ol (0,jt aa,_,_,_,Zz,Zz) oA ⟨p7,p9,p8,Ln _,Ln _,Ln _,hT⟩ ?_
 rintro⟨i,s,m,qs,vt,vk,vd⟩ g ga ⟨I,gb,kt,hi,ql,ku,gy⟩;simp only[]at I gb kt hi ql ku gy;have hle:=gb.le;have qo:qs.length=s.tup.length:=by rw[<-I.q];simp
 have kv:∀p∈qs,Vt aa p.2:=λp G=>gb.v p.2 (by rw[<-I.q];exact LO G);have kw:∀p∈qs,p.2.length<=12:=λp G=>ou (kv p G).1
 have gz:=QJ (L:=[]) I.t oa oe;refine Qd<|Qm<|Qa<|QK gz U<|QZ U U<|xe<|QG rfl (λqr=>?_) (λqr=>?_)
 ·have q0:T=some s:=by rw[<-gy,Qho oa]
  refine Qy<|Qm<|QK gz U<|Q2 U<|Qe<|QB I.A U U oe rfl λw15 q1 kx=>xe ?_;refine Qc ?_;have q2:=Qu.ints (L:=[]) I.k oa oe;have q3:=YH.eds (L:=[]) I.e oa oe;refine Q5 kx U U<|Qa<|Qe<|Qj (us:=[ve,oF oG qs.length,vk,vd]) kx U U U U ⟨hS.one,U,q2.one,q3.one,Z⟩ λg0 q4 q5=>x Ql<|Qb ?_;have h7:O5 [b2] ga g0:=q1.Q q4;have j1:O5 [] w g0:=(hZ.then I.st (λb E=>.inr (by simp at E;omega))).O h7 hB;refine Qk ⟨[.agg #[ve,oF oG qs.length,vk,vd],vt,oF oG 0],⟨⟨_,U,Qn U (q5.at (L:=[]) oe).cells⟩,rfl,rfl,Z⟩,j1,_,vt,0,rfl,?_⟩;unfold YS;rw[OT h5,qc s q0];have e1:(qs.length:Int)=s.tup.length:=by rw[qo]
  have k0:Qu 3 w2.heap.size g0 ve (evs aa):=Qg (Qg p4 I.st (λb E=>by have:=(Qi hm b E).1;have:=p5 b E;simp;omega)) h7 (λb E=>by have:=(Qi hm b E).1;simp;omega);have k1:=Qg I.k h7 (λb E=>by have:=(Qi I.k b E).1;simp;omega);have k2:=Qg I.e h7 (λb E=>by have:=(Qi I.e b E).1;simp;omega);have k3:=Qg I.t h7 (λb E=>by have:=(Qi I.t b E).1;simp;omega);refine⟨U,⟨ve,vk,vd,by rw[e1],λL' hl=>⟨Qu.ints k0 (by show(evs aa).length<=_;omega) (λb E=>ou (hl b E)),Qu.ints k1 (by show s.mk'.length<=_;omega) (λb E=>ou (hl b E)),YH.eds k2 (by show s.ed.length<=_;omega) (λb E=>ou (hl b E))⟩⟩,qs,I.q,λL' hl=>⟨?_,λp G=>?_⟩⟩
  ·exact QJ k3 oa (λb E hbL=>ov (Qi I.t b E).1 (hl b hbL))
  exact Qu.ints (Qg (I.el p G) h7 (λb E=>by have:=(Qi (I.el p G) b E).1;simp;omega)) (ou (kw p G)) (λb E=>ou (hl b E))
 have j2:i<s.tup.length:=oa
 have Y:i<qs.length:=oa
 have kz:=Qpx I.q Y;have h8:=kv (qs[i]'Y) (Ll Y);obtain⟨t,g2⟩:∃t,(qs[i]'Y).2=t:=⟨_,U⟩;rw[g2]at kz h8;refine Qh ?_;have j3:(zK aa i t (evs aa) (Yf aa i t s)).bind (syL aa (4096 - (i+1)) (i+1))=T:=by
  rw[<-gy];obtain⟨f,hf⟩:∃f,4096 - i=f+1:=⟨4096 - i - 1,oa⟩;rw[hf,syL,OU j2,kz,show 4096 - (i+1)=f by omega]
 have za:=gv.st I.st;have zb:Vs [] ga.heap vl ve vs ps ms:=za.up (λ_ E=>by cases E);have zv:=gw.J I.st gx;have z0:QQ [] ga.heap (qs[i]'Y).1 t:=by rw[<-g2];exact Qu.ints (I.el (qs[i]'Y) (Ll Y)) (ou (kw (qs[i]'Y) (Ll Y))) oe
 refine Qd<|Qf<|Q3 (α:=O2) [(48,59)] (λz=>[]) (λz w'=>SyI w1.heap.size b2 hg V ve wS (Yf aa i t s) m qs vt z vd w') ol ?_ ?_
 ·refine Qd<|ZD [] (Xb 0 6 [5])<|pq (λ_ hc=>ZY (zv.I hc) U U)<|p QE<|p QE<|pig U V0 gz U U Y λa51 z1 =>
   pq (λ_ hc=>QA (z1.I hc) U)<|pk<|xg<|(Qf7 (zb.I (O5.C _ _)) (z0.I (O5.C _ _)) (by rw[h8.1,hD]) (λp G=>(hR p G).mri) hn).mono ?_
  rintro r17 w17 ⟨rfl,z2⟩;have k4:=(O5.C [] ga).D z2;refine⟨k4,?_⟩;refine pe ?_;have g5:=I.I k4;refine QX U (λhH=>?_) (λhH=>?_)
  rotate_left
  ·refine Qh<|⟨vk,Z,?_⟩;rw[S]at hH;unfold Yf;rw[OT (by rw[hH];simp)];exact g5
  refine Qw<|Qs U g5.A U U<|Qa<|Qe<|QC (us:=[[oF oG i]]) U U og oe ⟨rfl,rfl,Z⟩ λb57 w18 z3 hb57 z4=>?_;have hJ:=g5.I z3;refine Qe<|Za (news:=[oF oG i]) (L:=[]) hJ.k U U U (z4.at oe) (by simp[Value.oneCell']) oa hJ.st.size λk5 z5 ho19 k6 hn19=>?_;have k7:Qu 3 wS.heap.size z5 k5 (s.mk'++[(i:Int)]):=Qu.snoc ho19;refine Q2 U<|Qe<|QB (hJ.A.J k6 (QT hJ.k oa)) U U oe (Qu.ints (L:=[]) k7 (by simp;omega) oe).one λw20 hs20 hB20=>xe ?_;refine⟨k5,Z,?_⟩;rw[S]at hH;unfold Yf;rw[OU hH];exact hJ.setK hG k6 k7 hn19 hs20 hB20
 rintro gc g3 w21 k8;have hsk2:qE aa (Yf aa i t s):=jr gb;have htup2:(Yf aa i t s).tup=s.tup:=by unfold Yf;split <;> rfl
 have hed2:(Yf aa i t s).ed=s.ed:=by unfold Yf;split <;> rfl
 have hmk2:(Yf aa i t s).mk'.length<=i+1:=by
  unfold Yf;split
  ·simp only[oM,oO];omega
  omega
 have k9:QQ [b2,hg,V] wS.heap ve (evs aa):=by have:=gv.ev;rw[S]at this;exact this
 refine Qc<|Qs U (gw.J k8.st gx) U U<|QK k9 U<|Qa<|xe<|Qf<|QD (α:=Nat×Sy×List (ByteArray×O2)×List TV×O2×O2) [(3,4),(12,16),(63,111)] (λz=>[(3,z.2.2.2.2.1),(63,oF oG z.1)])
  (λz w'=>SyI w1.heap.size b2 hg V ve wS z.2.1 z.2.2.1 z.2.2.2.1 z.2.2.2.2.1 gc z.2.2.2.2.2 w'/\qE aa z.2.1/\qH ps.length z.2.2.1 z.2.1.tup/\z.1<=(evs aa).length/\z.2.1.mk'=(Yf aa i t s).mk'/\z.2.1.ed.length<=i*1000+z.1 /\
   (∃h:i<z.2.2.2.1.length,(z.2.2.2.1[i]'h).2=t)/\(zK aa i t ((evs aa).drop z.1) z.2.1).bind (syL aa (4096 - (i+1)) (i+1))=T)
  (λz=>(evs aa).length - z.1) ol (0,Yf aa i t s,m,qs,vt,vd) oA
  ⟨k8,hsk2,by rw[htup2];exact kt,Ln _,U,by rw[hed2];simpa using ku,⟨Y,g2⟩,j3⟩ ?_
 rintro⟨j,H,m4,hh,gg,gh⟩ g4 hK ⟨O,hL,hv,hj,gi,ma,⟨ho,h9⟩,he⟩;simp only[]at O hL hv hj gi ma he ho h9;have mf:hh.length=H.tup.length:=by rw[<-O.q];simp
 have hle4:=hL.le;refine Qc<|QZ U U<|xe<|Qd<|QG U (λh64=>?_) (λh64=>?_)
 ·rw[Lq oa,zK]at he;refine Qy<|Qw<|Qa<|QP U U<|Qb<|⟨(i+1,H,m4,hh,gg,gc,gh),oh,oA,O,hL,hv,oh,by simp only[];rw[gi];exact hmk2,oh,he⟩
 have gj:j<(evs aa).length:=oa
 rw[Zg gj,zK]at he;obtain⟨v,mg⟩:∃v,(evs aa)[j]=v:=⟨_,U⟩;rw[mg]at he;refine Qh<|Qd<|Qf<|Qc ?_;have hveI4:=k9.st O.st;refine xii hveI4 U U gj λa65 mh=>?_;rw[mg]at mh;refine x (QA mh U)<|Qb ?_;have hM22:=(gv.st O.st).up (L':=[]) (λ_ E=>by cases E);have hB622:=gw.J O.st gx;have htA4:=QJ (L:=[]) O.t oa oe;have htI4:QQ [] hK.heap (hh[i]'ho).1 t:=by rw[<-h9];exact Qu.ints (O.el (hh[i]'ho) (Ll ho)) (by rw[h9,h8.1];omega) oe
 refine Qd<|ZD [] (Xb 0 12 [6])<|pq (λ_ hc=>ZY (hB622.I hc) U U)<|p QE<|p QE<|pig U V0 htA4 U U ho λa71 h71 =>
  pq (λ_ hc=>QA (h71.I hc) U)<|p QE<|pk<|xg<|(Qh2 (hM22.I (O5.C _ _)) (htI4.I (O5.C _ _)) (by rw[h8.1,hD]) (λp G=>(hR p G).ali) (λp G=>(hR p G).edi) hn _).mono ?_
 rintro r23 w23 ⟨hs23,hM⟩;rw[S]at hM;have mj:=(O5.C [] hK).D hs23;refine⟨mj,?_⟩;have hN:=O.I mj;have hz22:=O.st.size;rcases Qq1 (YV v aa t)with hw|⟨u,hw⟩
 ·rw[hw]at hM;subst hM;rw[Qhq hw]at he;refine p QE<|p (λ_=>Zt U U)<|p (λ_=>Zt U U)<|p ZN<|p ZN<|pe ?_;refine Qd<|Qm<|x (Zx U)<|xe<|yQ U ?_;refine Qy<|Qw<|QP U U<|Qa<|xe ?_;exact⟨(j+1,H,m4,hh,gg,gh),oh,oA,hN,hL,hv,gj,gi,oh,⟨ho,h9⟩,he⟩
 rw[hw]at hM;obtain⟨vx,rfl,g8⟩:=hM;have mo:=JY hC h8 hw;have mq:u.length=ps.length:=by rw[mo.1,hD]
 have g9:=mo.bd ph;have ka:∀x∈u,0<=x:=λx hx=>(g9 x hx).1;refine p QE<|p (λ_=>Zt U U)<|p (λ_=>Zt U U)<|p ZN<|p ZN<|pe ?_;refine Qd<|Qm<|x (Zx U)<|xe<|ZL U<|Qh ?_;have gk:=Qu.ints (L:=[]) g8 oa oe;have mt:=Qi g8;refine Q3 (α:=Unit) [(15,16),(79,85)] (λz=>[(15,oF oG (if u∈H.tup then(H.tup.idxOf u:Int)else 0)),(16,.bool (decide (u∈H.tup)))]) (λz w'=>O5 [] w23 w') ol ?_ ?_
 ·refine Qw<|Qa<|Qa<|QM<|(QaW gk (gn.I (hZ.then hN.st (λb E=>.inr (by simp at E;omega)))) g9 oa).mono ?_;rintro r24 w24 ⟨rfl,gl⟩;by_cases J:u∈H.tup
  ·refine x (jE (k:=KY u) ((hN.I gl).M) U U (by rw[hv u mq ka,OU J]))<|Qa<|Q7 rfl rfl<|Q7 rfl rfl<|x Ql<|Qb<|⟨(),⟨OV (Value.int .i64) (OU J).symm,OV Value.bool (OX J).symm,Z⟩,gl⟩
  refine x (QfX (k:=KY u) ((hN.I gl).M) U U (by rw[hv u mq ka,OT J]))<|Qa<|Q7 rfl rfl<|Q7 rfl rfl<|x Ql<|Qb<|⟨(),⟨OV (Value.int .i64) (OT J).symm,OV Value.bool (OZ J).symm,Z⟩,gl⟩
 rintro _ g6 w25 kb;have hA:=hN.I kb;have hx25:=Qp g8 kb;have hxA25:=gk.I kb;have hadd:∀b∈ob vx,b∉ob gg/\b∉ob gc/\b∉ob gh:=λb E=>by
  have h1:=(mt b E).1;have h1':hK.heap.size<=b:=h1;exact⟨λhO=>ou (Zc O.t b hO),λhO=>ou (Zc O.k b hO),λhO=>ou (Zc O.e b hO)⟩
 refine Q3 (α:=List (ByteArray×O2)×List TV×O2) [(3,4),(15,15),(86,101)] (λz=>[(3,z.2.2),(15,oF oG ((YZ H u).tup.idxOf u:Int))])
  (λz w'=>SyI w1.heap.size b2 hg V ve wS (YZ H u) z.1 z.2.1 z.2.2 gc gh w'/\(u∈H.tup\/H.tup.length≠4096)/\qH ps.length z.1 (YZ H u).tup/\∃h:i<z.2.1.length,(z.2.1[i]'h).2=t) ol ?_ ?_
 ·refine Qm<|x (Zx U)<|xe<|QX U (λkc=>?_) (λkc=>?_)
  rotate_left
  ·have J:u∈H.tup:=by simpa using kc
   refine Qh ?_;have e1:YZ H u=H:=by unfold YZ;rw[OU J]
   have e2:(if u∈H.tup then(H.tup.idxOf u:Int)else 0)=((YZ H u).tup.idxOf u:Int):=by rw[e1,OU J]
   refine⟨(m4,hh,gg),⟨U,OV (Value.int .i64) e2,Z⟩,?_,.inl J,?_,ho,h9⟩
   ·rw[e1];exact hA
   rw[e1];exact hv
  have J:u∉H.tup:=by simpa using kc
  have mu:=QJ (L:=[]) hA.t oa oe;refine Qd<|Qm<|QK mu U<|x (Q0 U U)<|xe<|QY U (λh90=>?_) (λh90=>?_)
  ·refine Qc<|x (Qz Z)<|Qe<|Qj (us:=[nS,oF oG 0,nS,nS]) hA.A U U U U oC λw26 gm hB26=>x Ql<|Qb<|Qk ⟨[zA,Zz,oF oG 3],⟨⟨_,U,Qn U (hB26.at (L:=[]) oe).cells⟩,rfl,rfl,Z⟩,(hZ.then hA.st (λb E=>.inr (by simp at E;omega))).O gm hB,zA,Zz,3,U,?_⟩;unfold YS;rw[Qhs hw J oa]at he;rw[OT h5,qf he.symm];exact⟨rfl,U,U⟩
  have hl4:H.tup.length≠4096:=oa
  refine Qh<|Qm<|QK mu U<|Qb<|Qm<|Qa<|QM<|(QaW hxA25 (gn.I (hZ.then hA.st (λb E=>.inr (by simp at E;omega)))) g9 oa).mono ?_;rintro r26 w26 ⟨rfl,gm⟩;have mv:=hA.I gm;refine Qa<|Qe<|XD (k:=KY u) mv.M U U λw27 mw hm27=>xe ?_;have hI8:=mv.setM hG mw hm27;have hx27:=Qg (Qp hx25 gm) mw (λb E=>by have:=(mt b E).1;have h1':hK.heap.size<=b:=this;simp;omega);refine Qw<|Qa<|Qa<|Qe<|QC (us:=[[vx]]) U U og oe ⟨gk.cells,rfl,Z⟩ λb100 w28 my hb100 hB100=>?_;have ke:=hI8.I my;refine Qe<|Za (news:=[vx]) (L:=[]) ke.t U U U (hB100.at oe) (λy hy=>by simp only[oI]at hy;subst hy;exact gk.one) oa (ov ke.st.size hG.nS) λmz w29 ho29 hs29 hn29=>Qb ?_;have hk29:ji 56 w1.heap.size w29 mz (hh++[(vx,u)]):=ji.snoc ho29;have hIA:=ke.setT hG (u:=u) (Zv (Qp hx27 my) (by show wS.heap.size<=hK.heap.size;omega)) hadd hs29 hk29 hn29;have e1:YZ H u=⟨H.tup++[u],H.mk',H.ed⟩:=by unfold YZ;rw[OT J]
  have e2:(hh.length:Int)=((YZ H u).tup.idxOf u:Int):=by
   rw[e1];simp only[];rw[MA,OT J,<-mf];simp
  refine⟨(xh m4 (KY u) (oF oG (hh.length:Int)),hh++[(vx,u)],mz),⟨U,OV (Value.int .i64) e2,Z⟩,?_,.inr hl4,?_,by simp;omega,?_⟩
  ·rw[e1];exact hIA
  ·rw[e1];simp only[];rw[mf];exact hv.add J ka
  simp only[];rw[MG ho];exact h9
 rintro⟨m5,qs5,vt5⟩ g7 w30 ⟨kf,hlim,m2,m3,m6⟩;simp only[]at kf m2 m3 m6;have hed5:(YZ H u).ed.length<=i*1000+j:=by rw[Qhu];exact ma
 have m7:=QkW (aa:=aa) (i:=i) (s:=H) hw hlim;have hsk5:=Qhr hC hL h8 m7;rw[m7]at he;refine Qw<|Qs U kf.A U U<|Qa<|Qa<|Qa<|x (Qz ⟨U,U,U,Z⟩)<|Qe<|QC (us:=[QF ((i:Int),v,((YZ H u).tup.idxOf u:Int))]) U U og (by exact(by decide:1*3<=1000000)) oA λb108 w31 hs31 hb108 hB108=>?_;have hP:=kf.I hs31;refine Qe<|Za (news:=QF ((i:Int),v,((YZ H u).tup.idxOf u:Int))) (L:=[]) hP.e U U U (hB108.at oe) (λy hy=>by simp only[QF,oL,oJ,or_false]at hy;rcases hy with rfl|rfl|rfl <;> rfl) oa hP.st.size λm8 w32 ho32 m9 hn32=>?_
 have pa:YH 167 wS.heap.size w32 m8 ((YZ H u).ed++[((i:Int),v,((YZ H u).tup.idxOf u:Int))]):=YH.snoc ho32;refine Q2 U<|Qe<|QB (hP.A.J m9 (QT hP.e oa)) U U oe (YH.eds (L:=[]) pa (by simp;omega) oe).one λw33 hs33 hB33=>xe ?_;have hI12:=hP.setE hG m9 pa hn32 hs33 hB33;refine Qw<|QP U U<|Qa<|xe<|⟨(j+1,_,m5,qs5,vt5,m8),oh,oA,hI12,hsk5,m2,gj,?_,?_,⟨m3,m6⟩,he⟩
 ·simp only[];rw[Qht];exact gi
 simp only[oM,oO];omega
structure Uj where
 en:LI
 dis:LI
 mk':Bool
 ps:Bool
def QoO:Uj:=⟨[],[],false,false⟩
def Qnt (l:LI)(v:Int):LI:=mrg (· || ·) l [v]
def Qre (p s:Q9)(x y:Int)(c:Uj)(v:Int):Uj :=
 match xo p.ed x v with
 | none=>c
 | some _=>match xo s.ed y v with
  | some _=>⟨Qnt c.en v,c.dis,c.mk',c.ps⟩
  | none=>⟨c.en,Qnt c.dis v,c.mk',c.ps⟩
def Qrf (p s:Q9)(x y:Int)(c:Uj):Uj:=⟨c.en,c.dis,decide (y∈s.mr),c.ps || decide (x∈p.mr)⟩
def Qrd (p s:Q9)(x y:Int)(c:Uj):Uj:=s.al.foldl (Qre p s x y) (Qrf p s x y c)
def px (q:LI):Int:=q.getD 0 0
def py (q:LI):Int:=q.getD 1 0
def Qrc (p s:Q9)(l:List Uj)(q:LI):List Uj:=l.set (py q).toNat (Qrd p s (px q) (py q) (l.getD (py q).toNat QoO))
def ctls (p s:Q9)(pairs:List (LI)):List Uj:=pairs.foldl (Qrc p s) (oN s.st.toNat QoO)
def occs (n:Nat)(pairs:List (LI)):List Bool:=pairs.foldl (λo q=>o.set (py q).toNat true) (oN n false)
def meets (a b:LI):LI:=mrg (· && ·) a b
def Qqc (a b:Uj):Bool:=decide ((meets a.en b.dis).length+(meets b.en a.dis).length=0) && (!a.ps || !b.ps || a.mk' == b.mk')
def O6 (l:LI)(i:Nat):Int:=l.getD i 0
def Qir (cl:LI)(x y:Nat):LI:=cl.map λc=>if c=O6 cl y then O6 cl x else c
def lget (l:List Uj)(i:Nat):Uj:=l.getD i QoO
def to0 (s:Q9)(x:Nat)(v:Int):Int:=match xo s.ed x v with|some u=>u|none=>0
def clE (s:Q9)(x y:Nat)(z:LI×Bool)(v:Int):LI×Bool :=
 if O6 z.1 (to0 s x v).toNat≠O6 z.1 (to0 s y v).toNat then(Qir z.1 (to0 s x v).toNat (to0 s y v).toNat,true)else z
def clY (s:Q9)(l:List Uj)(x:Nat)(z:LI×Bool)(y:Nat):LI×Bool :=
 if O6 z.1 x<0\/O6 z.1 x≠O6 z.1 y then z else(meets (lget l x).en (lget l y).en).foldl (clE s x y) z
def clX (s:Q9)(l:List Uj)(n:Nat)(z:LI×Bool)(x:Nat):LI×Bool:=(oR (x+1) (n - (x+1))).foldl (clY s l x) z
def pass (s:Q9)(l:List Uj)(cl:LI):LI×Bool:=(oR 0 cl.length).foldl (clX s l cl.length) (cl,false)
def QjJ (s:Q9)(l:List Uj):Nat->LI->LI
 | 0,cl=>cl
 | f+1,cl=>if(pass s l cl).2=true then QjJ s l f (pass s l cl).1 else(pass s l cl).1
def Qmt (l:List Uj)(cl:LI):Bool :=
 (oR 0 cl.length).all λx=>(oR 0 x).all λy=>!(decide (0<=O6 cl x/\O6 cl x=O6 cl y) && !Qqc (lget l x) (lget l y))
def QqM (s:Q9)(l:List Uj)(cl:LI)(x y:Nat):LI :=
 if O6 cl x<0\/O6 cl y<0\/O6 cl x=O6 cl y then cl else
  let d:=QjJ s l (cl.length*cl.length+1) (Qir cl x y)
  if Qmt l d=true then d else cl
def QqL (s:Q9)(l:List Uj)(n:Nat)(cl:LI)(x:Nat):LI:=(oR (x+1) (n - (x+1))).foldl (λc y=>QqM s l c x y) cl
def Qrh (o:List Bool):LI:=(oR 0 o.length).map λi=>if o.getD i false=true then(i:Int)else -1
def Qrg (s:Q9)(l:List Uj)(cl:LI):LI:=(oR 0 cl.length).foldl (QqL s l cl.length) cl
def Qq3 (z:LI×LI)(c:Int):LI×LI :=
 if c∈z.1 then(z.1,z.2++[(z.1.idxOf c:Int) - 1])else(z.1++[c],z.2++[(z.1.length:Int) - 1])
def nums (cl:LI):LI:=(cl.foldl Qq3 ([-1],[])).2
def Qqj (p s:Q9)(pairs:List (LI)):LI:=nums (Qrg s (ctls p s pairs) (Qrh (occs s.st.toNat pairs)))
theorem xI {α:Type}(g:α->LV)(sz:Nat)(G:∀x,(g x).length=sz):∀(l:List α) (i j:Nat) (h:i<l.length) (y:α) (u:O2),j<sz->g y=(g l[i]).set j u ->
  (l.flatMap g).set (i*sz+j) u=(l.set i y).flatMap g
 | x::l,0,j,h,y,u,H,E=>by
  simp only[List.getElem_cons_zero]at E;simp only[OP,oY,Oe,List.set_cons_zero];rw[List.set_append_left _ _ (by rw[G];exact H),E]
 | x::l,i+1,j,h,y,u,H,E=>by
  simp only[List.getElem_cons_succ]at E;simp only[Oe,List.set_cons_succ];rw[List.set_append_right _ _ (by rw[G,Ms];omega),G,show(i+1)*sz+j - sz=i*sz+j by rw[Ms];omega,xI g sz G l i j (oz h) y u H E]
section
variable {f:Fr}{all:xE}{C:xA}{K:Fr->O1->Prop}
def yw (all:Array Oper)(i j:Nat)(E G:xu):xu->Array Bool->Bool
 | [],ls=>Region.ready .any all ls == [i,j] && Xe all E (ls.setIfInBounds i true) && Xe all G (ls.setIfInBounds j true)
 | (k,q)::pl,ls=>q && (Region.ready .any all ls).contains k && Region.free .any all ls k && yw all i j E G pl (ls.setIfInBounds k true)
def QiY (all:xE)(pl:xu)(i j:Nat)(E G:xu):Bool :=
 Region.noSelect all.toArray && pl.length+1+E.length == all.length && E.length == G.length && yw all.toArray i j E G pl (oU all.length false)
def Fk (P:O4)(all:xE)(C:xA)(K:Fr->O1->Prop)(i j:Nat)(G H:xu)(f:Fr)(w:O1):Prop :=
 (Yb all f (QV all i)=true/\XO P (QV all i) f w λE w'=>C w'/\XP P all C K G E w') /\
 (Yb all f (QV all j)=true/\XO P (QV all j) f w λE w'=>C w'/\XP P all C K H E w')
theorem Uf {i j:Nat}{G V:xu}(hl:G.length=V.length)(H:Region.noSelect all.toArray=true):∀(pl:xu) (ls:Array Bool) (f:Fr) (w:O1),ls.size=all.length->C w->yw all.toArray i j G V pl ls=true ->
  XP P all C (Fk P all C K i j G V) pl f w->XA P all C K (pl.length+(1+G.length)) ls f w
 | [],ls,f,w,ha,I,J,h=>by
  simp only[yw,oK,beq_iff_eq]at J;obtain⟨⟨O,h1⟩,h2⟩:=J;simp only[XP]at h;rw[Nj,LR,Nb];refine XK (λh0=>(by rw[h0]at O;cases O)) ?_;rw[O];intro k hk o E;have S:(ls.setIfInBounds k true).size=all.length:=by simpa using ha
  simp only[oL,oJ,or_false]at hk;rcases hk with rfl|rfl
  ·have:=h.1;rw[Zm E]at this;rw[this.1,cond_true];exact this.2.mono λv w' hx=>⟨.inr (.inr hx.1),ZQ H G _ _ _ S (.inl hx.1) h1 hx.2⟩
  have:=h.2;rw[Zm E]at this;rw[this.1,cond_true,hl];exact this.2.mono λv w' hx=>⟨.inr (.inr hx.1),ZQ H V _ _ _ S (.inl hx.1) h2 hx.2⟩
 | (T,q)::pl,ls,f,w,ha,I,J,h=>by
  simp only[yw,oK]at J;obtain⟨⟨⟨rfl,O⟩,hf⟩,hc⟩:=J;simp only[XP]at h;have hb:T∈Region.ready .any all.toArray ls:=by simpa using O
  have e:(oP ((T,true)::pl))+(1+G.length)=(pl.length+(1+G.length))+1:=by simp;omega
  rw[e];cases E:all[T]? with
  | none =>
   exfalso;obtain⟨_,o,hi,_⟩:=mem_ready.1 hb;simp[E]at hi
  | some o =>
   rw[Zm E]at h;have he:∀(j:Nat) (o:Oper) cs b,all[j]?=some o->o.op≠.select cs b:=λj o cs b hj=>Region.noSelect_spec H j o cs b (oz hj);have hh:=λj oj hj=>Region.free_spec (ops:=all.toArray) (md:=.any) (i:=T) (oi:=o) (listed:=ls) (oz E) hf j oj (oz hj);have S:(ls.setIfInBounds T true).size=all.length:=by simpa using ha
   cases Y:Yb all f o with
   | false =>
    rw[Y]at h;exact Xj (v:=undef) (D:=λw=>U4 o=true->C w) E (λ_ h=>h) he _ ls f w (λ_=>I) hh hb (.inr ⟨Y,U⟩) (Uf hl H pl _ _ _ S I hc h)
   | true =>
    rw[Y]at h;simp only[cond_true]at h;obtain⟨v,hv,hx⟩:=h;exact Xj (v:=v) (D:=λw=>U4 o=true->C w) E (λ_ h=>h) he _ ls f w (λ_=>I) hh hb (.inl ⟨Y,hv⟩) (Uf hl H pl _ _ _ S I hc hx)
theorem QmO {Q:Exit->Fr->O1->Prop}(C:xA)(pl:xu)(i j:Nat)(G H:xu)(J:P.follows .mixedOrders=true)(O:XS n all=true)(E:QiY all pl i j G H=true)
  (S:C { w with drawn:=w.drawn+1 }) (h:XP P all C (Fk P all C (λf w=>Q .normal f w) i j G H) pl f { w with drawn:=w.drawn+1 }):W P n (.region id all.toArray true) Q f w:=by
 simp only[QiY,oK,beq_iff_eq]at E;obtain⟨⟨⟨T,hl⟩,V⟩,E⟩:=E;refine JQ C J O ?_;have I:=Uf V T pl _ _ _ oe S E h;rw[<-ON,hl]at I;exact I
end
theorem ZG {l:LI}(h:i<l.length):l[i]=O6 l i:=by simp[O6,oQ,h]
section
variable {l:xE}{K:Fr->O1->Prop}{f:Fr}{pS:String}{C:xA}{pl:xu}{i0:Nat}
theorem xic {x:O3}{e bys:Nat}[Sl P t e 1 bys z]{L:LN}{li:LI}{v:O2}{k:IntKind}
  (h:QQ L w.heap v li) (E:ev f x=v) (G:ev f y=.int k i) (hi:i<li.length)
  (hK:∀a,At L w.heap a [oF oG (O6 li i)]->XL P ops K l (QW f d (.pointer (some a))) w) (H:Yb ops f ⟨d,.indexAddr t x y,ty,pS,af,gd⟩=true:=by rfl):
  XL P ops K (⟨d,.indexAddr t x y,ty,pS,af,gd⟩::l) f w :=
 xii h E G hi (λa I=>hK a (by rw[<-ZG hi];exact I)) H
theorem pic {x:O3}{e bys:Nat}[Sl P t e 1 bys z]{L:LN}{li:LI}{v:O2}{k:IntKind}
  (E:QV ops i0=⟨d,.indexAddr t x y,ty,pS,af,gd⟩) (h:QQ L H v li) (G:ev f x=v) (I:ev f y=.int k i) (hi:i<li.length)
  (hK:∀a,At L H a [oF oG (O6 li i)]->XP P ops C K pl (QW f d (.pointer (some a))) w) (J:Yb ops f (QV ops i0)=true:=by rfl):XP P ops C K ((i0,true)::pl) f w :=
 pii E h G I hi (λa O=>hK a (by rw[<-ZG hi];exact O)) J
end
theorem QhM {a:Nat}(h:a<n):oR a (n - a)=a::oR (a+1) (n - (a+1)):=by
 rw[show n - a=(n - (a+1))+1 by omega,M8]
theorem Qle {a:Nat}(h:n<=a):oR a (n - a)=[]:=by rw[show n - a=0 by omega];rfl
section
variable {f:Fr}{pS:String}{κ:Type}[DecidableEq κ]
end
theorem Qej {aa:List Q9}{i:Nat}{t:LI}(G:∀a∈aa,ZE a)(H:Vt aa t):∀(vs:LI) (s E:Sy),qE aa s->zK aa i t vs s=some E->qE aa E
 | [],s,E,h,e=>by cases e;exact h
 | v::vs,s,E,h,e=>by
  rw[zK]at e;obtain⟨I,J,O⟩:=MW.1 e;exact Qej G H vs I E (Qhr G h H J) O
theorem Qhn {aa:List Q9}(G:∀a∈aa,ZE a):∀(f i:Nat) (s E:Sy),qE aa s->syL aa f i s=some E->qE aa E
 | 0,i,s,E,h,e=>by cases e;exact h
 | f+1,i,s,E,h,e=>by
  rw[syL]at e;split at e
  ·rename_i hi;obtain⟨H,I,J⟩:=MW.1 e;have O:Vt aa (jq s i):=h.v _ (by unfold jq;simp[oQ,hi]);exact Qhn G f _ H E (Qej G O _ _ _ (jr h) I) J
  cases e;exact h
theorem Qny {aa:List Q9}(H:∀a∈aa,ZE a)(I:¬∃a∈aa,a.st=0):qE aa (jt aa):=by
 refine⟨λt E=>?_,by simp[jt]⟩;simp only[jt,oI]at E;subst E;refine⟨oe,λi J G=>?_⟩;have O:=(H aa[i] (Ll G)).st0;have S:aa[i].st≠0:=λe=>I ⟨aa[i],Ll G,e⟩;simp only[List.getElem_replicate];omega
theorem zi {aa:List Q9}(E:∀a∈aa,ZE a){z:Q9×List (LI)}(h:xp aa=some z):(∀t∈z.2,Vt aa t)/\z.2.length<=4096:=by
 unfold xp at h;split at h
 ·cases h;simp
 rename_i G;obtain⟨s,H,rfl⟩:=My.1 h;have:=Qhn E _ _ _ _ (Qny E G) H;exact⟨this.v,this.le⟩
def opC (p s:Q9):Int:=if Jl p≠0 then Jl p else if Jl s≠0 then Jl s else if mrg (λp q=>p && !q) s.al p.al=[]then 0 else 9
def opE (p s:Q9):Int:=if opC p s≠0 then opC p s else match xp [p,s]with|none=>3|some _=>0
def opQ (p s:Q9):List (LI):=match xp [p,s]with|none=>[]|some z=>z.2
def QpP (l:LI):Int:=(l.drop 1).foldl max (O6 l 0)
theorem KA {v:O2}{a:Q9}(h:Jv N w.heap v a)(G:b<N)(H:O5 [b] w w'):Jv N w'.heap v a:=by
 obtain⟨va,vm,ve,I,J⟩:=h;refine⟨va,vm,ve,I,λL O=>?_⟩;exact((J (b::L) (λc E=>by rcases Li.1 E with rfl|E;exact G;exact O c E)).st (H.mono oe)).up (λc E=>.inl (Lj _ E))
theorem Qkf {v:O2}{l:List (LI)}(h:Qd1 N w.heap v l)(G:b<N)(H:O5 [b] w w'):Qd1 N w'.heap v l:=by
 obtain⟨ps,I,J⟩:=h;refine⟨ps,I,λL O=>?_⟩;exact((J (b::L) (λc E=>by rcases Li.1 E with rfl|E;exact G;exact O c E)).st (H.mono oe)).up (λc E=>.inl (Lj _ E))
theorem JR {v:O2}{a:Q9}(h:Jv N H v a):∃us,v=.agg us.toArray/\us.length=4/\Zr us:=by
 obtain⟨va,vm,ve,E,G⟩:=h;have:=G [] oe;exact⟨[va,oF oG a.st,vm,ve],E,U,this.al.one,U,this.mr.one,this.ed.one,Z⟩
end Go.Lg
namespace Go.Lg
abbrev xz:=Fr->xA
end Go.Lg
