/- Merged out of 37 texts. -/
import Derived.Orders
import Derived.Below
import Derived.WalkKit
import Derived.Laws.AppendOwn
import Derived.Laws.Rows
import Derived.Laws.Tables
import Derived.Great.BuildSlice
import Derived.Deep.OwnRows
import Derived.MapKept
import Derived.Laws.StructEq
import Derived.Test.YteekilnpgonojaaGreatDoorProg
import Derived.Shelf.Strings.Builder1
import Derived.Shelf.Small.Bits
import Derived.Shelf.Strings.BuilderF
import Derived.Shelf.Strings.BuilderK
import Derived.Shelf.Strconv.Itoa0
import Derived.Shelf.Strconv.Itoa1
import Derived.Shelf.LaysM
import Derived.Shelf.Strconv.Itoa2
import Derived.Shelf.Strconv.Itoa3
import Derived.Shelf.Strings.BuilderCap
import Derived.Ground.SlgfProg
import Derived.Ground.SlgmProg
import Derived.Shelf.SortM.Plain
import Derived.Shelf.SortM.SortNone
import Derived.Lib.Builder
import Derived.Laws.Externs
set_option maxHeartbeats 40000000
set_option maxRecDepth 100000
set_option linter.all false
abbrev Eq.D:=@Eq.trans
abbrev Iff.D:=@Iff.trans
abbrev List.Perm.D:=@List.Perm.trans
namespace Go
abbrev xt:=Option (Nat×Bool)
abbrev xu:=List (Nat×Bool)
abbrev xw:=List (Nat×Nat)
abbrev xx:=List (Int×Int)
abbrev xA:=World→Prop
abbrev xC:=Array Obj
abbrev xD:=Array Edge
abbrev xE:=List Oper
abbrev xF:=Option Nat
theorem ou{p q:Prop}(a:q)(h:q→p:=by intro _;omega):p:=h a
theorem ov{p q r:Prop}(a:q)(b:r)(h:q→r→p:=by intro _ _;omega):p:=h a b
theorem oy{p q r s:Prop}(a:q)(b:r)(c:s)(h:q→r→s→p:=by intro _ _ _;omega):p:=h a b c
theorem oz{p q:Prop}(a:q)(h:q→p:=by intro h;simpa using h):p:=h a
theorem oa{p:Prop}(h:p:=by omega):p:=h
theorem od{p:Prop}(h:p:=by kernel_rfl):p:=h
theorem oe{p:Prop}(h:p:=by simp):p:=h
theorem og{p:Prop}(h:p:=by decide):p:=h
theorem oh{p:Prop}(h:p:=by simp only[];omega):p:=h
theorem ol{p:Prop}(h:p:=by rfl):p:=h
theorem om{p:Prop}(h:p:=by simp only[List.mem_singleton];omega):p:=h
theorem oq{p:Prop}(h:p:=by simp only[List.mem_cons,List.not_mem_nil,or_false];omega):p:=h
theorem ot{p:Prop}(h:p:=by simp[ow]):p:=h
abbrev oD(j:Nat):Nat×Bool:=(j,true)
abbrev oE(j:Nat):Nat×Bool:=(j,false)
abbrev OT:=@if_neg
abbrev OU:=@if_pos
abbrev OV:=@congrArg
abbrev OW:=@absurd
abbrev OX:=@decide_eq_true
abbrev OY:=@of_decide_eq_true
abbrev OZ:=@decide_eq_false
abbrev O0:=@of_decide_eq_false
end Go
open Go
open Go.Value renaming int->oF
open Go.IntKind renaming i64->oG
open _root_.List renaming mem_singleton->oI,not_mem_nil->oJ,mem_cons->oL,length_append->oM,replicate->oN,length_singleton->oO,length->oP,getD->oQ,range'->oR,all_cons->oS,range->oT,mem_append->oU,append_assoc->oV,length_cons->oW,map_cons->oY,getElem?_toArray->o0,length_drop->o6,length_take->Oa,cons_append->Ob,length_map->Oc,size_toArray->Od,flatMap_cons->Oe,getElem?_eq_getElem->Of,nil_append->Ok,all_eq_true->Om,forall_mem_cons->Ot,singleton_append->Ov,append_nil->Ox,range'_succ->OB,take_append->OK
open _root_.Bool renaming and_eq_true->oK,not_eq_true'->Og,or_eq_false_iff->Oh,true_and->OO
open _root_.Array renaming replicate->oX,getElem?_eq_getElem->Oj
open _root_.Nat renaming zero_add->oZ,add_mul->Oq,add_zero->OC,lt_or_ge->OH,sub_zero->OI,le_of_not_lt->OJ,add_assoc->ON,le_succ->OP,zero_mul->OQ,beq->OS
open _root_.Int renaming toNat_natCast->On
open _root_.Option renaming map_some->Oy
open Go renaming World->O1,Value->O2,Operand->O3,Program->O4
open Go.Proofs Go.Proofs.Tryz
variable {w w':O1}{n t i sz b j T E g N id o ty cap b1 B kt lo hi b2 et G M gp:Nat}{H:xC}{α β:Type}{y:O3}{z va ve vm vt v' vs vl vx vb vk:O2}{P:O4}{fn:Func}{s:Int}{d:xF}{af:xD}{gd:xt}{k':IntKind}{at_:Array Nat}{ops:xE}{rest:xu}{ls:xx}
namespace Go
abbrev nS:O2:=.slice none 0 0
abbrev LI:=List Int
abbrev LN:=List Nat
abbrev LV:=List O2
theorem U.{u}{α:Sort u}{a:α}:a=a:=rfl
theorem Z:True:=trivial
theorem La.{u}{α:Sort u}{a:α}:a=a/\True:=⟨rfl,trivial⟩
abbrev Lb:=@List.mem_singleton
abbrev Lc:=@List.mem_append
abbrev Lh:=@List.length_map
abbrev Li:=@List.mem_cons
abbrev Lj:=@List.mem_cons_of_mem
abbrev Lk:=@List.length_append
abbrev Ll:=@List.getElem_mem
abbrev Lm:=@List.take_succ_eq_append_getElem
abbrev Ln:=@Nat.zero_le
abbrev Lo:=@Decidable.not_not
abbrev Lp:=@List.mem_cons_self
abbrev Lq:=@List.eq_nil_of_length_eq_zero
abbrev Lr:=@List.drop_of_length_le
abbrev Ls:=@List.map_append
abbrev Lt:=@List.take_of_length_le
abbrev Lu:=@List.not_mem_nil
abbrev Lv:=@Bool.and_eq_true
abbrev Lx:=@Nat.le_refl
abbrev Ly:=@List.length_take
abbrev LA:=@List.flatMap_append
abbrev LB:=@List.append_assoc
abbrev LC:=@List.mem_map
abbrev LD:=@List.getElem?_eq_getElem
abbrev LE:=@List.length_singleton
abbrev LF:=@List.drop_eq_getElem_cons
abbrev LG:=@List.getElem_of_mem
abbrev LH:=@List.map_cons
abbrev LJ:=@List.mem_map_of_mem
abbrev LK:=@Array.getElem?_eq_some_iff
abbrev LM:=@List.flatMap_cons
abbrev LO:=@List.getElem_map
abbrev LP:=@Nat.le_trans
abbrev LQ:=@List.append_nil
abbrev LR:=@List.size_toArray
abbrev LS:=@Nat.zero_add
abbrev LT:=@List.length_cons
abbrev LU:=@List.length_drop
abbrev LW:=@List.getElem?_take
abbrev LX:=@Nat.lt_of_lt_of_le
abbrev LY:=@List.mem_of_mem_take
abbrev LZ:=@List.foldl_cons
abbrev L3:=@Nat.mul_le_mul_right
abbrev L4:=@List.pairwise_cons
abbrev L5:=@List.all_cons
abbrev L6:=@List.filter_append
abbrev L7:=@Option.map_eq_some_iff
abbrev L8:=@List.mem_filter
abbrev L9:=@List.cons_append
abbrev Ma:=@List.mem_of_mem_drop
abbrev Mb:=@List.nil_append
abbrev Mc:=@List.length_set
abbrev Md:=@List.mem_append_left
abbrev Me:=@List.filter_cons
abbrev Mf:=@List.mem_flatMap
abbrev Mg:=@Array.size_modify
abbrev Mh:=@List.getElem?_append_left
abbrev Mi:=@List.getElem?_eq_some_iff
abbrev Mj:=@List.all_eq_true
abbrev Mk:=@Array.getElem?_append
abbrev Ml:=@List.length_filter_le
abbrev Mn:=@Nat.min_eq_left
abbrev Mo:=@List.getElem?_toArray
abbrev Mq:=@List.getD_eq_getElem?_getD
abbrev Mr:=@Array.getElem?_toList
abbrev Ms:=@List.map_map
abbrev Mt:=@List.mem_of_getElem?
abbrev Mu:=@Nat.add_mul
abbrev Mv:=@List.ext_getElem
abbrev Mw:=@List.mem_range'_1
abbrev Mx:=@Array.getElem?_modify
abbrev My:=@Array.getElem?_eq_getElem
abbrev Mz:=@List.filterMap_cons
abbrev MA:=@List.range'_1_concat
abbrev MB:=@List.getElem_append_left
abbrev MC:=@List.idxOf_append
abbrev MD:=@Int.toNat_natCast
abbrev ME:=@List.nodup_append
abbrev MF:=@List.pairwise_map
abbrev MG:=@List.foldl_append
abbrev MH:=@List.getElem?_drop
abbrev MI:=@List.getElem?_append_right
abbrev MJ:=@Nat.le_of_ble_eq_true
abbrev MK:=@List.pairwise_append
abbrev ML:=@List.idxOf_lt_length_of_mem
abbrev MM:=@List.take_append_drop
abbrev MN:=@List.take_succ_cons
abbrev MO:=@Nat.add_sub_cancel_left
abbrev MP:=@List.nodup_nil
abbrev MQ:=@Bool.or_eq_false_iff
abbrev MR:=@List.pairwise_iff_getElem
abbrev MS:=@List.mem_or_eq_of_mem_set
abbrev MT:=@List.filter_eq_nil_iff
abbrev MU:=@List.getElem?_eq_none
abbrev MW:=@Array.size_append
abbrev MX:=@Bool.not_eq_true'
abbrev MY:=@Option.bind_eq_some_iff
abbrev MZ:=@List.mem_filterMap
abbrev M0:=@List.map_congr_left
abbrev M1:=@List.filter_sublist
abbrev M2:=@List.getElem?_map
abbrev M4:=@List.take_append_of_le_length
abbrev M5:=@List.mem_range
abbrev M6:=@List.nodup_cons
abbrev M7:=@List.headD_cons
abbrev M8:=@List.take_length
abbrev M9:=@List.getElem?_set_ne
abbrev Na:=@List.ext_getElem?
abbrev Nb:=@List.take_take
abbrev Nc:=@List.tail_cons
abbrev Nd:=@List.getElem_append_right
abbrev Nf:=@List.getElem_set
abbrev Ng:=@List.range'_succ
abbrev Nh:=@Nat.mod_eq_of_lt
abbrev Ni:=@List.map_singleton
abbrev Nj:=@Nat.add_comm
abbrev Nk:=@List.forall_mem_cons
abbrev Nl:=@List.getElem_take
abbrev Nm:=@List.pairwise_lt_range'
abbrev Nn:=@Nat.not_lt_zero
abbrev Np:=@List.length_nil
abbrev Nq:=@List.filter_nil
abbrev Nr:=@List.filter_eq_self
abbrev Ns:=@Nat.add_zero
abbrev Nt:=@List.map_nil
abbrev Nu:=@Nat.lt_irrefl
abbrev Nv:=@List.any_eq_true
abbrev Nw:=@List.set_cons_succ
abbrev Nx:=@Array.getElem?_mapIdx
abbrev Ny:=@List.singleton_append
abbrev Nz:=@List.mem_append_right
abbrev NA:=@List.set_append_right
abbrev NB:=@Option.isNone_iff_eq_none
abbrev NC:=@Option.map_some
abbrev ND:=@List.range_succ
abbrev NE:=@List.map_set
abbrev NF:=@List.any_eq_false
abbrev NG:=@List.map_take
abbrev NH:=@List.eq_of_mem_replicate
abbrev NI:=@List.mergeSort_perm
abbrev NJ:=@List.pairwise_singleton
abbrev NK:=@List.zipIdx_cons
abbrev NL:=@List.foldl_nil
abbrev NM:=@Int.le_refl
abbrev NN:=@Option.isSome_none
abbrev NO:=@Bool.false_eq_true
abbrev NP:=@Nat.sub_zero
abbrev NQ:=@List.set_cons_zero
abbrev NS:=@Nat.mod_lt
abbrev NT:=@Nat.one_mul
theorem oA.{u,v}{α:Sort u}{β:Sort v}{a:α}{b:β}:a=a/\b=b/\True:=⟨rfl,rfl,trivial⟩
theorem oB.{u,v,w}{α:Sort u}{β:Sort v}{γ:Sort w}{a:α}{b:β}{c:γ}:a=a/\b=b/\c=c/\True:=⟨rfl,rfl,rfl,trivial⟩
theorem oC.{u,v,w,x}{α:Sort u}{β:Sort v}{γ:Sort w}{δ:Sort x}{a:α}{b:β}{c:γ}{d:δ}:a=a/\b=b/\c=c/\d=d/\True:=⟨rfl,rfl,rfl,rfl,trivial⟩
end Go
namespace Go.Lg
open Go.RowKit
abbrev Fr:=Nat->O2
def upd (f:Fr)(d:Nat)(v:O2):Fr:=λt=>bif OS t d then v else f t
def ev (f:Fr):O3->O2
 | .tmp t=>f t
 | .const v=>v
 | .global g=>.pointer (some ⟨g,0,none⟩)
 | .func g=>.func (.func g) #[] #[]
def QW (f:Fr):xF->O2->Fr
 | some d,v=>upd f d v
 | none,_=>f
structure Rel (n:Nat)(a:Act)(f:Fr):Prop where
 size:a.tmps.size=n
 defers:a.defers=[]
 get:∀t,a.tmps.getD t undef=f t
theorem YQ (f:Fr)(d:Nat)(v:O2):upd f d v d=v:=by simp[upd]
theorem Kc (f:Fr){d:Nat}(v:O2)(h:t≠d):upd f d v t=f t:=by
 have:OS t d=false:=by
  cases e:OS t d with
  | false=>rfl
  | true=>exact OW (Nat.eq_of_beq_eq_true e) h
 simp[upd,this]
theorem Rel.eval {n:Nat}{a:Act}{f:Fr}(h:Rel n a f):a.eval=ev f:=by
 funext x;cases x with
 | tmp t=>exact h.get t
 | _=>rfl
theorem Rel.put {n:Nat}{a:Act}{f:Fr}(h:Rel n a f){dst:xF}(hd:∀d,dst=some d->d<n)(v:O2):Rel n (a.put dst v) (QW f dst v):=by
 cases dst with
 | none=>exact h
 | some d =>
  have E:d<a.tmps.size:=by rw[h.size];exact hd d U
  refine⟨by simp[Act.put,h.size],h.defers,λt=>?_⟩;by_cases e:t=d
  ·subst e;rw[QW,YQ];simp[Act.put,E]
  rw[QW,Kc _ _ e,<-h.get t];simp[Act.put,Array.getElem?_setIfInBounds_ne (Ne.symm e)]
def Yj (l:xE)(t:Nat):Bool:=l.any λo=>match o.dst with|some d=>OS d t|none=>false
def wrs:Code->Nat->Bool
 | .region _ ops _,t=>Yj ops.toList t
 | .seq a b,t=>wrs a t || wrs b t
 | .cond _ a b,t=>wrs a t || wrs b t
 | .block _ a,t=>wrs a t
 | .loop a,t=>wrs a t
 | .skip,_| .exit _,_| .label _,_| .goto _,_| .ret,_=>false
 | _,_=>true
def Xm (D:xw)(t:Nat):Bool:=match D with
 | []=>false
 | (lo,hi)::D=>bif (Nat.ble lo t && Nat.ble t hi)then true else Xm D t
def inD (D:xw)(d:xF):Bool:=match d with|none=>true|some d=>Xm D d
def Qej (D:xw)(l:xE):Bool:=l.all λo=>inD D o.dst
def wr (D:xw):Code->Bool
 | .region _ ops _=>Qej D ops.toList
 | .seq a b=>wr D a && wr D b
 | .cond _ a b=>wr D a && wr D b
 | .block _ a=>wr D a
 | .loop a=>wr D a
 | .skip| .exit _| .label _| .goto _| .ret=>true
 | _=>false
theorem jx {D:xw}{l:xE}(h:Qej D l=true)(G:Xm D t=false):Yj l t=false:=by
 unfold Qej at h;unfold Yj;rw[NF];intro o H;have E:=Mj.1 h o H;cases hd:o.dst with
 | none=>simp
 | some d =>
  rw[hd]at E;simp only[inD]at E;intro e;have:=Nat.eq_of_beq_eq_true e;subst this;rw[E]at G;cases G
theorem K3 {D:xw}{t:Nat}(E:Xm D t=false):∀c:Code,wr D c=true->wrs c t=false
 | .region _ ops _,h=>jx h E
 | .seq a b,h=>by simp only[wr,oK]at h;simp[wrs,K3 E a h.1,K3 E b h.2]
 | .cond _ a b,h=>by simp only[wr,oK]at h;simp[wrs,K3 E a h.1,K3 E b h.2]
 | .block _ a,h=>K3 E a (by simpa[wr]using h)
 | .loop a,h=>K3 E a (by simpa[wr]using h)
 | .skip,_=>rfl
 | .exit _,_=>rfl
 | .label _,_=>rfl
 | .goto _,_=>rfl
 | .ret,_=>rfl
 | .rangeFunc ..,h=>by simp[wr]at h
 | .scope _,h=>by simp[wr]at h
 | .refuse _,h=>by simp[wr]at h
def mix (D:xw)(f g:Fr):Fr:=λt=>bif Xm D t then g t else f t
theorem Ji {D:xw}{f g:Fr}(h:∀t,Xm D t=false->g t=f t):mix D f g=g:=by
 funext t;unfold mix;cases e:Xm D t with
 | false=>exact(h t e).symm
 | true=>rfl
def qX (S:List (Nat×O2))(f:Fr):Fr:=match S with
 | []=>f
 | (t,v)::S=>upd (qX S f) t v
def XB (f:Fr):List (Nat×O2)->Prop
 | []=>True
 | (t,v)::S=>f t=v/\XB f S
theorem Xc {f:Fr}:∀{S:List (Nat×O2)},XB f S->qX S f=f
 | [],_=>rfl
 | (t,v)::S,h=>by
  funext s;simp only[qX,Xc h.2];by_cases e:s=t
  ·subst e;rw[YQ];exact h.1.symm
  exact Kc _ _ e
def W (P:O4)(n:Nat)(c:Code)(Q:Exit->Fr->O1->Prop)(f:Fr)(w:O1):Prop :=
 ∀a,Rel n a f->c.wp P (λe a' w'=>∃f',Rel n a' f'/\(∀t,wrs c t=false->f' t=f t)/\Q e f' w') a w
def thn (K:Fr->O1->Prop)(Q:Exit->Fr->O1->Prop):Exit->Fr->O1->Prop
 | .normal,f,w=>K f w
 | e,f,w=>Q e f w
def blk (id:Nat)(Q:Exit->Fr->O1->Prop):Exit->Fr->O1->Prop
 | .exit i,f,w=>bif OS i id then Q .normal f w else Q (.exit i) f w
 | e,f,w=>Q e f w
section
variable {Q:Exit->Fr->O1->Prop}{f:Fr}
theorem W.mono {c:Code}{Q':Exit->Fr->O1->Prop}(h:W P n c Q f w)(E:∀e f w,Q e f w->Q' e f w):W P n c Q' f w :=
 λa G=>wp_mono (h a G) λ_ _ _ ⟨H,I,J,O⟩=>⟨H,I,J,E _ _ _ O⟩
theorem W.keeps {c:Code}(h:W P n c Q f w):W P n c (λe E w'=>(∀t,wrs c t=false->E t=f t)/\Q e E w') f w :=
 λa H=>wp_mono (h a H) λ_ _ _ ⟨E,I,G,J⟩=>⟨E,I,G,G,J⟩
theorem Qh (h:Q .normal f w):W P n .skip Q f w:=λ_ E=>wp_skip ⟨f,E,λ_ _=>U,h⟩
theorem Qz (h:Q (.exit i) f w):W P n (.exit i) Q f w:=λ_ E=>wp_exit ⟨f,E,λ_ _=>U,h⟩
theorem Qk (h:Q .ret f w):W P n .ret Q f w:=λ_ E=>wp_ret ⟨f,E,λ_ _=>U,h⟩
theorem Qd {x y:Code}(h:W P n x (thn (λf w=>W P n y Q f w) Q) f w):W P n (.seq x y) Q f w:=by
 intro a J;refine wp_seq (wp_mono (h a J) ?_);rintro e a' w' ⟨E,G,O,H⟩;have k1:∀t,wrs (.seq x y) t=false->E t=f t:=λt I=>O t (by simp only[wrs,Oh]at I;exact I.1);cases e with
 | normal =>
  refine wp_mono (H a' G) λ_ _ _ ⟨S,g1,T,V⟩=>⟨S,g1,λt I=>(T t ?_).D (k1 t I),V⟩;simp only[wrs,Oh]at I;exact I.2
 | exit id=>exact⟨E,G,k1,H⟩
 | goto l=>exact⟨E,G,k1,H⟩
 | ret=>exact⟨E,G,k1,H⟩
 | panic ch=>exact⟨E,G,k1,H⟩
 | outgrown=>exact⟨E,G,k1,H⟩
theorem Q3 {x y:Code}(D:xw)(S:α->List (Nat×O2))(I:α->O1->Prop)(hD:wr D x=true)
  (J:W P n x (thn (λG w'=>∃z,XB G (S z)/\I z w') Q) f w)
  (O:∀z g w',I z w'->W P n y Q (qX (S z) (mix D f g)) w'):W P n (.seq x y) Q f w:=by
 refine Qd (J.keeps.mono ?_);rintro e G w' ⟨T,E⟩;cases e with
 | normal =>
  obtain⟨z,V,hi⟩:=E;have H:=O z G w' hi;rw[Ji (λt Y=>T t (K3 Y x hD)),Xc V]at H;exact H
 | exit id=>exact E
 | goto l=>exact E
 | ret=>exact E
 | panic ch=>exact E
 | outgrown=>exact E
theorem QX {c:O3}{x y:Code}{t:Bool}(H:ev f c=.bool t)(E:t=true->W P n x Q f w)(I:t=false->W P n y Q f w):
  W P n (.cond c x y) Q f w:=by
 intro a G;have J:a.eval c=.bool t:=by rw[G.eval];exact H
 refine wp_cond_split J (λe=>wp_mono (E e a G) ?_) (λe=>wp_mono (I e a G) ?_) <;>
  (rintro e a' w' ⟨O,S,T,V⟩
   refine⟨O,S,λt E=>T t ?_,V⟩;simp only[wrs,Oh]at E
   first|exact E.1|exact E.2)
theorem QZ {c:O3}{x y:Code}{p:Prop}[Decidable p](E:ev f c=.bool (decide p))(G:p->W P n x Q f w)(H:¬p->W P n y Q f w):
  W P n (.cond c x y) Q f w :=
 QX E (λe=>G (OY e)) (λe=>H (O0 e))
theorem QH {c:O3}{x y:Code}{p:Prop}[Decidable p](E:ev f c=.bool (decide p))(G:¬p->W P n y Q f w)(H:p->W P n x Q f w):
  W P n (.cond c x y) Q f w:=QZ E H G
theorem y7 {c:O3}{x y:Code}(E:ev f c=.bool true)(h:W P n x Q f w):W P n (.cond c x y) Q f w:=QX E (λ_=>h) (λe=>by cases e)
theorem Z0 {c:O3}{x y:Code}(E:ev f c=.bool false)(h:W P n y Q f w):W P n (.cond c x y) Q f w:=QX E (λe=>by cases e) (λ_=>h)
theorem Qg {c:Code}(h:W P n c (blk id Q) f w):W P n (.block id c) Q f w:=by
 intro a I;refine wp_block (wp_mono (h a I) ?_);rintro e a' w' ⟨G,H,J,E⟩;have k1:∀t,wrs (.block id c) t=false->G t=f t:=λt O=>J t (by simpa[wrs]using O);cases e with
 | exit i =>
  simp only[Exit.inBlock];simp only[blk]at E;by_cases hi:i=id
  ·subst hi;simp only[Nat.beq_refl,cond_true]at E;simp only[if_true];exact⟨G,H,k1,E⟩
  have S:OS i id=false:=by
   cases e:OS i id with
   | false=>rfl
   | true=>exact OW (Nat.eq_of_beq_eq_true e) hi
  rw[S]at E;rw[OT hi];exact⟨G,H,k1,E⟩
 | normal=>exact⟨G,H,k1,E⟩
 | goto l=>exact⟨G,H,k1,E⟩
 | ret=>exact⟨G,H,k1,E⟩
 | panic ch=>exact⟨G,H,k1,E⟩
 | outgrown=>exact⟨G,H,k1,E⟩
theorem QC {c:Code}(D:xw)(S:α->List (Nat×O2))(I:α->O1->Prop)(m:α->Nat)(hD:wr D c=true)(z:α)
  (h0:XB f (S z)) (hI:I z w)
  (round:∀x g w',I x w'->W P n c (thn (λG T=>∃O,m O<m x/\XB G (S O)/\I O T) Q) (qX (S x) (mix D f g)) w'):W P n (.loop c) Q f w:=by
 intro a ha;refine wp_loop_ghost (λ(x:α) a' w'=>∃G,Rel n a' G/\(∀t,wrs c t=false->G t=f t)/\XB G (S x)/\I x w') m z ⟨f,ha,λ_ _=>U,h0,hI⟩ ?_;rintro x a' w' ⟨G,h1,V,h3,h4⟩;have Y:=round x G w' h4;rw[Ji (λt H=>V t (K3 H c hD)),Xc h3]at Y;refine wp_mono (Y a' h1) ?_;rintro e hb T ⟨E,g1,g2,J⟩;have k1:∀t,wrs c t=false->E t=f t:=λt H=>(g2 t H).D (V t H);have k2:∀t,wrs (.loop c) t=false->E t=f t:=λt H=>k1 t (by simpa[wrs]using H);cases e with
 | normal=>obtain⟨O,hm,hs,hi⟩:=J;exact⟨O,hm,E,g1,k1,hs,hi⟩
 | exit id=>exact⟨E,g1,k2,J⟩
 | goto l=>exact⟨E,g1,k2,J⟩
 | ret=>exact⟨E,g1,k2,J⟩
 | panic ch=>exact⟨E,g1,k2,J⟩
 | outgrown=>exact⟨E,g1,k2,J⟩
 where
 wp_loop_ghost {α:Type} {P:O4} {c:Code} {Q:Exit->Act->O1->Prop} {a:Act} {w:O1} (J:α->Act->O1->Prop) (m:α->Nat) (z:α) (h₀:J z a w)
   (round:∀x a w,J x a w->c.wp P (Exit.then (λa' w'=>∃x',m x'<m x/\J x' a' w') Q) a w):(Code.loop c).wp P Q a w:=by
  intro b k cs
  have key:∀i x a w,m x=i->J x a w ->
    ∃e a' w',Q e a' w'/\Arrives P (lone (b.at a (.code c::.inLoop c::k)) cs w) b k cs e a' w':=by
   intro i
   induction i using Nat.strongRecOn with
   | _ i ih =>
    intro x a w hx hJ
    obtain⟨e,a₁,w₁,hq,harr⟩:=round x a w hJ b (.inLoop c::k) cs
    cases e with
    | normal =>
     obtain⟨x',hlt,hJ'⟩:=hq
     obtain⟨e₂,a₂,w₂,hq₂,harr₂⟩:=ih (m x') (hx ▸ hlt) x' a₁ w₁ rfl hJ'
     exact⟨e₂,a₂,w₂,hq₂,.of_steps (Steps.trans harr (.one step_inLoop)) harr₂⟩
    | exit id=>exact⟨_,a₁,w₁,hq,.pass (x:=.inLoop c) rfl (λ_ _=>.inl oe) harr⟩
    | goto l=>exact⟨_,a₁,w₁,hq,.pass (x:=.inLoop c) rfl (λ_ _=>.inl oe) harr⟩
    | ret=>exact⟨_,a₁,w₁,hq,.pass (x:=.inLoop c) rfl (λ_ _=>.inl oe) harr⟩
    | panic ch=>exact⟨_,a₁,w₁,hq,.pass (x:=.inLoop c) rfl (λ_ _=>.inl oe) harr⟩
    | outgrown=>exact⟨_,a₁,w₁,hq,.pass (x:=.inLoop c) rfl (λ_ _=>.inl oe) harr⟩
  obtain⟨e,a',w',hq,harr⟩:=key _ z a w rfl h₀
  exact⟨e,a',w',hq,.of_steps (.one step_loop) harr⟩
end
def upF (P:O4)(dst:xF)(f:Fr)(K:Fr->O1->Prop):Result Next->Prop
 | .ok (.value v) w'=>K (QW f dst v) w'
 | .ok .skip w'=>K (QW f dst undef) w'
 | .ok (.enter g args) w'=>Calls P g args w' λe E=>match e with| .returned v=>K (QW f dst v) E|_=>False
 | _=>False
def XO (P:O4)(o:Oper)(f:Fr)(w:O1)(K:Fr->O1->Prop):Prop:=upF P o.dst f K ((execOp (ev f) o).run P w)
def Yd (ops:xE)(f:Fr)(o:Oper):Bool:=match o.guard with
 | none=>true
 | some (j,want)=>match (ops[j]?).bind (·.dst)with
  | some d=>(match f d with| .bool b=>bif want then b else !b|_=>false)
  | none=>false
def XL (P:O4)(ops:xE)(K:Fr->O1->Prop):xE->Fr->O1->Prop
 | [],f,w=>K f w
 | o::l,f,w=>bif Yd ops f o then XO P o f w (XL P ops K l)else XL P ops K l (QW f o.dst undef) w
theorem U2 {l:xE}{a:Act}{f:Fr}(h:Rel n a f)(H:∀o∈l,∀d,o.dst=some d->d<n)(o:Oper):Region.wanted o (yielded l.toArray a.tmps)=Yd l f o:=by
 unfold Region.wanted Yd;cases o.guard with
 | none=>rfl
 | some p =>
  obtain⟨j,want⟩:=p;simp only[yielded,o0];cases I:(l[j]?)with
  | none=>simp
  | some o' =>
   cases hd:o'.dst with
   | none=>simp[hd]
   | some d =>
    have E:d<a.tmps.size:=by rw[h.size];exact H o' (Mt I) d hd
    have G:=h.get d;simp only[Option.bind_some,hd,Oj E];simp[E]at G;rw[G];cases f d <;> simp
    cases want <;> simp
theorem QnM {o:Oper}{a:Act}{f:Fr}{K:Fr->O1->Prop}{K':Act->O1->Prop}{Q:Exit->Act->O1->Prop}(h:Rel n a f)
  (hK:∀v w',K (QW f o.dst v) w'->K' (a.put o.dst v) w') (hx:XO P o f w K):o.wp P a w K' Q:=by
 unfold XO at hx;unfold Oper.wp;rw[h.eval];generalize (execOp (ev f) o).run P w=r at hx;cases r with
 | ok nx w' =>
  cases nx <;> simp only[upF]at hx <;> simp only[Oper.upon]
  case value v=>exact hK v w' hx
  case skip=>exact hK _ w' hx
  case enter g args =>
   refine Calls.mono hx λe G E=>?_;cases e with
   | returned v=>exact hK v G E
   | panicked c=>exact E.elim
   | outgrown=>exact E.elim
 | halt x w'=>exact hx.elim
theorem XO.mono {P:O4}{o:Oper}{f:Fr}{w:O1}{K K':Fr->O1->Prop}(hK:∀v w',K (QW f o.dst v) w'->K' (QW f o.dst v) w')(hx:XO P o f w K):XO P o f w K':=by
 unfold XO at *;generalize (execOp (ev f) o).run P w=r at *;cases r with
 | ok nx w' =>
  cases nx <;> simp only[upF]at hx ⊢
  case value v=>exact hK v w' hx
  case skip=>exact hK _ w' hx
  case enter g args =>
   refine Calls.mono hx λe G E=>?_;cases e with
   | returned v=>exact hK v G E
   | panicked c=>exact E.elim
   | outgrown=>exact E.elim
 | halt x w'=>exact hx.elim
def X0 (n:Nat)(l:xE):Bool:=l.all λo=>match o.dst with|some d=>Nat.blt d n|none=>true
theorem Xt {l:xE}(h:X0 n l=true):∀o∈l,∀d,o.dst=some d->d<n:=by
 intro o E d hd;have:=Mj.1 h o E;simp only[hd,Nat.blt_eq]at this;exact this
theorem JF {l:xE}{o:Oper}(E:o∈l)(h:Yj l t=false):o.dst≠some t:=by
 intro e;have:=NF.1 h o E;simp[e]at this
theorem Xd {f:Fr}{dst:xF}(h:dst≠some t)(v:O2):QW f dst v t=f t:=by
 cases dst with
 | none=>rfl
 | some d=>exact Kc _ _ (λe=>h (by rw[e]))
section
variable {Q:Exit->Fr->O1->Prop}{f:Fr}
theorem QnN {all:xE}(G:∀o∈all,∀d,o.dst=some d->d<n)(f0:Fr):
  ∀(l:xE) (k:Nat) (a:Act) (f:Fr) (w:O1),(∀j,l[j]?=all[k+j]?)->Rel n a f->(∀t,Yj all t=false->f t=f0 t) ->
   XL P all (λf w=>Q .normal f w) l f w ->
   wpOps P all.toArray (λe a' w'=>∃f',Rel n a' f'/\(∀t,Yj all t=false->f' t=f0 t)/\Q e f' w') (oR k l.length) a w
 | [],_,a,f,w,_,E,H,h=>⟨f,E,H,h⟩
 | o::l,k,a,f,w,hl,E,H,h=>by
  have J:all[k]?=some o:=by simpa using(hl 0).symm
  have I:o∈all:=Mt J;have ih:=λa f w=>QnN G f0 l (k+1) a f w (λj=>by have:=hl (j+1);simpa[ON,Nat.add_comm 1 j]using this);have next:∀v,(∀t,Yj all t=false->QW f o.dst v t=f0 t):=λv t O=>(Xd (JF I O) v).D (H t O);simp only[oW,OB,wpOps,o0,J];rw[U2 E G o];simp only[XL]at h;cases S:Yd all f o with
  | false =>
   rw[S]at h;exact ih _ _ _ (E.put (G o I) _) (next _) h
  | true =>
   rw[S]at h;exact .inl (QnM E (λv w' hx=>ih _ _ _ (E.put (G o I) v) (next v) hx) h)
theorem QcY {l:xE}(E:X0 n l=true)(h:XL P l (λf w=>Q .normal f w) l f w):W P n (.region id l.toArray false) Q f w:=by
 intro a G;refine wp_region ?_;have:=QnN (Xt E) f l 0 a f w oe G (λ_ _=>rfl) h;simpa[List.range_eq_range',wrs]using this
end
def U8 (o:Oper):Bool:=match o.op with
 | .move _| .assign _| .pick .. | .alloc _| .box .. | .build .. | .buildSlice .. | .store .. | .nilCheck _| .binOp .. | .unOp .. | .makeFunc .. | .makeMap .. | .makeSlice .. | .fieldAddr .. | .field .. | .indexAddr .. | .index .. | .extract .. | .insert .. | .mapUpdate ..=>false
 | .slice ..=>false
 | .call ⟨.builtin .append,_,_⟩=>false
 | .call ⟨.builtin .min,_,_⟩=>false
 | .call ⟨.builtin .max,_,_⟩=>false
 | .call ⟨.builtin .len,_,_⟩=>false
 | .call ⟨.value _,_,_⟩=>false
 | _=>true
def VT (all:xE)(j:Nat):Bool:=match all[j]? with
 | none=>false
 | some o=>(oT all.length).all λi=>match all[i]? with
  | none=>true
  | some oi=>!U8 oi || i == j || o.after.any λe=>Region.binds .any e && e.on == i
def XA (P:O4)(all:xE)(C:xA)(K:Fr->O1->Prop):Nat->Array Bool->Fr->O1->Prop
 | 0,ls,f,w=>Region.ready .any all.toArray ls=[]/\K f w
 | k+1,ls,f,w=>(Region.ready .any all.toArray ls=[]->K f w) /\
  ∀i∈Region.ready .any all.toArray ls,∀o,all[i]?=some o ->
   bif Yd all f o then XO P o f w (λE w'=>(VT all i=true\/w'=w\/C w')/\XA P all C K k (ls.setIfInBounds i true) E w')else XA P all C K k (ls.setIfInBounds i true) (QW f o.dst undef) w
section
variable {f:Fr}{all:xE}{C:xA}{K:Fr->O1->Prop}
theorem QfR {Q:Exit->Act->O1->Prop}(G:∀o∈all,∀d,o.dst=some d->d<n)(f0:Fr)
  (H:∀a f w,Rel n a f->(∀t,Yj all t=false->f t=f0 t)->K f w->Q .normal a w):
  ∀(k:Nat) (ls:Array Bool) (a:Act) (f:Fr) (w:O1),Rel n a f->(∀t,Yj all t=false->f t=f0 t)->XA P all C K k ls f w->wpAny P .any all.toArray Q k ls a w
 | 0,_,a,f,w,E,I,h=>⟨h.1,H a f w E I h.2⟩
 | k+1,ls,a,f,w,E,I,h=>by
  refine⟨λY=>H a f w E I (h.1 Y),λi hi=>?_⟩;unfold wpOp;simp only[o0];cases O:all[i]? with
  | none =>
   exfalso;obtain⟨_,o,ha,_⟩:=mem_ready.1 hi;simp[O]at ha
  | some o =>
   have S:o∈all:=Mt O;have J:=h.2 i hi o O;have next:∀v,(∀t,Yj all t=false->QW f o.dst v t=f0 t):=λv t T=>(Xd (JF S T) v).D (I t T);simp only[];rw[U2 E G o];cases V:Yd all f o with
   | false =>
    rw[V]at J;exact QfR G f0 H k _ _ _ _ (E.put (G o S) _) (next _) J
   | true =>
    rw[V]at J;exact .inl (QnM E (λv w' hx=>QfR G f0 H k _ _ _ _ (E.put (G o S) v) (next v) hx.2) J)
theorem Km (f:Fr){x y:xF}(v u:O2)(h:∀d,x=some d->y≠some d):QW (QW f x v) y u=QW (QW f y u) x v:=by
 cases x with
 | none=>rfl
 | some d =>
  cases y with
  | none=>rfl
  | some e =>
   have H:d≠e:=λI=>h d U (I ▸ U);funext t;simp only[QW];by_cases E:t=d
   ·subst E;rw[Kc _ _ H,YQ,YQ]
   by_cases G:t=e
   ·subst G;rw[YQ,Kc _ _ E,YQ]
   rw[Kc _ _ G,Kc _ _ E,Kc _ _ E,Kc _ _ G]
theorem Qmx {f:Fr}{dst:xF}{v:O2}{x:O3}(h:∀d,dst=some d->x≠.tmp d):ev (QW f dst v) x=ev f x:=by
 cases dst with
 | none=>rfl
 | some d =>
  cases x with
  | tmp t=>exact Kc _ _ (λe=>h d U (by rw[e]))
  | _=>rfl
theorem Xy {o:Oper}(E:∀cs b,o.op≠.select cs b)(f:Fr)(dst:xF)(v:O2)(h:∀d,dst=some d->d∉o.looksAt all.toArray):
  execOp (ev (QW f dst v)) o=execOp (ev f) o :=
 execOp_congr o E λx hx=>Qmx λd hd G=>h d hd (by
  subst G;exact Md _ (MZ.2 ⟨.tmp d,oz hx,rfl⟩))
theorem Je (o:Oper)(f:Fr)(dst:xF)(v:O2)(h:∀d,dst=some d->d∉o.looksAt all.toArray):Yd all (QW f dst v) o=Yd all f o:=by
 unfold Yd;cases E:o.guard with
 | none=>rfl
 | some gw =>
  obtain⟨g,want⟩:=gw;simp only[];cases G:(all[g]?).bind (·.dst)with
  | none=>rfl
  | some t =>
   have H:dst≠some t:=λe=>h t e (by simp[Oper.looksAt,E,G]);simp only[];rw[Xd H]
def QfT (P:O4)(all:xE)(D:xA)(o:Oper)(v:O2)(f:Fr):Prop :=
 (Yd all f o=true/\∀w,D w->(execOp (ev f) o).run P w=.ok (.value v) w)\/(Yd all f o=false/\v=undef)
theorem Ql3 {oi oj:Oper}(hi:all[i]?=some oi)(G:all[j]?=some oj)(H:U8 oi=true)(I:j≠i)(hl:VT all j=true)(J:∀e∈oj.after,Region.binds .any e=true->e.on≠i):False:=by
 simp only[VT,G,Om,List.mem_range]at hl;have O:i<all.length:=(Mi.1 hi).1;have E:=hl i O;simp only[hi,H,Bool.not_true,Bool.false_or,Bool.or_eq_true,beq_iff_eq,Array.any_eq_true',oK]at E;rcases E with E|⟨e,S,T,V⟩
 ·exact I E.symm
 exact J e S T V
theorem Xn {oi:Oper}{v:O2}{D:xA}(hi:all[i]?=some oi)(hD:∀w,(U8 oi=true->C w)->D w)(ha:∀(j:Nat) (o:Oper) cs b,all[j]?=some o->o.op≠.select cs b):
  ∀(fuel:Nat) (ls:Array Bool) (f:Fr) (w:O1),(U8 oi=true->C w) ->
   (∀j oj,all[j]?=some oj->j≠i->ls.getD j true=false->(∀e∈oj.after,Region.binds .any e=true->e.on≠i)->oi.apart all.toArray oj=true) ->
   i∈Region.ready .any all.toArray ls->QfT P all D oi v f ->
   XA P all C K fuel (ls.setIfInBounds i true) (QW f oi.dst v) w->XA P all C K (fuel+1) ls f w:=by
 have hc:∀(fuel:Nat) (ls:Array Bool) (f:Fr) (w:O1),(U8 oi=true->C w)->QfT P all D oi v f->XA P all C K fuel (ls.setIfInBounds i true) (QW f oi.dst v) w->∀o,all[i]?=some o ->
   bif Yd all f o then XO P o f w (λf' w'=>(VT all i=true\/w'=w\/C w')/\XA P all C K fuel (ls.setIfInBounds i true) f' w')else XA P all C K fuel (ls.setIfInBounds i true) (QW f o.dst undef) w:=by
  intro fuel ls f w J T H o ho;rw[hi]at ho;cases ho
  rcases T with⟨V,hv⟩|⟨V,rfl⟩
  ·rw[V];simp only[cond_true,XO,hv w (hD w J),upF];exact⟨.inr (.inl Z),H⟩
  rw[V];exact H
 intro fuel;induction fuel with
 | zero =>
  intro ls f w J _ O T H;refine⟨λh=>(by rw[h]at O;cases O),λj hj=>?_⟩;by_cases I:j=i
  ·subst I;exact hc _ _ _ _ J T H
  have:=ready_mono hj I;rw[H.1]at this;cases this
 | succ fuel ih =>
  intro ls f w J hf O T H;refine⟨λh=>(by rw[h]at O;cases O),λj hj=>?_⟩;by_cases I:j=i
  ·subst I;exact hc _ _ _ _ J T H
  intro oj Y;have E:=H.2 j (ready_mono hj I) oj Y;obtain⟨hh,G,hm,ht⟩:=mem_ready.1 hj;have hu:G=oj:=by rw[Mo,Y]at hm;exact(Option.some.inj hm).symm
  subst hu;have hn:∀e∈G.after,Region.binds .any e=true->e.on≠i:=λe S hb hw=>by
   have E:=ht e S hb;have h0:=(mem_ready.1 O).1;rw[hw]at E;rcases OH i ls.size with h'|h'
   ·simp[h']at h0 E;rw[h0]at E;cases E
   simp[Array.getElem?_eq_none h']at E
  obtain⟨a1,a2,a3⟩:=Oper.apart_spec (hf j G Y I hh hn);have hz:∀k ok,all[k]?=some ok->k≠i->(ls.setIfInBounds j true).getD k true=false ->
    (∀e∈ok.after,Region.binds .any e=true->e.on≠i)->oi.apart all.toArray ok=true:=λk ok hk h2 hp h3=>by
   refine hf k ok hk h2 ?_ h3;by_cases hq:j=k
   ·subst hq;exact hh
   rw[getD_set_ne true hq]at hp;exact hp
  have keep:∀u,QfT P all D oi v (QW f G.dst u):=λu=>by
   unfold QfT at *;rw[Je oi f G.dst u a3,Xy (all:=all) (ha i oi · · hi) f G.dst u a3];exact T
  have dOf:∀w',(VT all j=true\/w'=w\/C w')->(U8 oi=true->C w'):=λw' hl hs=>by
   rcases hl with hl|rfl|hl
   ·exact(Ql3 hi Y hs I hl hn).elim
   ·exact J hs
   exact hl
  have go:∀u w',(U8 oi=true->C w')->XA P all C K fuel ((ls.setIfInBounds i true).setIfInBounds j true) (QW (QW f oi.dst v) G.dst u) w' ->
    XA P all C K (fuel+1) (ls.setIfInBounds j true) (QW f G.dst u) w':=λu w' h4 hx=>by
   refine ih _ _ _ h4 hz (ready_mono O (Ne.symm I)) (keep u) ?_;rw[Array.setIfInBounds_comm _ _ I,<-Km f v u a2];exact hx
  rw[Je G f oi.dst v a1]at E;cases V:Yd all f G with
  | false=>rw[V]at E;exact go _ _ J E
  | true =>
   rw[V]at E;simp only[cond_true]at E ⊢;unfold XO at *;rw[Xy (all:=all) (ha j G · · Y) f oi.dst v a1]at E;generalize (execOp (ev f) G).run P w=r at *;cases r with
   | ok nx w' =>
    cases nx <;> simp only[upF]at E ⊢
    case value u=>exact⟨E.1,go _ _ (dOf _ E.1) E.2⟩
    case skip=>exact⟨E.1,go _ _ (dOf _ E.1) E.2⟩
    case enter g args =>
     refine Calls.mono E λe h5 S=>?_;cases e with
     | returned u=>exact⟨S.1,go _ _ (dOf _ S.1) S.2⟩
     | panicked c=>exact S.elim
     | outgrown=>exact S.elim
   | halt x w'=>exact E.elim
def Xh (all:Array Oper):xu->Array Bool->Bool
 | [],ls=>(Region.ready .any all ls).isEmpty
 | (i,true)::pl,ls=>(Region.ready .any all ls).contains i && Region.free .any all ls i && Xh all pl (ls.setIfInBounds i true)
 | (i,false)::pl,ls=>Region.ready .any all ls == [i] && Xh all pl (ls.setIfInBounds i true)
def yg (all:xE)(pl:xu):Bool:=Region.noSelect all.toArray && pl.length == all.length && Xh all.toArray pl (oX all.length false)
def QU:xE->Nat->Oper
 | [],_=>default
 | o::_,0=>o
 | _::l,i+1=>QU l i
theorem Zk {l:xE}{o:Oper}(h:l[i]?=some o):QU l i=o:=by
 induction l generalizing i with
 | nil=>simp at h
 | cons a l ih=>cases i with
  | zero=>simp at h;subst h;rfl
  | succ i=>exact ih (oz h)
def XP (P:O4)(all:xE)(C:xA)(K:Fr->O1->Prop):xu->Fr->O1->Prop
 | [],f,w=>K f w
 | (i,q)::pl,f,w=>bif Yd all f (QU all i)then
    (bif q then ∃v,(∀w',(U8 (QU all i)=true->C w')->(execOp (ev f) (QU all i)).run P w'=.ok (.value v) w')/\XP P all C K pl (QW f (QU all i).dst v) w
     else XO P (QU all i) f w λE w'=>(VT all i=true\/w'=w\/C w')/\XP P all C K pl E w')
   else XP P all C K pl (QW f (QU all i).dst undef) w
def QcW (all:xE)(ls:Array Bool):Prop:=∀i o,all[i]?=some o->U8 o=true->ls.getD i false=true
theorem QcW.set {ls:Array Bool}(h:QcW all ls)(i:Nat):QcW all (ls.setIfInBounds i true):=λj o E G=>getD_set_true (h j o E G)
theorem ZL (S:Region.noSelect all.toArray=true):∀(pl:xu) (ls:Array Bool) (f:Fr) (w:O1),ls.size=all.length->(C w\/QcW all ls)->Xh all.toArray pl ls=true->XP P all C K pl f w ->
  XA P all C K pl.length ls f w
 | [],ls,f,w,_,_,H,h=>⟨by simpa[Xh]using H,h⟩
 | (i,true)::pl,ls,f,w,T,V,H,h=>by
  simp only[Xh,oK]at H;obtain⟨⟨J,hf⟩,Y⟩:=H;simp only[XP]at h;have O:i∈Region.ready .any all.toArray ls:=by simpa using J
  cases E:all[i]? with
  | none =>
   exfalso;obtain⟨_,o,h2,_⟩:=mem_ready.1 O;simp[E]at h2
  | some o =>
   rw[Zk E]at h;have hn:∀(j:Nat) (o:Oper) cs b,all[j]?=some o->o.op≠.select cs b:=λj o cs b hj=>Region.noSelect_spec S j o cs b (oz hj);have hq:=λj oj hj=>Region.free_spec (ops:=all.toArray) (md:=.any) (i:=i) (oi:=o) (listed:=ls) (oz E) hf j oj (oz hj);have ht:=(mem_ready.1 O).1;have hu:U8 o=true->C w:=λhh=>V.resolve_right (λhi=>by
    have G:=hi i o E hh;have hm:i<ls.size:=by rw[T];exact(Mi.1 E).1
    simp[hm]at ht G;rw[ht]at G;cases G)
   have hw:C w\/QcW all (ls.setIfInBounds i true):=V.imp id (λh=>h.set i);have ha:(ls.setIfInBounds i true).size=all.length:=by simpa using T
   cases I:Yd all f o with
   | false =>
    rw[I]at h;exact Xn (v:=undef) (D:=λw=>U8 o=true->C w) E (λ_ h=>h) hn pl.length ls f w hu hq O (.inr ⟨I,U⟩) (ZL S pl _ _ _ ha hw Y h)
   | true =>
    rw[I]at h;simp only[cond_true]at h;obtain⟨v,hv,hx⟩:=h;exact Xn (v:=v) (D:=λw=>U8 o=true->C w) E (λ_ h=>h) hn pl.length ls f w hu hq O (.inl ⟨I,hv⟩) (ZL S pl _ _ _ ha hw Y hx)
 | (i,false)::pl,ls,f,w,T,V,H,h=>by
  simp only[Xh,oK,beq_iff_eq]at H;obtain⟨J,Y⟩:=H;refine⟨λh0=>(by rw[h0]at J;cases J),?_⟩;have O:i∈Region.ready .any all.toArray ls:=by rw[J];simp
  rw[J];intro j hj o E;have:j=i:=by simpa using hj
  subst this;have ha:(ls.setIfInBounds j true).size=all.length:=by simpa using T
  simp only[XP,Zk E]at h;cases I:Yd all f o with
  | false=>rw[I]at h;exact ZL S pl _ _ _ ha (V.imp id (λh=>h.set j)) Y h
  | true =>
   rw[I]at h;simp only[cond_true,cond_false]at h ⊢;refine h.mono λv w' hx=>⟨hx.1,ZL S pl _ _ _ ha ?_ Y hx.2⟩;rcases hx.1 with hl|rfl|hc
   ·right;intro k ok hk hh;by_cases hy:k=j
    ·subst hy;have hm:k<ls.size:=by rw[T];exact(Mi.1 hk).1
     simp[hm]
    simp only[VT,E,Om,List.mem_range]at hl;have G:=hl k (Mi.1 hk).1;simp only[hk,hh,Bool.not_true,Bool.false_or,Bool.or_eq_true,beq_iff_eq,Array.any_eq_true',oK]at G;rcases G with G|⟨e,he,hb,h3⟩
    ·exact OW G hy
    obtain⟨_,o',hz,hi⟩:=mem_ready.1 O;have:o'=o:=by rw[Mo,E]at hz;exact(Option.some.inj hz).symm
    subst this;have:=hi e he hb;rw[h3]at this;exact getD_set_true this
   ·exact V.imp id (λh=>h.set j)
   exact .inl hc
theorem qH {Q:Exit->Fr->O1->Prop}(C:xA)(pl:xu)(I:P.follows .mixedOrders=true)(J:X0 n all=true)(G:yg all pl=true)
  (O:C { w with drawn:=w.drawn+1 }) (h:XP P all C (λf w=>Q .normal f w) pl f { w with drawn:=w.drawn+1 }):W P n (.region id all.toArray true) Q f w:=by
 intro a S;simp only[yg,oK,beq_iff_eq]at G;obtain⟨⟨T,hl⟩,G⟩:=G;refine wp_region_any I ?_;have H:=ZL T pl _ _ _ oe (.inl O) G h;rw[hl]at H;have V:=QfR (n:=n) (Q:=λe a' w'=>∃E,Rel n a' E/\(∀t,Yj all t=false->E t=f t)/\Q e E w') (Xt J) f
  (λa E w Y hk hq=>⟨E,Y,hk,hq⟩) _ _ a f _ S (λ_ _=>U) H
 simpa[wrs]using V
theorem JR {Q:Exit->Fr->O1->Prop}(C:xA)(G:P.follows .mixedOrders=true)(H:X0 n all=true)
  (h:XA P all C (λf w=>Q .normal f w) all.length (oX all.length false) f { w with drawn:=w.drawn+1 }):W P n (.region id all.toArray true) Q f w:=by
 intro a I;refine wp_region_any G ?_;have J:=QfR (n:=n) (Q:=λe a' w'=>∃E,Rel n a' E/\(∀t,Yj all t=false->E t=f t)/\Q e E w') (Xt H) f
  (λa E w O S T=>⟨E,O,S,T⟩) _ _ a f _ I (λ_ _=>U) h
 simpa[wrs]using J
end
theorem XS {all:xE}{C:xA}{K:Fr->O1->Prop}{k:Nat}{ls:Array Bool}{f:Fr}(E:Region.ready .any all.toArray ls=[]->K f w)
  (h:∀i∈Region.ready .any all.toArray ls,∀o,all[i]?=some o ->
   bif Yd all f o then XO P o f w (λG w'=>(VT all i=true\/w'=w\/C w')/\XA P all C K k (ls.setIfInBounds i true) G w')else XA P all C K k (ls.setIfInBounds i true) (QW f o.dst undef) w):XA P all C K (k+1) ls f w:=⟨E,h⟩
attribute [irreducible] W XL XP XO XA
class Sl (P:O4)(t:Nat)(e sz bys:outParam Nat)(z:outParam O2):Prop where
 u:P.underlying t=some (.slice e)
 i:(P.info? e).map (λi=>(i.zero,i.size,i.bytes))=some (some z,sz,bys)
 zs:z.cells.size=sz
 pos:0<sz
def Qqz (P:O4)(t j:Nat):xF:=match P.underlying t with
 | some (.struct fs)=>match fs[j]? with
  | some fd=>match P.info? fd.type with
   | some i=>if i.size=0 then none else some fd.offset
   | none=>none
  | none=>none
 | _=>none
class Zh (P:O4)(t j:Nat)(off:outParam Nat):Prop where
 h:Qqz P t j=some off
class Ja (P:O4)(t:Nat):Prop where
 u:∃d,P.underlying t=some d/\(match d with| .struct _| .array ..=>false|_=>true)=true
 i:(P.info? t).map (·.size)=some 1
class Ag (P:O4)(t:Nat)(sz:outParam Nat):Prop where
 u:∃d,P.underlying t=some d/\(match d with| .struct _| .array ..=>true|_=>false)=true
 i:(P.info? t).map (·.size)=some sz
class Ze (P:O4)(t:Nat)(z:outParam O2):Prop where
 i:(P.info? t).map (·.zero)=some (some z)
class Fu (P:O4)(g:Nat)(fn:outParam Func):Prop where
 f:P.funcs[g]?=some fn
 b:fn.body.isNone=false
 nm:(fn.name == "runtime.NumGoroutine")=false
section
variable {K:Fr->O1->Prop}{f:Fr}
theorem xe (h:K f w):XL P ops K [] f w:=by simp only[XL];exact h
theorem xl {o:Oper}{l:xE}(E:Yd ops f o=true)(h:XO P o f w (XL P ops K l)):XL P ops K (o::l) f w:=by
 simp only[XL,E,cond_true];exact h
theorem xs {o:Oper}{l:xE}(E:Yd ops f o=false)(h:XL P ops K l (QW f o.dst undef) w):XL P ops K (o::l) f w:=by
 simp only[XL,E,cond_false];exact h
theorem xv {o:Oper}{v:O2}(E:(execOp (ev f) o).run P w=.ok (.value v) w')(h:K (QW f o.dst v) w'):XO P o f w K:=by
 simp only[XO,E,upF];exact h
theorem xk {o:Oper}(E:(execOp (ev f) o).run P w=.ok .skip w')(h:K (QW f o.dst undef) w'):XO P o f w K:=by
 simp only[XO,E,upF];exact h
theorem x {o:Oper}{l:xE}{v:O2}(E:(execOp (ev f) o).run P w=.ok (.value v) w)(h:XL P ops K l (QW f o.dst v) w)(G:Yd ops f o=true:=by rfl):XL P ops K (o::l) f w :=
 xl G (xv E h)
theorem xb {o:Oper}{l:xE}{q:Prop}[Decidable q](E:(execOp (ev f) o).run P w=.ok (.value (.bool (decide q))) w)(H:q->XL P ops K l (QW f o.dst (.bool true)) w)(I:¬q->XL P ops K l (QW f o.dst (.bool false)) w)
  (G:Yd ops f o=true:=by rfl):XL P ops K (o::l) f w:=by
 by_cases h:q
 ·rw[OX h]at E;exact x E (H h) G
 rw[OZ h]at E;exact x E (I h) G
variable {C:xA}
theorem pe (h:K f w):XP P ops C K [] f w:=by simp only[XP];exact h
theorem pq {pl:xu}{v:O2}(E:∀w',C w'->(execOp (ev f) (QU ops i)).run P w'=.ok (.value v) w')(h:XP P ops C K pl (QW f (QU ops i).dst v) w)
  (hd:U8 (QU ops i)=true:=by rfl) (G:Yd ops f (QU ops i)=true:=by rfl):XP P ops C K ((i,true)::pl) f w:=by
 simp only[XP,G,cond_true];exact⟨v,λw' H=>E w' (H hd),h⟩
theorem p {pl:xu}{v:O2}(E:∀w',(execOp (ev f) (QU ops i)).run P w'=.ok (.value v) w')(h:XP P ops C K pl (QW f (QU ops i).dst v) w)
  (G:Yd ops f (QU ops i)=true:=by rfl):XP P ops C K ((i,true)::pl) f w:=by
 simp only[XP,G,cond_true];exact⟨v,λw' _=>E w',h⟩
theorem ps {q:Bool}{pl:xu}(h:XP P ops C K pl (QW f (QU ops i).dst undef) w)
  (E:Yd ops f (QU ops i)=false:=by rfl):XP P ops C K ((i,q)::pl) f w:=by
 simp only[XP,E,cond_false];exact h
theorem pb {pl:xu}{q:Prop}[Decidable q](E:∀w',(execOp (ev f) (QU ops i)).run P w'=.ok (.value (.bool (decide q))) w')(H:q->XP P ops C K pl (QW f (QU ops i).dst (.bool true)) w)(I:¬q->XP P ops C K pl (QW f (QU ops i).dst (.bool false)) w)
  (G:Yd ops f (QU ops i)=true:=by rfl):XP P ops C K ((i,true)::pl) f w:=by
 by_cases h:q
 ·rw[OX h]at E;exact p E (H h) G
 rw[OZ h]at E;exact p E (I h) G
theorem pk {pl:xu}(h:XO P (QU ops i) f w λE w'=>C w'/\XP P ops C K pl E w')
  (G:Yd ops f (QU ops i)=true:=by rfl):XP P ops C K ((i,false)::pl) f w:=by
 simp only[XP,G,cond_true,cond_false];exact h.mono λ_ _ hx=>⟨.inr (.inr hx.1),hx.2⟩
theorem pkl {pl:xu}(h:XO P (QU ops i) f w λE w'=>XP P ops C K pl E w')
  (hl:VT ops i=true:=by rfl) (G:Yd ops f (QU ops i)=true:=by rfl):XP P ops C K ((i,false)::pl) f w:=by
 simp only[XP,G,cond_true,cond_false];exact h.mono λ_ _ hx=>⟨.inl hl,hx⟩
end
section
variable {f:Fr}{pS:String}
theorem KA {x:O3}:(execOp (ev f) ⟨d,.move x,ty,pS,af,gd⟩).run P w=.ok (.value (ev f x)) w:=by simp[execOp]
theorem Ql {x:O3}:(execOp (ev f) ⟨d,.assign x,ty,pS,af,gd⟩).run P w=.ok (.value (ev f x)) w:=by simp[execOp]
theorem yc {c a b:O3}{t:Bool}(h:ev f c=.bool t):(execOp (ev f) ⟨d,.pick c a b,ty,pS,af,gd⟩).run P w=.ok (.value (bif t then ev f a else ev f b)) w:=by
 cases t <;> simp[execOp,h,asBool]
theorem Zr {x:O3}{vs:LV}{v:O2}(h:ev f x=.tuple vs.toArray)(E:vs[j]?=some v):(execOp (ev f) ⟨d,.extract x j,ty,pS,af,gd⟩).run P w=.ok (.value v) w:=by
 simp[execOp,h,Instr.extract,E]
theorem Qcn {op:BinOp}{t:TypeId}{x:O3}{k:IntKind}{a b:Int}:(eqGuard op t x y (.int k a) (.int k' b)).run P w=.ok () w:=by
 simp only[eqGuard];split <;> simp
theorem Jj {op:BinOp}{x:O3}{k:IntKind}{a b:Int}{v:O2}(hx:ev f x=.int k a)(G:ev f y=.int k' b)
  (h:(binOp op t (.int k a) (.int k' b)).run P w=.ok v w):(execOp (ev f) ⟨d,.binOp op t x y E,ty,pS,af,gd⟩).run P w=.ok (.value v) w:=by
 simp[execOp,hx,G,Qcn,h]
def inK (k:IntKind)(n:Int):Prop:=match k with
 | .i64=>-9223372036854775808<=n/\n<=9223372036854775807
 | .u8=>0<=n/\n<=255
 | .u16=>0<=n/\n<=65535
 | .u32=>0<=n/\n<=4294967295
 | .u64=>0<=n/\n<=18446744073709551615
 | .i32=>-2147483648<=n/\n<=2147483647
 | _=>False
theorem YL {k:IntKind}{n:Int}(h:inK k n):k.wrap n=n:=by
 cases k <;> simp only[inK]at h <;> simp only[IntKind.wrap,IntKind.bits,IntKind.signed] <;> first|exact h.elim|(simp;omega)
theorem XH {x:O3}{k:IntKind}{a b:Int}(hx:ev f x=.int k a)(G:ev f y=.int k b)(h:inK k (a+b)):
  (execOp (ev f) ⟨d,.binOp .add t x y E,ty,pS,af,gd⟩).run P w=.ok (.value (.int k (a+b))) w:=Jj hx G (by simp[binOp,Op.intArith,YL h])
theorem JH {x:O3}{k:IntKind}{a b:Int}(hx:ev f x=.int k a)(G:ev f y=.int k b)(h:inK k (a - b)):
  (execOp (ev f) ⟨d,.binOp .sub t x y E,ty,pS,af,gd⟩).run P w=.ok (.value (.int k (a - b))) w:=Jj hx G (by simp[binOp,Op.intArith,YL h])
theorem Qie {x:O3}{k:IntKind}{a b:Int}(hx:ev f x=.int k a)(G:ev f y=.int k b)(h:inK k (a*b)):
  (execOp (ev f) ⟨d,.binOp .mul t x y E,ty,pS,af,gd⟩).run P w=.ok (.value (.int k (a*b))) w:=Jj hx G (by simp[binOp,Op.intArith,YL h])
theorem YR {x:O3}{k:IntKind}{a b:Int}(hx:ev f x=.int k a)(G:ev f y=.int k b):
  (execOp (ev f) ⟨d,.binOp .lss t x y E,ty,pS,af,gd⟩).run P w=.ok (.value (.bool (decide (a<b)))) w:=Jj hx G (by simp[binOp,Op.intCmp])
theorem KT {x:O3}{k:IntKind}{a b:Int}(hx:ev f x=.int k a)(G:ev f y=.int k b):
  (execOp (ev f) ⟨d,.binOp .leq t x y E,ty,pS,af,gd⟩).run P w=.ok (.value (.bool (decide (a<=b)))) w:=Jj hx G (by simp[binOp,Op.intCmp])
theorem Z6 {x:O3}{k:IntKind}{a b:Int}(hx:ev f x=.int k a)(G:ev f y=.int k b):
  (execOp (ev f) ⟨d,.binOp .gtr t x y E,ty,pS,af,gd⟩).run P w=.ok (.value (.bool (decide (b<a)))) w:=Jj hx G (by simp[binOp,Op.intCmp])
theorem Yw {x:O3}{k:IntKind}{a b:Int}(hx:ev f x=.int k a)(G:ev f y=.int k b):
  (execOp (ev f) ⟨d,.binOp .geq t x y E,ty,pS,af,gd⟩).run P w=.ok (.value (.bool (decide (b<=a)))) w:=Jj hx G (by simp[binOp,Op.intCmp])
theorem Q2 {x:O3}{k:IntKind}{a b:Int}(hx:ev f x=.int k a)(G:ev f y=.int k b):
  (execOp (ev f) ⟨d,.binOp .eql t x y E,ty,pS,af,gd⟩).run P w=.ok (.value (.bool (decide (a=b)))) w :=
 Jj hx G (by simp[binOp,Op.intCmp];by_cases h:a=b <;> simp[h])
theorem XZ {x:O3}{k:IntKind}{a b:Int}(hx:ev f x=.int k a)(G:ev f y=.int k b):
  (execOp (ev f) ⟨d,.binOp .neq t x y E,ty,pS,af,gd⟩).run P w=.ok (.value (.bool (decide (¬a=b)))) w :=
 Jj hx G (by simp[binOp,Op.intCmp];by_cases h:a=b <;> simp[h])
theorem ZB {x:O3}{b:Bool}(hx:ev f x=.bool b):(execOp (ev f) ⟨d,.unOp .not t x,ty,pS,af,gd⟩).run P w=.ok (.value (.bool (!b))) w:=by
 simp[execOp,hx,Op.unary]
theorem Uw {x:O3}{e bys:Nat}[h:Sl P t e sz bys z]{a:Option Addr}{c:Nat}(hx:ev f x=.slice a n c):
  (execOp (ev f) ⟨d,.call ⟨.builtin .len,#[x],#[t]⟩,ty,pS,af,gd⟩).run P w=.ok (.value (oF oG n)) w:=by
 simp[execOp,resolve,invoke,builtin,Builtin.len_,hx,run_underlying h.u,goInt]
theorem Sl.info {e bys:Nat}(h:Sl P t e sz bys z):∃i,P.info? e=some i/\i.zero=some z/\i.size=sz/\i.bytes=bys:=by
 have:=h.i;cases hi:P.info? e with
 | none=>simp[hi]at this
 | some i=>simp[hi]at this;exact⟨i,U,this.1,this.2.1,this.2.2⟩
theorem Xq {x:O3}{e bys:Nat}[h:Sl P t e sz bys z]{a:Addr}{c:Nat}{k:IntKind}{i:Int}(hx:ev f x=.slice (some a) n c)(E:ev f y=.int k i)(G:0<=i)(H:i<n):
  (execOp (ev f) ⟨d,.indexAddr t x y,ty,pS,af,gd⟩).run P w=.ok (.value (.pointer (some (a.add (i.toNat*sz))))) w:=by
 obtain⟨ii,hi,_,I,_⟩:=Sl.info h;simp[execOp,hx,E,Instr.indexAt,asIntOf,run_underlying h.u,G,H,sizeOf,typeInfo,hi,I]
theorem jW [h:Ja P t]:(isAgg t).run P w=.ok false w:=by
 obtain⟨d,E,hd⟩:=h.u;unfold isAgg;cases d <;> simp at hd <;> simp[run_underlying E]
theorem Qjf [h:Ag P t sz]:(isAgg t).run P w=.ok true w:=by
 obtain⟨d,E,hd⟩:=h.u;unfold isAgg;cases d <;> simp at hd <;> simp[run_underlying E]
theorem Xp [h:Ja P t]{a:Addr}{v:O2}(E:w.cell? a=some v):(loadVar t a).run P w=.ok v w:=by
 simp[loadVar,jW,E]
theorem Qdo [h:Ja P t]:(sizeOf t).run P w=.ok 1 w:=by
 have:=h.i;cases hi:P.info? t with
 | none=>simp[hi]at this
 | some i=>simp[hi]at this;simp[sizeOf,typeInfo,hi,this]
theorem U4 [h:Ag P t sz]:(sizeOf t).run P w=.ok sz w:=by
 have:=h.i;cases hi:P.info? t with
 | none=>simp[hi]at this
 | some i=>simp[hi]at this;simp[sizeOf,typeInfo,hi,this]
theorem J1 {a:Addr}:∀(vs:LV) (i:Nat) (acc:Array O2),(∀j v,vs[j]?=some v->w.cell? (a.add (i+j))=some v)->(loadCellsFrom a i vs.length acc).run P w=.ok (acc++vs.toArray) w
 | [],_,acc,_=>by simp[loadCellsFrom]
 | v::vs,i,acc,h=>by
  have E:=h 0 v U;have ih:=J1 vs (i+1) (acc.push v) (λj u G=>by have:=h (j+1) u (oz G);simpa[ON,Nat.add_comm 1 j]using this);simp only[OC]at E;simp[loadCellsFrom,E,ih]
theorem Qp [h:Ag P t sz]{a:Addr}{vs:LV}(hl:vs.length=sz)(E:∀j v,vs[j]?=some v->w.cell? (a.add j)=some v):(loadVar t a).run P w=.ok (.agg vs.toArray) w:=by
 have:=J1 (P:=P) (w:=w) (a:=a) vs 0 #[] (oz E);subst hl;simp[loadVar,Qjf,U4 (sz:=vs.length),loadCells,this]
theorem Qif [h:Ja P t]{x:O3}{a:Addr}{v:O2}(hx:ev f x=.pointer (some a))(E:w.cell? a=some v):
  (execOp (ev f) ⟨d,.load t x,ty,pS,af,gd⟩).run P w=.ok (.value v) w:=by
 simp[execOp,hx,Instr.loadAt,Instr.sureAddr,Xp E]
theorem zq [h:Ag P t sz]{x:O3}{a:Addr}{vs:LV}(hx:ev f x=.pointer (some a))(hl:vs.length=sz)(E:∀j v,vs[j]?=some v->w.cell? (a.add j)=some v):
  (execOp (ev f) ⟨d,.load t x,ty,pS,af,gd⟩).run P w=.ok (.value (.agg vs.toArray)) w:=by
 simp[execOp,hx,Instr.loadAt,Instr.sureAddr,Qp hl E]
theorem Zs {off:Nat}[h:Zh P t j off]{x:O3}{a:Addr}(hx:ev f x=.pointer (some a)):
  (execOp (ev f) ⟨d,.fieldAddr t x j,ty,pS,af,gd⟩).run P w=.ok (.value (.pointer (some (a.add off)))) w:=by
 have E:=h.h;unfold Qqz at E;cases H:P.underlying t with
 | none=>simp[H]at E
 | some dd =>
  cases dd <;> simp[H]at E
  rename_i fs;cases G:fs[j]? with
  | none=>simp[G]at E
  | some fd =>
   cases hi:P.info? fd.type with
   | none=>simp[G,hi]at E
   | some i =>
    simp[G,hi]at E;simp[execOp,hx,Instr.fieldAt,run_underlying H,G,Instr.sureAddr,fieldPlace,sizeOf,typeInfo,hi,E]
theorem V3 {x:O3}{a:Addr}(hx:ev f x=.pointer (some a)):(execOp (ev f) ⟨d,.nilCheck x,ty,pS,af,gd⟩).run P w=.ok (.value (.pointer (some a))) w:=by
 simp[execOp,hx]
theorem Zx {fn:Fn}{l l':List O3}:(execOp (ev f) ⟨d,.makeFunc fn l.toArray l'.toArray,ty,pS,af,gd⟩).run P w=.ok (.value (.func fn (l.map (ev f)).toArray (l'.map (ev f)).toArray)) w:=by
 simp[execOp,Instr.makeFunc]
end
def Q6 (P:O4)(g:Nat)(args:LV)(w:O1)(R:O2->O1->Prop):Prop :=
 Calls P g args.toArray w λe w'=>match e with| .returned v=>R v w'|_=>False
theorem Q6.mono {P:O4}{g:Nat}{args:LV}{w:O1}{R R':O2->O1->Prop}(h:Q6 P g args w R)(G:∀v w',R v w'->R' v w'):Q6 P g args w R' :=
 Calls.mono h λe w' E=>by cases e <;> first|exact G _ _ E|exact E
theorem xc {f:Fr}{K:Fr->O1->Prop}{pS:String}{x:O3}{l:List O3}
    {first capt:LV} [hF:Fu P g fn] (hx:ev f x=.func (.func g) first.toArray capt.toArray) (h:Q6 P g (first++l.map (ev f)++capt) w λv w'=>K (QW f d v) w'):
  XO P ⟨d,.call ⟨.value x,l.toArray,at_⟩,ty,pS,af,gd⟩ f w K:=by
 have E:(execOp (ev f) ⟨d,.call ⟨.value x,l.toArray,at_⟩,ty,pS,af,gd⟩).run P w=.ok (.enter g (first++l.map (ev f)++capt).toArray) w:=by
  have G:¬fn.name = "runtime.NumGoroutine" := by simpa using hF.nm
  have H:¬fn.body=none:=by have:=hF.b;intro e;rw[e]at this;cases this
  simp[execOp,resolve,hx,Deferred.ofValue,invoke,callFunc,hF.f,G,H]
 simp only[XO,E,upF];exact h
theorem xf {f:Fr}{K:Fr->O1->Prop}{pS:String}{l:List O3}
    [hF:Fu P g fn] (h:Q6 P g (l.map (ev f)) w λv w'=>K (QW f d v) w'):
  XO P ⟨d,.call ⟨.value (.func g),l.toArray,at_⟩,ty,pS,af,gd⟩ f w K :=
 xc (first:=[]) (capt:=[]) (g:=g) (fn:=fn) U (oz h)
def ent:LV->Fr
 | [],_=>undef
 | v::_,0=>v
 | _::l,t+1=>ent l t
def UZ (P:O4)(f:Fr)(w:O1):List ResultVar->LV->Prop
 | [],[]=>True
 | .tmp t::rs,v::vs=>f t=v/\UZ P f w rs vs
 | .cell a t::rs,v::vs=>(∃ad,f a=.pointer (some ad)/\(loadVar t ad).run P w=.ok v w)/\UZ P f w rs vs
 | _,_=>False
def tup:LV->O2
 | [v]=>v
 | vs=>.tuple vs.toArray
def rq (P:O4)(rs:List ResultVar)(R:O2->O1->Prop):Exit->Fr->O1->Prop
 | .ret,f,w=>∃vs,UZ P f w rs vs/\R (tup vs) w
 | .normal,f,w=>∃vs,UZ P f w rs vs/\R (tup vs) w
 | _,_,_=>False
theorem J0 {P:O4}{n:Nat}{a:Act}{f:Fr}{w:O1}(G:Rel n a f)(g:ResultVar->Sem O2)(g1:∀t,g (.tmp t)=pure (a.tmps.getD t undef))
  (H:∀ad t,g (.cell ad t)=(do loadVar t (<-asAddr (a.tmps.getD ad undef)))):∀(rs:List ResultVar) (vs:LV),UZ P f w rs vs->(rs.mapM g).run P w=.ok vs w
 | [],[],_=>oe
 | [],_::_,h=>h.elim
 | .tmp t::rs,[],h=>h.elim
 | .cell _ _::rs,[],h=>h.elim
 | .tmp t::rs,v::vs,h=>by
  have ih:=J0 G g g1 H rs vs h.2;have E:=G.get t;rw[h.1]at E;simp only[List.mapM_cons,Sem.run_bind,Sem.run_pure,Result.andThen_ok,ih,E,g1]
 | .cell ad t::rs,v::vs,h=>by
  have ih:=J0 G g g1 H rs vs h.2;obtain⟨⟨I,J,O⟩,_⟩:=h;have E:=G.get ad;rw[J]at E;have S:(asAddr (.pointer (some I))).run P w=.ok I w:=rfl;simp only[List.mapM_cons,Sem.run_bind,H,E,S,Sem.run_pure,Result.andThen_ok,O,ih]
theorem Q6.of_W {c:Code}{args:LV}{R:O2->O1->Prop}{rs:List ResultVar}
  (I:P.funcs[g]?=some fn) (J:fn.body=some c) (O:fn.ntmps=n) (S:fn.results=rs.toArray) (hl:args.length<=n)
  (h:W P n c (rq P rs R) (ent args) w):Q6 P g args w R:=by
 unfold W at h;refine calls_of_wp I J (wp_mono (h _ ?_) ?_)
 ·refine⟨by simp[O];omega,U,λt=>?_⟩;have key:∀(l:LV) (t:Nat),l[t]?.getD undef=ent l t:=by
   intro l;induction l with
   | nil=>intro t;rfl
   | cons v l ih=>intro t;cases t with|zero=>rfl|succ t=>simpa[ent]using ih t
  rw[<-key];simp only[Array.getD_eq_getD_getElem?,Array.getElem?_append,Od,o0];by_cases G:t<args.length
  ·simp[G]
  simp[G,Array.getElem?_replicate];split <;> rfl
 rintro e a' w' ⟨T,H,_,E⟩;have fin:(∃vs,UZ P T w' rs vs/\R (tup vs) w')->a'.defers=[]/\∃v,(results fn a'.tmps).run P w'=.ok v w'/\R v w':=by
  rintro⟨vs,V,hR⟩;refine⟨H.defers,tup vs,?_,hR⟩;simp only[results,S,List.mapM_toArray,Sem.run_bind,Sem.run_map];rw[J0 H _ (λ_=>rfl) (λ_ _=>rfl) rs vs V];cases vs with
  | nil=>rfl
  | cons v vs=>cases vs with|nil=>rfl|cons u us=>rfl
 cases e with
 | normal=>exact fin E
 | ret=>exact fin E
 | exit id=>exact E.elim
 | goto l=>exact E.elim
 | panic c=>exact E.elim
 | outgrown=>exact E.elim
attribute [irreducible] Q6
theorem YI (f:P.funcs[g]?=some fn)(b:fn.body.isNone=false:=by kernel_rfl)(nm:(fn.name == "runtime.NumGoroutine")=false:=by kernel_rfl):Fu P g fn:=⟨f,b,nm⟩
theorem Qc {f:Fr}{Q:Exit->Fr->O1->Prop}{l:xE}{y:Code}(h:XL P l (λf w=>thn (λf w=>W P n y Q f w) Q .normal f w) l f w)(E:X0 n l=true:=by rfl):W P n (.seq (.region id l.toArray false) y) Q f w:=Qd (QcY E h)
theorem Qv {f:Fr}{Q:Exit->Fr->O1->Prop}{l:xE}(h:XL P l (λf w=>Q .normal f w) l f w)(E:X0 n l=true:=by rfl):W P n (.region id l.toArray false) Q f w:=QcY E h
section
variable {K:Fr->O1->Prop}{f:Fr}{pS:String}{l:xE}
theorem Qa (h:XL P ops K l (QW f d (ev f y)) w)(E:Yd ops f ⟨d,.move y,ty,pS,af,gd⟩=true:=by rfl):XL P ops K (⟨d,.move y,ty,pS,af,gd⟩::l) f w:=x KA h E
theorem QP {H:Nat}{E G:O3}{k:IntKind}{a b:Int}(hx:ev f E=.int k a)(I:ev f G=.int k b)(h:XL P ops K l (QW f d (.int k (a+b))) w)(J:inK k (a+b):=by exact⟨oa,oa⟩)
  (O:Yd ops f ⟨d,.binOp .add t E G H,ty,pS,af,gd⟩=true:=by rfl):XL P ops K (⟨d,.binOp .add t E G H,ty,pS,af,gd⟩::l) f w:=x (XH hx I J) h O
theorem Qb (h:K (QW f d (ev f y)) w)(E:Yd ops f ⟨d,.assign y,ty,pS,af,gd⟩=true:=by rfl):XL P ops K [⟨d,.assign y,ty,pS,af,gd⟩] f w:=x Ql (xe h) E
end
section
variable {C:xA}{K:Fr->O1->Prop}{f:Fr}{pS:String}{l:xE}
theorem Qe {o:Oper}(h:XO P o f w (XL P ops K l))(E:Yd ops f o=true:=by rfl):XL P ops K (o::l) f w:=xl E h
theorem Qr {o:Oper}(h:XL P ops K l (QW f o.dst undef) w)(E:Yd ops f o=false:=by rfl):XL P ops K (o::l) f w:=xs E h
theorem Zd {E:O3}{vs:LV}{v:O2}(G:ev f E=.tuple vs.toArray)(H:vs[j]?=some v)(h:XL P ops K l (QW f d v) w)(I:Yd ops f ⟨d,.extract E j,ty,pS,af,gd⟩=true:=by rfl):XL P ops K (⟨d,.extract E j,ty,pS,af,gd⟩::l) f w:=x (Zr G H) h I
theorem QJ {c a b:O3}{t:Bool}(E:ev f c=.bool t)(h:XL P ops K l (QW f d (bif t then ev f a else ev f b)) w)(G:Yd ops f ⟨d,.pick c a b,ty,pS,af,gd⟩=true:=by rfl):XL P ops K (⟨d,.pick c a b,ty,pS,af,gd⟩::l) f w:=x (yc E) h G
theorem ZD {H:Nat}{E G:O3}{k:IntKind}{a b:Int}(hx:ev f E=.int k a)(I:ev f G=.int k b)(h:XL P ops K l (QW f d (.bool (decide (¬a=b)))) w)(J:Yd ops f ⟨d,.binOp .neq t E G H,ty,pS,af,gd⟩=true:=by rfl):XL P ops K (⟨d,.binOp .neq t E G H,ty,pS,af,gd⟩::l) f w:=x (XZ hx I) h J
theorem QY {H:Nat}{E G:O3}{k:IntKind}{a b:Int}(hx:ev f E=.int k a)(I:ev f G=.int k b)(h:XL P ops K l (QW f d (.bool (decide (a<b)))) w)(J:Yd ops f ⟨d,.binOp .lss t E G H,ty,pS,af,gd⟩=true:=by rfl):XL P ops K (⟨d,.binOp .lss t E G H,ty,pS,af,gd⟩::l) f w:=x (YR hx I) h J
theorem Yt {E:O3}{a:Addr}(hx:ev f E=.pointer (some a))(h:XL P ops K l (QW f d (.pointer (some a))) w)(G:Yd ops f ⟨d,.nilCheck E,ty,pS,af,gd⟩=true:=by rfl):XL P ops K (⟨d,.nilCheck E,ty,pS,af,gd⟩::l) f w:=x (V3 hx) h G
theorem Zo {c:Code}{args:LV}{R:O2->O1->Prop}{rs:List ResultVar}(E:P.funcs[g]?=some fn)(h:W P n c (rq P rs R) (ent args) w)(G:fn.body=some c:=by rfl)(H:fn.ntmps=n:=by rfl)(I:fn.results=rs.toArray:=by rfl)(hl:Nat.ble args.length n=true:=by rfl):Q6 P g args w R:=Q6.of_W E G H I (MJ hl) h
def Xi:Nat->Nat->LN->List (Nat×Bool)
 | _,0,_=>[]
 | i,n+1,fs=>(i,!fs.contains i)::Xi (i+1) n fs
def fuB (P:O4)(g:Nat):Bool:=match P.funcs[g]? with|some fn=>!fn.body.isNone && !(fn.name == "runtime.NumGoroutine")|none=>false
theorem fuE (h:fuB P g=true):∃fn,Fu P g fn:=by
 unfold fuB at h;split at h
 ·next fn E=>simp only[oK,Og]at h;exact⟨fn,E,h.1,h.2⟩
 cases h
theorem xg {f:Fr}{K:Fr->O1->Prop}{pS:String}{l:List O3}(h:Q6 P g (l.map (ev f)) w λv w'=>K (QW f d v) w')(E:fuB P g=true:=by kernel_rfl):XO P ⟨d,.call ⟨.value (.func g),l.toArray,at_⟩,ty,pS,af,gd⟩ f w K:=(fuE E).elim λ_ _=>xf h
theorem QN {l':List O3}(h:Q6 P g (l'.map (ev f)) w λv w'=>XL P ops K l (QW f d v) w')(E:fuB P g=true:=by kernel_rfl)(G:Yd ops f ⟨d,.call ⟨.value (.func g),l'.toArray,at_⟩,ty,pS,af,gd⟩=true:=by rfl):XL P ops K (⟨d,.call ⟨.value (.func g),l'.toArray,at_⟩,ty,pS,af,gd⟩::l) f w:=xl G (xg h E)
theorem ZM {l':List O3}[Fu P g fn](h:Q6 P g (l'.map (ev f)) w λv w'=>XL P ops K l (QW f d v) w')(E:Yd ops f ⟨d,.call ⟨.value (.func g),l'.toArray,at_⟩,ty,pS,af,gd⟩=true:=by rfl):XL P ops K (⟨d,.call ⟨.value (.func g),l'.toArray,at_⟩,ty,pS,af,gd⟩::l) f w:=xl E (xf h)
theorem QF {E:O3}:∀w',(execOp (ev f) ⟨d,.move E,ty,pS,af,gd⟩).run P w'=.ok (.value (ev f E)) w':=λ_=>KA
theorem ZI {E:O3}:∀w',(execOp (ev f) ⟨d,.assign E,ty,pS,af,gd⟩).run P w'=.ok (.value (ev f E)) w':=λ_=>Ql
theorem Xk {c a b:O3}{t:Bool}(h:ev f c=.bool t):∀w',(execOp (ev f) ⟨d,.pick c a b,ty,pS,af,gd⟩).run P w'=.ok (.value (bif t then ev f a else ev f b)) w':=λ_=>yc h
theorem Xl {E:O3}{a:Addr}(hx:ev f E=.pointer (some a)):∀w',(execOp (ev f) ⟨d,.nilCheck E,ty,pS,af,gd⟩).run P w'=.ok (.value (.pointer (some a))) w':=λ_=>V3 hx
theorem Qm {Q:Exit->Fr->O1->Prop}{c:Code}(h:XL P (⟨d,.move y,ty,pS,af,gd⟩::l) (λf w=>thn (λf w=>W P n c Q f w) Q .normal f w) l (QW f d (ev f y)) w)(E:Yd (⟨d,.move y,ty,pS,af,gd⟩::l) f ⟨d,.move y,ty,pS,af,gd⟩=true:=by rfl)(G:X0 n (⟨d,.move y,ty,pS,af,gd⟩::l)=true:=by rfl):W P n (.seq (.region id (⟨d,.move y,ty,pS,af,gd⟩::l).toArray false) c) Q f w:=Qc (Qa h E) G
end
structure O5 (L:LN)(w w':O1):Prop where
 os:w'.os=w.os
 tape:w'.tape=w.tape
 output:w'.output=w.output
 size:w.heap.size<=w'.heap.size
 block:∀k,k<w.heap.size->k∉L->w'.heap[k]?=w.heap[k]?
theorem O5.Z (L:LN)(w:O1):O5 L w w:=⟨U,U,U,Lx _,λ_ _ _=>U⟩
theorem O5.C (L:LN)(w:O1):O5 L w { w with drawn:=w.drawn+1 }:=⟨U,U,U,Lx _,λ_ _ _=>U⟩
theorem O5.mono {L L':LN}(h:O5 L w w')(E:∀b∈L,b∈L'):O5 L' w w' :=
 ⟨h.os,h.tape,h.output,h.size,λk G H=>h.block k G (λI=>H (E k I))⟩
theorem O5.any {L:LN}(h:O5 [] w w'):O5 L w w':=h.mono (λ_ E=>by cases E)
theorem O5.then {L L':LN}{E:O1}(h:O5 L E w)(k:O5 L' w w')(I:∀b∈L',b∈L\/E.heap.size<=b):O5 L E w' :=
 ⟨k.os.D h.os,k.tape.D h.tape,k.output.D h.output,LP h.size k.size,λi hi G =>
  (k.block i (LX hi h.size) (λJ=>by rcases I i J with H|H;exact G H;omega)).D (h.block i hi G)⟩
theorem O5.D {L:LN}{E:O1}(h:O5 L E w)(k:O5 [] w w'):O5 L E w':=h.then k (λ_ G=>by cases G)
theorem O5.Q {L:LN}{E:O1}(h:O5 L E w)(k:O5 L w w'):O5 L E w':=h.then k (λ_ G=>.inl G)
theorem O5.below (h:O5 [] w w'):Below w.heap.size w w':=⟨h.os,h.tape,h.output,h.size,λk E=>h.block k E oe⟩
theorem O5.of_below (h:Below w.heap.size w w'):O5 [] w w':=⟨h.os,h.tape,h.output,h.size,λk E _=>h.block k E⟩
theorem O5.of_grown {row:xF}(h:w.grownBy w' row):O5 row.toList w w' :=
 ⟨h.os,h.tape,h.output,h.size,λk E G=>h.block k E (λe=>G (by simp[<-e]))⟩
theorem qF (w:O1)(o:Obj)(k:Nat)(h:k<w.heap.size):(w.alloc o).heap[k]?=w.heap[k]?:=by
 show(w.heap.push o)[k]?=_;rw[Array.getElem?_push,OT oa]
theorem Ki (w:O1)(o:Obj):(w.alloc o).heap[w.heap.size]?=some o:=by
 show(w.heap.push o)[w.heap.size]?=_;simp
theorem VH (w:O1)(o:Obj):(w.alloc o).heap.size=w.heap.size+1:=by show(w.heap.push o).size=_;simp
theorem O5.alloc (w:O1)(o:Obj):O5 [] w (w.alloc o):=⟨U,U,U,by rw[VH];omega,λk E _=>qF w o k E⟩
theorem O5.setRow (w:O1)(g:Nat)(cs:Array O2):O5 [g] w (w.setRow g cs):=
 ⟨U,U,U,by simp[World.setRow],λk _ E=>setRow_other w g k cs (λe=>E (by simp[e]))⟩
def cel (H:xC)(a:Addr):Option O2:=match H[a.block]? with
 | some (.cells c _ _)=>if a.spot.isSome then none else c[a.off]?
 | _=>none
theorem Kt (w:O1)(a:Addr):w.cell? a=cel w.heap a:=rfl
structure At (L:LN)(H:xC)(a:Addr)(us:LV):Prop where
 out:∀u∈us,a.block∉L
 lt:∀u∈us,a.block<H.size
 cell:∀j u,us[j]?=some u->cel H (a.add j)=some u
theorem YG (a:Addr)(j:Nat):(a.add j).block=a.block:=by unfold Addr.add;split <;> rfl
theorem Qkh {L:LN}(h:O5 L w w'){a:Addr}(E:a.block∉L)(hl:a.block<w.heap.size):cel w'.heap a=cel w.heap a:=by
 unfold cel;rw[h.block _ hl E]
theorem At.J {L X:LN}{a:Addr}{us:LV}(h:At L w.heap a us)(G:O5 X w w')(I:∀b∈X,b∈L):At L w'.heap a us :=
 ⟨h.out,λu E=>LX (h.lt u E) G.size,λj u E=>by
  have H:=Mt E;rw[Qkh (L:=X) G (by rw[YG];exact λhx=>h.out u H (I _ hx)) (by rw[YG];exact h.lt u H)];exact h.cell j u E⟩
theorem At.I {L:LN}{a:Addr}{us:LV}(h:At L w.heap a us)(E:O5 [] w w'):At L w'.heap a us:=h.J E (λ_ G=>by cases G)
theorem At.st {L:LN}{a:Addr}{us:LV}(h:At L w.heap a us)(E:O5 L w w'):At L w'.heap a us:=h.J E (λ_ G=>G)
theorem At.one {L:LN}{a:Addr}{u:O2}(h:At L w.heap a [u]):w.cell? a=some u:=by
 have:=h.cell 0 u U;simp only[Addr.add,if_true]at this;exact this
theorem At.cells {L:LN}{a:Addr}{us:LV}(h:At L w.heap a us):∀j v,us[j]?=some v->w.cell? (a.add j)=some v:=h.cell
theorem Addr.add_add (a:Addr)(i j:Nat):(a.add i).add j=a.add (i+j):=by
 unfold Addr.add;by_cases hi:i=0
 ·subst hi;simp
 by_cases E:j=0
 ·subst E;simp
 simp[hi,E,ON]
theorem At.fld {L:LN}{a:Addr}{us:LV}(h:At L H a us)(j:Nat)(u:O2)(E:us[j]?=some u):At L H (a.add j) [u]:=
 ⟨λ_ _=>by rw[YG];exact h.out u (Mt E),λ_ _=>by rw[YG];exact h.lt u (Mt E),λi v G=>by
  cases i with
  | zero=>simp at G;subst G;rw[Addr.add_add,Ns];exact h.cell j u E
  | succ i=>simp at G⟩
theorem At.up {L L':LN}{a:Addr}{us:LV}(h:At L H a us)(I:∀b∈L',b∈L\/H.size<=b):At L' H a us :=
 ⟨λu E J=>by rcases I _ J with G|G;exact h.out u E G;have:=h.lt u E;omega,h.lt,h.cell⟩
def Zp (L:LN)(H:xC)(v:O2)(n sz:Nat)(cs:LV):Prop :=
 cs.length=n*sz/\n<=1099511627776/\((v=nS/\n=0)\/∃a cap,v=.slice (some a) n cap/\n<=cap/\At L H a cs)
theorem Zp.J {L X:LN}{w w':O1}{v:O2}{n sz:Nat}{cs:LV}(h:Zp L w.heap v n sz cs)(E:O5 X w w')(G:∀b∈X,b∈L):Zp L w'.heap v n sz cs :=
 ⟨h.1,h.2.1,h.2.2.imp id λ⟨a,cap,H,I,J⟩=>⟨a,cap,H,I,J.J E G⟩⟩
theorem Zp.I {L:LN}{v:O2}{cs:LV}(h:Zp L w.heap v n sz cs)(E:O5 [] w w'):Zp L w'.heap v n sz cs:=h.J E (λ_ G=>by cases G)
theorem Zp.st {L:LN}{v:O2}{cs:LV}(h:Zp L w.heap v n sz cs)(E:O5 L w w'):Zp L w'.heap v n sz cs:=h.J E (λ_ G=>G)
theorem Zp.up {L L':LN}{H:xC}{v:O2}{n sz:Nat}{cs:LV}(h:Zp L H v n sz cs)(E:∀b∈L',b∈L\/H.size<=b):Zp L' H v n sz cs :=
 ⟨h.1,h.2.1,h.2.2.imp id λ⟨a,cap,G,I,J⟩=>⟨a,cap,G,I,J.up E⟩⟩
theorem Zp.nil (L:LN)(H:xC)(sz:Nat):Zp L H (nS) 0 sz []:=⟨oe,oa,.inl ⟨rfl,rfl⟩⟩
theorem Zp.shape {L:LN}{v:O2}{cs:LV}(h:Zp L H v n sz cs):∃a cap,v=.slice a n cap:=by
 rcases h.2.2 with⟨E,G⟩|⟨a,cap,E,_⟩
 ·exact⟨none,0,by rw[E,G]⟩
 exact⟨some a,cap,E⟩
theorem Zp.one {L:LN}{v:O2}{cs:LV}(h:Zp L H v n sz cs):v.oneCell'=true:=by obtain⟨a,cap,rfl⟩:=h.shape;rfl
theorem Zp.cells {L:LN}{H:xC}{v:O2}{n sz:Nat}{cs:LV}(h:Zp L H v n sz cs):v.cells=#[v]:=by obtain⟨a,cap,rfl⟩:=h.shape;rfl
theorem Zp.le {L:LN}{v:O2}{cs:LV}(h:Zp L H v n sz cs):n<=1099511627776:=h.2.1
theorem Zp.at {L:LN}{H:xC}{v:O2}{n sz:Nat}{cs:LV}(h:Zp L H v n sz cs){i:Nat}(hi:i<n):
  ∃a cap,v=.slice (some a) n cap/\At L H (a.add (i*sz)) ((cs.drop (i*sz)).take sz):=by
 rcases h.2.2 with⟨_,J⟩|⟨a,cap,I,_,G⟩
 ·omega
 refine⟨a,cap,I,λu E=>by rw[YG];exact G.out u (Ma (LY E)),λu E=>by rw[YG];exact G.lt u (Ma (LY E)),λj u E=>?_⟩;rw[Addr.add_add];refine G.cell _ u ?_;rw[LW]at E;split at E
 ·simpa using E
 cases E
abbrev QR (L:LN)(H:xC)(v:O2)(l:LI):Prop:=Zp L H v l.length 1 (l.map (.int .i64))
theorem QR.at {L:LN}{H:xC}{v:O2}{l:LI}(h:QR L H v l){i:Nat}(hi:i<l.length):
  ∃a cap,v=.slice (some a) l.length cap/\At L H (a.add (i*1)) [oF oG l[i]]:=by
 obtain⟨a,cap,G,E⟩:=Zp.at h hi;refine⟨a,cap,G,?_⟩;have:((l.map (Value.int .i64)).drop (i*1)).take 1=[oF oG l[i]]:=by
  rw[Nat.mul_one,LF (oz hi)];simp
 rw[this]at E;exact E
def Q7 (H:xC)(b T:Nat)(cs:LV):Prop:=H[b]?=some (.cells cs.toArray T (0,0))
theorem Q7.lt {cs:LV}(h:Q7 H b T cs):b<H.size:=(LK.1 h).1
theorem Q7.J {X:LN}{cs:LV}(h:Q7 w.heap b T cs)(E:O5 X w w')(G:b∉X):Q7 w'.heap b T cs:=by
 unfold Q7;rw[E.block b h.lt G];exact h
theorem Q7.I {cs:LV}(h:Q7 w.heap b T cs)(E:O5 [] w w'):Q7 w'.heap b T cs:=h.J E oe
theorem Q7.cell {cs:LV}(h:Q7 H b T cs)(j:Nat):cel H ⟨b,j,none⟩=cs[j]?:=by
 unfold Q7 at h;simp[cel,h]
theorem QeU (b j:Nat):(⟨b,0,none⟩:Addr).add j=⟨b,j,none⟩:=by unfold Addr.add;split <;> simp_all
theorem Kp (b i j:Nat):(⟨b,i,none⟩:Addr).add j=⟨b,i+j,none⟩:=by unfold Addr.add;split <;> simp_all
theorem Q7.at {L:LN}{cs:LV}(h:Q7 H b T cs)(E:b∉L):At L H ⟨b,0,none⟩ cs :=
 ⟨λ_ _=>E,λ_ _=>h.lt,λj u G=>by rw[QeU,h.cell];exact G⟩
theorem Q7.arr {L:LN}{cs:LV}(h:Q7 H b T cs)(E:b∉L)(hl:cs.length=n*sz)(G:n<=1099511627776)(I:n<=cap):
  Zp L H (.slice (some ⟨b,0,none⟩) n cap) n sz cs:=⟨hl,G,.inr ⟨_,_,U,I,h.at E⟩⟩
def ob:O2->LN
 | .slice (some a) _ _=>[a.block]
 | _=>[]
theorem yj (v:O2):ob v=v.ownBlock.toList:=by
 cases v <;> try rfl
 rename_i a _ _;cases a <;> rfl
theorem Qf {X:LN}{base e:Nat}{v:O2}{cs:LV}(h:w.ownsRow base e sz v n cs)(H:O5 X w w')(I:∀b∈ob v,b∉X):w'.ownsRow base e sz v n cs:=by
 refine⟨h.1,h.2.imp id λ⟨g,cap,cur,E,J,G,O⟩=>⟨g,cap,cur,E,J,?_,O⟩⟩;rw[H.block g (LK.1 G).1 (I g (by rw[E];simp[ob]))];exact G
theorem Qn {base e:Nat}{v:O2}{cs:LV}(h:w.ownsRow base e sz v n cs)(E:O5 [] w w'):w'.ownsRow base e sz v n cs:=Qf h E (λ_ _=>oe)
theorem Qi {base e:Nat}{v:O2}{cs:LV}(h:w.ownsRow base e sz v n cs):∀b∈ob v,base<=b/\b<w.heap.size:=by
 intro b E;rcases h.2 with⟨G,_⟩|⟨g,cap,cur,G,H,I,_⟩
 ·subst G;simp[ob]at E
 subst G;simp[ob]at E;subst E;exact⟨H,(LK.1 I).1⟩
theorem Zu {base base' e:Nat}{v:O2}{cs:LV}(h:w.ownsRow base e sz v n cs)(E:base'<=base):w.ownsRow base' e sz v n cs :=
 ⟨h.1,h.2.imp id λ⟨g,cap,cur,G,H,I⟩=>⟨g,cap,cur,G,LP E H,I⟩⟩
theorem QK {L:LN}{base e:Nat}{v:O2}{cs:LV}(h:w.ownsRow base e sz v n cs)(I:n<=1099511627776)(J:∀b∈ob v,b∉L):Zp L w.heap v n sz cs:=by
 refine⟨h.1,I,?_⟩;rcases h.2 with E|⟨g,cap,cur,E,T,H,O,V,Y,S⟩
 ·exact .inl E
 refine .inr ⟨_,_,E,O,λ_ _=>J g (by rw[E];simp[ob]),λ_ _=>(LK.1 H).1,λj u G=>?_⟩;rw[QeU];unfold cel;simp only[H];rw[<-S,LW]at G;split at G
 ·simpa using G
 cases G
theorem QI (w:O1)(base e sz:Nat):w.ownsRow base e sz (nS) 0 []:=World.ownsRow_nil w base e sz
theorem Q7.own {cs:LV}(h:Q7 w.heap b T cs)(hl:cs.length=n*sz)(G:n<=1099511627776){base:Nat}(E:base<=b):w.ownsRow base T sz (.slice (some ⟨b,0,none⟩) n n) n cs :=
 ⟨hl,.inr ⟨b,n,cs.toArray,U,E,h,Lx _,by simp only[maxLen];omega,by simp[hl],by simp[<-hl]⟩⟩
section
variable {K:Fr->O1->Prop}{f:Fr}{pS:String}{l:xE}
theorem YX {x:O3}{e bys:Nat}[Sl P t e E bys z]{L:LN}{cs:LV}{v:O2}(h:Zp L H v n sz cs)(G:ev f x=v):
  (execOp (ev f) ⟨d,.call ⟨.builtin .len,#[x],#[t]⟩,ty,pS,af,gd⟩).run P w=.ok (.value (oF oG n)) w:=by
 obtain⟨a,cap,I⟩:=h.shape;exact Uw (G.D I)
theorem xi {x:O3}{e bys:Nat}[Sl P t e sz bys z]{L:LN}{cs:LV}{v:O2}{k:IntKind}
  (h:Zp L w.heap v n sz cs) (E:ev f x=v) (G:ev f y=.int k i) (hi:i<n)
  (hK:∀a,At L w.heap a ((cs.drop (i*sz)).take sz)->XL P ops K l (QW f d (.pointer (some a))) w) (H:Yd ops f ⟨d,.indexAddr t x y,ty,pS,af,gd⟩=true:=by rfl):
  XL P ops K (⟨d,.indexAddr t x y,ty,pS,af,gd⟩::l) f w:=by
 obtain⟨a,cap,I,J⟩:=h.at hi;refine xl H (xv (Xq (E.D I) G oa oa) (hK _ ?_));simpa using J
theorem xii {x:O3}{e bys:Nat}[Sl P t e 1 bys z]{L:LN}{li:LI}{v:O2}{k:IntKind}
  (h:QR L w.heap v li) (E:ev f x=v) (G:ev f y=.int k i) (hi:i<li.length)
  (hK:∀a,At L w.heap a [oF oG li[i]]->XL P ops K l (QW f d (.pointer (some a))) w) (H:Yd ops f ⟨d,.indexAddr t x y,ty,pS,af,gd⟩=true:=by rfl):
  XL P ops K (⟨d,.indexAddr t x y,ty,pS,af,gd⟩::l) f w:=by
 obtain⟨a,cap,I,J⟩:=QR.at h hi;refine xl H (xv (Xq (E.D I) G oa oa) (hK _ ?_));simpa using J
theorem QD [Ja P t]{x:O3}{a:Addr}{L:LN}{u:O2}(h:At L w.heap a [u])(hx:ev f x=.pointer (some a)):
  (execOp (ev f) ⟨d,.load t x,ty,pS,af,gd⟩).run P w=.ok (.value u) w:=Qif hx h.one
theorem Qw [Ag P t sz]{x:O3}{a:Addr}{L:LN}{us:LV}(h:At L w.heap a us)(hx:ev f x=.pointer (some a))(hl:us.length=sz):
  (execOp (ev f) ⟨d,.load t x,ty,pS,af,gd⟩).run P w=.ok (.value (.agg us.toArray)) w:=zq hx hl h.cells
theorem Qq [Ja P t]{x:O3}{cs:LV}{u:O2}(h:Q7 w.heap b T cs)(hx:ev f x=.pointer (some ⟨b,j,none⟩))(E:cs[j]?=some u):
  (execOp (ev f) ⟨d,.load t x,ty,pS,af,gd⟩).run P w=.ok (.value u) w:=Qif hx (by rw[Kt,h.cell];exact E)
theorem Z1 [Ag P t sz]{x:O3}{cs:LV}(h:Q7 w.heap b T cs)(hx:ev f x=.pointer (some ⟨b,0,none⟩))(hl:cs.length=sz):
  (execOp (ev f) ⟨d,.load t x,ty,pS,af,gd⟩).run P w=.ok (.value (.agg cs.toArray)) w:=zq hx hl (h.at (L:=[]) oe).cells
theorem Va {off:Nat}[Zh P t j off]{x:O3}(hx:ev f x=.pointer (some ⟨b,o,none⟩)):
  (execOp (ev f) ⟨d,.fieldAddr t x j,ty,pS,af,gd⟩).run P w=.ok (.value (.pointer (some ⟨b,o+off,none⟩))) w:=by
 rw[<-Kp];exact Zs hx
end
section
variable {K:Fr->O1->Prop}{f:Fr}{pS:String}
theorem QV {x:O3}{us:LV}(hx:(ev f x).cells=us.toArray)
  (hK:∀b w',O5 [] w w'->w.heap.size<=b->Q7 w'.heap b t us->K (QW f d (.pointer (some ⟨b,0,none⟩))) w'):XO P ⟨d,.box t x,ty,pS,af,gd⟩ f w K:=by
 have E:(execOp (ev f) ⟨d,.box t x,ty,pS,af,gd⟩).run P w=.ok (.value (.pointer (some ⟨w.heap.size,0,none⟩))) (w.alloc (.cells us.toArray t)):=by
  simp[execOp,Instr.box,newVar,newRow,hx]
 exact xv E (hK _ _ (O5.alloc w _) (Lx _) (Ki w _))
theorem Qo [h:Ze P t z]{us:LV}(G:z.cells=us.toArray)
  (hK:∀b w',O5 [] w w'->w.heap.size<=b->Q7 w'.heap b t us->K (QW f d (.pointer (some ⟨b,0,none⟩))) w'):XO P ⟨d,.alloc t,ty,pS,af,gd⟩ f w K:=by
 have H:(execOp (ev f) ⟨d,.alloc t,ty,pS,af,gd⟩).run P w=.ok (.value (.pointer (some ⟨w.heap.size,0,none⟩))) (w.alloc (.cells us.toArray t)):=by
  have hi:=h.i;cases E:P.info? t with
  | none=>simp[E]at hi
  | some i =>
   simp[E]at hi;simp[execOp,Instr.alloc,newVar,newRow,zeroValue,typeInfo,E,hi,G]
 exact xv H (hK _ _ (O5.alloc w _) (Lx _) (Ki w _))
def Qbq (sz:Nat):LV->List (LV)->Prop
 | [],[]=>True
 | v::vs,u::us=>v.cells=u.toArray/\u.length=sz/\Qbq sz vs us
 | _,_=>False
theorem yK {sz:Nat}:∀(vs:LV) (us:List (LV)) (E:Nat) (pre rest:LV),Qbq sz vs us->pre.length=E*sz->rest.length=vs.length*sz ->
  Instr.fill (λi=>some (i*sz,sz)) (pre++rest).toArray ((vs.zipIdx E).map λx=>(x.2,x.1))=some (pre++us.flatten).toArray
 | [],[],E,pre,rest,_,_,G=>by
  have:rest=[]:=Lq (oz G);subst this;simp[Instr.fill]
 | [],_::_,_,_,_,h,_,_=>h.elim
 | _::_,[],_,_,_,h,_,_=>h.elim
 | v::vs,u::us,E,pre,rest,h,H,G=>by
  obtain⟨I,J,T⟩:=h;have ha:sz<=rest.length:=by rw[G];simp[Oq]
  have ih:=yK vs us (E+1) (pre++u) (rest.drop sz) T (by simp[H,J,Oq]) (by simp only[o6,G,oW,Oq,Nat.one_mul];omega);simp only[List.zipIdx_cons,oY];unfold Instr.fill;have V:v.cells.size=sz:=by rw[I];simp[J]
  simp only[V];rw[OT (by simp;omega)];have key:v.cells.zipIdx.foldl (λcs (x:O2×Nat)=>cs.setIfInBounds (E*sz+x.2) x.1) (pre++rest).toArray=(pre++u++rest.drop sz).toArray:=by
   rw[<-Array.foldl_toList,Array.toList_zipIdx,I];obtain⟨g1,Y⟩:=Great.foldl_set (E*sz) u 0 (pre++rest).toArray;apply Array.ext';apply Na;intro k;have g3:=Y k;simp only[Array.getElem?_toList];rw[g3];simp only[OC,Od,oM,o0];split
   ·rename_i O;rw[LB,MI oa,Mh oa,<-H]
   rename_i O;by_cases S:k<pre.length
   ·rw[LB,Mh S,Mh S]
   rw[LB,MI oa,MI oa];by_cases hb:k<pre.length+sz
   ·exfalso;apply O;omega
   rw[MI oa,MH];congr 1;omega
  have he:=ih;rw[LB pre u]at key;rw[show(v.cells.zipIdx.foldl (λcs (x:O2×Nat)=>cs.setIfInBounds (E*sz+x.2) x.1) (pre++rest).toArray)=(pre++u++rest.drop sz).toArray by rw[key,LB]];rw[ih];simp
theorem jw (f:Fr):∀(ps:List (Nat×O3)) (i:Nat),ps.map (·.1)=oR i ps.length->(ps.map λx=>(x.1,ev f x.2))=((ps.map λx=>ev f x.2).zipIdx i).map λx=>(x.2,x.1)
 | [],_,_=>rfl
 | p::ps,i,h=>by
  simp only[oY,oW,OB,List.cons.injEq]at h;simp only[oY,List.zipIdx_cons];rw[jw f ps (i+1) h.2,h.1]
theorem QA {e bys:Nat}[h:Sl P t e sz bys z]{parts:List (Nat×O3)}{us:List (LV)}(G:parts.map (·.1)=oR 0 n)(H:parts.length=n)(I:0<n)(hs:n*sz<=1000000)
  (J:Qbq sz (parts.map λx=>ev f x.2) us)
  (hK:∀b w',O5 [] w w'->w.heap.size<=b->Q7 w'.heap b e us.flatten->K (QW f d (.slice (some ⟨b,0,none⟩) n n)) w'):XO P ⟨d,.buildSlice t n parts.toArray,ty,pS,af,gd⟩ f w K:=by
 obtain⟨ie,O,S,E,_⟩:=Sl.info h;subst H;have T:=h.pos;have hm:0<parts.length*sz:=Nat.mul_pos I T;have V:Instr.fill (λi=>some (i*ie.size,ie.size)) ((Array.range (parts.length*ie.size)).map (z.cells[· % z.cells.size]!)) (parts.toArray.map λ(i,x)=>(i,ev f x)).toList=some us.flatten.toArray:=by
  rw[E];have:=yK (parts.map λx=>ev f x.2) us 0 [] ((Array.range (parts.length*sz)).map (z.cells[· % z.cells.size]!)).toList J oe oe;simp only[Ok,Array.toArray_toList]at this;rw[<-this,<-jw f parts 0 G];simp
 have Y:(execOp (ev f) ⟨d,.buildSlice t parts.length parts.toArray,ty,pS,af,gd⟩).run P w=.ok (.value (.slice (some ⟨w.heap.size,0,none⟩) parts.length parts.length)) (w.alloc (.cells us.flatten.toArray e)):=by
  have:=run_buildSlice (P:=P) w t e parts.length (parts.toArray.map λ(i,x)=>(i,ev f x)) us.flatten.toArray ie z h.u O S (by rw[E];omega) (by rw[E];omega) V;simp only[execOp,Sem.run_bind,this,Result.andThen_ok,Sem.run_pure]
 exact xv Y (hK _ _ (O5.alloc w _) (Lx _) (Ki w _))
theorem jj {base e:Nat}{bys:Nat}[h:Sl P t e sz bys z]{v:O2}{cs:LV}(G:w.ownsRow base e sz v n cs)
  {a:Addr} {m c:Nat} {news:LV} (hl:news.length=m*sz) (S:∀j u,news[j]?=some u->w.cell? (a.add j)=some u) (h1:∀u∈news,u.oneCell'=true)
  (hb:n+m<=1099511627776) (hq:bys<=128) (hc:base<=w.heap.size):
  ∃v' w',(Builtin.append_ #[t,t] ty #[v,.slice (some a) m c]).run P w=.ok v' w'/\w'.ownsRow base e sz v' (n+m) (cs++news)/\O5 (ob v) w w'/\(∀b∈ob v',b∈ob v\/w.heap.size<=b):=by
 obtain⟨i,hi,V,J,Y⟩:=Sl.info h;have ha:(n+m)*bys<=140737488355328:=LP (Nat.mul_le_mul hb hq) oa;have he:n+m<=maxLen:=by simp only[maxLen];omega
 by_cases hg:∃g cap cur,v=.slice (some ⟨g,0,none⟩) n cap/\w.heap[g]?=some (.cells cur e (0,0))/\n+m<=cap
 ·obtain⟨v',w',H,ho,hs,_⟩:=run_append_own (P:=P) w base t ty e i z sz bys h.u hi V J Y h.zs h.pos v n cs G a m c news hl S h1 he ha hc;refine⟨v',w',H,ho,by rw[yj];exact O5.of_grown hs,?_⟩;obtain⟨g,cap,cur,rfl,hf,O⟩:=hg;rcases G.2 with⟨h2,_⟩|⟨g2,cap2,hh,h2,h3,h4,h5,h6,h7,h8⟩
  ·cases h2
  cases h2
  have ht:n*i.size+news.length<=hh.size:=by rw[hl,h7,J,<-Mu];exact L3 _ O
  have hu:=run_append_room (P:=P) w t ty e i h.u hi g n cap hh h4 a m c news (by rw[J];exact hl) S h1 O ht;rw[hu]at H;cases H
  intro b E;exact .inl E
 have new:∀(old:Nat),old<n+m->∀I,I=(Obj.cells (cs.toArray++news.toArray++Builtin.zeroCells z.cells (grownCap w (n+m) old e - (n+m))) e) ->
   (w.drew.alloc I).ownsRow base e sz (.slice (some ⟨w.heap.size,0,none⟩) (n+m) (grownCap w (n+m) old e)) (n+m) (cs++news):=by
  intro old ho I hv;subst hv;have hge:=grownCap_ge w (n+m) old e;have hj:grownCap w (n+m) old e<=maxLen:=grownCap_le_maxLen w (n+m) old e he;have hp:(cs++news).length=(n+m)*sz:=by rw[Lk,G.1,hl,Mu]
  refine⟨hp,.inr ⟨w.heap.size,_,_,U,hc,Ki w.drew _,hge,hj,?_,?_⟩⟩
  ·simp only[Array.size_append,Od,size_zeroCells,h.zs,G.1,hl,<-Oq];congr 1;omega
  simp only[Array.toList_append,oV];rw[<-LB,<-hp];exact List.take_left
 have stp:∀I,O5 (ob v) w (w.drew.alloc I):=λI=>⟨U,U,U,by rw[VH];exact OP _,λk hk _=>qF w.drew I k hk⟩;have fin:∀(b:Nat),b∈ob (.slice (some ⟨w.heap.size,0,none⟩) (n+m) 0)->b∈ob v\/w.heap.size<=b:=λb E=>by simp[ob]at E;omega
 rcases G.2 with⟨rfl,rfl⟩|⟨g,cap,cur,rfl,h9,hf,hA,hj,hB,hC⟩
 ·have hx:cs=[]:=Lq (oz G.1);subst hx;by_cases hm:m=0
  ·subst hm;have T:news=[]:=Lq (oz hl);subst T;refine⟨nS,w,?_,QI _ _ _ _,O5.Z _ _,λb E=>by simp[ob]at E⟩;simp[Builtin.append_,run_underlying h.u,sizeOf,typeInfo,hi,Builtin.lenOf,Builtin.firstCells,loadCells,loadCellsFrom]
  have H:=run_append_nil (P:=P) w t ty e i z h.u hi V a m c news (by rw[J];exact hl) S oa oa (by rw[Y];have hw:=ha;simp only[oZ]at hw;omega);have T:=new 0 oa _ U;simp only[oZ,Ok,Array.empty_append]at T ⊢;exact⟨_,_,H,T,stp _,λb E=>fin b E⟩
 have O:cap<n+m:=by
  rcases OH cap (n+m)with hy|hge
  ·exact hy
  exact OW ⟨g,cap,cur,U,hf,hge⟩ hg
 have h0:∀j u,cs[j]?=some u->w.cell? ((⟨g,0,none⟩:Addr).add j)=some u:=G.cells (g:=g) U;have H:=run_append_grow (P:=P) w t ty e i z h.u hi V ⟨g,0,none⟩ n cap cs (by rw[J];exact G.1) h0 a m c news (by rw[J];exact hl) S O oa (growslice_fits O (by rw[Y];exact ha));exact⟨_,_,H,new cap O _ U,stp _,λb E=>fin b E⟩
theorem Q8 {e bys:Nat}[h:Sl P t e sz bys z]{s:O3}{base:Nat}{v:O2}{cs:LV}(E:w.ownsRow base e sz v n cs)(G:ev f s=v)
  {a:Addr} {m c:Nat} {news:LV} (H:ev f y=.slice (some a) m c) (hl:news.length=m*sz) {L:LN} (I:At L w.heap a news) (J:∀u∈news,u.oneCell'=true)
  (O:n+m<=1099511627776) (S:base<=w.heap.size)
  (hK:∀v' w',w'.ownsRow base e sz v' (n+m) (cs++news)->O5 (ob v) w w'->(∀b∈ob v',b∈ob v\/w.heap.size<=b)->K (QW f d v') w') (T:bys<=128:=by decide):
  XO P ⟨d,.call ⟨.builtin .append,#[s,y],#[t,t]⟩,ty,pS,af,gd⟩ f w K:=by
 obtain⟨v',w',V,Y,h3,h4⟩:=jj (P:=P) (t:=t) (ty:=ty) E hl I.cells J O T S (c:=c);have ha:(execOp (ev f) ⟨d,.call ⟨.builtin .append,#[s,y],#[t,t]⟩,ty,pS,af,gd⟩).run P w=.ok (.value v') w':=by
  simp[execOp,resolve,invoke,builtin,G,H,V]
 exact xv ha (hK v' w' Y h3 h4)
end
def Qpw (P:O4)(t:Nat):Option (LV×LN):=match P.info? t,P.underlying t with
 | some it,some (.struct fs)=>match it.zero,fs.toList.mapM (λf=>(P.info? f.type).bind λi=>if i.size=1 then some f.offset else none)with
  | some (.agg zs),some offs=>some (zs.toList,offs)
  | _,_=>none
 | some it,some (.array n e)=>match it.zero,P.info? e with
  | some (.agg zs),some ie=>if ie.size=1 then some (zs.toList,oT n)else none
  | _,_=>none
 | _,_=>none
class Bs (P:O4)(t:Nat)(zs:outParam (LV))(offs:outParam (LN)):Prop where
 h:Qpw P t=some (zs,offs)
 b:offs.all (·<zs.length)=true
def bld (offs:LN)(zs:LV):List (Nat×O2)->LV
 | []=>zs
 | (j,v)::ps=>bld offs (zs.set (offs.getD j 0) v) ps
def Qnm:LV->Prop
 | []=>True
 | v::vs=>v.cells=#[v]/\Qnm vs
theorem yJ {place:Nat->Option (Nat×Nat)}{offs:LN}(G:∀j,j<offs.length->place j=some (offs.getD j 0,1)):∀(ps:List (Nat×O2)) (zs:LV),Qnm (ps.map (·.2))->ps.all (λp=>p.1<offs.length)=true ->
  (∀o∈offs,o<zs.length)->Instr.fill place zs.toArray ps=some (bld offs zs ps).toArray
 | [],zs,_,_,_=>rfl
 | (j,v)::ps,zs,H,E,I=>by
  simp only[oS,oK,decide_eq_true_eq]at E;have J:=G j E.1;have T:offs.getD j 0<zs.length:=I _ (by simp[oQ,Of E.1]);unfold Instr.fill;simp only[J];have O:v.cells=#[v]:=H.1;simp only[O];rw[OT (by rw[show(#[v]:Array O2).size=1 from rfl,LR];simp only[ne_eq,not_true,decide_false,Bool.false_or,decide_eq_true_eq];omega)];have:(#[v]:Array O2).zipIdx.foldl (λcs (x:O2×Nat)=>cs.setIfInBounds (offs.getD j 0+x.2) x.1) zs.toArray=(zs.set (offs.getD j 0) v).toArray:=by
   simp[Array.zipIdx]
  rw[this];exact yJ G ps _ H.2 E.2 (λo S=>by rw[Mc];exact I o S)
theorem Qd3 {zs:LV}{offs:LN}(h:Qpw P t=some (zs,offs))(hb:offs.all (·<zs.length)=true)(ps:List (Nat×O2))(S:Qnm (ps.map (·.2)))(T:ps.all (λp=>p.1<offs.length)=true):
  P.built t ps=some (bld offs zs ps).toArray:=by
 have V:∀o∈offs,o<zs.length:=λo ho=>oz (Mj.1 hb o ho)
 unfold Qpw at h;unfold Program.built;cases hi:P.info? t with
 | none=>simp[hi]at h
 | some it =>
  cases Y:P.underlying t with
  | none=>simp[hi,Y]at h
  | some dd =>
   simp only[hi,Y]at h;cases dd <;> simp only[]at h <;> try (cases h)
   case struct fs =>
    cases E:it.zero with
    | none=>simp[E]at h
    | some z =>
     cases z <;> simp only[E]at h <;> try (cases h)
     rename_i za;cases I:fs.toList.mapM (λf=>(P.info? f.type).bind λi=>if i.size=1 then some f.offset else none)with
     | none=>simp[I]at h
     | some offs' =>
      simp only[I,Option.some.injEq,Prod.mk.injEq]at h;obtain⟨rfl,rfl⟩:=h;have key:∀(l:List Field) (offs:LN),l.mapM (λf=>(P.info? f.type).bind λi=>if i.size=1 then some f.offset else none)=some offs ->
        l.mapM (λf=>(P.info? f.type).map λi=>(f.offset,i.size))=some (offs.map λo=>(o,1)):=by
       intro l;induction l with
       | nil=>intro offs h;simp at h;subst h;rfl
       | cons f l ih =>
        intro offs h;simp only[List.mapM_cons]at h ⊢;cases J:P.info? f.type with
        | none=>simp[J]at h
        | some i =>
         by_cases G:i.size=1
         ·simp only[J,Option.bind_some,G,if_true,Option.bind_eq_bind]at h;cases hl:l.mapM (λf=>(P.info? f.type).bind λi=>if i.size=1 then some f.offset else none)with
          | none=>simp[hl]at h
          | some os =>
           simp[hl]at h;subst h;simp[ih os hl,G]
         simp[J,G]at h
      have ha:=key _ _ I;simp only[E,ha,Value.cells];rw[<-yJ (place:=λj=>((offs'.map λo=>(o,1)).toArray)[j]?) (λj H=>by simp[Of H,oQ]) ps za.toList S T V]
   case array n e =>
    cases E:it.zero with
    | none=>simp[E]at h
    | some z =>
     cases z <;> simp only[E]at h <;> try (cases h)
     rename_i za;cases O:P.info? e with
     | none=>simp[O]at h
     | some ie =>
      simp only[O]at h;split at h
      ·rename_i G;simp only[Option.some.injEq,Prod.mk.injEq]at h;obtain⟨rfl,rfl⟩:=h;simp only[E,O,Value.cells];rw[<-yJ (place:=λi=>some (i*ie.size,ie.size)) (λj H=>by simp at H;simp[G,oQ,H]) ps za.toList S T V]
      cases h
theorem Qx {f:Fr}{pS:String}{zs:LV}{offs:LN}[h:Bs P t zs offs]{parts:List (Nat×O3)}
  (E:Qnm (parts.map λx=>ev f x.2)) (G:parts.all (λp=>p.1<offs.length)=true:=by rfl):
  (execOp (ev f) ⟨d,.build t parts.toArray,ty,pS,af,gd⟩).run P w=.ok (.value (.agg (bld offs zs (parts.map λx=>(x.1,ev f x.2))).toArray)) w:=by
 have H:=Qd3 h.h h.b (parts.map λx=>(x.1,ev f x.2)) (by rw[Ms];exact E) (by rw[List.all_map];exact G);have I:=run_build (P:=P) w t (parts.toArray.map λ(i,x)=>(i,ev f x)) _ (oz H);simp only[execOp,Sem.run_bind,I,Result.andThen_ok,Sem.run_pure]
section
variable {K:Fr->O1->Prop}{f:Fr}{pS:String}{l:xE}
theorem Zc {off:Nat}[Zh P t j off]{E:O3}(hx:ev f E=.pointer (some ⟨b,o,none⟩))(h:XL P ops K l (QW f d (.pointer (some ⟨b,o+off,none⟩))) w)(G:Yd ops f ⟨d,.fieldAddr t E j,ty,pS,af,gd⟩=true:=by rfl):XL P ops K (⟨d,.fieldAddr t E j,ty,pS,af,gd⟩::l) f w:=x (Va hx) h G
theorem Xb [Ja P t]{E:O3}{cs:LV}{u:O2}(G:Q7 w.heap b T cs)(hx:ev f E=.pointer (some ⟨b,j,none⟩))(H:cs[j]?=some u)(h:XL P ops K l (QW f d u) w)(I:Yd ops f ⟨d,.load t E,ty,pS,af,gd⟩=true:=by rfl):XL P ops K (⟨d,.load t E,ty,pS,af,gd⟩::l) f w:=x (Qq G hx H) h I
theorem Q9 [Ag P t sz]{E:O3}{cs:LV}(G:Q7 w.heap b T cs)(hx:ev f E=.pointer (some ⟨b,0,none⟩))(hl:cs.length=sz)(h:XL P ops K l (QW f d (.agg cs.toArray)) w)(H:Yd ops f ⟨d,.load t E,ty,pS,af,gd⟩=true:=by rfl):XL P ops K (⟨d,.load t E,ty,pS,af,gd⟩::l) f w:=x (Z1 G hx hl) h H
theorem QL {E:O3}{e bys:Nat}[Sl P t e G bys z]{L:LN}{cs:LV}{v:O2}(I:Zp L H v n sz cs)(J:ev f E=v)(h:XL P ops K l (QW f d (oF oG n)) w)(O:Yd ops f ⟨d,.call ⟨.builtin .len,#[E],#[t]⟩,ty,pS,af,gd⟩=true:=by rfl):XL P ops K (⟨d,.call ⟨.builtin .len,#[E],#[t]⟩,ty,pS,af,gd⟩::l) f w:=x (YX I J) h O
theorem QQ {off:Nat}[Zh P t j off]{E:O3}(hx:ev f E=.pointer (some ⟨b,o,none⟩)):∀w',(execOp (ev f) ⟨d,.fieldAddr t E j,ty,pS,af,gd⟩).run P w'=.ok (.value (.pointer (some ⟨b,o+off,none⟩))) w':=λ_=>Va hx
theorem Qs {off:Nat}[Zh P t j off]{E:O3}[Ja P G]{d2:xF}{I:Nat}{pS2:String}{J:xD}{O:xt}{H:O3}{cs:LV}{u:O2}(hx:ev f E=.pointer (some ⟨b,o,none⟩))(S:Q7 w.heap b T cs)(V:ev (QW f d (.pointer (some ⟨b,o+off,none⟩))) H=.pointer (some ⟨b,i,none⟩))(Y:cs[i]?=some u)(h:XL P ops K l (QW (QW f d (.pointer (some ⟨b,o+off,none⟩))) d2 u) w)
  (hg:Yd ops f ⟨d,.fieldAddr t E j,ty,pS,af,gd⟩=true:=by rfl) (ha:Yd ops (QW f d (.pointer (some ⟨b,o+off,none⟩))) ⟨d2,.load G H,I,pS2,J,O⟩=true:=by rfl):XL P ops K (⟨d,.fieldAddr t E j,ty,pS,af,gd⟩::⟨d2,.load G H,I,pS2,J,O⟩::l) f w:=Zc hx (Xb S V Y h ha) hg
end
section
variable {κ:Type}[DecidableEq κ]
def xd:List (κ×O2)->κ->Option O2
 | [],_=>none
 | (k',v)::m,k=>if k'=k then some v else xd m k
def xh:List (κ×O2)->κ->O2->List (κ×O2)
 | [],k,v=>[(k,v)]
 | (k',v')::m,k,v=>if k'=k then(k',v)::m else(k',v')::xh m k v
theorem Xx (m:List (κ×O2))(k k':κ)(v:O2):xd (xh m k v) k'=if k=k' then some v else xd m k':=by
 induction m with
 | nil=>simp[xd,xh]
 | cons p m ih =>
  obtain⟨q,u⟩:=p;simp only[xh];by_cases h:q=k
  ·subst h;simp[xd];by_cases E:q=k' <;> simp[E]
  simp only[h,if_false,xd,ih];by_cases E:q=k'
  ·subst E;simp[Ne.symm h]
  simp[E]
def fnd (k:κ):List κ->List MapEntry->Nat->Option (Nat×O2)
 | q::ks,e::es,i=>if k=q then some (i,e.val)else fnd k ks es (i+1)
 | _,_,_=>none
end
class Key (P:O4)(kt:Nat){κ:Type}[DecidableEq κ](enc:κ->O2):Prop where
 check:∀(w:O1) (em:Bool) (k:κ),(Instr.checkKey em 10000 kt (enc k)).run P w=.ok () w
 find:∀(w:O1) (k:κ) (ks:List κ) (es:List MapEntry),es.map (·.key)=ks.map enc->(Instr.findKey kt (enc k) es).run P w=.ok (fnd k ks es 0) w
 same:∀k,Instr.sameBits 10000 (enc k) (enc k)=true
abbrev V6 (n:Int):O2:=oF oG n
abbrev Jk (p:Int×Int):O2:=.agg #[oF oG p.1,oF oG p.2]
abbrev JL (s:ByteArray):O2:=.string s
theorem Ql6 (G:P.underlying kt=some (.int .i64)):Key P kt V6:=by
 refine⟨λw em k=>?_,λw k ks es h=>?_,λk=>by simp[Instr.sameBits]⟩
 ·have H:∀n,(Instr.checkKey em (n+1) kt (V6 k)).run P w=.ok () w:=λn=>by simp[Instr.checkKey,run_underlying G]
  exact H 9999
 have key:∀(ks:LI) (es:List MapEntry) (i:Nat),es.map (·.key)=ks.map V6->Instr.findNow (.int .i64) (V6 k) es i=some (fnd k ks es i):=by
  intro ks;induction ks with
  | nil=>intro es i h;simp at h;subst h;rfl
  | cons q ks ih =>
   intro es i h;cases es with
   | nil=>simp at h
   | cons e es =>
    simp only[oY,List.cons.injEq]at h;have I:=ih es (i+1) h.2;simp only[Instr.findNow,h.1,Instr.sameNow,V6,if_true,fnd];by_cases E:k=q
    ·subst E;simp
    have:(k == q)=false:=by simpa using E
    simp[E,this,I]
 simp[Instr.findKey,run_underlying G,key ks es 0 h]
theorem Ql5 (G:P.underlying kt=some .string):Key P kt JL:=by
 refine⟨λw em k=>?_,λw k ks es h=>?_,λk=>by simp[Instr.sameBits,(MapKept.bytes_beq k k).2 rfl]⟩
 ·have H:∀n,(Instr.checkKey em (n+1) kt (JL k)).run P w=.ok () w:=λn=>by simp[Instr.checkKey,run_underlying G]
  exact H 9999
 have key:∀(ks:List ByteArray) (es:List MapEntry) (i:Nat),es.map (·.key)=ks.map JL->Instr.findNow .string (JL k) es i=some (fnd k ks es i):=by
  intro ks;induction ks with
  | nil=>intro es i h;simp at h;subst h;rfl
  | cons q ks ih =>
   intro es i h;cases es with
   | nil=>simp at h
   | cons e es =>
    simp only[oY,List.cons.injEq]at h;have I:=ih es (i+1) h.2;simp only[Instr.findNow,h.1,Instr.sameNow,JL,fnd];by_cases E:k=q
    ·subst E;simp[(MapKept.bytes_beq k k).2 rfl]
    have:(k == q)=false:=by
     cases J:(k == q)with
     | false=>rfl
     | true=>exact OW ((MapKept.bytes_beq k q).1 J) E
    simp[E,this,I]
 simp[Instr.findKey,run_underlying G,key ks es 0 h]
theorem zY {e:Nat}(V:P.underlying kt=some (.array 2 e))(I:P.underlying e=some (.int .i64))(E:(P.info? e).map (·.size)=some 1)(w:O1)(p q:Int×Int):
  (Op.equal kt (Jk p) (Jk q)).run P w=.ok (decide (p=q)) w:=by
 obtain⟨a,b⟩:=p;obtain⟨c,d⟩:=q;cases hi:P.info? e with
 | none=>simp[hi]at E
 | some ie =>
  simp[hi]at E;have J:∀w,(isAgg e).run P w=.ok false w:=λw=>by simp[isAgg,run_underlying I]
  have G:∀(x y:Int) (w:O1),(part e #[oF oG x,oF oG y] 0).run P w=.ok (oF oG x) w:=λx y w=>by simp[part,J]
  have O:∀(x y:Int) (w:O1),(part e #[oF oG x,oF oG y] 1).run P w=.ok (oF oG y) w:=λx y w=>by simp[part,J]
  have H:∀(m:Nat) (x y:Int) (w:O1),(Op.equalIn (m+1) e (oF oG x) (oF oG y)).run P w=.ok (x == y) w:=λm x y w=>by simp[Op.equalIn,run_underlying I]
  simp only[Op.equal,Op.maxDepth,Jk];unfold Op.equalIn;simp only[Sem.run_bind,run_underlying V,Result.andThen_ok,sizeOf,typeInfo,run_program,hi,Sem.run_pure,E];simp only[Std.Legacy.Range.forIn_eq_forIn_range',Std.Legacy.Range.size,OI,Nat.add_sub_cancel,Nat.div_one,OB,List.range'_zero,List.forIn_cons,List.forIn_nil,OQ,Nat.one_mul,oZ];by_cases S:a=c
  ·subst S;by_cases T:b=d
   ·subst T;simp[G,O,H]
   simp[G,O,H,T]
  simp[G,H,S]
theorem QiZ {e:Nat}(E:P.underlying kt=some (.array 2 e))(H:P.underlying e=some (.int .i64))(G:(P.info? e).map (·.size)=some 1):Key P kt Jk:=by
 refine⟨λw em k=>?_,λw k ks es h=>?_,λk=>?_⟩
 ·obtain⟨a,b⟩:=k;cases hi:P.info? e with
  | none=>simp[hi]at G
  | some ie =>
   simp[hi]at G;have J:∀w,(isAgg e).run P w=.ok false w:=λw=>by simp[isAgg,run_underlying H]
   have S:∀(x y:Int) (w:O1),(part e #[oF oG x,oF oG y] 0).run P w=.ok (oF oG x) w:=λx y w=>by simp[part,J]
   have T:∀(x y:Int) (w:O1),(part e #[oF oG x,oF oG y] 1).run P w=.ok (oF oG y) w:=λx y w=>by simp[part,J]
   have V:∀(m:Nat) (x:Int) (w:O1),(Instr.checkKey em (m+1) e (oF oG x)).run P w=.ok () w:=λm x w=>by simp[Instr.checkKey,run_underlying H]
   simp only[Jk];unfold Instr.checkKey;simp only[Sem.run_bind,run_underlying E,Result.andThen_ok,sizeOf,typeInfo];simp[Std.Legacy.Range.forIn_eq_forIn_range',Std.Legacy.Range.size,OB,hi,G,S,T,V]
 ·have Y:∀es i,es.map (·.key)=ks.map Jk->Instr.findNow (.array 2 e) (Jk k) es i=none\/es=[]:=by
   intro es i h;cases es with
   | nil=>exact .inr U
   | cons e es=>left;simp[Instr.findNow,Instr.sameNow]
  have ask:∀(ks:xx) (es:List MapEntry) (i:Nat),es.map (·.key)=ks.map Jk->(Instr.findAsking kt (Jk k) es i).run P w=.ok (fnd k ks es i) w:=by
   intro ks;induction ks with
   | nil=>intro es i h;simp at h;subst h;simp[Instr.findAsking,fnd]
   | cons q ks ih =>
    intro es i h;cases es with
    | nil=>simp at h
    | cons e es =>
     simp only[oY,List.cons.injEq]at h;have ha:=ih es (i+1) h.2;simp only[Instr.findAsking,h.1,Sem.run_bind,zY E H G,Result.andThen_ok,fnd];by_cases O:k=q
     ·subst O;simp
     simp[O,ha]
  rcases Y es 0 h with I|I
  ·simp[Instr.findKey,run_underlying E,I,ask ks es 0 h]
  subst I;have:ks=[]:=by simpa using h.symm
  subst this;simp[Instr.findKey,run_underlying E,Instr.findNow,fnd]
 simp[Instr.sameBits]
class Mp (P:O4)(t:Nat)(kt et:outParam Nat)(z:outParam O2):Prop where
 u:P.underlying t=some (.map kt et)
 z:(P.info? et).map (·.zero)=some (some z)
def Ym {κ:Type}(enc:κ->O2)(H:xC)(b:Nat)(m:List (κ×O2)):Prop :=
 ∃es clock,H[b]?=some (.map es clock)/\es.toList.map (λe=>(e.key,e.val))=m.map (λp=>(enc p.1,p.2))
section
variable {κ:Type}{enc:κ->O2}
theorem Ym.lt {m:List (κ×O2)}(h:Ym enc H b m):b<H.size:=by
 obtain⟨es,c,E,_⟩:=h;exact(LK.1 E).1
theorem Ym.J {X:LN}{m:List (κ×O2)}(h:Ym enc w.heap b m)(E:O5 X w w')(G:b∉X):Ym enc w'.heap b m:=by
 have hl:=h.lt;obtain⟨es,c,H,I⟩:=h;exact⟨es,c,by rw[E.block b hl G];exact H,I⟩
theorem Ym.I {m:List (κ×O2)}(h:Ym enc w.heap b m)(E:O5 [] w w'):Ym enc w'.heap b m:=h.J E oe
theorem QaW {m:List (κ×O2)}{es:List MapEntry}(h:es.map (λe=>(e.key,e.val))=m.map (λp=>(enc p.1,p.2))):es.map (·.key)=(m.map (·.1)).map enc:=by
 have:=OV (List.map Prod.fst) h;simp only[List.map_map]at this ⊢;exact this
variable [DecidableEq κ]
theorem UK {k:κ}:∀{m:List (κ×O2)}{es:List MapEntry}{i:Nat},es.map (λe=>(e.key,e.val))=m.map (λp=>(enc p.1,p.2))->xd m k=none->fnd k (m.map (·.1)) es i=none
 | [],es,i,h,_=>by simp[fnd]
 | (q,u)::m,[],i,h,_=>by simp at h
 | (q,u)::m,e::es,i,h,E=>by
  simp only[oY,List.cons.injEq]at h;simp only[xd]at E;by_cases G:q=k
  ·simp[G]at E
  simp only[G,if_false]at E;simp only[oY,fnd,Ne.symm G,if_false];exact UK h.2 E
theorem UJ {k:κ}{u:O2}:∀{m:List (κ×O2)}{es:List MapEntry}{i:Nat},es.map (λe=>(e.key,e.val))=m.map (λp=>(enc p.1,p.2))->xd m k=some u ->
  ∃j,fnd k (m.map (·.1)) es i=some (i+j,u)/\j<es.length/\(∃e,es[j]?=some e/\e.key=enc k) /\
   ∀v,(es.modify j λe=>{ e with key:=enc k,val:=v }).map (λe=>(e.key,e.val))=(xh m k v).map (λp=>(enc p.1,p.2))
 | [],es,i,_,h=>by simp[xd]at h
 | (q,x)::m,[],i,h,_=>by simp at h
 | (q,x)::m,e::es,i,h,E=>by
  simp only[oY,List.cons.injEq,Prod.mk.injEq]at h;simp only[xd]at E;by_cases G:q=k
  ·subst G;simp at E;subst E;refine⟨0,by simp[fnd,h.1.2],oe,⟨e,rfl,h.1.1⟩,λv=>?_⟩;simp[xh,h.2]
  simp only[G,if_false]at E;obtain⟨j,H,T,⟨I,J,O⟩,S⟩:=UJ (i:=i+1) h.2 E;refine⟨j+1,?_,by simp;omega,⟨I,oz J,O⟩,λv=>?_⟩
  ·simp only[oY,fnd,Ne.symm G,if_false,H];congr 2;omega
  simp only[xh,G,if_false,List.modify_succ_cons,oY,S v,h.1]
end
section
variable {K:Fr->O1->Prop}{f:Fr}{pS:String}{κ:Type}[DecidableEq κ]
omit [DecidableEq κ] in
theorem YE (enc:κ->O2)
  (hK:∀b w',O5 [] w w'->w.heap.size<=b->Ym enc w'.heap b []->K (QW f d (.map (some b))) w'):XO P ⟨d,.makeMap t none,ty,pS,af,gd⟩ f w K:=by
 have E:(execOp (ev f) ⟨d,.makeMap t none,ty,pS,af,gd⟩).run P w=.ok (.value (.map (some w.heap.size))) (w.alloc (.map #[] 0)):=by
  simp[execOp,Instr.makeMap]
 exact xv E (hK _ _ (O5.alloc w _) (Lx _) ⟨#[],0,Ki w _,U⟩)
theorem X8 {es:Array MapEntry}{c:Nat}(h:w.heap[b]?=some (.map es c)):(getObj b).run P w=.ok (.map es c) w:=by
 simp[getObj,Sem.run,h]
theorem VR {es E:Array MapEntry}{c:Nat}(h:w.heap[b]?=some (.map es c)):(setObj b (.map E G)).run P w=.ok () { w with heap:=w.heap.setIfInBounds b (.map E G) }:=by
 simp[setObj,Sem.run,h]
theorem K9 [hm:Mp P t kt et z]{enc:κ->O2}[G:Key P kt enc]{x:O3}{m:List (κ×O2)}{k:κ}(h:Ym enc w.heap b m)(hx:ev f x=.map (some b))(I:ev f y=enc k):
  (execOp (ev f) ⟨d,.lookup t x y true,ty,pS,af,gd⟩).run P w=.ok (.value (match xd m k with|some u=>.tuple #[u,.bool true]|none=>.tuple #[z,.bool false])) w:=by
 obtain⟨es,c,J,E⟩:=h;have O:=G.find w k (m.map (·.1)) es.toList (QaW E);have S:(zeroValue et).run P w=.ok z w:=by
  have:=hm.z;cases hi:P.info? et with
  | none=>simp[hi]at this
  | some i=>simp[hi]at this;simp[zeroValue,typeInfo,hi,this]
 simp only[execOp,Sem.run_bind,Instr.lookup,run_underlying hm.u,Result.andThen_ok,hx,I,X8 J,Sem.run_pure,G.check,O];cases H:xd m k with
 | none=>rw[UK E H];simp[S]
 | some u =>
  obtain⟨j,T,_⟩:=UJ (i:=0) E H;rw[T];simp
theorem JA [hm:Mp P t kt et z]{enc:κ->O2}[G:Key P kt enc]{x:O3}{m:List (κ×O2)}{k:κ}(h:Ym enc w.heap b m)(hx:ev f x=.map (some b))(I:ev f y=enc k):
  (execOp (ev f) ⟨d,.lookup t x y false,ty,pS,af,gd⟩).run P w=.ok (.value (match xd m k with|some u=>u|none=>z)) w:=by
 obtain⟨es,c,J,E⟩:=h;have O:=G.find w k (m.map (·.1)) es.toList (QaW E);have S:(zeroValue et).run P w=.ok z w:=by
  have:=hm.z;cases hi:P.info? et with
  | none=>simp[hi]at this
  | some i=>simp[hi]at this;simp[zeroValue,typeInfo,hi,this]
 simp only[execOp,Sem.run_bind,Instr.lookup,run_underlying hm.u,Result.andThen_ok,hx,I,X8 J,Sem.run_pure,G.check,O];cases H:xd m k with
 | none=>rw[UK E H];simp[S]
 | some u =>
  obtain⟨j,T,_⟩:=UJ (i:=0) E H;rw[T];simp
theorem zX [hm:Mp P t kt et z]{enc:κ->O2}[I:Key P kt enc]{m:List (κ×O2)}{k:κ}{u:O2}(h:Ym enc w.heap b m):
  ∃w',(Instr.mapUpdate t (.map (some b)) (enc k) u).run P w=.ok () w'/\O5 [b] w w'/\Ym enc w'.heap b (xh m k u):=by
 have hl:=h.lt;obtain⟨es,c,J,G⟩:=h;have E:=I.find w k (m.map (·.1)) es.toList (QaW G);have stp:∀S T,O5 [b] w { w with heap:=w.heap.setIfInBounds b (.map S T) }:=λS T =>
  ⟨rfl,rfl,rfl,oe,λi hi V=>by
   have:b≠i:=λe=>V (by simp[e]);simp[Array.getElem?_setIfInBounds_ne this]⟩
 cases H:xd m k with
 | none =>
  rw[UK G H]at E;refine⟨_,?_,stp (es.push { key:=enc k,val:=u,born:=c }) (c+1),es.push { key:=enc k,val:=u,born:=c },c+1,?_,?_⟩
  ·simp only[Instr.mapUpdate,Sem.run_bind,run_underlying hm.u,Result.andThen_ok,X8 J,I.check,E,VR J]
  ·simp[hl]
  have Y:xh m k u=m++[(k,u)]:=by
   clear G E;induction m with
   | nil=>rfl
   | cons p m ih =>
    obtain⟨q,x⟩:=p;by_cases O:q=k
    ·simp[xd,O]at H
    simp only[xd,O,if_false]at H;simp[xh,O,ih H]
  simp[Y,G]
 | some u0 =>
  obtain⟨j,hj,ho,⟨e,he,ha⟩,hb⟩:=UJ (i:=0) G H;rw[hj]at E;simp only[oZ]at E;have hc:∀w,(Instr.keyThatStays (enc k) (enc k)).run P w=.ok (enc k) w:=λw=>by simp[Instr.keyThatStays,I.same]
  have hh:((es[j]?).map (·.key)).getD (enc k)=enc k:=by
   have:es[j]?=some e:=by simpa using he
   simp[this,ha]
  refine⟨_,?_,stp (es.modify j λe=>{ e with key:=enc k,val:=u }) c,es.modify j λe=>{ e with key:=enc k,val:=u },c,?_,?_⟩
  ·simp only[Instr.mapUpdate,Sem.run_bind,run_underlying hm.u,Result.andThen_ok,X8 J,I.check,E,hh,hc,VR J]
  ·simp[hl]
  rw[Array.toList_modify];exact hb u
theorem XI [hm:Mp P t kt et z]{enc:κ->O2}[hk:Key P kt enc]{x v:O3}{m:List (κ×O2)}{k:κ}(h:Ym enc w.heap b m)(hx:ev f x=.map (some b))(E:ev f y=enc k)
  (hK:∀w',O5 [b] w w'->Ym enc w'.heap b (xh m k (ev f v))->K (QW f d undef) w'):XO P ⟨d,.mapUpdate t x y v,ty,pS,af,gd⟩ f w K:=by
 obtain⟨w',G,H,I⟩:=zX (P:=P) (t:=t) (k:=k) (u:=ev f v) h;exact xk (w':=w') (by simp[execOp,hx,E,G]) (hK w' H I)
theorem Jb [hm:Mp P t kt et z]{enc:κ->O2}[hk:Key P kt enc]{x v:O3}{m:List (κ×O2)}{k:κ}(h:Ym enc w.heap b m)(hx:ev f x=.map (some b))(E:ev f y=enc k)
  (hK:∀w',O5 [b] w w'->Ym enc w'.heap b (xh m k (ev f v))->K (QW f d undef) w'):XO P ⟨d,.insert t x y v,ty,pS,af,gd⟩ f w K:=by
 obtain⟨w',G,H,I⟩:=zX (P:=P) (t:=t) (k:=k) (u:=ev f v) h;exact xk (w':=w') (by simp[execOp,hx,E,G]) (hK w' H I)
end
section
def eqV:O2->O2->Bool
 | .int _ a,.int _ b=>a == b
 | .string a,.string b=>a == b
 | .bool a,.bool b=>a == b
 | _,_=>false
def tvB:LN->LV->LV->Bool
 | [],[],[]=>true
 | 0::ks,oF oG _::xs,oF oG _::ys=>tvB ks xs ys
 | 1::ks,.string _::xs,.string _::ys=>tvB ks xs ys
 | 2::ks,.bool _::xs,.bool _::ys=>tvB ks xs ys
 | _,_,_=>false
def Vh:LV->LV->Bool
 | x::xs,y::ys=>eqV x y && Vh xs ys
 | _,_=>true
inductive Fks (P:O4):Nat->List Field->LN->Prop
 | nil {o:Nat}:Fks P o [] []
 | int {o:Nat} {f:Field} {fs:List Field} {ks:LN} (hn:f.name ≠ "_") (ho:f.offset=o) (hu:P.underlying f.type=some (.int .i64)) (h:Fks P (o+1) fs ks):Fks P o (f::fs) (0::ks)
 | str {o:Nat} {f:Field} {fs:List Field} {ks:LN} (hn:f.name ≠ "_") (ho:f.offset=o) (hu:P.underlying f.type=some .string) (h:Fks P (o+1) fs ks):Fks P o (f::fs) (1::ks)
 | flag {o:Nat} {f:Field} {fs:List Field} {ks:LN} (hn:f.name ≠ "_") (ho:f.offset=o) (hu:P.underlying f.type=some .bool) (h:Fks P (o+1) fs ks):Fks P o (f::fs) (2::ks)
theorem zu {k:Nat}{v:O2}{l:LV}(h:∀w,(isAgg t).run P w=.ok false w)(E:l[k]?=some v)(w:O1):(part t l.toArray k).run P w=.ok v w:=by
 have e:l.toArray[k]?=some v:=by simpa using E
 simp[part,h w,e]
theorem yN {d:Nat}{f:Field}{fs:List Field}{x y:O2}{xs ys X Y:LV}(I:f.name ≠ "_") (J:f.offset=o) (E:∀w,(isAgg f.type).run P w=.ok false w) (O:∀m w,(Op.equalIn (m+1) f.type x y).run P w=.ok (eqV x y) w)
  (G:X.drop o=x::xs) (H:Y.drop o=y::ys) (ih:X.drop (o+1)=xs->Y.drop (o+1)=ys->∀w,(Op.eqFields (d+1) X.toArray Y.toArray fs).run P w=.ok (Vh xs ys) w) (w:O1):
  (Op.eqFields (d+1) X.toArray Y.toArray (f::fs)).run P w=.ok (Vh (x::xs) (y::ys)) w:=by
 have hx:X[o]?=some x:=by rw[<-List.head?_drop,G];rfl
 have S:Y[o]?=some y:=by rw[<-List.head?_drop,H];rfl
 have T:X.drop (o+1)=xs:=by rw[<-List.tail_drop,G];rfl
 have V:Y.drop (o+1)=ys:=by rw[<-List.tail_drop,H];rfl
 simp only[Op.eqFields,I,ne_eq,not_false_eq_true,if_true,Sem.run_bind,J,zu E hx,zu E S,O,Result.andThen_ok,Sem.run_ite,Vh];cases hv:eqV x y with
 | false=>simp
 | true=>simpa using ih T V w
theorem Fks.run {d:Nat}{o:Nat}{fs:List Field}{ks:LN}(h:Fks P o fs ks):∀{xs ys X Y:LV},tvB ks xs ys=true->X.drop o=xs->Y.drop o=ys->∀w,(Op.eqFields (d+1) X.toArray Y.toArray fs).run P w=.ok (Vh xs ys) w:=by
 induction h with
 | nil =>
  intro xs ys X Y E _ _ w;cases xs with
  | nil=>simp[Op.eqFields,Vh]
  | cons x xs=>cases ys <;> simp[tvB]at E
 | @int o f fs ks H I G h ih =>
  intro xs ys X Y E J O w
  match xs,ys,E with
  | oF oG a::xs,oF oG b::ys,E=>exact yN H I (λw=>by simp[isAgg,run_underlying G]) (λm w=>by simp[Op.equalIn,run_underlying G,eqV]) J O (λS T=>ih E S T) w
 | @str o f fs ks H I G h ih =>
  intro xs ys X Y E J O w
  match xs,ys,E with
  | .string a::xs,.string b::ys,E=>exact yN H I (λw=>by simp[isAgg,run_underlying G]) (λm w=>by simp[Op.equalIn,run_underlying G,eqV]) J O (λS T=>ih E S T) w
 | @flag o f fs ks H I G h ih =>
  intro xs ys X Y E J O w
  match xs,ys,E with
  | .bool a::xs,.bool b::ys,E=>exact yN H I (λw=>by simp[isAgg,run_underlying G]) (λm w=>by simp[Op.equalIn,run_underlying G,eqV]) J O (λS T=>ih E S T) w
class Sk (P:O4)(t:Nat)(ks:outParam (LN)):Prop where
 u:∃fs:List Field,P.underlying t=some (.struct fs.toArray)/\Fks P 0 fs ks
 s:P.stoodInHeld t=false
 g:P.eqGuardType P.depth t=false
theorem Kz {ks:LN}[h:Sk P t ks]{xs ys:LV}(I:tvB ks xs ys=true)(w:O1):(Op.equal t (.agg xs.toArray) (.agg ys.toArray)).run P w=.ok (Vh xs ys) w:=by
 obtain⟨fs,E,J⟩:=h.u;have G:P.fieldsOf t=fs.toArray:=by unfold Program.fieldsOf;rw[E]
 have O:P.underlying t=some (.struct (P.fieldsOf t)):=by rw[G];exact E
 have H:=run_equalIn_struct (P:=P) w 9999 t xs.toArray ys.toArray O h.s;rw[G]at H;exact H.D (J.run (d:=9998) I U U w)
variable {f:Fr}{pS:String}
theorem Qik {ks:LN}[h:Sk P t ks]{x:O3}{xs ys:LV}(G:tvB ks xs ys=true)(hx:ev f x=.agg xs.toArray)(H:ev f y=.agg ys.toArray):
  (execOp (ev f) ⟨d,.binOp .eql t x y E,ty,pS,af,gd⟩).run P w=.ok (.value (.bool (Vh xs ys))) w:=by
 have I:(eqGuard .eql t x y (.agg xs.toArray) (.agg ys.toArray)).run P w=.ok () w:=by simp[eqGuard,h.g]
 simp only[execOp,hx,H,Sem.run_bind,I,Result.andThen_ok,binOp,Kz G,Sem.run_pure]
theorem Uu {ks:LN}[h:Sk P t ks]{x:O3}{xs ys:LV}(G:tvB ks xs ys=true)(hx:ev f x=.agg xs.toArray)(H:ev f y=.agg ys.toArray):
  (execOp (ev f) ⟨d,.binOp .neq t x y E,ty,pS,af,gd⟩).run P w=.ok (.value (.bool (!Vh xs ys))) w:=by
 have I:(eqGuard .neq t x y (.agg xs.toArray) (.agg ys.toArray)).run P w=.ok () w:=by simp[eqGuard,h.g]
 simp only[execOp,hx,H,Sem.run_bind,I,Result.andThen_ok,binOp,Kz G,Sem.run_pure]
end
abbrev kKy (k:Int×ByteArray):O2:=.agg #[oF oG k.1,.string k.2]
theorem Ql4 (k k':Int×ByteArray):Vh [oF oG k.1,.string k.2] [oF oG k'.1,.string k'.2]=decide (k=k'):=by
 obtain⟨a,b⟩:=k;obtain⟨c,e⟩:=k';have E:(b == e)=decide (b=e):=by
  cases E:(b == e)with
  | true=>exact(OX ((MapKept.bytes_beq b e).1 E)).symm
  | false=>exact(OZ λh=>by rw[(MapKept.bytes_beq b e).2 h]at E;cases E).symm
 simp only[Vh,eqV,E,Bool.and_true,Prod.mk.injEq];by_cases G:a=c
 ·subst G;simp
 simp[G]
theorem QoA {f0 f1:Field}[h:Sk P kt [0,1]](G:P.underlying kt=some (.struct #[f0,f1]))(T:f0.name ≠ "_") (n1:f1.name ≠ "_") (V:f0.offset=0) (o1:f1.offset=1) (H:P.underlying f0.type=some (.int .i64)) (I:P.underlying f1.type=some .string):Key P kt kKy:=by
 have Y:∀w,(isAgg f0.type).run P w=.ok false w:=λw=>by simp[isAgg,run_underlying H]
 have ha:∀w,(isAgg f1.type).run P w=.ok false w:=λw=>by simp[isAgg,run_underlying I]
 refine⟨λw em k=>?_,λw k ks es J=>?_,λk=>?_⟩
 ·obtain⟨a,b⟩:=k;have p0:∀w,(part f0.type #[oF oG a,.string b] 0).run P w=.ok (oF oG a) w:=λw=>zu (l:=[oF oG a,.string b]) (k:=0) Y U w;have p1:∀w,(part f1.type #[oF oG a,.string b] 1).run P w=.ok (.string b) w:=λw=>zu (l:=[oF oG a,.string b]) (k:=1) ha U w;have c0:∀(m:Nat) (w:O1),(Instr.checkKey em (m+1) f0.type (oF oG a)).run P w=.ok () w:=λm w=>by simp[Instr.checkKey,run_underlying H]
  have c1:∀(m:Nat) (w:O1),(Instr.checkKey em (m+1) f1.type (.string b)).run P w=.ok () w:=λm w=>by simp[Instr.checkKey,run_underlying I]
  simp only[kKy];unfold Instr.checkKey;simp only[Sem.run_bind,run_underlying G,Result.andThen_ok];simp[T,n1,V,o1,p0,p1,c0,c1]
 ·have ask:∀(ks:List (Int×ByteArray)) (es:List MapEntry) (i:Nat),es.map (·.key)=ks.map kKy->(Instr.findAsking kt (kKy k) es i).run P w=.ok (fnd k ks es i) w:=by
   intro ks;induction ks with
   | nil=>intro es i h;simp at h;subst h;simp[Instr.findAsking,fnd]
   | cons q ks ih =>
    intro es i E;cases es with
    | nil=>simp at E
    | cons e es =>
     simp only[oY,List.cons.injEq]at E;have hb:=ih es (i+1) E.2;have O:=Kz (P:=P) (t:=kt) (xs:=[oF oG k.1,.string k.2]) (ys:=[oF oG q.1,.string q.2]) U w;rw[Ql4]at O;have hc:(Op.equal kt (kKy k) (kKy q)).run P w=.ok (decide (k=q)) w:=O;simp only[Instr.findAsking,E.1,Sem.run_bind,hc,Result.andThen_ok,fnd];by_cases S:k=q
     ·subst S;simp
     simp[S,hb]
  cases es with
  | nil =>
   have:ks=[]:=by simpa using J.symm
   subst this;simp[Instr.findKey,run_underlying G,Instr.findNow,fnd]
  | cons e es =>
   have hn:Instr.findNow (.struct #[f0,f1]) (kKy k) (e::es) 0=none:=by simp[Instr.findNow,Instr.sameNow]
   simp only[Instr.findKey,Sem.run_bind,run_underlying G,Result.andThen_ok,hn];exact ask ks (e::es) 0 J
 simp[Instr.sameBits,(MapKept.bytes_beq k.2 k.2).2 rfl]
section
variable {K:Fr->O1->Prop}{f:Fr}{pS:String}{l:xE}
theorem X2 {cs cs':LV}(h:Q7 w.heap b T cs):Q7 (w.setRow b cs'.toArray).heap b T cs':=setRow_heap w b cs.toArray cs'.toArray T (0,0) h
theorem jh (cs:LV)(j:Nat)(u:O2)(h:j<cs.length):cs.take j++[u]++cs.drop (j+1)=cs.set j u:=by
 rw[List.set_eq_take_append_cons_drop,OU h];simp
theorem QB [h1:Ja P t]{x:O3}{cs:LV}{u:O2}(E:Q7 w.heap b T cs)(hx:ev f x=.pointer (some ⟨b,j,none⟩))(J:ev f y=u)(O:j<cs.length)(G:u.oneCell'=true)
  (hK:∀w',O5 [b] w w'->Q7 w'.heap b T (cs.set j u)->K (QW f d undef) w'):XO P ⟨d,.store t x y,ty,pS,af,gd⟩ f w K:=by
 have S:u.cells=#[u]:=by cases u <;> first|rfl|cases G
 have I:=run_storeCells_at P b j T [u] 0 cs.toArray w E (by simp;omega) (by simp[G]);simp only[OC,oO,jh cs j u O]at I;refine xk (w':=w.setRow b (cs.set j u).toArray) ?_ (hK _ (O5.setRow _ _ _) (X2 E));simp[execOp,hx,J,Instr.storeAt,Instr.sureAddr,storeVar,Qdo,S,I]
def Zm:LV->Prop
 | []=>True
 | u::us=>u.oneCell'=true/\Zm us
theorem Zm.all:∀{us:LV},Zm us->∀u∈us,u.oneCell'=true
 | [],_,u,E=>by cases E
 | v::us,h,u,E=>by
  rcases Li.1 E with rfl|E
  ·exact h.1
  exact Zm.all h.2 u E
theorem Qj [h1:Ag P t sz]{x:O3}{cs us:LV}(E:Q7 w.heap b T cs)(hx:ev f x=.pointer (some ⟨b,0,none⟩))(I:ev f y=.agg us.toArray)(hl:us.length=sz)(J:cs.length=sz)(O:Zm us)
  (hK:∀w',O5 [b] w w'->Q7 w'.heap b T us->K (QW f d undef) w'):XO P ⟨d,.store t x y,ty,pS,af,gd⟩ f w K:=by
 have G:=run_storeCells_at P b 0 T us 0 cs.toArray w E (by simp;omega) O.all;have e:(cs.take 0++us++cs.drop us.length)=us:=by rw[hl,<-J];simp
 simp only[OC,oZ,e]at G;refine xk (w':=w.setRow b us.toArray) ?_ (hK _ (O5.setRow _ _ _) (X2 E));subst hl;simp[execOp,hx,I,Instr.storeAt,Instr.sureAddr,storeVar,U4 (sz:=us.length),Value.cells,G]
theorem Zw {x:O3}{e bys:Nat}[h:Sl P t e sz bys z]{c:Nat}{k:IntKind}(hx:ev f x=.slice (some ⟨b,o,none⟩) n c)(E:ev f y=.int k i)(G:i<n):
  (execOp (ev f) ⟨d,.indexAddr t x y,ty,pS,af,gd⟩).run P w=.ok (.value (.pointer (some ⟨b,o+i*sz,none⟩))) w:=by
 have:=Xq (P:=P) (w:=w) (d:=d) (ty:=ty) (pS:=pS) (af:=af) (gd:=gd) (t:=t) hx E oa oa;rw[Kp]at this;simpa using this
theorem QlP {e bys:Nat}[h:Sl P t e sz bys z]{x:O3}{k:IntKind}(hx:ev f x=.int k n)(J:ev f y=.int k' n)(O:bys*n<=281474976710656)(hn:n<=1099511627776)
  (hK:∀b w',O5 [] w w'->w.heap.size<=b->Q7 w'.heap b e (oN n z.cells.toList).flatten->K (QW f d (.slice (some ⟨b,0,none⟩) n n)) w'):
  XO P ⟨d,.makeSlice t x y,ty,pS,af,gd⟩ f w K:=by
 obtain⟨i,hi,S,T,V⟩:=Sl.info h;have hb:i.bytes*n<=281474976710656:=by rw[V];exact O
 have Y:(i.bytes:Int)*(n:Int)<=281474976710656:=by
  have h:((i.bytes*n:Nat):Int)<=281474976710656:=oa
  rwa [Int.natCast_mul]at h
 have G:=run_make (P:=P) w t e i z h.u hi S k k' n n oa (NM _) Y oa;simp only[On]at G;have ha:madeCells z.cells (n*i.size)=(oN n z.cells.toList).flatten.toArray:=by
  have hc:z.cells.size=i.size:=by rw[h.zs,T]
  apply Array.ext';apply Na;intro j;simp only[madeCells,<-hc,Array.toList_map,Array.toList_range,List.getElem?_map];have he:∀n,(oN n z.cells.toList).flatten.length=n*z.cells.size:=λn=>oe
  have key:∀n j,j<n*z.cells.size->(oN n z.cells.toList).flatten[j]?=some z.cells[j % z.cells.size]!:=by
   intro n;induction n with
   | zero=>intro j E;omega
   | succ n ih =>
    intro j E;rw[List.replicate_succ,List.flatten_cons];by_cases I:j<z.cells.size
    ·rw[Mh (oz I),Nh I];simp[I]
    rw[MI (by simp;omega)];have:=ih (j - z.cells.size) (by rw[Mu]at E;omega);rw[Array.length_toList,this];rw[<-Nat.mod_eq_sub_mod oa]
  by_cases E:j<n*z.cells.size
  ·rw[key n j E];simp[E]
  rw[MU (oz (OJ E)),List.getElem?_eq_none (by rw[he];omega)];rfl
 rw[ha]at G;refine xv (w':=w.alloc (.cells (oN n z.cells.toList).flatten.toArray e)) (v:=.slice (some ⟨w.heap.size,0,none⟩) n n) ?_ (hK _ _ (O5.alloc w _) (Lx _) (Ki w _));simp[execOp,hx,J,G]
theorem qe {e bys:Nat}[h:Sl P t e sz bys z]{x:O3}{k:IntKind}(hx:ev f x=.int k n)(G:ev f y=.int k' n)(E:n<=1099511627776)
  (hK:∀b w',O5 [] w w'->w.heap.size<=b->Q7 w'.heap b e (oN n z.cells.toList).flatten->K (QW f d (.slice (some ⟨b,0,none⟩) n n)) w') (I:bys<=128:=by decide):
  XO P ⟨d,.makeSlice t x y,ty,pS,af,gd⟩ f w K:=QlP hx G (LP (Nat.mul_le_mul I E) oa) E hK
theorem ZK {k:IntKind}{y:Nat}{c:BoundsCode}(h:i<=y):(Instr.sliceBound (.int k i) y c).run P w=.ok i w:=by
 simp[Instr.sliceBound,asIntOf,h]
theorem Zp.cut {L:LN}{a:Addr}{cs:LV}(h:Zp L H (.slice (some a) n cap) n sz cs)(S:lo<=hi)(T:hi<=n):
  Zp L H (.slice (if cap=lo then some a else some (a.add (lo*sz))) (hi - lo) (cap - lo)) (hi - lo) sz ((cs.drop (lo*sz)).take ((hi - lo)*sz)):=by
 obtain⟨J,V,O⟩:=h;rcases O with⟨G,_⟩|⟨a',cap',G,Y,I⟩
 ·cases G
 cases G
 refine⟨?_,oa,.inr ?_⟩
 ·simp only[Oa,o6,J,<-Nat.sub_mul];rw[Mn];exact L3 _ oa
 split
 ·rename_i hc;have:hi - lo=0:=oa
  refine⟨a,cap - lo,by rw[this],oa,λu E=>?_,λu E=>?_,λj u E=>?_⟩
  ·simp[this]at E
  ·simp[this]at E
  simp[this]at E
 refine⟨a.add (lo*sz),cap - lo,U,oa,λu E=>by rw[YG];exact I.out u (Ma (LY E)),λu E=>by rw[YG];exact I.lt u (Ma (LY E)),λj u E=>?_⟩;rw[Addr.add_add];rw[LW]at E;split at E
 ·exact I.cell _ u (oz E)
 cases E
theorem QlG {e bys:Nat}[h:Sl P t e sz bys z]{x y1 y2:O3}{L:LN}{v:O2}{cs:LV}{k:IntKind}(G:Zp L H v n sz cs)(hx:ev f x=v)(hl:ev f y1=.int k lo)(I:ev f y2=.int k' hi)
  (O:lo<=hi) (S:hi<=n):∃v',Zp L H v' (hi - lo) sz ((cs.drop (lo*sz)).take ((hi - lo)*sz))/\∀w,(execOp (ev f) ⟨d,.slice t x (some y1) (some y2) none,ty,pS,af,gd⟩).run P w=.ok (.value v') w:=by
 obtain⟨i,J,_,T,_⟩:=Sl.info h;rcases G.2.2 with⟨E,V⟩|⟨a,cap,E,Y,ha⟩
 ·have e1:hi=0:=oa
  have e2:lo=0:=oa
  subst e1 e2;refine⟨nS,⟨oe,oa,.inl ⟨rfl,rfl⟩⟩,λw=>?_⟩;simp[execOp,hx,E,hl,I,Instr.sliceAt,Instr.slice,run_underlying h.u,Instr.sliceBounds,Instr.sliceBound,asIntOf,sizeOf,typeInfo,J]
 subst E;refine⟨_,G.cut O S,λw=>?_⟩;have e1:(Instr.sliceBound (.int k' hi) cap .sliceAcap).run P w=.ok hi w:=ZK oa;have e2:(Instr.sliceBound (.int k lo) hi .sliceB).run P w=.ok lo w:=ZK oa;simp[execOp,hx,hl,I,Instr.sliceAt,Instr.slice,run_underlying h.u,Instr.sliceBounds,e1,e2,sizeOf,typeInfo,J,T]
theorem QbU {e bys:Nat}[h:Sl P t e sz bys z]{x y1:O3}{L:LN}{v:O2}{cs:LV}{k:IntKind}(E:Zp L H v n sz cs)(hx:ev f x=v)(hl:ev f y1=.int k lo)
  (I:lo<=n):∃v',Zp L H v' (n - lo) sz (cs.drop (lo*sz))/\∀w,(execOp (ev f) ⟨d,.slice t x (some y1) none none,ty,pS,af,gd⟩).run P w=.ok (.value v') w:=by
 obtain⟨i,J,_,S,_⟩:=Sl.info h;rcases E.2.2 with⟨G,T⟩|⟨a,cap,G,V,Y⟩
 ·have e2:lo=0:=oa
  subst e2 T;have:cs=[]:=Lq (oz E.1);subst this;refine⟨nS,⟨oe,oa,.inl ⟨rfl,rfl⟩⟩,λw=>?_⟩;simp[execOp,hx,G,hl,Instr.sliceAt,Instr.slice,run_underlying h.u,Instr.sliceBounds,Instr.sliceBound,asIntOf,sizeOf,typeInfo,J]
 subst G;have O:=E.cut I (Lx n);have e:(cs.drop (lo*sz)).take ((n - lo)*sz)=cs.drop (lo*sz):=Lt (by rw[LU,E.1,<-Nat.sub_mul];exact Lx _);rw[e]at O;refine⟨_,O,λw=>?_⟩;have e2:(Instr.sliceBound (.int k lo) n .sliceB).run P w=.ok lo w:=ZK I;simp[execOp,hx,hl,Instr.sliceAt,Instr.slice,run_underlying h.u,Instr.sliceBounds,e2,sizeOf,typeInfo,J,S]
theorem QbV {e bys:Nat}[h:Sl P t e sz bys z]{x y2:O3}{L:LN}{v:O2}{cs:LV}{k:IntKind}(G:Zp L H v n sz cs)(hx:ev f x=v)(I:ev f y2=.int k hi)
  (S:hi<=n):∃v',Zp L H v' hi sz (cs.take (hi*sz))/\∀w,(execOp (ev f) ⟨d,.slice t x none (some y2) none,ty,pS,af,gd⟩).run P w=.ok (.value v') w:=by
 obtain⟨i,J,_,T,_⟩:=Sl.info h;rcases G.2.2 with⟨E,V⟩|⟨a,cap,E,Y,ha⟩
 ·have e2:hi=0:=oa
  subst e2;refine⟨nS,⟨oe,oa,.inl ⟨rfl,rfl⟩⟩,λw=>?_⟩;simp[execOp,hx,E,I,Instr.sliceAt,Instr.slice,run_underlying h.u,Instr.sliceBounds,Instr.sliceBound,asIntOf,sizeOf,typeInfo,J]
 subst E;have O:=G.cut (Ln hi) S;simp only[OQ,List.drop_zero,OI]at O;refine⟨_,O,λw=>?_⟩;have e2:(Instr.sliceBound (.int k hi) cap .sliceAcap).run P w=.ok hi w:=ZK oa;simp[execOp,hx,I,Instr.sliceAt,Instr.slice,run_underlying h.u,Instr.sliceBounds,e2,sizeOf,typeInfo,J]
end
section
variable {K:Fr->O1->Prop}{C:xA}{f:Fr}{w0:O1}{pS:String}{pl:xu}{i0:Nat}
theorem pi {x:O3}{e bys:Nat}[Sl P t e sz bys z]{L:LN}{cs:LV}{v:O2}{k:IntKind}
  (E:QU ops i0=⟨d,.indexAddr t x y,ty,pS,af,gd⟩) (h:Zp L H v n sz cs) (G:ev f x=v) (I:ev f y=.int k i) (hi:i<n)
  (hK:∀a,At L H a ((cs.drop (i*sz)).take sz)->XP P ops C K pl (QW f d (.pointer (some a))) w) (J:Yd ops f (QU ops i0)=true:=by rfl):
  XP P ops C K ((i0,true)::pl) f w:=by
 obtain⟨a,cap,O,S⟩:=h.at hi;refine Lg.p (λw'=>by rw[E];exact Xq (G.D O) I oa oa) ?_ J;rw[E];refine hK _ ?_;simpa using S
theorem pii {x:O3}{e bys:Nat}[Sl P t e 1 bys z]{L:LN}{li:LI}{v:O2}{k:IntKind}
  (E:QU ops i0=⟨d,.indexAddr t x y,ty,pS,af,gd⟩) (h:QR L H v li) (G:ev f x=v) (I:ev f y=.int k i) (hi:i<li.length)
  (hK:∀a,At L H a [oF oG li[i]]->XP P ops C K pl (QW f d (.pointer (some a))) w) (J:Yd ops f (QU ops i0)=true:=by rfl):
  XP P ops C K ((i0,true)::pl) f w:=by
 obtain⟨a,cap,O,S⟩:=QR.at h hi;refine Lg.p (λw'=>by rw[E];exact Xq (G.D O) I oa oa) ?_ J;rw[E];refine hK _ ?_;simpa using S
end
abbrev Ed:=Int×Int×Int
def QE (e:Ed):LV:=[oF oG e.1,oF oG e.2.1,oF oG e.2.2]
abbrev zm (L:LN)(H:xC)(v:O2)(es:List Ed):Prop:=Zp L H v es.length 3 (es.flatMap QE)
theorem XM {α:Type}(g:α->LV)(sz:Nat)(E:∀x,(g x).length=sz):∀(l:List α) (i:Nat) (h:i<l.length),((l.flatMap g).drop (i*sz)).take sz=g l[i]
 | x::l,0,_=>by simp[E]
 | x::l,i+1,h=>by
  have:=XM g sz E l i (oz h);simp only[Oe,List.getElem_cons_succ];rw[<-this,Mu,NT,Nj,List.drop_append,E];simp[Nat.add_sub_cancel_left,List.drop_eq_nil_of_le,E]
theorem Y8 (g:α->LV)(sz:Nat)(E:∀x,(g x).length=sz)(l:List α):(l.flatMap g).length=l.length*sz:=by
 induction l with
 | nil=>simp
 | cons x l ih=>simp[ih,E,Oq,Nat.add_comm]
theorem J5 (e:Ed):(QE e).length=3:=rfl
structure Q0 where
 al:LI
 st:Int
 mr:LI
 ed:List Ed
structure ZG (L:LN)(H:xC)(va vm ve:O2)(a:Q0):Prop where
 al:QR L H va a.al
 mr:QR L H vm a.mr
 ed:zm L H ve a.ed
def QrV (L:LN)(H:xC)(v:O2)(a:Q0):Prop:=∃va vm ve,v=.agg #[va,oF oG a.st,vm,ve]/\ZG L H va vm ve a
theorem ZG.I {L:LN}{w w':O1}{va vm ve:O2}{a:Q0}(h:ZG L w.heap va vm ve a)(E:O5 [] w w'):ZG L w'.heap va vm ve a:=⟨h.al.I E,h.mr.I E,h.ed.I E⟩
theorem ZG.st {L:LN}{w w':O1}{va vm ve:O2}{a:Q0}(h:ZG L w.heap va vm ve a)(E:O5 L w w'):ZG L w'.heap va vm ve a:=⟨h.al.st E,h.mr.st E,h.ed.st E⟩
theorem ZG.up {L L':LN}{H:xC}{va vm ve:O2}{a:Q0}(h:ZG L H va vm ve a)(E:∀b∈L',b∈L\/H.size<=b):ZG L' H va vm ve a:=⟨h.al.up E,h.mr.up E,h.ed.up E⟩
section
variable {f:Fr}{pS:String}
class Ik (P:O4)(t:Nat)(k:outParam IntKind):Prop where
 u:P.underlying t=some (.int k)
theorem Yc {k:IntKind}[h:Ik P t k][h':Ik P E k']{x:O3}{n:Int}{G:IntKind}(hx:ev f x=.int G n)(I:inK k' n):
  (execOp (ev f) ⟨d,.convert t E x,ty,pS,af,gd⟩).run P w=.ok (.value (.int k' n)) w:=by
 simp[execOp,hx,convert,run_underlying h.u,run_underlying h'.u,Conv.intToInt,YL I]
class St (P:O4)(t:Nat):Prop where
 u:P.underlying t=some .string
end
theorem Zf {l:List α}{k:Nat}(h:k<l.length):l.drop k=l[k]::l.drop (k+1):=LF h
theorem zm.at {L:LN}{H:xC}{v:O2}{es:List Ed}(h:zm L H v es){i:Nat}(hi:i<es.length):
  ∃a cap,v=.slice (some a) es.length cap/\At L H (a.add (i*3)) (QE es[i]):=by
 obtain⟨a,cap,G,E⟩:=Zp.at h hi;rw[XM QE 3 J5 es i hi]at E;exact⟨a,cap,G,E⟩
section
variable {K:Fr->O1->Prop}{f:Fr}{pS:String}{l:xE}{C:xA}{pl:xu}{i0:Nat}
theorem xie {x:O3}{e bys:Nat}[Sl P t e 3 bys z]{L:LN}{es:List Ed}{v:O2}{k:IntKind}
  (h:zm L w.heap v es) (E:ev f x=v) (G:ev f y=.int k i) (hi:i<es.length)
  (hK:∀a,At L w.heap a (QE es[i])->XL P ops K l (QW f d (.pointer (some a))) w) (I:Yd ops f ⟨d,.indexAddr t x y,ty,pS,af,gd⟩=true:=by rfl):
  XL P ops K (⟨d,.indexAddr t x y,ty,pS,af,gd⟩::l) f w:=by
 obtain⟨a,cap,J,O⟩:=zm.at h hi;refine xl I (xv (Xq (E.D J) G oa oa) (hK _ ?_));simpa using O
theorem pie {x:O3}{e bys:Nat}[Sl P t e 3 bys z]{L:LN}{es:List Ed}{v:O2}{k:IntKind}
  (E:QU ops i0=⟨d,.indexAddr t x y,ty,pS,af,gd⟩) (h:zm L H v es) (G:ev f x=v) (I:ev f y=.int k i) (hi:i<es.length)
  (hK:∀a,At L H a (QE es[i])->XP P ops C K pl (QW f d (.pointer (some a))) w) (J:Yd ops f (QU ops i0)=true:=by rfl):
  XP P ops C K ((i0,true)::pl) f w:=by
 obtain⟨a,cap,O,S⟩:=zm.at h hi;refine Lg.p (λw'=>by rw[E];exact Xq (G.D O) I oa oa) ?_ J;rw[E];refine hK _ ?_;simpa using S
end
section
variable {f:Fr}{pS:String}
theorem jJ {x:O3}{k:IntKind}{a:Int}(hx:ev f x=.int k a)(G:ev f y=.int k' n)(I:n<=k.bits):
  (execOp (ev f) ⟨d,.binOp .shr t x y E,ty,pS,af,gd⟩).run P w=.ok (.value (.int k (a / 2 ^ n))) w:=by
 refine Jj hx G ?_;have J:¬((n:Int)<0):=oa
 simp only[binOp,Op.shift,J,if_false,On,Nat.min_eq_left I,Sem.run_pure];rw[Int.fdiv_eq_ediv_of_nonneg _ (Int.le_of_lt (Int.pow_pos og))]
class S3 (P:O4)(t:Nat):Prop where
 u:∃f0 f1 f2,P.underlying t=some (.struct #[f0,f1,f2])/\f0.name ≠ "_" /\ f1.name ≠ "_" /\ f2.name ≠ "_" /\ f0.offset=0/\f1.offset=1/\f2.offset=2 /\
  P.underlying f0.type=some (.int .i64)/\P.underlying f1.type=some (.int .i64)/\P.underlying f2.type=some (.int .i64)
 s:P.stoodInHeld t=false
 g:P.eqGuardType P.depth t=false
theorem Us [h:S3 P t](w:O1)(p q:Ed):(Op.equal t (.agg (QE p).toArray) (.agg (QE q).toArray)).run P w=.ok (decide (p=q)) w:=by
 obtain⟨a,b,c⟩:=p;obtain⟨a',V,Y⟩:=q;obtain⟨f0,f1,f2,hu,O,n1,n2,S,o1,o2,I,J,u2⟩:=h.u;have ha:∀e w,P.underlying e=some (.int .i64)->(isAgg e).run P w=.ok false w:=λe w E=>by simp[isAgg,run_underlying E]
 have T:∀e (x y z:Int) (w:O1),P.underlying e=some (.int .i64)->(part e #[oF oG x,oF oG y,oF oG z] 0).run P w=.ok (oF oG x) w:=λe x y z w E=>by simp[part,ha e w E]
 have hb:∀e (x y z:Int) (w:O1),P.underlying e=some (.int .i64)->(part e #[oF oG x,oF oG y,oF oG z] 1).run P w=.ok (oF oG y) w:=λe x y z w E=>by simp[part,ha e w E]
 have hc:∀e (x y z:Int) (w:O1),P.underlying e=some (.int .i64)->(part e #[oF oG x,oF oG y,oF oG z] 2).run P w=.ok (oF oG z) w:=λe x y z w E=>by simp[part,ha e w E]
 have G:∀e (m:Nat) (x y:Int) (w:O1),P.underlying e=some (.int .i64)->(Op.equalIn (m+1) e (oF oG x) (oF oG y)).run P w=.ok (x == y) w:=λe m x y w E=>by simp[Op.equalIn,run_underlying E]
 have key:∀m,(Op.equalIn (m+2) t (.agg (QE (a,b,c)).toArray) (.agg (QE (a',V,Y)).toArray)).run P w=.ok (decide ((a,b,c)=(a',V,Y))) w:=by
  intro m;simp only[QE];unfold Op.equalIn;simp only[Sem.run_bind,run_underlying hu,Result.andThen_ok];by_cases e1:a=a'
  ·subst e1;by_cases e2:b=V
   ·subst e2;by_cases e3:c=Y
    ·subst e3;simp[h.s,O,n1,n2,S,o1,o2,T _ _ _ _ _ I,hb _ _ _ _ _ J,hc _ _ _ _ _ u2,G _ _ _ _ _ I,G _ _ _ _ _ J,G _ _ _ _ _ u2]
    simp[h.s,O,n1,n2,S,o1,o2,T _ _ _ _ _ I,hb _ _ _ _ _ J,hc _ _ _ _ _ u2,G _ _ _ _ _ I,G _ _ _ _ _ J,G _ _ _ _ _ u2,e3]
   simp[h.s,O,n1,S,o1,T _ _ _ _ _ I,hb _ _ _ _ _ J,G _ _ _ _ _ I,G _ _ _ _ _ J,e2]
  simp[h.s,O,S,T _ _ _ _ _ I,G _ _ _ _ _ I,e1]
 exact key 9998
theorem Uv [h:S3 P t]{x:O3}{p q:Ed}(hx:ev f x=.agg (QE p).toArray)(G:ev f y=.agg (QE q).toArray):
  (execOp (ev f) ⟨d,.binOp .neq t x y E,ty,pS,af,gd⟩).run P w=.ok (.value (.bool (decide (¬p=q)))) w:=by
 have I:(eqGuard .neq t x y (.agg (QE p).toArray) (.agg (QE q).toArray)).run P w=.ok () w:=by simp[eqGuard,h.g]
 simp only[execOp,hx,G,Sem.run_bind,I,Result.andThen_ok,binOp,Us,Sem.run_pure];by_cases e:p=q <;> simp[e]
end
theorem O5.O {L:LN}{w0:O1}(h:O5 L w0 w)(k:O5 [b] w w')(G:w0.heap.size<=b):O5 L w0 w':=h.then k (λc E=>.inr (by simp at E;omega))
section
variable {K:Fr->O1->Prop}{f:Fr}{pS:String}
theorem XD {e bys:Nat}[h:Sl P t e sz bys z]{x:O3}{a:Option Addr}{c:Nat}(hx:ev f x=.slice a n c)(G:ev f y=nS):
  (execOp (ev f) ⟨d,.binOp .eql t x y E,ty,pS,af,gd⟩).run P w=.ok (.value (.bool a.isNone)) w:=by
 have I:(eqGuard .eql t x y (.slice a n c) (nS)).run P w=.ok () w:=by simp[eqGuard]
 have key:∀m,(Op.equalIn (m+1) t (.slice a n c) (nS)).run P w=.ok a.isNone w:=by
  intro m;unfold Op.equalIn;cases a <;> simp[run_underlying h.u]
 have J:(Op.equal t (.slice a n c) (nS)).run P w=.ok a.isNone w:=key 9999;simp only[execOp,hx,G,Sem.run_bind,I,Result.andThen_ok,binOp,J,Sem.run_pure]
theorem X4 {e bys:Nat}[h:Sl P t e sz bys z]
  (hK:∀b w',O5 [] w w'->w.heap.size<=b->Q7 w'.heap b e []->K (QW f d (.slice (some ⟨b,0,none⟩) 0 0)) w'):XO P ⟨d,.buildSlice t 0 #[],ty,pS,af,gd⟩ f w K:=by
 obtain⟨ie,E,I,J,_⟩:=Sl.info h;have G:(execOp (ev f) ⟨d,.buildSlice t 0 #[],ty,pS,af,gd⟩).run P w=.ok (.value (.slice (some ⟨w.heap.size,0,none⟩) 0 0)) (w.alloc (.cells #[] e)):=by
  simp[execOp,Instr.buildSlice,run_underlying h.u,sizeOf,typeInfo,E,Instr.fill,newRow];have e0:Array.map (λ_=>(default:O2)) (Array.range 0)=#[]:=by apply Array.ext';simp
  rw[e0]
 exact xv G (hK _ _ (O5.alloc w _) (Lx _) (Ki w _))
end
abbrev Qu (e base:Nat)(w:O1)(v:O2)(l:LI):Prop:=w.ownsRow base e 1 v l.length (l.map (.int .i64))
theorem Qu.ints {e base:Nat}{v:O2}{l:LI}{L:LN}(h:Qu e base w v l)(E:l.length<=1099511627776)(G:∀b∈L,b<base):QR L w.heap v l :=
 QK h E (λb I hbL=>ov (Qi h b I).1 (G b hbL))
theorem Uz (l:LI):∀u∈l.map (Value.int .i64),u.oneCell'=true:=by
 intro u E;obtain⟨n,_,rfl⟩:=LC.1 E;rfl
section
variable {P:O4}{ops:xE}{K:Fr->O1->Prop}{f:Fr}{w:O1}{d:xF}{ty:Nat}{pS:String}{af:xD}{gd:xt}{l:xE}{C:xA}{pl:xu}{i0:Nat}
 {t e sz bys:Nat} {z:O2} {x y1 y2:O3} {L:LN} {v:O2} {n:Nat} {cs:LV} {H:xC} {k k':IntKind} {lo hi:Nat}
theorem Qoi [h:Sl P t e sz bys z](E:QU ops i0=⟨d,.slice t x (some y1) none none,ty,pS,af,gd⟩)(G:Zp L H v n sz cs)(hx:ev f x=v)(hl:ev f y1=.int k lo)(I:lo<=n)(hK:∀v',Zp L H v' (n - lo) sz (cs.drop (lo*sz))->XP P ops C K pl (QW f d v') w)
  (J:Yd ops f (QU ops i0)=true:=by rfl):XP P ops C K ((i0,true)::pl) f w:=by
 obtain⟨v',O,S⟩:=QbU (P:=P) (d:=d) (ty:=ty) (pS:=pS) (af:=af) (gd:=gd) (t:=t) G hx hl I;exact Lg.p (λw'=>by rw[E];exact S w') (by rw[E];exact hK v' O) J
theorem Qrb [h:Sl P t e sz bys z](E:Zp L H v n sz cs)(hx:ev f x=v)(hl:ev f y1=.int k lo)(G:lo<=n)(hK:∀v',Zp L H v' (n - lo) sz (cs.drop (lo*sz))->XL P ops K l (QW f d v') w)
  (I:Yd ops f ⟨d,.slice t x (some y1) none none,ty,pS,af,gd⟩=true:=by rfl):XL P ops K (⟨d,.slice t x (some y1) none none,ty,pS,af,gd⟩::l) f w:=by
 obtain⟨v',J,O⟩:=QbU (P:=P) (d:=d) (ty:=ty) (pS:=pS) (af:=af) (gd:=gd) (t:=t) E hx hl G;exact xl I (xv (O w) (hK v' J))
theorem Qrc [h:Sl P t e sz bys z](E:Zp L H v n sz cs)(hx:ev f x=v)(hl:ev f y1=.int k lo)(G:ev f y2=.int k' hi)(I:lo<=hi)(J:hi<=n)(hK:∀v',Zp L H v' (hi - lo) sz ((cs.drop (lo*sz)).take ((hi - lo)*sz))->XL P ops K l (QW f d v') w)
  (O:Yd ops f ⟨d,.slice t x (some y1) (some y2) none,ty,pS,af,gd⟩=true:=by rfl):XL P ops K (⟨d,.slice t x (some y1) (some y2) none,ty,pS,af,gd⟩::l) f w:=by
 obtain⟨v',S,T⟩:=QlG (P:=P) (d:=d) (ty:=ty) (pS:=pS) (af:=af) (gd:=gd) (t:=t) E hx hl G I J;exact xl O (xv (T w) (hK v' S))
theorem QnU [h:Sl P t e sz bys z](E:Zp L H v n sz cs)(hx:ev f x=v)(G:ev f y2=.int k hi)(I:hi<=n)(hK:∀v',Zp L H v' hi sz (cs.take (hi*sz))->XL P ops K l (QW f d v') w)
  (J:Yd ops f ⟨d,.slice t x none (some y2) none,ty,pS,af,gd⟩=true:=by rfl):XL P ops K (⟨d,.slice t x none (some y2) none,ty,pS,af,gd⟩::l) f w:=by
 obtain⟨v',O,S⟩:=QbV (P:=P) (d:=d) (ty:=ty) (pS:=pS) (af:=af) (gd:=gd) (t:=t) E hx G I;exact xl J (xv (S w) (hK v' O))
end
theorem QR.drop {L:LN}{H:xC}{v:O2}{l:LI}{lo:Nat}(h:Zp L H v (l.length - lo) 1 ((l.map (Value.int .i64)).drop (lo*1))):QR L H v (l.drop lo):=by
 rw[Nat.mul_one,<-List.map_drop]at h;have e:(l.drop lo).length=l.length - lo:=LU;unfold QR;rw[e];exact h
theorem Qu.snoc {e base:Nat}{v:O2}{l:LI}{n:Int}(h:w.ownsRow base e 1 v (l.length+1) (l.map (Value.int .i64)++[oF oG n])):Qu e base w v (l++[n]):=by
 unfold Qu;rw[Lk,Ls];exact h
def Dj (u v:O2):Prop:=∀b∈ob u,b∉ob v
theorem Dj.symm {u v:O2}(h:Dj u v):Dj v u:=λb E G=>h b G E
theorem Dj.nil (v:O2):Dj (nS) v:=λb E=>by simp[ob]at E
theorem Dj.nil' (v:O2):Dj v (nS):=(Dj.nil v).symm
theorem Dj.grow {u v:O2}(h:Dj u v)(I:∀b∈ob v',b∈ob v\/N<=b)(J:∀b∈ob u,b<N):Dj u v' :=
 λb E O=>by rcases I b O with G|G;exact h b E G;have:=J b E;omega
theorem Zb {base e:Nat}{v:O2}{cs:LV}(h:w.ownsRow base e sz v n cs):∀b∈ob v,b<w.heap.size:=λb E=>(Qi h b E).2
theorem QS {base e:Nat}{v:O2}{cs:LV}(h:w.ownsRow base e sz v n cs)(G:b<base):b∉ob v:=λE=>ou (Qi h b E).1
abbrev YJ (e base:Nat)(w:O1)(v:O2)(l:List Ed):Prop:=w.ownsRow base e 3 v l.length (l.flatMap QE)
theorem YJ.snoc {e base:Nat}{v:O2}{l:List Ed}{n:Ed}(h:w.ownsRow base e 3 v (l.length+1) (l.flatMap QE++QE n)):YJ e base w v (l++[n]):=by
 unfold YJ;rw[Lk,LA];simpa using h
theorem YJ.eds {e base:Nat}{v:O2}{l:List Ed}{L:LN}(h:YJ e base w v l)(E:l.length<=1099511627776)(G:∀b∈L,b<base):zm L w.heap v l :=
 QK h E (λb I hbL=>ov (Qi h b I).1 (G b hbL))
def Jw (N:Nat)(H:xC)(v:O2)(a:Q0):Prop:=∃va vm ve,v=.agg #[va,oF oG a.st,vm,ve]/\∀L:LN,(∀b∈L,b<N)->ZG L H va vm ve a
theorem Jw.v {N:Nat}{H:xC}{v:O2}{a:Q0}(h:Jw N H v a){L:LN}(E:∀b∈L,b<N):QrV L H v a:=let⟨va,vm,ve,G,I⟩:=h;⟨va,vm,ve,G,I L E⟩
theorem Jw.mono {v:O2}{a:Q0}(h:Jw N H v a)(hM:M<=N):Jw M H v a:=let⟨va,vm,ve,E,G⟩:=h;⟨va,vm,ve,E,λL I=>G L (λb J=>LX (I b J) hM)⟩
section
variable {K:Fr->O1->Prop}{f:Fr}{pS:String}
theorem zr [Ja P t]{x:O3}{l:LI}(h:Q7 w.heap b T (l.map (.int .i64)))(hx:ev f x=.pointer (some ⟨b,0+i*1,none⟩))(hi:i<l.length):
  (execOp (ev f) ⟨d,.load t x,ty,pS,af,gd⟩).run P w=.ok (.value (oF oG l[i])) w:=Qq h hx (by simp[hi])
theorem Kn [h1:Ja P t]{x:O3}{l:LI}{u:Int}(E:Q7 w.heap b T (l.map (.int .i64)))(hx:ev f x=.pointer (some ⟨b,0+i*1,none⟩))(G:ev f y=oF oG u)(hi:i<l.length)
  (hK:∀w',O5 [b] w w'->Q7 w'.heap b T ((l.set i u).map (.int .i64))->K (QW f d undef) w'):XO P ⟨d,.store t x y,ty,pS,af,gd⟩ f w K:=by
 refine QB E hx G (oz hi) rfl λw' I J=>hK w' I ?_;rw[NE];simpa using J
end
theorem QbT (n:Nat)(u:O2):(oN n [u]).flatten=oN n u:=by
 induction n with
 | zero=>rfl
 | succ n ih=>simp[List.replicate_succ,ih]
end Go.Lg
namespace Go.Proofs
open Go.Proofs.Tryz
open Go.Lg
instance:Sl prog 32 113 4 4 (.agg #[.int .u8 0,.int .u8 0,.int .u8 0,.int .u8 0]):=⟨underlying32,od,U,og⟩
instance:Sl prog 39 183 5 32 (.agg #[.string ByteArray.empty,.bool false,.bool false,.bool false,oF oG 0]):=⟨underlying39,od,U,og⟩
instance:Sl prog 40 71 5 96 (.agg #[.string ByteArray.empty,nS,oF oG 0,nS,nS]):=⟨underlying40,od,U,og⟩
instance:Sl prog 41 116 2 40 (.agg #[.string ByteArray.empty,nS]):=⟨underlying41,od,U,og⟩
instance:Sl prog 42 121 3 48 (.agg #[.string ByteArray.empty,nS,oF oG 0]):=⟨underlying42,od,U,og⟩
instance:Sl prog 51 75 2 24 (.agg #[oF oG 0,.string ByteArray.empty]):=⟨underlying51,od,U,og⟩
instance:Sl prog 56 3 1 8 (oF oG 0):=⟨underlying56,od,U,og⟩
instance:Sl prog 57 167 3 24 (.agg #[oF oG 0,oF oG 0,oF oG 0]):=⟨underlying57,od,U,og⟩
instance:Sl prog 60 143 2 24 (.agg #[.string ByteArray.empty,oF oG 0]):=⟨underlying60,od,U,og⟩
instance:Sl prog 61 145 2 24 (.agg #[.string ByteArray.empty,oF oG 0]):=⟨underlying61,od,U,og⟩
instance:Sl prog 69 65 10 168 (.agg #[.bool false,oF oG 0,.string ByteArray.empty,nS,oF oG 0,nS,nS,nS,nS,oF oG 0]):=⟨underlying69,od,U,og⟩
instance:Sl prog 86 241 4 32 (.agg #[oF oG 0,oF oG 0,oF oG 0,oF oG 0]):=⟨underlying86,od,U,og⟩
instance:Sl prog 101 53 3 72 (.agg #[nS,nS,nS]):=⟨underlying101,od,U,og⟩
instance:Sl prog 114 118 2 16 (.agg #[oF oG 0,oF oG 0]):=⟨underlying114,od,U,og⟩
instance:Sl prog 119 123 2 16 (.agg #[oF oG 0,oF oG 0]):=⟨underlying119,od,U,og⟩
instance:Sl prog 126 63 9 160 (.agg #[oF oG 0,.string ByteArray.empty,nS,oF oG 0,nS,nS,nS,nS,oF oG 0]):=⟨underlying126,od,U,og⟩
instance:Sl prog 131 149 15 304 (.agg #[oF oG 0,.string ByteArray.empty,oF oG 0,nS,oF oG 0,nS,nS,nS,nS,nS,nS,nS,nS,nS,nS]):=⟨underlying131,od,U,og⟩
instance:Sl prog 134 139 1 8 (.nilFunc):=⟨underlying134,od,U,og⟩
instance:Sl prog 168 59 4 80 (.agg #[nS,oF oG 0,nS,nS]):=⟨underlying168,od,U,og⟩
instance:Sl prog 174 56 1 24 (nS):=⟨underlying174,od,U,og⟩
instance:Sl prog 175 185 4 32 (.agg #[oF oG 0,oF oG 0,oF oG 0,oF oG 0]):=⟨underlying175,od,U,og⟩
instance:Sl prog 188 5 1 1 (.int .u8 0):=⟨underlying188,od,U,og⟩
instance:Sl prog 197 71 5 96 (.agg #[.string ByteArray.empty,nS,oF oG 0,nS,nS]):=⟨underlying197,od,U,og⟩
instance:Sl prog 213 219 3 40 (.agg #[oF oG 0,oF oG 0,nS]):=⟨underlying213,od,U,og⟩
instance:Sl prog 275 4 1 1 (.bool false):=⟨underlying275,od,U,og⟩
instance:Sl prog 302 306 3 24 (.agg #[oF oG 0,oF oG 0,.nilFunc]):=⟨underlying302,od,U,og⟩
instance:Sl prog 327 398 1 8 (.map none):=⟨underlying327,od,U,og⟩
instance:Sl prog 348 403 1 8 (.nilFunc):=⟨underlying348,od,U,og⟩
instance:Sl prog 376 375 2 32 (.agg #[nS,oF oG 0]):=⟨underlying376,od,U,og⟩
instance:Sl prog 415 414 2 32 (.agg #[nS,oF oG 0]):=⟨underlying415,od,U,og⟩
instance:Sl prog 429 57 1 24 (nS):=⟨underlying429,od,U,og⟩
instance:Zh prog 28 0 0:=⟨od⟩
instance:Zh prog 28 1 1:=⟨od⟩
instance:Zh prog 28 2 2:=⟨od⟩
instance:Zh prog 36 0 0:=⟨od⟩
instance:Zh prog 36 1 5:=⟨od⟩
instance:Zh prog 36 2 6:=⟨od⟩
instance:Zh prog 36 3 9:=⟨od⟩
instance:Zh prog 36 4 90:=⟨od⟩
instance:Zh prog 36 5 91:=⟨od⟩
instance:Zh prog 36 6 93:=⟨od⟩
instance:Zh prog 36 7 147:=⟨od⟩
instance:Zh prog 36 8 148:=⟨od⟩
instance:Zh prog 36 9 151:=⟨od⟩
instance:Zh prog 44 0 0:=⟨od⟩
instance:Zh prog 44 1 1:=⟨od⟩
instance:Zh prog 44 2 2:=⟨od⟩
instance:Zh prog 44 3 3:=⟨od⟩
instance:Zh prog 44 4 4:=⟨od⟩
instance:Zh prog 53 0 0:=⟨od⟩
instance:Zh prog 53 1 1:=⟨od⟩
instance:Zh prog 53 2 2:=⟨od⟩
instance:Zh prog 59 0 0:=⟨od⟩
instance:Zh prog 59 1 1:=⟨od⟩
instance:Zh prog 59 2 2:=⟨od⟩
instance:Zh prog 59 3 3:=⟨od⟩
instance:Zh prog 63 0 0:=⟨od⟩
instance:Zh prog 63 1 1:=⟨od⟩
instance:Zh prog 63 2 2:=⟨od⟩
instance:Zh prog 63 3 6:=⟨od⟩
instance:Zh prog 63 4 7:=⟨od⟩
instance:Zh prog 63 5 8:=⟨od⟩
instance:Zh prog 65 0 0:=⟨od⟩
instance:Zh prog 65 1 1:=⟨od⟩
instance:Zh prog 68 0 0:=⟨od⟩
instance:Zh prog 68 1 1:=⟨od⟩
instance:Zh prog 71 0 0:=⟨od⟩
instance:Zh prog 71 1 1:=⟨od⟩
instance:Zh prog 75 1 1:=⟨od⟩
instance:Zh prog 88 0 0:=⟨od⟩
instance:Zh prog 88 1 1:=⟨od⟩
instance:Zh prog 88 2 2:=⟨od⟩
instance:Zh prog 90 0 0:=⟨od⟩
instance:Zh prog 90 2 3:=⟨od⟩
instance:Zh prog 90 3 7:=⟨od⟩
instance:Zh prog 116 0 0:=⟨od⟩
instance:Zh prog 116 1 1:=⟨od⟩
instance:Zh prog 118 0 0:=⟨od⟩
instance:Zh prog 118 1 1:=⟨od⟩
instance:Zh prog 121 0 0:=⟨od⟩
instance:Zh prog 121 1 1:=⟨od⟩
instance:Zh prog 121 2 2:=⟨od⟩
instance:Zh prog 123 0 0:=⟨od⟩
instance:Zh prog 123 1 1:=⟨od⟩
instance:Zh prog 136 0 0:=⟨od⟩
instance:Zh prog 136 1 5:=⟨od⟩
instance:Zh prog 136 2 6:=⟨od⟩
instance:Zh prog 136 3 7:=⟨od⟩
instance:Zh prog 136 4 8:=⟨od⟩
instance:Zh prog 143 0 0:=⟨od⟩
instance:Zh prog 143 1 1:=⟨od⟩
instance:Zh prog 145 0 0:=⟨od⟩
instance:Zh prog 145 1 1:=⟨od⟩
instance:Zh prog 149 0 0:=⟨od⟩
instance:Zh prog 149 1 10:=⟨od⟩
instance:Zh prog 167 0 0:=⟨od⟩
instance:Zh prog 167 1 1:=⟨od⟩
instance:Zh prog 167 2 2:=⟨od⟩
instance:Zh prog 177 0 0:=⟨od⟩
instance:Zh prog 177 1 4:=⟨od⟩
instance:Zh prog 177 2 5:=⟨od⟩
instance:Zh prog 177 3 6:=⟨od⟩
instance:Zh prog 177 4 7:=⟨od⟩
instance:Zh prog 183 0 0:=⟨od⟩
instance:Zh prog 183 1 1:=⟨od⟩
instance:Zh prog 183 2 2:=⟨od⟩
instance:Zh prog 183 3 3:=⟨od⟩
instance:Zh prog 183 4 4:=⟨od⟩
instance:Zh prog 185 0 0:=⟨od⟩
instance:Zh prog 206 0 0:=⟨od⟩
instance:Zh prog 206 1 1:=⟨od⟩
instance:Zh prog 206 2 2:=⟨od⟩
instance:Zh prog 219 0 0:=⟨od⟩
instance:Zh prog 219 1 1:=⟨od⟩
instance:Zh prog 219 2 2:=⟨od⟩
instance:Zh prog 224 0 0:=⟨od⟩
instance:Zh prog 224 1 3:=⟨od⟩
instance:Zh prog 224 2 4:=⟨od⟩
instance:Zh prog 224 3 8:=⟨od⟩
instance:Zh prog 241 0 0:=⟨od⟩
instance:Zh prog 266 0 0:=⟨od⟩
instance:Zh prog 266 1 5:=⟨od⟩
instance:Zh prog 266 2 9:=⟨od⟩
instance:Zh prog 266 3 10:=⟨od⟩
instance:Zh prog 266 4 14:=⟨od⟩
instance:Zh prog 266 5 15:=⟨od⟩
instance:Zh prog 266 6 18:=⟨od⟩
instance:Zh prog 306 0 0:=⟨od⟩
instance:Zh prog 306 1 1:=⟨od⟩
instance:Zh prog 306 2 2:=⟨od⟩
instance:Zh prog 309 0 0:=⟨od⟩
instance:Zh prog 309 1 1:=⟨od⟩
instance:Zh prog 309 2 2:=⟨od⟩
instance:Zh prog 309 3 3:=⟨od⟩
instance:Zh prog 329 0 0:=⟨od⟩
instance:Zh prog 329 1 1:=⟨od⟩
instance:Zh prog 329 2 2:=⟨od⟩
instance:Zh prog 339 0 0:=⟨od⟩
instance:Zh prog 339 1 1:=⟨od⟩
instance:Zh prog 375 0 0:=⟨od⟩
instance:Zh prog 375 1 1:=⟨od⟩
instance:Zh prog 388 0 0:=⟨od⟩
instance:Zh prog 388 1 4:=⟨od⟩
instance:Zh prog 388 2 5:=⟨od⟩
instance:Zh prog 388 3 6:=⟨od⟩
instance:Zh prog 414 0 0:=⟨od⟩
instance:Zh prog 414 1 1:=⟨od⟩
instance:Ja prog 3:=⟨⟨_,underlying3,U⟩,od⟩
instance:Ja prog 4:=⟨⟨_,underlying4,U⟩,od⟩
instance:Ja prog 5:=⟨⟨_,underlying5,U⟩,od⟩
instance:Ja prog 9:=⟨⟨_,underlying9,U⟩,od⟩
instance:Ja prog 24:=⟨⟨_,underlying24,U⟩,od⟩
instance:Ja prog 32:=⟨⟨_,underlying32,U⟩,od⟩
instance:Ja prog 33:=⟨⟨_,underlying33,U⟩,od⟩
instance:Ja prog 39:=⟨⟨_,underlying39,U⟩,od⟩
instance:Ja prog 40:=⟨⟨_,underlying40,U⟩,od⟩
instance:Ja prog 41:=⟨⟨_,underlying41,U⟩,od⟩
instance:Ja prog 42:=⟨⟨_,underlying42,U⟩,od⟩
instance:Ja prog 47:=⟨⟨_,underlying47,U⟩,od⟩
instance:Ja prog 51:=⟨⟨_,underlying51,U⟩,od⟩
instance:Ja prog 56:=⟨⟨_,underlying56,U⟩,od⟩
instance:Ja prog 57:=⟨⟨_,underlying57,U⟩,od⟩
instance:Ja prog 60:=⟨⟨_,underlying60,U⟩,od⟩
instance:Ja prog 61:=⟨⟨_,underlying61,U⟩,od⟩
instance:Ja prog 86:=⟨⟨_,underlying86,U⟩,od⟩
instance:Ja prog 101:=⟨⟨_,underlying101,U⟩,od⟩
instance:Ja prog 114:=⟨⟨_,underlying114,U⟩,od⟩
instance:Ja prog 119:=⟨⟨_,underlying119,U⟩,od⟩
instance:Ja prog 131:=⟨⟨_,underlying131,U⟩,od⟩
instance:Ja prog 134:=⟨⟨_,underlying134,U⟩,od⟩
instance:Ja prog 139:=⟨⟨_,underlying139,U⟩,od⟩
instance:Ja prog 168:=⟨⟨_,underlying168,U⟩,od⟩
instance:Ja prog 174:=⟨⟨_,underlying174,U⟩,od⟩
instance:Ja prog 175:=⟨⟨_,underlying175,U⟩,od⟩
instance:Ja prog 188:=⟨⟨_,underlying188,U⟩,od⟩
instance:Ja prog 261:=⟨⟨_,underlying261,U⟩,od⟩
instance:Ja prog 264:=⟨⟨_,underlying264,U⟩,od⟩
instance:Ja prog 275:=⟨⟨_,underlying275,U⟩,od⟩
instance:Ja prog 304:=⟨⟨_,underlying304,U⟩,od⟩
instance:Ja prog 327:=⟨⟨_,underlying327,U⟩,od⟩
instance:Ja prog 337:=⟨⟨_,underlying337,U⟩,od⟩
instance:Ja prog 386:=⟨⟨_,underlying386,U⟩,od⟩
instance:Ja prog 398:=⟨⟨_,underlying398,U⟩,od⟩
instance:Ja prog 403:=⟨⟨_,underlying403,U⟩,od⟩
instance:Ag prog 23 5:=⟨⟨_,underlying23,U⟩,od⟩
instance:Ag prog 28 27:=⟨⟨_,underlying28,U⟩,od⟩
instance:Ag prog 36 152:=⟨⟨_,underlying36,U⟩,od⟩
instance:Ag prog 44 5:=⟨⟨_,underlying44,U⟩,od⟩
instance:Ag prog 53 3:=⟨⟨_,underlying53,U⟩,od⟩
instance:Ag prog 59 4:=⟨⟨_,underlying59,U⟩,od⟩
instance:Ag prog 63 9:=⟨⟨_,underlying63,U⟩,od⟩
instance:Ag prog 65 10:=⟨⟨_,underlying65,U⟩,od⟩
instance:Ag prog 71 5:=⟨⟨_,underlying71,U⟩,od⟩
instance:Ag prog 75 2:=⟨⟨_,underlying75,U⟩,od⟩
instance:Ag prog 88 3:=⟨⟨_,underlying88,U⟩,od⟩
instance:Ag prog 90 10:=⟨⟨_,underlying90,U⟩,od⟩
instance:Ag prog 113 4:=⟨⟨_,underlying113,U⟩,od⟩
instance:Ag prog 116 2:=⟨⟨_,underlying116,U⟩,od⟩
instance:Ag prog 118 2:=⟨⟨_,underlying118,U⟩,od⟩
instance:Ag prog 121 3:=⟨⟨_,underlying121,U⟩,od⟩
instance:Ag prog 123 2:=⟨⟨_,underlying123,U⟩,od⟩
instance:Ag prog 143 2:=⟨⟨_,underlying143,U⟩,od⟩
instance:Ag prog 145 2:=⟨⟨_,underlying145,U⟩,od⟩
instance:Ag prog 149 15:=⟨⟨_,underlying149,U⟩,od⟩
instance:Ag prog 167 3:=⟨⟨_,underlying167,U⟩,od⟩
instance:Ag prog 177 8:=⟨⟨_,underlying177,U⟩,od⟩
instance:Ag prog 183 5:=⟨⟨_,underlying183,U⟩,od⟩
instance:Ag prog 185 4:=⟨⟨_,underlying185,U⟩,od⟩
instance:Ag prog 206 3:=⟨⟨_,underlying206,U⟩,od⟩
instance:Ag prog 219 3:=⟨⟨_,underlying219,U⟩,od⟩
instance:Ag prog 224 9:=⟨⟨_,underlying224,U⟩,od⟩
instance:Ag prog 241 4:=⟨⟨_,underlying241,U⟩,od⟩
instance:Ag prog 306 3:=⟨⟨_,underlying306,U⟩,od⟩
instance:Ag prog 309 4:=⟨⟨_,underlying309,U⟩,od⟩
instance:Ag prog 329 3:=⟨⟨_,underlying329,U⟩,od⟩
instance:Ag prog 375 2:=⟨⟨_,underlying375,U⟩,od⟩
instance:Ag prog 414 2:=⟨⟨_,underlying414,U⟩,od⟩
instance:Ze prog 3 (oF oG 0):=⟨od⟩
instance:Ze prog 4 (.bool false):=⟨od⟩
instance:Ze prog 44 (.agg #[nS,nS,nS,nS,nS]):=⟨od⟩
instance:Ze prog 47 (oF oG 0):=⟨od⟩
instance:Ze prog 53 (.agg #[nS,nS,nS]):=⟨od⟩
instance:Ze prog 56 (nS):=⟨od⟩
instance:Ze prog 59 (.agg #[nS,oF oG 0,nS,nS]):=⟨od⟩
instance:Ze prog 63 (.agg #[oF oG 0,.string ByteArray.empty,nS,oF oG 0,nS,nS,nS,nS,oF oG 0]):=⟨od⟩
instance:Ze prog 65 (.agg #[.bool false,oF oG 0,.string ByteArray.empty,nS,oF oG 0,nS,nS,nS,nS,oF oG 0]):=⟨od⟩
instance:Ze prog 71 (.agg #[.string ByteArray.empty,nS,oF oG 0,nS,nS]):=⟨od⟩
instance:Ze prog 75 (.agg #[oF oG 0,.string ByteArray.empty]):=⟨od⟩
instance:Ze prog 88 (.agg #[nS,nS,nS]):=⟨od⟩
instance:Ze prog 90 (.agg #[oF oG 0,.string ByteArray.empty,oF oG 0,nS,oF oG 0,nS,nS,nS,nS,nS]):=⟨od⟩
instance:Ze prog 113 (.agg #[.int .u8 0,.int .u8 0,.int .u8 0,.int .u8 0]):=⟨od⟩
instance:Ze prog 116 (.agg #[.string ByteArray.empty,nS]):=⟨od⟩
instance:Ze prog 118 (.agg #[oF oG 0,oF oG 0]):=⟨od⟩
instance:Ze prog 121 (.agg #[.string ByteArray.empty,nS,oF oG 0]):=⟨od⟩
instance:Ze prog 123 (.agg #[oF oG 0,oF oG 0]):=⟨od⟩
instance:Ze prog 131 (nS):=⟨od⟩
instance:Ze prog 143 (.agg #[.string ByteArray.empty,oF oG 0]):=⟨od⟩
instance:Ze prog 145 (.agg #[.string ByteArray.empty,oF oG 0]):=⟨od⟩
instance:Ze prog 149 (.agg #[oF oG 0,.string ByteArray.empty,oF oG 0,nS,oF oG 0,nS,nS,nS,nS,nS,nS,nS,nS,nS,nS]):=⟨od⟩
instance:Ze prog 167 (.agg #[oF oG 0,oF oG 0,oF oG 0]):=⟨od⟩
instance:Ze prog 177 (.agg #[nS,oF oG 0,nS,nS,nS,nS,nS,nS]):=⟨od⟩
instance:Ze prog 183 (.agg #[.string ByteArray.empty,.bool false,.bool false,.bool false,oF oG 0]):=⟨od⟩
instance:Ze prog 185 (.agg #[oF oG 0,oF oG 0,oF oG 0,oF oG 0]):=⟨od⟩
instance:Ze prog 206 (.agg #[nS,nS,nS]):=⟨od⟩
instance:Ze prog 219 (.agg #[oF oG 0,oF oG 0,nS]):=⟨od⟩
instance:Ze prog 224 (.agg #[nS,nS,nS,oF oG 0,nS,oF oG 0,nS,nS,nS]):=⟨od⟩
instance:Ze prog 241 (.agg #[oF oG 0,oF oG 0,oF oG 0,oF oG 0]):=⟨od⟩
instance:Ze prog 306 (.agg #[oF oG 0,oF oG 0,.nilFunc]):=⟨od⟩
instance:Ze prog 309 (.agg #[nS,nS,nS,nS]):=⟨od⟩
instance:Ze prog 329 (.agg #[nS,nS,nS]):=⟨od⟩
instance:Ze prog 339 (.agg #[.pointer none,nS]):=⟨od⟩
instance:Ze prog 375 (.agg #[nS,oF oG 0]):=⟨od⟩
instance:Ze prog 414 (.agg #[nS,oF oG 0]):=⟨od⟩
instance:Bs prog 44 [nS,nS,nS,nS,nS] [0,1,2,3,4]:=⟨od,og⟩
instance:Bs prog 53 [nS,nS,nS] [0,1,2]:=⟨od,og⟩
instance:Bs prog 59 [nS,oF oG 0,nS,nS] [0,1,2,3]:=⟨od,og⟩
instance:Bs prog 68 [.int .u8 0,.int .u8 0,.int .u8 0] [0,1,2]:=⟨od,og⟩
instance:Bs prog 75 [oF oG 0,.string ByteArray.empty] [0,1]:=⟨od,og⟩
instance:Bs prog 88 [nS,nS,nS] [0,1,2]:=⟨od,og⟩
instance:Bs prog 116 [.string ByteArray.empty,nS] [0,1]:=⟨od,og⟩
instance:Bs prog 118 [oF oG 0,oF oG 0] [0,1]:=⟨od,og⟩
instance:Bs prog 121 [.string ByteArray.empty,nS,oF oG 0] [0,1,2]:=⟨od,og⟩
instance:Bs prog 123 [oF oG 0,oF oG 0] [0,1]:=⟨od,og⟩
instance:Bs prog 143 [.string ByteArray.empty,oF oG 0] [0,1]:=⟨od,og⟩
instance:Bs prog 145 [.string ByteArray.empty,oF oG 0] [0,1]:=⟨od,og⟩
instance:Bs prog 167 [oF oG 0,oF oG 0,oF oG 0] [0,1,2]:=⟨od,og⟩
instance:Bs prog 183 [.string ByteArray.empty,.bool false,.bool false,.bool false,oF oG 0] [0,1,2,3,4]:=⟨od,og⟩
instance:Bs prog 185 [oF oG 0,oF oG 0,oF oG 0,oF oG 0] [0,1,2,3]:=⟨od,og⟩
instance:Bs prog 206 [nS,nS,nS] [0,1,2]:=⟨od,og⟩
instance:Bs prog 219 [oF oG 0,oF oG 0,nS] [0,1,2]:=⟨od,og⟩
instance:Bs prog 241 [oF oG 0,oF oG 0,oF oG 0,oF oG 0] [0,1,2,3]:=⟨od,og⟩
instance:Bs prog 306 [oF oG 0,oF oG 0,.nilFunc] [0,1,2]:=⟨od,og⟩
instance:Bs prog 309 [nS,nS,nS,nS] [0,1,2,3]:=⟨od,og⟩
instance:Bs prog 329 [nS,nS,nS] [0,1,2]:=⟨od,og⟩
instance:Bs prog 375 [nS,oF oG 0] [0,1]:=⟨od,og⟩
instance:Bs prog 399 [oF oG 0,oF oG 0] [0,1]:=⟨od,og⟩
instance:Bs prog 414 [nS,oF oG 0] [0,1]:=⟨od,og⟩
instance:Ik prog 3 .i64:=⟨underlying3⟩
instance:Ik prog 5 .u8:=⟨underlying5⟩
instance:St prog 9:=⟨underlying9⟩
instance:Ik prog 21 .i32:=⟨underlying21⟩
instance:Ik prog 33 .i8:=⟨underlying33⟩
instance:Ik prog 285 .u64:=⟨underlying285⟩
instance:S3 prog 167:=⟨⟨_,_,_,underlying167,og,og,og,U,U,U,underlying3,underlying3,underlying3⟩,od,od⟩
instance:Mp prog 202 9 4 (.bool false):=⟨underlying202,od⟩
instance:Key prog 9 JL:=Ql5 underlying9
instance:Mp prog 216 75 149 (.agg #[oF oG 0,.string ByteArray.empty,oF oG 0,nS,oF oG 0,nS,nS,nS,nS,nS,nS,nS,nS,nS,nS]):=⟨underlying216,od⟩
instance:Mp prog 217 75 4 (.bool false):=⟨underlying217,od⟩
instance:Mp prog 264 9 3 (oF oG 0):=⟨underlying264,od⟩
instance:Mp prog 380 3 379 (.nilFunc):=⟨underlying380,od⟩
instance:Key prog 3 V6:=Ql6 underlying3
instance:Mp prog 386 3 56 (nS):=⟨underlying386,od⟩
instance:Mp prog 398 399 3 (oF oG 0):=⟨underlying398,od⟩
instance:Key prog 399 Jk:=QiZ underlying399 underlying3 od
instance:Mp prog 430 3 3 (oF oG 0):=⟨underlying430,od⟩
instance:Fu prog 38 f38:=YI func38
instance:Fu prog 41 f41:=YI func41
instance:Fu prog 43 f43:=YI func43
instance:Fu prog 48 f48:=YI func48
instance:Fu prog 51 f51:=YI func51
instance:Fu prog 70 f70:=YI func70
instance:Fu prog 74 f74:=YI func74
instance:Fu prog 76 f76:=YI func76
instance:Fu prog 77 f77:=YI func77
instance:Fu prog 80 f80:=YI func80
instance:Fu prog 81 f81:=YI func81
instance:Fu prog 86 f86:=YI func86
instance:Fu prog 96 f96:=YI func96
instance:Fu prog 105 f105:=YI func105
instance:Fu prog 107 f107:=YI func107
instance:Fu prog 112 f112:=YI func112
instance:Fu prog 113 f113:=YI func113
instance:Fu prog 114 f114:=YI func114
instance:Fu prog 115 f115:=YI func115
instance:Fu prog 116 f116:=YI func116
instance:Fu prog 118 f118:=YI func118
instance:Fu prog 119 f119:=YI func119
instance:Fu prog 122 f122:=YI func122
instance:Fu prog 124 f124:=YI func124
instance:Fu prog 125 f125:=YI func125
instance:Fu prog 126 f126:=YI func126
instance:Fu prog 127 f127:=YI func127
instance:Fu prog 128 f128:=YI func128
instance:Fu prog 142 f142:=YI func142
instance:Fu prog 146 f146:=YI func146
instance:Fu prog 147 f147:=YI func147
instance:Fu prog 149 f149:=YI func149
instance:Fu prog 150 f150:=YI func150
instance:Fu prog 151 f151:=YI func151
instance:Fu prog 152 f152:=YI func152
instance:Fu prog 153 f153:=YI func153
instance:Fu prog 154 f154:=YI func154
instance:Fu prog 155 f155:=YI func155
instance:Fu prog 156 f156:=YI func156
instance:Fu prog 157 f157:=YI func157
instance:Fu prog 158 f158:=YI func158
instance:Fu prog 159 f159:=YI func159
instance:Fu prog 160 f160:=YI func160
instance:Fu prog 166 f166:=YI func166
instance:Fu prog 167 f167:=YI func167
instance:Fu prog 168 f168:=YI func168
instance:Fu prog 176 f176:=YI func176
instance:Fu prog 177 f177:=YI func177
instance:Fu prog 178 f178:=YI func178
instance:Fu prog 187 f187:=YI func187
instance:Fu prog 188 f188:=YI func188
instance:Fu prog 189 f189:=YI func189
instance:Fu prog 193 f193:=YI func193
instance:Fu prog 196 f196:=YI func196
instance:Fu prog 197 f197:=YI func197
instance:Fu prog 220 f220:=YI func220
instance:Fu prog 223 f223:=YI func223
instance:Fu prog 224 f224:=YI func224
instance:Fu prog 225 f225:=YI func225
instance:Fu prog 226 f226:=YI func226
instance:Fu prog 227 f227:=YI func227
instance:Fu prog 228 f228:=YI func228
instance:Fu prog 229 f229:=YI func229
instance:Fu prog 230 f230:=YI func230
instance:Fu prog 232 f232:=YI func232
instance:Fu prog 237 f237:=YI func237
instance:Fu prog 250 f250:=YI func250
instance:Fu prog 255 f255:=YI func255
instance:Fu prog 256 f256:=YI func256
instance:Fu prog 259 f259:=YI func259
instance:Fu prog 262 f262:=YI func262
instance:Fu prog 263 f263:=YI func263
instance:Fu prog 272 f272:=YI func272
instance:Fu prog 295 f295:=YI func295
instance:Fu prog 296 f296:=YI func296
instance:Fu prog 297 f297:=YI func297
instance:Fu prog 298 f298:=YI func298
instance:Fu prog 310 f310:=YI func310
instance:Fu prog 332 f332:=YI func332
instance:Fu prog 333 f333:=YI func333
instance:Fu prog 334 f334:=YI func334
theorem mixed:prog.follows .mixedOrders=true:=od
theorem ZF {all:xE}{f:Fr}{Q:Exit->Fr->O1->Prop}(L:LN)(pl:xu)(h:XP prog all (O5 L w) (λf w=>Q .normal f w) pl f { w with drawn:=w.drawn+1 })(E:X0 n all=true:=by rfl)(G:yg all pl=true:=by kernel_rfl):W prog n (.region id all.toArray true) Q f w:=qH (O5 L w) pl mixed E G (O5.C _ _) h
end Go.Proofs
namespace Go.Lg
def xj (es:List Ed)(s e:Int):Int:=match es with
 | []=>-1
 | x::es=>if x.1=s/\x.2.1=e then x.2.2 else xj es s e
abbrev YW (l:LI):Prop:=l.Pairwise (·<·)
def jm:Option Int->Int->Bool
 | none,_=>false
 | some b,a=>decide (a<=b)
def J8 (n:Int):Option Int->LI->Int
 | _,[]=>0
 | pr,a::l=>if a<0\/n<=a then 2 else if jm pr a=true then 5 else J8 n (some a) l
def pv {α:Type}(l:List α)(k:Nat):Option α:=if k=0 then none else l[k - 1]?
theorem Vu {l:List α}{k:Nat}(h:k<l.length):pv l (k+1)=some l[k]:=by simp[pv,h]
def edO:Option Ed->Ed->Bool
 | none,_=>false
 | some y,a=>decide (a.1<y.1\/(a.1=y.1/\a.2.1<=y.2.1))
def ckE (al:LI)(st:Int):Option Ed->List Ed->Int
 | _,[]=>0
 | pr,a::l=>if a.1<0\/st<=a.1\/a.2.2<0\/st<=a.2.2 then 2 else if a.2.1∉al then 9 else if edO pr a=true then 5 else ckE al st (some a) l
def JD (a:Q0):Int :=
 if J8 32 none a.al≠0 then J8 32 none a.al else if a.st<0 then 2 else if 4096<a.st then 3 else if J8 a.st none a.mr≠0 then J8 a.st none a.mr else ckE a.al a.st none a.ed
def Jq:LI->LI->Bool
 | [],_=>false
 | _::_,[]=>true
 | a::_,b::_=>decide (a<=b)
def tl (c:Bool)(l:LI):LI:=bif c then l.tail else l
def hx (a b:LI):Int:=bif Jq b a then b.headD 0 else a.headD 0
def jl (keep:Bool->Bool->Bool):Nat->LI->LI->LI
 | 0,_,_=>[]
 | n+1,a,b=>if a=[]/\b=[]then[]else(bif keep (Jq a b) (Jq b a)then[hx a b]else[])++jl keep n (tl (Jq a b) a) (tl (Jq b a) b)
def mrg (keep:Bool->Bool->Bool)(a b:LI):LI:=jl keep (a.length+b.length) a b
theorem yB {a b:LI}(h:¬(a=[]/\b=[])):(tl (Jq a b) a).length+(tl (Jq b a) b).length<a.length+b.length:=by
 cases a with
 | nil=>cases b with
  | nil=>simp at h
  | cons y b=>simp[Jq,tl]
 | cons x a=>cases b with
  | nil=>simp[Jq,tl]
  | cons y b =>
   simp only[Jq,tl];by_cases E:x<=y <;> by_cases G:y<=x <;> simp[E,G] <;> omega
theorem jQ (keep:Bool->Bool->Bool):∀(n:Nat) (a b:LI),a.length+b.length<=n->jl keep n a b=mrg keep a b:=by
 have key:∀(n m:Nat) (a b:LI),a.length+b.length<=n->a.length+b.length<=m->jl keep n a b=jl keep m a b:=by
  intro n;induction n with
  | zero =>
   intro m a b E _;have G:a=[]:=Lq oa;have H:b=[]:=Lq oa;subst G H;cases m <;> simp[jl]
  | succ n ih =>
   intro m a b E I;by_cases h:a=[]/\b=[]
   ·obtain⟨rfl,rfl⟩:=h;cases m <;> simp[jl]
   have J:=yB h;cases m with
   | zero=>omega
   | succ m=>rw[jl,jl,OT h,OT h,ih m _ _ oa oa]
 intro n a b h;exact key n _ a b h (Lx _)
theorem KG (keep:Bool->Bool->Bool):mrg keep [] []=[]:=rfl
theorem Ko (keep:Bool->Bool->Bool){a b:LI}(h:¬(a=[]/\b=[])):
  mrg keep a b=(bif keep (Jq a b) (Jq b a)then[hx a b]else[])++mrg keep (tl (Jq a b) a) (tl (Jq b a) b):=by
 have E:=yB h;rw[<-jQ keep (a.length+b.length - 1+1) a b oa,jl,OT h,jQ keep _ _ _ oa]
theorem Qdx (keep:Bool->Bool->Bool):∀(n:Nat) (a b:LI),a.length+b.length<=n->(mrg keep a b).length<=a.length+b.length:=by
 intro n;induction n with
 | zero =>
  intro a b h;have E:a=[]:=Lq oa;have G:b=[]:=Lq oa;subst E G;simp[KG]
 | succ n ih =>
  intro a b H;by_cases h:a=[]/\b=[]
  ·obtain⟨rfl,rfl⟩:=h;simp[KG]
  have I:=yB h;rw[Ko keep h];have:=ih (tl (Jq a b) a) (tl (Jq b a) b) oa;cases keep (Jq a b) (Jq b a) <;> simp <;> omega
theorem QaQ (keep:Bool->Bool->Bool)(a b:LI):(mrg keep a b).length<=a.length+b.length:=Qdx keep _ a b (Lx _)
theorem QdT (q:α->Bool)(es:List α)(lo hi:Nat)(O:lo<=hi)(S:hi<=es.length)(H:∀m (E:m<es.length),m<lo->q es[m]=false)(I:∀m (E:m<es.length),lo<=m->m<hi->q es[m]=true)
  (J:∀m (E:m<es.length),hi<=m->q es[m]=false):(es.drop lo).take (hi - lo)=es.filter q:=by
 have e1:es=es.take lo++((es.drop lo).take (hi - lo)++es.drop hi):=by
  conv=>lhs;rw[<-MM lo es]
  congr 1;conv=>lhs;rw[<-MM (hi - lo) (es.drop lo)]
  rw[List.drop_drop];congr 2;omega
 have f1:(es.take lo).filter q=[]:=by
  rw[MT];intro a G;obtain⟨m,E,rfl⟩:=LG G;rw[Ly]at E;rw[Nl,H m oa oa];simp
 have f3:(es.drop hi).filter q=[]:=by
  rw[MT];intro a G;obtain⟨m,E,rfl⟩:=LG G;rw[LU]at E;rw[List.getElem_drop,J (hi+m) oa oa];simp
 have f2:((es.drop lo).take (hi - lo)).filter q=(es.drop lo).take (hi - lo):=by
  rw[Nr];intro a G;obtain⟨m,E,rfl⟩:=LG G;rw[Ly,LU]at E;rw[Nl,List.getElem_drop];exact I (lo+m) oa oa oa
 conv=>rhs;rw[e1]
 rw[L6,L6,f1,f2,f3];simp
def Z5 (es:List Ed)(s:Int):List Ed:=es.filter λe=>decide (e.1=s)
theorem Qjg {L:LN}{v:O2}{l:LI}(h:QR L w.heap v l)(n:Int):
  Q6 prog 75 [v,oF oG n] w λr w'=>w'=w/\∃i:Int,r=oF oG i/\(0<=i↔n∈l):=by
 have O:=h.le;refine Zo func75 ?_;refine Qc<|Qb<|Qd<|Qm<|QL h U<|Qa<|xe<|Qg<|QC (α:=Nat) [(4,5),(8,18)] (λk=>[(8,oF oG k)]) (λk w'=>w'=w/\k<=l.length/\(n∈l↔n∈l.drop k)) (λk=>l.length - k) ol 0 La ⟨U,Ln _,oe⟩ ?_;rintro k g S ⟨rfl,T,E⟩;refine Qc<|QY U U<|xe<|Qd<|QH U (λI=>?_) (λI=>?_)
 ·refine Qz<|Qc<|Qb<|Qk ⟨[oF oG (-1)],La,U,-1,U,?_⟩;rw[Lr oa]at E;simp[E]
 have H:k<l.length:=oa
 have hd:=Zf H;refine Qh<|Qd<|Qg<|Qm<|Qb<|Qm<|Qa<|Qa<|xii h U U H λV J=>x (QD J U)<|x (Q2 U U)<|xe<|QZ rfl (λG=>?_) (λG=>?_)
 ·refine Qm<|Qb<|Qk ⟨[oF oG k],La,U,k,U,?_⟩;have:n∈l:=by rw[E,hd,G];exact Lp
  simp[this]
 refine Qh<|Qv<|QP U U<|Qa<|xe<|⟨k+1,oa,La,U,oa,?_⟩;rw[E,hd,Li];exact⟨λh=>h.resolve_left G,.inr⟩
theorem Yl {L:LN}{v:O2}{l:LI}(h:QR L w.heap v l)(n:Int):
  Q6 prog 39 [v,oF oG n] w λr w'=>r=.bool (decide (n∈l))/\w'=w:=by
 refine Zo func39 ?_;refine Qc<|Qb<|Qm<|Qa<|QN<|(Qjg h n).mono ?_;rintro E G ⟨rfl,i,rfl,hi⟩;refine x (Yw U U)<|Qb<|Qk ⟨[.bool (decide (0<=i))],La,?_,U⟩;simp[tup,hi]
theorem VB {L L':LN}{v:O2}{l l':LI}(h:QR L w.heap v l)(E:QR L' w.heap v' l'):
  Q6 prog 107 [v,v'] w λr w'=>r=.bool (decide (l=l'))/\O5 [] w w':=by
 have hf:=h.le;refine Zo func107 ?_;refine Qc<|Qb<|Qd<|Qm<|QL h U<|Qa<|QL E U<|ZD U U<|xe<|QZ rfl (λO=>?_) (λO=>?_)
 ·refine Qc<|Qb<|Qk ⟨[.bool false],La,?_,O5.Z _ _⟩;have:l≠l':=λe=>O (by rw[e]);simp[tup,this]
 refine Qh<|Qd<|Qm<|QL h U<|Qa<|xe<|Qg<|QC (α:=Nat) [(4,5),(13,25)] (λk=>[(13,oF oG k)]) (λk w'=>O5 [] w w'/\k<=l.length/\(l=l'↔l.drop k=l'.drop k)) (λk=>l.length - k) ol 0 La ⟨O5.Z _ _,Ln _,oe⟩ ?_;rintro k g Y ⟨G,hk,H⟩
 replace h:=h.I G
 replace E:=E.I G;refine Qc<|QY U U<|xe<|Qd<|QH U (λha=>?_) (λha=>?_)
 ·refine Qz<|Qc<|Qb<|Qk ⟨[.bool true],La,?_,G⟩;rw[Lr oa,Lr oa]at H;simp[tup,H]
 have S:k<l.length:=oa
 have T:k<l'.length:=oa
 refine Qh<|Qd<|Qg<|Qm<|Qb<|Qd<|ZF [] (Xi 0 9 [])<|p QF<|p QF<|pii U h U U S λhg hb=>pq (λ_ I=>QD (hb.I I) U) <|
  p QF<|p QF<|pii U E U U T λhh he=>pq (λ_ I=>QD (he.I I) U)<|p (λ_=>XZ U U)<|pe ?_
 have V:=G.D (O5.C [] Y);refine QZ rfl (λJ=>?_) (λJ=>?_)
 ·refine Qc<|Qb<|Qk ⟨[.bool false],La,?_,V⟩;have:l≠l':=λe=>J (by simp[e]);simp[tup,this]
 refine Qh<|Qv<|QP U U<|Qa<|xe<|⟨k+1,oa,La,V,oa,?_⟩;have e:l[k]=l'[k]:=Lo.1 J;rw[H,Zf S,Zf T,e];exact⟨λh=>(List.cons.inj h).2,λh=>by rw[h]⟩
theorem QgI {L L':LN}{v:O2}{l l':List Ed}(h:zm L w.heap v l)(E:zm L' w.heap v' l'):
  Q6 prog 108 [v,v'] w λr w'=>r=.bool (decide (l=l'))/\O5 [] w w':=by
 have hf:=h.le;refine Zo func108 ?_;refine Qc<|Qb<|Qd<|Qm<|QL h U<|Qa<|QL E U<|ZD U U<|xe<|QZ rfl (λO=>?_) (λO=>?_)
 ·refine Qc<|Qb<|Qk ⟨[.bool false],La,?_,O5.Z _ _⟩;have:l≠l':=λe=>O (by rw[e]);simp[tup,this]
 refine Qh<|Qd<|Qm<|QL h U<|Qa<|xe<|Qg<|QC (α:=Nat) [(4,5),(13,25)] (λk=>[(13,oF oG k)]) (λk w'=>O5 [] w w'/\k<=l.length/\(l=l'↔l.drop k=l'.drop k)) (λk=>l.length - k) ol 0 La ⟨O5.Z _ _,Ln _,oe⟩ ?_;rintro k g Y ⟨G,hk,H⟩
 replace h:=h.I G
 replace E:=E.I G;refine Qc<|QY U U<|xe<|Qd<|QH U (λha=>?_) (λha=>?_)
 ·refine Qz<|Qc<|Qb<|Qk ⟨[.bool true],La,?_,G⟩;rw[Lr oa,Lr oa]at H;simp[tup,H]
 have S:k<l.length:=oa
 have T:k<l'.length:=oa
 refine Qh<|Qd<|Qg<|Qm<|Qb<|Qd<|ZF [] (Xi 0 9 [])<|p QF<|p QF<|pie U h U U S λhg hb=>pq (λ_ I=>Qw (hb.I I) U U) <|
  p QF<|p QF<|pie U E U U T λhh he=>pq (λ_ I=>Qw (he.I I) U U)<|p (λ_=>Uv U U)<|pe ?_
 have V:=G.D (O5.C [] Y);refine QZ rfl (λJ=>?_) (λJ=>?_)
 ·refine Qc<|Qb<|Qk ⟨[.bool false],La,?_,V⟩;have:l≠l':=λe=>J (by simp[e]);simp[tup,this]
 refine Qh<|Qv<|QP U U<|Qa<|xe<|⟨k+1,oa,La,V,oa,?_⟩;have e:l[k]=l'[k]:=Lo.1 J;rw[H,Zf S,Zf T,e];exact⟨λh=>(List.cons.inj h).2,λh=>by rw[h]⟩
theorem Qce (n:Int):Q6 prog 175 [oF oG n] w λr w'=>r=.bool false/\w'=w:=by
 refine Zo func175 ?_;refine Qc<|Qb<|Qm<|Qa<|ZD U U<|Qb<|Qk ⟨[.bool (decide (¬n=n))],La,by simp[tup],rfl⟩
theorem Qgv (n:Int):Q6 prog 248 [oF oG n] w λr w'=>r=.bool false/\w'=w:=by
 refine Zo func248 ?_;refine Qc<|Qb<|Qm<|Qa<|ZD U U<|Qb<|Qk ⟨[.bool (decide (¬n=n))],La,by simp[tup],rfl⟩
theorem QeW (m n:Int):Q6 prog 174 [oF oG m,oF oG n] w λr w'=>r=.bool (decide (m<n))/\w'=w:=by
 refine Zo func174 ?_;refine Qc<|Qb<|Qm<|QN<|(Qgv m).mono ?_;rintro E G ⟨rfl,rfl⟩;refine Qa<|Qr<|Qr<|Qr<|QJ U<|Qa<|Qa<|Qa<|QY U U<|QJ U<|Qb<|Qk ⟨[.bool (decide (m<n))],La,U,U⟩
theorem YW.get {l:LI}(h:YW l)(E:j<l.length)(G:i<j):l[i]<l[j]:=MR.1 h i j oa E G
theorem yX {L:LN}{v:O2}{l:LI}(h:QR L w.heap v l)(hi:YW l)(n:Int):
  Q6 prog 104 [v,oF oG n] w λr w'=>w'=w/\∃i:Int,r=.tuple #[oF oG i,.bool (decide (n∈l))]:=by
 have ht:=h.le;refine Zo func104 ?_;refine Qc<|x Ql<|Qb<|Qm<|QL h U<|Qb<|Qm<|x Ql<|Qb<|Qd<|Qg<|QC (α:=Nat×Nat) [(7,9),(13,30)] (λz=>[(7,oF oG z.1),(8,oF oG z.2)])
  (λz w'=>w'=w/\z.1<=z.2/\z.2<=l.length/\(∀m (E:m<l.length),m<z.1->l[m]<n)/\(∀m (E:m<l.length),z.2<=m->n<=l[m])) (λz=>z.2 - z.1) ol (0,l.length) oA
  ⟨U,Ln _,Lx _,λm _ J=>OW J (Nn m),λm h1 J=>OW h1 (by simp only[]at J;omega)⟩ ?_
 rintro⟨i,j⟩ g w1 ⟨rfl,hb,T,G,O⟩;simp only[]at hb T G O;refine Qd<|Qm<|Qa<|QY U U<|xe<|QH rfl (λhc=>?_) (λhc=>?_)
 ·have e:i=j:=oa
  subst e;refine Qz<|Q3 (α:=Bool) [(4,5),(31,53)] (λz=>[(4,oF oG i),(5,.bool z)]) (λz w'=>w'=w1/\z=decide (n∈l)) ol ?_ ?_
  ·refine Qv<|Qa<|Qa<|Qa<|xb (YR U U) (λhe=>?_) (λhe=>?_)
   ·have H:i<l.length:=oa
    refine Qa<|Qa<|Qa<|xii h U U H λhu hf=>x (QD hf U)<|Qa<|xb (Q2 U U) (λS=>?_) (λS=>?_)
    ·refine Qa<|Qr<|Qr<|Qr<|Qr<|Qr<|Qr<|Qr<|Qr<|Qr<|QJ U<|QJ U<|x Ql<|Qb ?_;have:n∈l:=by rw[<-S];exact Ll H
     exact⟨true,oA,U,by simp[this]⟩
    refine Qa<|Qa<|Qa<|xii h U U H λhv hg=>x (QD hg U)<|QN<|(Qce _).mono ?_;rintro r3 w3 ⟨rfl,rfl⟩;refine Qa<|Qr<|Qr<|QJ U<|QJ U<|QJ U<|x Ql<|Qb<|⟨false,oA,U,?_⟩;have:n∉l:=by
     intro E;obtain⟨m,I,V⟩:=LG E;by_cases hk:m<i
     ·have:=G m I hk;omega
     by_cases hl:m=i
     ·subst hl;exact S V
     have:=YW.get hi I (show i<m by omega);have:=O i H (Lx _);omega
    simp[this]
   refine Qa<|Qr<|Qr<|Qr<|Qr<|Qr<|Qr<|Qr<|Qr<|Qr<|Qr<|Qr<|Qr<|Qr<|Qr<|Qr<|Qr<|xs U <|
    QJ rfl<|x Ql<|Qb<|⟨false,oA,U,?_⟩
   have:n∉l:=by
    intro E;obtain⟨m,I,V⟩:=LG E;have:=G m I oa;omega
   simp[this]
  rintro z g w7 ⟨rfl,rfl⟩;exact Qk ⟨[oF oG i,.bool (decide (n∈l))],oA,U,i,U⟩
 refine Qh<|Qg<|Qm<|Qa<|QP U U<|x (Yc U (by exact⟨oa,oa⟩))<|x (jJ (n:=1) U U og)<|x (Yc U (by exact⟨oa,oa⟩))<|Qb ?_;have hh:(((i:Int)+(j:Int)) / 2 ^ 1)=(((i+j) / 2:Nat):Int):=oa
 rw[hh];generalize hq:(i+j) / 2=q;have hn:i<=q:=oa
 have ho:q<j:=oa
 have Y:q<l.length:=oa
 refine Qm<|Qa<|xii h U U Y λhw hp=>x (QD hp U)<|Qa<|QN<|(QeW _ _).mono ?_;rintro r8 w8 ⟨rfl,rfl⟩;refine xe<|QH rfl (λha=>?_) (λha=>?_)
 ·refine Qv<|Qa<|Qb<|⟨(i,q),oh,oA,U,hn,oa,G,λm E hr=>?_⟩;by_cases e:q=m
  ·subst e;omega
  have:=YW.get hi E (show q<m by simp only[]at hr;omega);omega
 refine Qv<|Qa<|QP U U<|Qb<|⟨(q+1,j),oh,oA,U,ho,T,λm E hs=>?_,O⟩;by_cases e:m=q
 ·subst e;exact ha
 have:=YW.get hi Y (show m<q by simp only[]at hs;omega);omega
theorem Kj {L:LN}{v:O2}{l:LI}(h:QR L w.heap v l)(hi:YW l)(n:Int):
  Q6 prog 251 [v,oF oG n] w λr w'=>r=.bool (decide (n∈l))/\w'=w:=by
 refine Zo func251 ?_;refine Qc<|Qb<|Qm<|Qa<|QN<|(yX h hi n).mono ?_;rintro E G ⟨rfl,i,rfl⟩;refine Qa<|Zd U U<|Zd U U<|x Ql<|Qb<|Qm<|Qb<|Qk ⟨[.bool (decide (n∈l))],La,U,U⟩
theorem qS {L:LN}{v:O2}{l:LI}(h:QR L w.heap v l)(n:Int):
  Q6 prog 102 [v,oF oG n] w λr w'=>r=oF oG (J8 n none l)/\w'=w:=by
 have hc:=h.le;refine Zo func102 ?_;refine Qc<|Qb<|Qd<|Qm<|QL h U<|Qa<|xe<|Qg<|QC (α:=Nat) [(4,6),(9,34)] (λk=>[(9,oF oG k)]) (λk w'=>w'=w/\k<=l.length/\J8 n (pv l k) (l.drop k)=J8 n none l) (λk=>l.length - k) ol 0 La ⟨U,Ln _,U⟩ ?_;rintro k g S ⟨rfl,hk,E⟩;refine Qc<|QY U U<|xe<|Qd<|QH U (λT=>?_) (λT=>?_)
 ·refine Qz<|Qc<|Qb<|Qk ⟨[oF oG 0],La,?_,U⟩;rw[<-E,Lr oa];rfl
 have G:k<l.length:=oa
 have hd:=Zf G;rw[hd,J8]at E;refine Qh<|Qd<|Qg<|Qm<|xii h U U G λhe V=>x (QD V U)<|x Ql<|Qb<|Qg<|Q3 (α:=Bool) [(14,21)] (λz=>[(14,.bool z)]) (λz w'=>w'=S/\z=decide (l[k]<0\/n<=l[k])) ol ?_ ?_
 ·refine Qv<|Qa<|xb (YR U U) (λH=>?_) (λH=>?_)
  ·refine Qa<|Qr<|Qr<|Qr<|QJ U<|Qb<|⟨true,La,U,by simp[H]⟩
  refine Qa<|Qa<|Qa<|x (Yw U U)<|QJ U<|Qb<|⟨_,La,U,by simp[H]⟩
 rintro z g Y ⟨rfl,rfl⟩;refine QZ rfl (λI=>?_) (λI=>?_)
 ·refine Qc<|Qb<|Qk ⟨[oF oG 2],La,?_,U⟩;rw[<-E,OU I];rfl
 rw[OT I]at E;refine Q3 (α:=Bool) [(22,33)] (λz=>[(22,.bool z)]) (λz w'=>w'=Y/\z=jm (pv l k) l[k]) ol ?_ ?_
 ·refine Qv<|Qa<|xb (Z6 U U) (λha=>?_) (λha=>?_)
  ·have hk1:((k:Int) - 1)=((k - 1:Nat):Int):=oa
   refine Qa<|Qa<|Qa<|Qa<|x (JH U U ⟨oa,oa⟩)<|xii (i:=k - 1) h U (by show Value.int _ ((k:Int) - 1)=_;rw[hk1]) oa λhf hb=>x (QD hb rfl)<|x (KT rfl rfl)<|QJ rfl<|Qb<|⟨_,⟨rfl,Z⟩,rfl,?_⟩;have:pv l k=some l[k - 1]:=by
    have J:k≠0:=oa
    simp[pv,J,show k - 1<l.length by omega]
   rw[this];rfl
  refine Qa<|Qr<|Qr<|Qr<|Qr<|Qr<|Qr<|Qr<|QJ U<|Qb ?_;have J:k=0:=oa
  exact⟨false,La,U,by simp[pv,J,jm]⟩
 rintro z g w3 ⟨rfl,rfl⟩;refine QX rfl (λO=>?_) (λO=>?_)
 ·refine Qc<|Qb<|Qk ⟨[oF oG 5],La,?_,U⟩;rw[<-E,OU O];rfl
 rw[OT (by simp[O])]at E;refine Qh<|Qv<|QP U U<|Qa<|xe ?_;exact⟨k+1,oa,La,U,oa,by rw[Vu G];exact E⟩
theorem jo {L:LN}{a:Q0}(h:ZG L w.heap va vm ve a):
  Q6 prog 103 [.agg #[va,oF oG a.st,vm,ve]] w λr w'=>r=oF oG (ckE a.al a.st none a.ed)/\O5 [] w w':=by
 obtain⟨J,_,H⟩:=h;have h2:=H.le;refine Zo func103 ?_;refine Qc<|Qe<|QV (us:=[va,oF oG a.st,vm,ve]) U λb1 w1 Y h3 I=>Qb ?_
 replace J:=J.I Y
 replace H:=H.I Y;refine Qd<|Qc<|Qs U I U U<|QL H U<|Qa<|xe<|Qg<|QC (α:=Nat) [(2,5),(9,71)] (λk=>[(9,oF oG k)]) (λk w'=>O5 [] w1 w'/\k<=a.ed.length/\ckE a.al a.st (pv a.ed k) (a.ed.drop k)=ckE a.al a.st none a.ed) (λk=>a.ed.length - k) ol 0 La
  ⟨O5.Z _ _,Ln _,U⟩ ?_
 rintro k g w2 ⟨O,hk,E⟩
 replace J:=J.I O
 replace H:=H.I O
 replace I:=I.I O;refine Qc<|QY U U<|xe<|Qd<|QH U (λhq=>?_) (λhq=>?_)
 ·refine Qz<|Qc<|Qb<|Qk ⟨[oF oG 0],La,?_,Y.D O⟩;rw[<-E,Lr oa];rfl
 have ha:k<a.ed.length:=oa
 have hd:=Zf ha;rw[hd,ckE]at E;refine Qh<|Qd<|Qg<|Qm<|xie H U U ha λh4 hr=>x (Qw hr U U)<|Qe<|Qo (us:=[oF oG 0,oF oG 0,oF oG 0]) U λb4 w3 hs ht G=>x Ql <|
  Qe<|Qj G U U U U oB λw4 hu G=>xe ?_
 have S:=hs.O hu ht
 replace J:=J.I S
 replace H:=H.I S
 replace I:=I.I S;have T:=(Y.D O).D S;refine Qd<|Qg<|Q3 (α:=Bool) [(14,36)] (λz=>[(14,.bool z)]) (λz w'=>w'=w4/\z=decide (a.ed[k].1<0\/a.st<=a.ed[k].1\/a.ed[k].2.2<0\/a.st<=a.ed[k].2.2)) ol ?_ ?_
 ·refine Qv<|Qs U G U U<|xb (YR U U) (λhb=>?_) (λhb=>?_)
  ·refine Qa<|Qr<|Qr<|Qr<|Qr<|Qr<|QJ U<|Qa<|Qr<|Qr<|Qr<|QJ U<|Qa<|Qr<|Qr<|Qr<|Qr<|Qr<|QJ U<|Qb<|⟨true,La,U,by simp[hb]⟩
  refine Qa<|Qs U G U U<|Qs U I U U<|xb (Yw U U) (λhc=>?_) (λhc=>?_)
  ·refine QJ U<|Qa<|Qr<|Qr<|Qr<|QJ U<|Qa<|Qr<|Qr<|Qr<|Qr<|Qr<|QJ U<|Qb<|⟨true,La,U,by simp[hc]⟩
  refine QJ U<|Qa<|Qs U G U U<|xb (YR U U) (λhe=>?_) (λhe=>?_)
  ·refine QJ U<|Qa<|Qr<|Qr<|Qr<|Qr<|Qr<|QJ U<|Qb<|⟨true,La,U,by simp[he]⟩
  refine QJ U<|Qa<|Qs U G U U<|Qs U I U U<|x (Yw U U)<|QJ U<|Qb<|⟨_,La,U,by simp[hb,hc,he]⟩
 rintro z g w5 ⟨rfl,rfl⟩;refine QZ rfl (λhf=>?_) (λhf=>?_)
 ·refine Qc<|Qb<|Qk ⟨[oF oG 2],La,?_,T⟩;rw[<-E,OU hf];rfl
 rw[OT hf]at E;refine Qc<|Qs U I U U<|Qs U G U U<|QN<|(Yl J _).mono ?_;rintro r4 w6 ⟨rfl,rfl⟩;refine x (ZB U)<|Qb<|QX U (λhg=>?_) (λhg=>?_)
 ·have hn:a.ed[k].2.1∉a.al:=by simpa using hg
  refine Qc<|Qb<|Qk ⟨[oF oG 9],La,?_,T⟩;rw[<-E,OU hn];rfl
 have hn:¬(a.ed[k].2.1∉a.al):=by simpa using hg
 rw[OT hn]at E;refine Qh<|Qd<|Qm<|x (Q2 U U)<|xe<|QZ rfl (λhv=>?_) (λhv=>?_)
 ·have h0:k=0:=oa
  rw[OT (by simp[pv,h0,edO])]at E;refine Qz<|Qv<|QP U U<|Qa<|xe ?_;exact⟨k+1,oa,La,O.D S,oa,by rw[Vu ha];exact E⟩
 have h0:k≠0:=oa
 have hk1:((k:Int) - 1)=((k - 1:Nat):Int):=oa
 have ho:k - 1<a.ed.length:=oa
 refine Qh<|Qc<|Qs U I U U<|Qa<|x (JH U U ⟨oa,oa⟩)<|xie (i:=k - 1) H U (by show Value.int _ ((k:Int) - 1)=_;rw[hk1]) ho λh5 hw =>
  x (Qw hw U U)<|Qe<|Qo (us:=[oF oG 0,oF oG 0,oF oG 0]) U λb5 w7 hy hz V=>Qe<|Qj V U U U U oB λw8 h1 V=>xe ?_
 have hh:=hy.O h1 hz
 replace G:=G.I hh
 replace T:=T.D hh;have hp:pv a.ed k=some a.ed[k - 1]:=by simp[pv,h0,ho]
 rw[hp]at E;refine Q3 (α:=Bool) [(52,70)] (λz=>[(70,.bool z)]) (λz w'=>w'=w8/\z=edO (some a.ed[k - 1]) a.ed[k]) ol ?_ ?_
 ·refine Qv<|Qs U G U U<|Qs U V U U<|xb (YR U U) (λhi=>?_) (λhi=>?_)
  ·refine Qa<|Qr<|Qr<|Qr<|Qr<|Qr<|Qr<|Qr<|Qr<|Qr<|Qr<|Qr<|Qr<|QJ U<|xe ?_;exact⟨true,La,U,by simp[edO,hi]⟩
  refine Qa<|Qs U G U U<|Qs U V U U<|xb (Q2 U U) (λhj=>?_) (λhj=>?_)
  ·refine Qa<|Qs U G U U<|Qs U V U U<|x (KT U U)<|QJ U<|QJ U<|xe ?_;exact⟨_,La,U,by simp[edO,hj]⟩
  refine Qa<|Qr<|Qr<|Qr<|Qr<|Qr<|QJ U<|QJ U<|xe ?_;exact⟨false,La,U,by simp[edO,hj,hi]⟩
 rintro z g w9 ⟨rfl,rfl⟩;refine QX rfl (λhl=>?_) (λhl=>?_)
 ·refine Qc<|Qb<|Qk ⟨[oF oG 5],La,?_,T⟩;rw[<-E,OU hl];rfl
 rw[OT (by simp[hl])]at E;refine Qh<|Qv<|QP U U<|Qa<|xe ?_;exact⟨k+1,oa,La,(O.D S).D hh,oa,by rw[Vu ha];exact E⟩
theorem Jf {L:LN}{a:Q0}(h:ZG L w.heap va vm ve a):
  Q6 prog 51 [.agg #[va,oF oG a.st,vm,ve]] w λr w'=>r=oF oG (JD a)/\O5 [] w w':=by
 refine Zo func51 ?_;refine Qc<|Qe<|QV (us:=[va,oF oG a.st,vm,ve]) U λb1 T E V G=>Qb ?_
 replace h:=h.I E;refine Qd<|Qc<|Qs U G U U<|QN<|(qS h.al 32).mono ?_;rintro r2 Y ⟨rfl,rfl⟩;refine Qb<|Qm<|ZD U U<|xe<|QZ rfl (λH=>?_) (λH=>?_)
 ·refine Qm<|Qb<|Qk ⟨[oF oG (J8 32 none a.al)],La,?_,E⟩;rw[JD,OU H];rfl
 refine Qh<|Qd<|Qg<|Qc<|Qs U G U U<|QY U U<|Qb<|QZ U (λI=>?_) (λI=>?_)
 ·refine Qc<|Qb<|Qk ⟨[oF oG 2],La,?_,E⟩;rw[JD,OT H,OU I];rfl
 refine Qc<|Qs U G U U<|x (Z6 U U)<|Qb<|QZ U (λJ=>?_) (λJ=>?_)
 ·refine Qc<|Qb<|Qk ⟨[oF oG 3],La,?_,E⟩;rw[JD,OT H,OT I,OU J];rfl
 refine Qh<|Qd<|Qc<|Qs U G U U<|Qs U G U U<|QN<|(qS h.mr a.st).mono ?_;rintro r3 w3 ⟨rfl,rfl⟩;refine Qb<|Qm<|ZD U U<|xe<|QZ rfl (λO=>?_) (λO=>?_)
 ·refine Qm<|Qb<|Qk ⟨[oF oG (J8 a.st none a.mr)],La,?_,E⟩;rw[JD,OT H,OT I,OT J,OU O];rfl
 refine Qh<|Qc<|Q9 G U U<|QN<|(jo h).mono ?_;rintro r4 w4 ⟨rfl,S⟩;refine Qb<|Qk ⟨[oF oG (ckE a.al a.st none a.ed)],La,?_,E.D S⟩;rw[JD,OT H,OT I,OT J,OT O];rfl
theorem Z2 {L:LN}{v:O2}{l:LI}(h:QR L w.heap v l):
  Q6 prog 70 [v] w λr w'=>O5 [] w w'/\Qu 3 w.heap.size w' r l:=by
 have ha:=h.le;refine Zo func70 ?_;refine Qc<|Qb ?_;obtain⟨ao,cap,G⟩:=h.shape;refine Qd<|Qm<|x (XD (show ev _ _=_ from G) U)<|xe<|QX rfl (λH=>?_) (λH=>?_)
 ·refine Qc<|Qb<|Qk ⟨[nS],La,O5.Z _ _,?_⟩;rcases h.2.2 with⟨E,I⟩|⟨a,c,E,_⟩
  ·have:l=[]:=Lq I;subst this;exact QI _ _ _ _
  rw[E]at G;cases G;cases H
 rcases h.2.2 with⟨E,I⟩|⟨a,c,E,I,T⟩
 ·rw[E]at G;injection G with e1;subst e1;cases H
 refine Qh<|Qc<|Qe<|X4 λb5 w1 J O S=>Qa<|Qe<|Q8 (base:=w.heap.size) (S.own (n:=0) (sz:=1) U oa O) U (show ev _ _=_ from E) oe (T.I J) (Uz l) oa (ou S.lt) λv2 w2 V Y hb=>Qb<|Qk ⟨[v2],La,J.O Y O,?_⟩;simpa[tup]using V
theorem Qb7 [Fu prog g fn]{keep:Bool->Bool->Bool}(hk:∀(p q:Bool) (w:O1),Q6 prog g [.bool p,.bool q] w λr w'=>r=.bool (keep p q)/\w'=w)
  {L L':LN}   {a b:LI} (H:QR L w.heap va a) (G:QR L' w.heap vb b) (hH:a.length+b.length<=1099511627776):
  Q6 prog 153 [va,vb,.func (.func g) #[] #[]] w λr w'=>O5 [] w w'/\Qu 3 w.heap.size w' r (mrg keep a b):=by
 refine Zo func153 ?_;refine Qc<|Qb<|Qc<|Qb<|Qd<|Qg<|QC (α:=(LI×O2)×(LI×O2)×(LI×O2)) [(0,1),(7,72)] (λz=>[(0,z.1.2),(1,z.2.1.2),(7,z.2.2.2)])
  (λz w'=>QR L w.heap z.1.2 z.1.1/\QR L' w.heap z.2.1.2 z.2.1.1/\Qu 3 w.heap.size w' z.2.2.2 z.2.2.1/\O5 [] w w'/\z.2.2.1++mrg keep z.1.1 z.2.1.1=mrg keep a b/\z.2.2.1.length+z.1.1.length+z.2.1.1.length<=1099511627776)
  (λz=>z.1.1.length+z.2.1.1.length) ol ((a,va),(b,vb),([],nS)) oB ⟨H,G,QI _ _ _ _,O5.Z _ _,U,by simp;omega⟩ ?_
 clear H G;rintro⟨⟨a1,h2⟩,⟨b1,h3⟩,⟨o,vo⟩⟩ g1 w1 ⟨H,G,I,E,T,hl⟩;simp only[]at H G I E T hl;refine Qd<|Q3 (α:=Bool) [(11,18)] (λz=>[(18,.bool z)]) (λz w'=>w'=w1/\z=decide (¬(a1=[]/\b1=[]))) ol ?_ ?_
 ·refine Qv<|Qa<|QL H U<|xb (Z6 U U) (λhn=>?_) (λhn=>?_)
  ·refine Qa<|Qr<|Qr<|Qr<|QJ U<|xe ?_;have:a1≠[]:=by intro e;subst e;simp at hn
   exact⟨true,La,U,by simp[this]⟩
  refine Qa<|Qa<|QL G U<|x (Z6 U U)<|QJ U<|xe ?_;have:a1=[]:=Lq oa;refine⟨_,La,U,?_⟩;cases b1 <;> simp[this]
 rintro z g2 w2 ⟨rfl,rfl⟩;refine QH rfl (λhe=>?_) (λhe=>?_)
 ·refine Qz<|Qm<|Qb<|Qk ⟨[vo],La,E,?_⟩;obtain⟨rfl,rfl⟩:=Lo.1 he;rw[KG,LQ]at T;rw[<-T];exact I
 refine Qh ?_;rw[Ko keep he]at T;have hp:=yB he;have hI:=H.le;have hJ:=G.le;refine Qg<|Q3 (α:=Bool) [(8,8),(19,35)] (λz=>[(8,.bool z)]) (λz w'=>O5 [] w2 w'/\z=Jq a1 b1) ol ?_ ?_
 ·refine ZF [] (Xi 0 18 [])<|p QF<|p (λ_=>YX H U)<|pb (λ_=>Z6 U U) (λhq=>?_) (λhq=>?_)
  ·refine p QF<|p QF<|p (λ_=>YX G U)<|pb (λ_=>Q2 U U) (λh4=>?_) (λh4=>?_)
   ·refine p QF<|ps<|ps<|ps<|ps<|ps<|ps<|ps<|p (Xk U)<|p (Xk U)<|p ZI<|pe ?_;refine⟨true,La,O5.C _ _,?_⟩;have:b1=[]:=Lq oa;subst this;cases a1 with
    | nil=>simp at hq
    | cons y a1=>rfl
   have O:0<a1.length:=oa
   have S:0<b1.length:=oa
   refine p QF<|p QF<|pii U (i:=0) (H.I E) U U O λhK h5=>pq (λ_ J=>QD (h5.I J) U) <|
    p QF<|pii U (i:=0) (G.I E) U U S λhL h6=>pq (λ_ J=>QD (h6.I J) U)<|p (λ_=>KT U U) <|
    p (Xk rfl)<|p (Xk U)<|p ZI<|pe ?_
   refine⟨_,La,O5.C _ _,?_⟩;cases a1 with
   | nil=>simp at O
   | cons y a1=>cases b1 with
    | nil=>simp at S
    | cons z b1=>rfl
  refine p QF<|ps<|ps<|ps<|ps<|ps<|ps<|ps<|ps<|ps<|ps<|ps<|ps<|p (Xk U)<|p ZI<|pe ?_;refine⟨false,La,O5.C _ _,?_⟩;have:a1=[]:=Lq oa;subst this;rfl
 rintro z g3 w3 ⟨hr,rfl⟩
 replace I:=Qn I hr
 replace E:=E.D hr;refine Q3 (α:=Bool) [(9,9),(36,52)] (λz=>[(9,.bool z)]) (λz w'=>O5 [] w3 w'/\z=Jq b1 a1) ol ?_ ?_
 ·refine ZF [] (Xi 0 18 [])<|p QF<|p (λ_=>YX G U)<|pb (λ_=>Z6 U U) (λht=>?_) (λht=>?_)
  ·refine p QF<|p QF<|p (λ_=>YX H U)<|pb (λ_=>Q2 U U) (λh7=>?_) (λh7=>?_)
   ·refine p QF<|ps<|ps<|ps<|ps<|ps<|ps<|ps<|p (Xk U)<|p (Xk U)<|p ZI<|pe ?_;refine⟨true,La,O5.C _ _,?_⟩;have:a1=[]:=Lq oa;subst this;cases b1 with
    | nil=>simp at ht
    | cons y b1=>rfl
   have O:0<a1.length:=oa
   have S:0<b1.length:=oa
   refine p QF<|p QF<|pii U (i:=0) (G.I E) U U S λhM h8=>pq (λ_ J=>QD (h8.I J) U) <|
    p QF<|pii U (i:=0) (H.I E) U U O λhN h9=>pq (λ_ J=>QD (h9.I J) U)<|p (λ_=>KT U U) <|
    p (Xk rfl)<|p (Xk U)<|p ZI<|pe ?_
   refine⟨_,La,O5.C _ _,?_⟩;cases a1 with
   | nil=>simp at O
   | cons y a1=>cases b1 with
    | nil=>simp at S
    | cons z b1=>rfl
  refine p QF<|ps<|ps<|ps<|ps<|ps<|ps<|ps<|ps<|ps<|ps<|ps<|ps<|p (Xk U)<|p ZI<|pe ?_;refine⟨false,La,O5.C _ _,?_⟩;have:b1=[]:=Lq oa;subst this;rfl
 rintro z g4 w4 ⟨hu,rfl⟩
 replace I:=Qn I hu
 replace E:=E.D hu;refine Qc<|Qb<|Q3 (α:=O2) [(0,0),(10,10),(53,58)] (λz=>[(0,z),(10,oF oG (bif Jq a1 b1 then a1.headD 0 else 0))]) (λz w'=>O5 [] w4 w'/\QR L w.heap z (tl (Jq a1 b1) a1)) ol ?_ ?_
 ·refine Qm<|xe<|QX U (λV=>?_) (λV=>?_)
  ·have O:0<a1.length:=by cases a1 with|nil=>simp[Jq]at V|cons y a1=>simp
   refine ZF [] (Xi 0 7 [])<|p QF<|pii U (i:=0) (H.I E) U U O λhC hf=>pq (λ_ J=>QD (hf.I J) U)<|p QF <|
    Qoi rfl (lo:=1) H U U O λv' hg=>p ZI<|p ZI<|pe ?_
   have hh:=QR.drop hg;refine⟨v',⟨U,?_,Z⟩,O5.C _ _,?_⟩
   ·show oF oG a1[0]=_;rw[V];cases a1 with|nil=>simp at O|cons y a1=>rfl
   rw[V];simpa[tl]using hh
  refine Qh<|⟨h2,⟨U,by show _=_;rw[V];rfl,Z⟩,O5.Z _ _,?_⟩;rw[V];exact H
 rintro hv g5 w5 ⟨hw,hy⟩
 replace I:=Qn I hw
 replace E:=E.D hw;refine Q3 (α:=O2) [(1,1),(10,10),(59,64)] (λz=>[(1,z),(10,oF oG (bif Jq b1 a1 then b1.headD 0 else bif Jq a1 b1 then a1.headD 0 else 0))]) (λz w'=>O5 [] w5 w'/\QR L' w.heap z (tl (Jq b1 a1) b1)) ol ?_ ?_
 ·refine Qm<|xe<|QX U (λY=>?_) (λY=>?_)
  ·have S:0<b1.length:=by cases b1 with|nil=>simp[Jq]at Y|cons y b1=>simp
   refine ZF [] (Xi 0 7 [])<|p QF<|pii U (i:=0) (G.I E) U U S λhC hf=>pq (λ_ J=>QD (hf.I J) U)<|p QF <|
    Qoi rfl (lo:=1) G U U S λv' hg=>p ZI<|p ZI<|pe ?_
   have hh:=QR.drop hg;refine⟨v',⟨U,?_,Z⟩,O5.C _ _,?_⟩
   ·show oF oG b1[0]=_;rw[Y];cases b1 with|nil=>simp at S|cons y b1=>rfl
   rw[Y];simpa[tl]using hh
  refine Qh<|⟨h3,⟨U,by show _=_;rw[Y];rfl,Z⟩,O5.Z _ _,?_⟩;rw[Y];exact G
 rintro hz g6 w6 ⟨h0,h1⟩
 replace I:=Qn I h0
 replace E:=E.D h0;have hD:(bif Jq b1 a1 then b1.headD 0 else bif Jq a1 b1 then a1.headD 0 else 0)=hx a1 b1:=by
  unfold hx;cases e:Jq b1 a1 with
  | true=>rfl
  | false =>
   cases e2:Jq a1 b1 with
   | true=>rfl
   | false=>rw[e,e2]at hp;simp[tl]at hp
 refine Qm<|Qa<|Qa<|Qe<|xc (first:=[]) (capt:=[]) U<|(hk _ _ _).mono ?_;rintro r7 w7 ⟨rfl,rfl⟩;refine xe<|QX rfl (λhi=>?_) (λhi=>?_)
 ·refine Qv ?_;rw[hi,cond_true]at T;refine Qa<|Qa<|Qe<|QA (us:=[[oF oG (hx a1 b1)]]) U U og oe ⟨by rw[<-hD];rfl,U,Z⟩ λhO w8 hj hP hE =>
   Qe<|Q8 (news:=[oF oG (hx a1 b1)]) (L:=[]) (Qn I hj) U U U (hE.at oe) (by simp[Value.oneCell']) oa (ov E.size hj.size) λv9 w9 hF hG hQ=>Qb ?_
  have hge:=Qi I;refine⟨((tl (Jq a1 b1) a1,hv),(tl (Jq b1 a1) b1,hz),(o++[hx a1 b1],v9)),oh,oB,hy,h1,?_,(E.D hj).then hG (λb G=>.inr (hge b G).1),by rw[LB];exact T,by simp only[oM,oO];omega⟩;exact Qu.snoc hF
 rw[hi,cond_false,Mb]at T;refine Qh ?_;exact⟨((tl (Jq a1 b1) a1,hv),(tl (Jq b1 a1) b1,hz),(o,vo)),oh,oB,hy,h1,I,E,T,oh⟩
theorem Qqg (p q:Bool)(w:O1):Q6 prog 154 [.bool p,.bool q] w λr w'=>r=.bool (p || q)/\w'=w:=by
 refine Zo func154 ?_;refine Qc<|Qb<|Qc ?_;cases p
 ·refine Qa<|Qa<|Qa<|QJ U<|Qb<|Qk ⟨[.bool q],La,U,U⟩
 refine Qa<|Qa<|Qr<|QJ U<|Qb<|Qk ⟨[.bool true],La,U,U⟩
theorem QiL (p q:Bool)(w:O1):Q6 prog 272 [.bool p,.bool q] w λr w'=>r=.bool (p && !q)/\w'=w:=by
 refine Zo func272 ?_;refine Qc<|Qb<|Qc ?_;cases p
 ·refine Qa<|Qa<|Qr<|Qr<|QJ U<|Qb<|Qk ⟨[.bool false],La,U,U⟩
 refine Qa<|Qa<|Qa<|x (ZB U)<|QJ U<|Qb<|Qk ⟨[.bool (!q)],La,U,U⟩
theorem QcZ {L L':LN}{a b:LI}(E:QR L w.heap va a)(G:QR L' w.heap vb b)(H:a.length+b.length<=1099511627776):
  Q6 prog 83 [va,vb] w λr w'=>O5 [] w w'/\Qu 3 w.heap.size w' r (mrg (· || ·) a b):=by
 refine Zo func83 ?_;refine Qc<|Qb<|Qm<|Qa<|ZM<|(Qb7 Qqg E G H).mono ?_;rintro I S ⟨J,O⟩;refine Qb<|Qk ⟨[I],La,J,O⟩
theorem QkL {L L':LN}{a b:LI}(E:QR L w.heap va a)(G:QR L' w.heap vb b)(H:a.length+b.length<=1099511627776):
  Q6 prog 221 [va,vb] w λr w'=>O5 [] w w'/\Qu 3 w.heap.size w' r (mrg (λp q=>p && !q) a b):=by
 refine Zo func221 ?_;refine Qc<|Qb<|Qm<|Qa<|ZM<|(Qb7 QiL E G H).mono ?_;rintro I S ⟨J,O⟩;refine Qb<|Qk ⟨[I],La,J,O⟩
theorem Qha {L L':LN}{a b:LI}(E:QR L w.heap va a)(G:QR L' w.heap vb b)(H:a.length+b.length<=1099511627776):
  Q6 prog 152 [va,vb] w λr w'=>O5 [] w w'/\r=.bool (decide (mrg (λp q=>p && !q) a b=[])):=by
 refine Zo func152 ?_;refine Qc<|Qb<|Qm<|Qa<|QN<|(QkL E G H).mono ?_;rintro O S ⟨I,J⟩;have T:=QaQ (λp q=>p && !q) a b;have hi:=Qu.ints (L:=[]) J oa oe;refine QL hi U<|x (Q2 U U)<|Qb<|Qk ⟨[.bool (decide (((mrg (λp q=>p && !q) a b).length:Int)=0))],La,I,?_⟩;simp[tup]
theorem Qkq [Fu prog g fn](Y:∀(e:Ed) (s:Int) (w:O1),0<=e.1->e.1<=1099511627776->0<=s->s<=1099511627776->Q6 prog g [.agg (QE e).toArray,oF oG s] w λr w'=>r=oF oG (e.1 - s)/\O5 [] w w')
  {L:LN}  {v:O2} {es:List Ed} (h:zm L w.heap v es) (hi:es.Pairwise (λa b=>a.1<=b.1)) (hb:∀e∈es,0<=e.1/\e.1<=1099511627776) (s:Int) (ha:0<=s) (hc:s<=1099511627776):
  Q6 prog 176 [v,oF oG s,.func (.func g) #[] #[]] w λr w'=>O5 [] w w'/\∃(i:Nat) (b:Bool),r=.tuple #[oF oG i,.bool b]/\i<=es.length /\
   (∀m (E:m<es.length),m<i->es[m].1<s)/\(∀m (E:m<es.length),i<=m->s<=es[m].1):=by
 have h3:=h.le;have he:∀{i j:Nat} (G:j<es.length) (I:i<j),es[i].1<=es[j].1:=λ{i j} G I=>MR.1 hi i j oa G I;have hf:∀m (E:m<es.length),0<=es[m].1/\es[m].1<=1099511627776:=λm E=>hb _ (Ll E);refine Zo func176 ?_;refine Qc<|x Ql<|Qb<|Qm<|QL h U<|Qb<|Qm<|x Ql<|Qb<|Qd<|Qg<|QC (α:=Nat×Nat) [(9,11),(15,34)] (λz=>[(9,oF oG z.1),(10,oF oG z.2)])
  (λz w'=>O5 [] w w'/\z.1<=z.2/\z.2<=es.length/\(∀m (E:m<es.length),m<z.1->es[m].1<s)/\(∀m (E:m<es.length),z.2<=m->s<=es[m].1)) (λz=>z.2 - z.1) ol (0,es.length) oA
  ⟨O5.Z _ _,Ln _,Lx _,λm _ J=>OW J (Nn m),λm h1 J=>OW h1 (by simp only[]at J;omega)⟩ ?_
 rintro⟨i,j⟩ g1 w1 ⟨H,I,G,O,S⟩;simp only[]at I G O S;refine Qd<|Qm<|Qa<|QY U U<|xe<|QH rfl (λho=>?_) (λho=>?_)
 ·have e:i=j:=oa
  subst e;refine Qz<|Q3 (α:=Bool) [(6,7),(35,48)] (λz=>[(6,oF oG i),(7,.bool z)]) (λz w'=>O5 [] w1 w') ol ?_ ?_
  ·refine Qv<|Qa<|Qa<|Qa<|xb (YR U U) (λhp=>?_) (λhp=>?_)
   ·have hg:i<es.length:=oa
    have T:=hf i hg;refine Qa<|Qa<|Qa<|Qa<|xie (h.I H) U U hg λh4 hr=>x (Qw hr U U)<|Qa<|Qe<|xc (first:=[]) (capt:=[]) U<|(Y es[i] s _ T.1 T.2 ha hc).mono ?_;rintro r2 w2 ⟨rfl,hs⟩;refine x (Q2 U U)<|QJ U<|x Ql<|Qb<|⟨_,oA,hs⟩
   refine Qa<|Qr<|Qr<|Qr<|Qr<|Qr<|Qr<|Qr<|Qr<|QJ U<|x Ql<|Qb<|⟨false,oA,O5.Z _ _⟩
  rintro z g3 w3 ht;exact Qk ⟨[oF oG i,.bool z],oA,H.D ht,i,z,U,G,O,S⟩
 refine Qh<|Qg<|Qm<|Qa<|QP U U<|x (Yc U (by exact⟨oa,oa⟩))<|x (jJ (n:=1) U U og)<|x (Yc U (by exact⟨oa,oa⟩))<|Qb ?_;have hh:(((i:Int)+(j:Int)) / 2 ^ 1)=(((i+j) / 2:Nat):Int):=oa
 rw[hh];generalize T:(i+j) / 2=q;have hu:i<=q:=oa
 have hv:q<j:=oa
 have V:q<es.length:=oa
 have hl:=hf q V;refine Qm<|Qa<|Qa<|xie (h.I H) U U V λh5 hw=>x (Qw hw U U)<|Qa<|Qe<|xc (first:=[]) (capt:=[]) U<|(Y es[q] s _ hl.1 hl.2 ha hc).mono ?_;rintro r4 w4 ⟨rfl,hn⟩;refine QY rfl U<|xe<|QH rfl (λhy=>?_) (λhy=>?_)
 ·refine Qv<|Qa<|Qb<|⟨(i,q),oh,oA,H.D hn,hu,oa,O,λm E hz=>?_⟩;by_cases e:q=m
  ·subst e;omega
  have:=he E (show q<m by simp only[]at hz;omega);omega
 refine Qv<|Qa<|QP U U<|Qb<|⟨(q+1,j),oh,oA,H.D hn,hv,G,λm E h2=>?_,S⟩;by_cases e:m=q
 ·subst e;omega
 have:=he V (show m<q by simp only[]at h2;omega);omega
theorem QlM (e:Ed)(s:Int)(w:O1)(H:0<=e.1)(I:e.1<=1099511627776)(J:0<=s)(O:s<=1099511627776):
  Q6 prog 177 [.agg (QE e).toArray,oF oG s] w λr w'=>r=oF oG (e.1 - s)/\O5 [] w w':=by
 refine Zo func177 ?_;refine Qc<|Qe<|QV (us:=QE e) U λb2 S E T G=>Qb<|Qc<|Qs U G U U<|Qa<|x (JH U U ⟨oa,oa⟩)<|Qb<|Qk ⟨[oF oG (e.1 - s)],La,U,E⟩
theorem QlL (e:Ed)(s:Int)(w:O1)(H:0<=e.1)(I:e.1<=1099511627776)(J:0<=s)(O:s<=1099511627776):
  Q6 prog 178 [.agg (QE e).toArray,oF oG s] w λr w'=>r=oF oG (e.1 - s)/\O5 [] w w':=by
 refine Zo func178 ?_;refine Qc<|Qe<|QV (us:=QE e) U λb2 S E T G=>Qb<|Qc<|Qs U G U U<|Qa<|x (JH U U ⟨oa,oa⟩)<|Qb<|Qk ⟨[oF oG (e.1 - s)],La,U,E⟩
theorem QaK {L:LN}{st:Int}{es:List Ed}(h:zm L w.heap ve es)(hi:es.Pairwise (λa b=>a.1<=b.1))(S:∀e∈es,0<=e.1/\e.1<=1099511627776)(s:Int)(hf:0<=s)(hp:s<1099511627776):
  Q6 prog 105 [.agg #[va,oF oG st,vm,ve],oF oG s] w λr w'=>O5 [] w w'/\zm L w'.heap r (Z5 es s):=by
 refine Zo func105 ?_;refine Qc<|Qe<|QV (us:=[va,oF oG st,vm,ve]) U λb2 w1 T hq E=>Qb ?_
 replace h:=h.I T;refine Qc<|Qs U E U U<|Qa<|ZM<|(Qkq QlM h hi S s hf oa).mono ?_;rintro r2 w2 ⟨J,lo,b,rfl,hr,V,hg⟩
 replace h:=h.I J
 replace E:=E.I J;refine Qa<|Zd U U<|Zd U U<|x Ql<|Qb<|Qc<|Qs U E U U<|Qa<|QP U U<|ZM<|(Qkq QlL h hi S (s+1) oa oa).mono ?_;rintro r3 w3 ⟨O,G,b',rfl,Y,hh,ha⟩
 replace h:=h.I O
 replace E:=E.I O;refine Qa<|Zd U U<|Zd U U<|x Ql<|Qb ?_;have he:lo<=G:=by
  rcases OH G lo with hj|hge
  ·have I:=V G oa hj;have h2:=ha G oa (Lx _);omega
  exact hge
 refine Qc<|Qs U E U U<|Qa<|Qa<|Qrc h U U U he Y λv' hk=>Qb<|Qk ⟨[v'],La,(T.D J).D O,?_⟩;have hc:=QdT (λe:Ed=>decide (e.1=s)) es lo G he Y (λm H hl=>by have:=V m H hl;simp;omega) (λm H I h2=>by have:=hg m H I;have:=hh m H h2;simp;omega) (λm H I=>by have:=ha m H I;simp;omega);have hn:(Z5 es s).length=G - lo:=by unfold Z5;rw[<-hc,Ly,LU];omega
 show Zp L w3.heap v' (Z5 es s).length 3 _;rw[hn];have e1:(Z5 es s).flatMap QE=((es.flatMap QE).drop (lo*3)).take ((G - lo)*3):=by
  unfold Z5;rw[<-hc];have key:∀(l:List Ed) (k:Nat),(l.flatMap QE).drop (k*3)=(l.drop k).flatMap QE:=by
   intro l;induction l with
   | nil=>intro k;simp
   | cons a l ih=>intro k;cases k with
    | zero=>simp
    | succ k=>simp only[Oe,List.drop_succ_cons,Oq,Nat.one_mul];rw[Nj,<-List.drop_drop,show(QE a++l.flatMap QE).drop 3=l.flatMap QE from rfl,ih]
  have ho:∀(l:List Ed) (k:Nat),(l.flatMap QE).take (k*3)=(l.take k).flatMap QE:=by
   intro l;induction l with
   | nil=>intro k;simp
   | cons a l ih=>intro k;cases k with
    | zero=>simp
    | succ k =>
     simp only[Oe,List.take_succ_cons,Oq,Nat.one_mul];rw[OK,J5,<-ih,Lt (by simp[J5])];simp
  rw[key,ho]
 rw[e1];exact hk
structure ZA (a:Q0):Prop where
 al:∀e∈a.al,0<=e/\e<32
 ali:YW a.al
 st0:0<=a.st
 st1:a.st<=4096
 mr:∀s∈a.mr,0<=s/\s<a.st
 mri:YW a.mr
 ed:∀e∈a.ed,0<=e.1/\e.1<a.st/\e.2.1∈a.al/\0<=e.2.2/\e.2.2<a.st
 edi:a.ed.Pairwise λx y=>x.1<y.1\/(x.1=y.1/\x.2.1<y.2.1)
theorem XN (n:Int):∀(l:LI) (pr:Option Int),J8 n pr l=0↔(∀x∈l,0<=x/\x<n)/\YW l/\∀y,pr=some y->∀x∈l,y<x
 | [],pr=>by simp[J8]
 | a::l,pr=>by
  have ih:=XN n l (some a);rw[J8];by_cases O:a<0\/n<=a
  ·rw[OU O];simp only[Ot];constructor
   ·intro h;cases h
   rintro⟨⟨h,_⟩,_⟩;omega
  rw[OT O];by_cases E:jm pr a=true
  ·rw[OU E];constructor
   ·intro h;cases h
   rintro⟨_,_,h⟩;cases pr with
   | none=>simp[jm]at E
   | some y=>simp[jm]at E;have:=h y U a Lp;omega
  rw[OT E,ih];simp only[Ot,List.pairwise_cons];constructor
  ·rintro⟨H,I,G⟩;refine⟨⟨oa,H⟩,⟨λb S=>G a U b S,I⟩,?_⟩;rintro y rfl;simp[jm]at E;exact⟨E,λz J=>ou (G a U z J)⟩
  rintro⟨⟨_,H⟩,⟨I,G⟩,_⟩;exact⟨H,G,λy T z J=>by cases T;exact I z J⟩
theorem QcI (al:LI)(st:Int):∀(l:List Ed) (pr:Option Ed),ckE al st pr l=0↔(∀e∈l,0<=e.1/\e.1<st/\e.2.1∈al/\0<=e.2.2/\e.2.2<st)/\(l.Pairwise λx y=>x.1<y.1\/(x.1=y.1/\x.2.1<y.2.1)) /\
  ∀y,pr=some y->∀e∈l,y.1<e.1\/(y.1=e.1/\y.2.1<e.2.1)
 | [],pr=>by simp[ckE]
 | a::l,pr=>by
  have ih:=QcI al st l (some a);rw[ckE];by_cases S:a.1<0\/st<=a.1\/a.2.2<0\/st<=a.2.2
  ·rw[OU S];simp only[Ot];constructor
   ·intro h;cases h
   rintro⟨⟨h,_⟩,_⟩;omega
  rw[OT S];by_cases G:a.2.1∉al
  ·rw[OU G];constructor
   ·intro h;cases h
   rintro⟨h,_⟩;exact OW (h a Lp).2.2.1 G
  rw[OT G];by_cases E:edO pr a=true
  ·rw[OU E];constructor
   ·intro h;cases h
   rintro⟨_,_,h⟩;cases pr with
   | none=>simp[edO]at E
   | some y=>simp[edO]at E;have:=h y U a Lp;omega
  rw[OT E,ih];simp only[Ot,List.pairwise_cons];have T:a.2.1∈al:=Lo.1 G;constructor
  ·rintro⟨I,J,H⟩;refine⟨⟨⟨oa,oa,T,oa,oa⟩,I⟩,⟨λb V=>H a U b V,J⟩,?_⟩;rintro y rfl;simp[edO]at E;have Y:y.1<a.1\/y.1=a.1/\y.2.1<a.2.1:=oa
   exact⟨Y,λz O=>ou (H a U z O)⟩
  rintro⟨⟨_,I⟩,⟨J,H⟩,_⟩;exact⟨I,H,λy hy z O=>by cases hy;exact J z O⟩
theorem ZQ (a:Q0):JD a=0↔ZA a:=by
 unfold JD;by_cases E:J8 32 none a.al≠0
 ·rw[OU E];exact⟨λh=>OW h E,λh=>OW ((XN 32 a.al none).2 ⟨h.al,h.ali,λ_ h=>by cases h⟩) E⟩
 rw[OT E];have H:=(XN 32 a.al none).1 (Lo.1 E);by_cases I:a.st<0
 ·rw[OU I];exact⟨λh=>(by cases h),λh=>(ou h.st0)⟩
 rw[OT I];by_cases J:4096<a.st
 ·rw[OU J];exact⟨λh=>(by cases h),λh=>(ou h.st1)⟩
 rw[OT J];by_cases G:J8 a.st none a.mr≠0
 ·rw[OU G];exact⟨λh=>OW h G,λh=>OW ((XN a.st a.mr none).2 ⟨h.mr,h.mri,λ_ h=>by cases h⟩) G⟩
 rw[OT G,QcI];have O:=(XN a.st a.mr none).1 (Lo.1 G);exact⟨λh=>⟨H.1,H.2.1,oa,oa,O.1,O.2.1,h.1,h.2.1⟩,λh=>⟨h.ed,h.edi,λ_ h=>by cases h⟩⟩
theorem X5:∀(l:LI) (a n:Int),YW l->(∀x∈l,a<=x/\x<n)->(l.length:Int)<=max 0 (n - a)
 | [],a,n,_,_=>by simp;omega
 | x::l,a,n,E,G=>by
  simp only[List.pairwise_cons,Ot]at E G;have:=X5 l (x+1) n E.2 (λy H=>⟨ou (E.1 y H),(G.2 y H).2⟩);simp only[oW];omega
theorem ZA.al_le {a:Q0}(h:ZA a):a.al.length<=32:=by have:=X5 a.al 0 32 h.ali h.al;omega
theorem ZA.mr_le {a:Q0}(h:ZA a):a.mr.length<=4096:=by have:=X5 a.mr 0 a.st h.mri h.mr;have:=h.st1;omega
theorem ZA.eds {a:Q0}(h:ZA a):a.ed.Pairwise λx y=>x.1<=y.1:=h.edi.imp λh=>oa
structure Cs where
 ord:LI
 num:LI
 mk':LI
 ed:List Ed
def ZV (l:LI)(k:Int):Int:=l.getD k.toNat 0
def Zq (i:Nat)(c:Cs)(e:Ed):Cs :=
 if ZV c.num e.2.2<0 then⟨c.ord++[e.2.2],c.num.set e.2.2.toNat c.ord.length,c.mk',c.ed++[((i:Int),e.2.1,(c.ord.length:Int))]⟩
 else⟨c.ord,c.num,c.mk',c.ed++[((i:Int),e.2.1,ZV c.num e.2.2)]⟩
def Ya (a:Q0)(i:Nat)(c:Cs):Cs:=if ZV c.ord i∈a.mr then⟨c.ord,c.num,c.mk'++[(i:Int)],c.ed⟩else c
def V2 (a:Q0)(i:Nat)(c:Cs):Cs:=(Z5 a.ed (ZV c.ord i)).foldl (Zq i) (Ya a i c)
def YY (a:Q0):Nat->Nat->Cs->Cs
 | 0,_,c=>c
 | f+1,i,c=>if i<c.ord.length then YY a f (i+1) (V2 a i c)else c
def ZY (a:Q0):Cs:=⟨[0],(oN a.st.toNat (-1)).set 0 0,[],[]⟩
def Yr (a:Q0):Q0:=if a.st=0 then⟨a.al,0,[],[]⟩else
 let c:=YY a a.st.toNat 0 (ZY a);⟨a.al,c.ord.length,c.mk',c.ed⟩
def neg (l:LI):Nat:=(l.filter (·<0)).length
theorem UB:∀(l:LI) (k:Nat) (v:Int) (h:k<l.length),l[k]<0->0<=v->neg (l.set k v)+1=neg l
 | a::l,0,v,_,E,G=>by
  have H:a<0:=E;simp[neg,H,show ¬v<0 by omega]
 | a::l,k+1,v,h,E,G=>by
  have ih:=UB l k v (oz h) E G;unfold neg at *;simp only[List.set_cons_succ,List.filter_cons];split
  ·simp only[oW];omega
  exact ih
structure Ui (st:Int)(c:Cs):Prop where
 nl:c.num.length=st.toNat
 sum:c.ord.length+neg c.num=st.toNat
 ord:∀s∈c.ord,0<=s/\s<st
 num:∀v∈c.num,v<c.ord.length
 el:c.ed.length<=1000000000
theorem Ui.le {st:Int}{c:Cs}(h:Ui st c):c.ord.length<=st.toNat:=by have:=h.sum;omega
theorem UI {l:LI}{k:Int}(h:k.toNat<l.length):ZV l k=l[k.toNat]:=by unfold ZV;simp[oQ,h]
theorem Qjj {l:LI}{k:Int}(h:k.toNat<l.length):ZV l k∈l:=by unfold ZV;simp[oQ,h]
theorem QbI {st:Int}{c:Cs}{e:Ed}(h:Ui st c)(J:0<=e.2.2)(O:e.2.2<st)(hl:c.ed.length+1<=1000000000):Ui st (Zq i c e):=by
 have H:e.2.2.toNat<c.num.length:=by rw[h.nl];omega
 unfold Zq;split
 ·rename_i I;rw[UI H]at I;refine⟨by simp[h.nl],?_,?_,?_,oz hl⟩
  ·have:=UB c.num e.2.2.toNat c.ord.length H I oa;have:=h.sum;simp only[oM,oO];omega
  ·intro s E;simp only[oU,oI]at E;rcases E with E|rfl
   ·exact h.ord s E
   exact⟨J,O⟩
  intro v G;simp only[oM,oO];rcases MS G with G|rfl
  ·have:=h.num v G;omega
  omega
 exact⟨h.nl,h.sum,h.ord,h.num,oz hl⟩
theorem QbK (i:Nat)(c:Cs)(e:Ed):(Zq i c e).ed.length=c.ed.length+1:=by unfold Zq;split <;> simp
theorem QiO {a:Q0}{st:Int}{c:Cs}(h:Ui st c):Ui st (Ya a i c):=by
 unfold Ya;split
 ·exact⟨h.nl,h.sum,h.ord,h.num,h.el⟩
 exact h
theorem ZT {es:List Ed}{e:Ed}(h:e∈Z5 es s):e∈es/\e.1=s:=by unfold Z5 at h;simpa using h
theorem QfJ {a:Q0}(O:0<a.st):Ui a.st (ZY a):=by
 have H:0<a.st.toNat:=oa
 refine⟨by simp[ZY],?_,?_,?_,by simp[ZY]⟩
 ·have I:0<(oN a.st.toNat (-1:Int)).length:=by simpa using H
  have S:=UB (oN a.st.toNat (-1)) 0 0 I oe (NM _);have T:neg (oN a.st.toNat (-1))=a.st.toNat:=by
   unfold neg;rw[Nr.2 (by intro b J;have:=NH J;subst this;rfl)];simp
  simp only[ZY,oO];omega
 ·intro s G;simp[ZY]at G;subst G;omega
 intro v E;simp only[ZY,oO]at *;rcases MS E with E|rfl
 ·have:=NH E;omega
 omega
theorem Qai {a:Q0}{f:Nat}{c:Cs}(h:¬i<c.ord.length):YY a f i c=c:=by
 cases f with
 | zero=>rfl
 | succ f=>rw[YY,OT h]
theorem ZA.ed_le {a:Q0}(h:ZA a):a.ed.length<=131072:=by
 have H:YW (a.ed.map λe=>e.1*32+e.2.1):=by
  refine MF.2 (List.Pairwise.imp_of_mem ?_ h.edi);intro x y hx I S;have E:=h.al _ (h.ed x hx).2.2.1;have G:=h.al _ (h.ed y I).2.2.1;omega
 have E:=X5 _ 0 131072 H (by
  intro v J;obtain⟨e,O,rfl⟩:=LC.1 J;have G:=h.ed e O;have T:=h.al _ G.2.2.1;have:=h.st1;omega)
 simp only[Oc]at E;omega
theorem Vb (es:List Ed)(s:Int):(Z5 es s).length<=es.length:=Ml _ _
structure KS (b3 b22:Nat)(r3:O2)(wS:O1)(c:Cs)(vo vk ve:O2)(w:O1):Prop where
 st:O5 [b3,b22] wS w
 B3:Q7 w.heap b3 59 [r3,oF oG 0,vk,ve]
 B22:Q7 w.heap b22 3 (c.num.map (Value.int .i64))
 o:Qu 3 wS.heap.size w vo c.ord
 k:Qu 3 wS.heap.size w vk c.mk'
 e:YJ 167 wS.heap.size w ve c.ed
 d1:Dj vo vk
 d2:Dj vo ve
 d3:Dj vk ve
theorem KS.I {b3 b22:Nat}{r3:O2}{wS:O1}{c:Cs}{vo vk ve:O2}{w w':O1}(h:KS b3 b22 r3 wS c vo vk ve w)(E:O5 [] w w'):KS b3 b22 r3 wS c vo vk ve w' :=
 ⟨h.st.D E,h.B3.I E,h.B22.I E,Qn h.o E,Qn h.k E,Qn h.e E,h.d1,h.d2,h.d3⟩
section
variable {b3 b22:Nat}{r3:O2}{wS:O1}{c:Cs}{vo:O2}{w'':O1}
theorem KS.setK (h:KS b3 b22 r3 wS c vo vk ve w)(V:b3<wS.heap.size)(S:b22<wS.heap.size)(ne:b3≠b22){H:O2}{m:LI}(I:O5 (ob vk) w w')(J:Qu 3 wS.heap.size w' H m)
  (O:∀b∈ob H,b∈ob vk\/w.heap.size<=b) (G:O5 [b3] w' w'') (T:Q7 w''.heap b3 59 [r3,oF oG 0,H,ve]):KS b3 b22 r3 wS ⟨c.ord,c.num,m,c.ed⟩ vo H ve w'':=by
 have hge:=Qi h.k;refine⟨(h.st.then I (λb E=>.inr (hge b E).1)).then G (λb E=>.inl (by simp at E;simp[E])),T,(h.B22.J I (QS h.k S)).J G (by simp;omega),
  Qf (Qf h.o I h.d1) G (λb E=>by have:=(Qi h.o b E).1;simp;omega),Qf J G (λb E=>by have:=(Qi J b E).1;simp;omega),
  Qf (Qf h.e I h.d3.symm) G (λb E=>by have:=(Qi h.e b E).1;simp;omega),h.d1.grow O (Zb h.o),h.d2,(h.d3.symm.grow O (Zb h.e)).symm⟩
theorem KS.setE (h:KS b3 b22 r3 wS c vo vk ve w)(V:b3<wS.heap.size)(S:b22<wS.heap.size)(ne:b3≠b22){H:O2}{m:List Ed}(I:O5 (ob ve) w w')(J:YJ 167 wS.heap.size w' H m)
  (O:∀b∈ob H,b∈ob ve\/w.heap.size<=b) (G:O5 [b3] w' w'') (T:Q7 w''.heap b3 59 [r3,oF oG 0,vk,H]):KS b3 b22 r3 wS ⟨c.ord,c.num,c.mk',m⟩ vo vk H w'':=by
 have hge:=Qi h.e;refine⟨(h.st.then I (λb E=>.inr (hge b E).1)).then G (λb E=>.inl (by simp at E;simp[E])),T,(h.B22.J I (QS h.e S)).J G (by simp;omega),
  Qf (Qf h.o I h.d2) G (λb E=>by have:=(Qi h.o b E).1;simp;omega),Qf (Qf h.k I h.d3) G (λb E=>by have:=(Qi h.k b E).1;simp;omega),
  Qf J G (λb E=>by have:=(Qi J b E).1;simp;omega),h.d1,h.d2.grow O (Zb h.o),h.d3.grow O (Zb h.k)⟩
theorem KS.setN (h:KS b3 b22 r3 wS c vo vk ve w)(I:b22<wS.heap.size)(ne:b3≠b22){m:LI}(G:O5 [b22] w w')(H:Q7 w'.heap b22 3 (m.map (Value.int .i64))):KS b3 b22 r3 wS ⟨c.ord,m,c.mk',c.ed⟩ vo vk ve w' :=
 ⟨h.st.then G (λb E=>.inl (by simp at E;simp[E])),h.B3.J G (by simp;omega),H,Qf h.o G (λb E=>by have:=(Qi h.o b E).1;simp;omega),
  Qf h.k G (λb E=>by have:=(Qi h.k b E).1;simp;omega),Qf h.e G (λb E=>by have:=(Qi h.e b E).1;simp;omega),h.d1,h.d2,h.d3⟩
theorem KS.setO (h:KS b3 b22 r3 wS c vo vk ve w)(I:b3<wS.heap.size)(J:b22<wS.heap.size){G:O2}{m:LI}(E:O5 (ob vo) w w')(O:Qu 3 wS.heap.size w' G m)
  (H:∀b∈ob G,b∈ob vo\/w.heap.size<=b):KS b3 b22 r3 wS ⟨m,c.num,c.mk',c.ed⟩ G vk ve w' :=
 ⟨h.st.then E (λb S=>.inr (Qi h.o b S).1),h.B3.J E (QS h.o I),h.B22.J E (QS h.o J),O,Qf h.k E h.d1.symm,Qf h.e E h.d2.symm,
  (h.d1.symm.grow H (Zb h.k)).symm,(h.d2.symm.grow H (Zb h.e)).symm,h.d3⟩
end
def Yx (c:Cs)(e:Ed):Cs:=if ZV c.num e.2.2<0 then⟨c.ord++[e.2.2],c.num.set e.2.2.toNat c.ord.length,c.mk',c.ed⟩else c
theorem QlR (c:Cs)(e:Ed):(Yx c e).num.length=c.num.length:=by unfold Yx;split <;> simp
theorem zS {c:Cs}{e:Ed}(h:e.2.2.toNat<c.num.length):Zq i c e=⟨(Yx c e).ord,(Yx c e).num,(Yx c e).mk',(Yx c e).ed++[((i:Int),e.2.1,ZV (Yx c e).num e.2.2)]⟩:=by
 unfold Zq Yx;split
 ·simp[ZV,oQ,h]
 rfl
theorem Jv {L:LN}{a:Q0}(h:ZG L w.heap va vm ve a)(Y:ZA a):
  Q6 prog 52 [.agg #[va,oF oG a.st,vm,ve]] w λr w'=>O5 [] w w'/\Jw w.heap.size w'.heap r (Yr a):=by
 have hst0:=Y.st0;have hst1:=Y.st1;refine Zo func52 ?_;refine Qc<|Qe<|QV (us:=[va,oF oG a.st,vm,ve]) U λb1 w1 gn hb1 hp=>Qe<|Qo (us:=[nS,oF oG 0,nS,nS]) U λb2 w2 hh hb2 hr=>xe ?_;have hl1:=hp.lt;have hl2:=hr.lt;refine Qc<|Qs U (hp.I hh) U U<|QN<|(Z2 ((h.al.I gn).I hh)).mono ?_;rintro r3 w3 ⟨ha,O⟩;have hz3:=ha.size;refine x (Qx ⟨(Qu.ints (L:=[]) O h.al.le oe).cells,Z⟩)<|Qe<|Qo (us:=[nS,oF oG 0,nS,nS]) rfl λb3 w4 kq kr ht =>
  Qe<|Qj (us:=[r3,oF oG 0,nS,nS]) ht U U U U ⟨(Qu.ints (L:=[]) O h.al.le oe).one,rfl,rfl,rfl,Z⟩ λw5 kt ht=>xe ?_
 have J:O5 [] w3 w5:=kq.O kt kr;have hl3:=ht.lt;have go:O5 [] w w5:=((gn.D hh).D ha).D J;refine Qd<|Qc<|Zc U<|x (Qq (((hp.I hh).I ha).I J) U U)<|x (Q2 U U)<|xe<|QZ rfl (λhL=>?_) (λhL=>?_)
 ·refine Qc<|Q9 ht U U<|Qe<|Qj (us:=[r3,oF oG 0,nS,nS]) ((hr.I ha).I J) U U U U ⟨(Qu.ints (L:=[]) O h.al.le oe).one,rfl,rfl,rfl,Z⟩ λw6 gp hr=>xe ?_;refine Qk ⟨[.agg #[r3,oF oG 0,nS,nS]],⟨⟨_,U,Qp U (hr.at (L:=[]) oe).cells⟩,Z⟩,go.O gp oa,?_⟩;have ku:=Qf (Qn O J) gp (λb E=>by have:=(Qi O b E).1;simp;omega);unfold Yr;rw[OU hL];exact⟨r3,_,_,U,λL' hv=>⟨Qu.ints ku h.al.le (λb E=>ou (hv b E)),Zp.nil _ _ _,Zp.nil _ _ _⟩⟩
 have kv:0<a.st:=oa
 obtain⟨n,hn⟩:∃n:Nat,a.st=n:=⟨a.st.toNat,oa⟩;have kw:a.st.toNat=n:=oa
 refine Qh<|Qc<|Zc U<|x (Qq (((hp.I hh).I ha).I J) U U)<|Qe<|qe (n:=n) (OV (Value.int .i64) hn) (OV (Value.int .i64) hn) oa λb22 w7 hw hb22 hM=>Qb ?_;have hl22:=hM.lt;have kx:=go.D hw;rw[show(oN n (oF oG 0).cells.toList).flatten=((oN n 0).map (Value.int .i64)) by rw[show(oF oG 0).cells.toList=[oF oG 0] from rfl,QbT,List.map_replicate]]at hM;have kz:O5 [] w3 w7:=J.D hw;refine Qd<|Qm<|x (Uw U)<|Qa<|xe<|Qg<|QC (α:=Nat) [(5,5),(25,31)] (λk=>[(25,oF oG k)]) (λk w'=>O5 [b22] w7 w'/\k<=n/\Q7 w'.heap b22 3 ((oN k (-1)++oN (n - k) 0).map (Value.int .i64))) (λk=>n - k) ol 0 La
  ⟨O5.Z _ _,Ln _,oz hM⟩ ?_
 rintro k g w8 ⟨hN,hk,hO⟩;refine Qc<|QY U U<|xe<|Qd<|QH U (λk0=>?_) (λk0=>?_)
 rotate_left
 ·have T:k<n:=oa
  refine Qh<|Qd<|Qg<|Qm<|Qb<|Qv<|Qa<|Qa<|x (Zw U U T)<|Qe<|Kn hO U U (by simp;omega) λw9 h7 gq=>xe ?_;refine Qv<|QP U U<|Qa<|xe<|⟨k+1,oa,La,hN.Q h7,oa,?_⟩;have e:(oN k (-1:Int)++oN (n - k) 0).set k (-1)=oN (k+1) (-1)++oN (n - (k+1)) 0:=by
   rw[NA _ _ oe];obtain⟨m,hm⟩:∃m,n - k=m+1:=⟨n - k - 1,oa⟩;rw[hm,show n - (k+1)=m by omega,List.replicate_succ,List.replicate_succ' (n:=k)];simp
  rw[e]at gq;exact gq
 have k4:n=k:=oa
 subst k4;simp only[Nat.sub_self,List.replicate_zero,Ox]at hO;refine Qz<|Qm<|x (Zw (i:=0) U U oa)<|Qe<|Kn (i:=0) hO U U (by simp;omega) λwS h7 k5=>xe ?_;have hzS:w8.heap.size<=wS.heap.size:=h7.size;have hz8:=hN.size;have hy:O5 [b22] w7 wS:=hN.Q h7;have hP:O5 [] w wS:=kx.O hy oa;have hA:ZG [b3,b22] wS.heap va vm ve a:=(h.up (λb E=>.inr (by simp at E;omega))).I hP;have gr:Q7 wS.heap b1 59 [va,oF oG a.st,vm,ve]:=((((hp.I hh).I ha).I J).I hw).J hy (by simp;omega);have k6:Q7 wS.heap b2 59 [nS,oF oG 0,nS,nS]:=(((hr.I ha).I J).I hw).J hy (by simp;omega);have k7:Q7 wS.heap b3 59 [r3,oF oG 0,nS,nS]:=(ht.I hw).J hy (by simp;omega);have k8:Qu 3 w2.heap.size wS r3 a.al:=Qf (Qn O kz) hy (λb E=>by have:=Zb O b E;simp;omega);have k9:∀b∈ob r3,b<w3.heap.size:=Zb O;have hz:b3<wS.heap.size:=oa
 have h0:b22<wS.heap.size:=oa
 have hQ:b3≠b22:=oa
 refine Qc<|Qe<|QA (us:=[[oF oG 0]]) U U og oe ⟨rfl,rfl,Z⟩ λgs ma hR hb34 mf=>Qb ?_;have mg:Qu 3 wS.heap.size ma (.slice (some ⟨gs,0,none⟩) 1 1) [0]:=mf.own (n:=1) (sz:=1) U oa oa;refine Qd<|Qc<|Qb ?_;have hedle:=Y.ed_le;have mh:∀e∈a.ed,0<=e.1/\e.1<=1099511627776:=λe he=>ou (Y.ed e he)
 refine Qg<|QC (α:=Nat×Cs×O2×O2×O2) [(6,9),(11,11),(35,100)] (λz=>[(6,z.2.2.1),(7,oF oG z.1)])
  (λz w'=>KS b3 b22 r3 wS z.2.1 z.2.2.1 z.2.2.2.1 z.2.2.2.2 w'/\z.1<=z.2.1.ord.length/\Ui a.st z.2.1/\z.2.1.mk'.length<=z.1/\z.2.1.ed.length<=z.1*131072/\YY a (a.st.toNat - z.1) z.1 z.2.1=YY a a.st.toNat 0 (ZY a))
  (λz=>a.st.toNat - z.1) ol (0,ZY a,.slice (some ⟨gs,0,none⟩) 1 1,nS,nS) oA
  ⟨⟨hR.any,k7.I hR,by show Q7 _ _ _ (List.map _ ((oN a.st.toNat (-1)).set 0 0));rw[kw];exact k5.I hR,mg,QI _ _ _ _,QI _ _ _ _,Dj.nil' _,Dj.nil' _,Dj.nil' _⟩,Ln _,QfJ kv,Ln _,Ln _,U⟩ ?_
 rintro⟨i,c,vo,vk,S⟩ g2 mj ⟨H,hi,G,mo,mq,hS⟩;simp only[]at H hi G mo mq hS;have hcle:=G.le;have hT:=Qu.ints (L:=[]) H.o oa oe;have ms:=hA.st H.st;have mt:=gr.J H.st (by simp;omega);refine Qd<|Qm<|Qa<|QL hT U<|QY U U<|xe<|QH rfl (λmu=>?_) (λmu=>?_)
 ·have mv:c=YY a a.st.toNat 0 (ZY a):=by rw[<-hS,Qai oa]
  refine Qz<|Qm<|QL hT U<|Zc U<|Qe<|QB H.B3 U U oe rfl λmw h8 my=>xe ?_;refine Qc ?_;have mz:=Qu.ints (L:=[]) H.k oa oe;have m2:=YJ.eds (L:=[]) H.e (ou G.el) oe;have m3:=Qu.ints (L:=[]) O h.al.le oe;refine Q9 my U U<|Qe<|Qj (us:=[r3,oF oG c.ord.length,vk,S]) (((k6.J H.st (by simp;omega))).J h8 (by simp;omega)) U U U U ⟨m3.one,U,mz.one,m2.one,Z⟩ λm4 h9 m5=>xe ?_;have gt:O5 [b3,b22] wS mw:=H.st.then h8 (λb E=>.inl (by simp at E;simp[E]));have m6:O5 [] w m4:=(hP.then gt (λb E=>.inr (by simp at E;omega))).O h9 oa;refine Qk ⟨[.agg #[r3,oF oG c.ord.length,vk,S]],⟨⟨_,U,Qp U (m5.at (L:=[]) oe).cells⟩,Z⟩,m6,?_⟩;unfold Yr;rw[OT hL];simp only[];rw[<-mv];have k1:=Qf (Qf H.k h8 (λb E=>by have:=(Qi H.k b E).1;simp;omega)) h9 (λb E=>by have:=(Qi H.k b E).1;simp;omega);have k2:=Qf (Qf H.e h8 (λb E=>by have:=(Qi H.e b E).1;simp;omega)) h9 (λb E=>by have:=(Qi H.e b E).1;simp;omega);have k3:=Qf (Qf k8 gt (λb E=>by have:=k9 b E;simp;omega)) h9 (λb E=>by have:=(Qi O b E).1;simp;omega);exact⟨r3,vk,S,U,λL' hv=>⟨Qu.ints k3 h.al.le (λb E=>ou (hv b E)),Qu.ints k1 (by show c.mk'.length<=_;omega) (λb E=>ou (hv b E)),YJ.eds k2 (by show c.ed.length<=_;have:=G.el;omega) (λb E=>ou (hv b E))⟩⟩
 have T:i<c.ord.length:=oa
 refine Qh<|Qd<|Qg<|Q3 (α:=O2) [(8,9),(41,57)] (λz=>[]) (λz w'=>KS b3 b22 r3 wS (Ya a i c) vo z S w') ol ?_ ?_
 ·refine Qd<|ZF [] (Xi 0 12 [6])<|p (QQ U)<|pq (λ_ G=>Qq (mt.I G) U U)<|p QF<|p QF<|pii U hT U U T λa46 m7 =>
   pq (λ_ G=>QD (m7.I G) U)<|pk<|xg<|(yX (ms.mr.I (O5.C _ _)) Y.mri _).mono ?_
  rintro r14 w14 ⟨rfl,j14,rfl⟩;refine⟨O5.C _ _,?_⟩;refine p QF<|p (λ_=>Zr U U)<|p (λ_=>Zr U U)<|p ZI<|p ZI<|pe ?_;have hU:=H.I (O5.C [] mj);refine Qm<|xe ?_;have hB:ZV c.ord i=c.ord[i]:=UI (oz T);refine QH U (λhV=>?_) (λhV=>?_)
  ·refine Qh<|⟨vk,Z,?_⟩;unfold Ya;rw[hB,OT hV];exact hU
  refine Qv<|Qs U hU.B3 U U<|Qa<|Qe<|QA (us:=[[oF oG i]]) U U og oe ⟨rfl,rfl,Z⟩ λb55 w15 m8 hb55 m9=>?_;have h2:=hU.I m8;refine Qe<|Q8 (news:=[oF oG i]) (L:=[]) h2.k U U U (m9.at oe) (by simp[Value.oneCell']) oa h2.st.size λv16 pa pc gu pd=>?_;have gv:Qu 3 wS.heap.size pa v16 (c.mk'++[(i:Int)]):=Qu.snoc pc;refine Zc U<|Qe<|QB (h2.B3.J gu (QS h2.k hz)) U U oe (Qu.ints (L:=[]) gv (by simp;omega) oe).one λw17 pf pg=>xe ?_;refine⟨v16,Z,?_⟩;unfold Ya;rw[hB,OU hV];exact h2.setK hz h0 hQ gu gv pd pf pg
 rintro hW g3 h3 hj;have ph:Ui a.st (Ya a i c):=QiO G;have hX:(Ya a i c).ord=c.ord:=by unfold Ya;split <;> rfl
 have pj:(Ya a i c).ed=c.ed:=by unfold Ya;split <;> rfl
 have pm:(Ya a i c).mk'.length<=i+1:=by
  unfold Ya;split
  ·simp only[oM,oO];omega
  omega
 have gw:QR [] h3.heap vo (Ya a i c).ord:=Qu.ints (L:=[]) hj.o (by rw[hX];omega) oe;rw[hX]at gw;have pn:O5 [] w h3:=hP.then hj.st (λb E=>.inr (by simp at E;omega));have po:ZG (b3::b22::(ob vo++ob S)) h3.heap va vm ve a:=(h.up (λb E=>.inr (by
  simp only[oL,oU]at E;rcases E with rfl|rfl|E|E
  ·omega
  ·omega
  ·have:=(Qi hj.o b E).1;omega
  have:=(Qi hj.e b E).1;omega))).I pn
 have pp:=gr.J hj.st (by simp;omega);have hs:=G.ord c.ord[i] (Ll T);refine Qd<|ZF [] [oD 0,oD 1,oD 2,oD 3,oD 4,oD 7,oE 5,oD 6]<|pq (λ_ G=>Z1 (pp.I G) U U)<|p QF<|p QF<|pii U gw U U T λa61 pu =>
  pq (λ_ G=>QD (pu.I G) U)<|p QF<|pk<|xg<|(QaK (po.ed.I (O5.C _ _)) Y.eds mh c.ord[i] hs.1 oa).mono ?_
 rintro r19 ho ⟨pw,gx⟩;have gy:O5 [] h3 ho:=(O5.C [] h3).D pw;refine⟨gy,?_⟩;refine p (λ_=>YX gx U)<|pe ?_;have pz:=hj.I gy;have hB:ZV c.ord i=c.ord[i]:=UI (oz T);have hol:=Vb a.ed c.ord[i];have p0:V2 a i c=(Z5 a.ed c.ord[i]).foldl (Zq i) (Ya a i c):=by unfold V2;rw[hB]
 generalize p1:Z5 a.ed c.ord[i]=os at *;have p2:∀e∈os,0<=e.2.2/\e.2.2<a.st:=λe he=>by rw[<-p1]at he;have:=Y.ed e (ZT he).1;omega
 refine Qg<|QC (α:=Nat×Cs×O2×O2) [(6,6),(11,11),(65,100)] (λz=>[(6,z.2.2.1),(65,oF oG z.1)])
  (λz w'=>KS b3 b22 r3 wS z.2.1 z.2.2.1 hW z.2.2.2 w'/\O5 (b3::b22::(ob vo++ob S)) ho w'/\(∀b∈ob z.2.2.1,b∈ob vo\/ho.heap.size<=b)/\(∀b∈ob z.2.2.2,b∈ob S\/ho.heap.size<=b)/\z.1<=os.length/\Ui a.st z.2.1/\z.2.1.mk'=(Ya a i c).mk'/\z.2.1.ed.length=c.ed.length+z.1/\c.ord.length<=z.2.1.ord.length/\(os.drop z.1).foldl (Zq i) z.2.1=V2 a i c)
  (λz=>os.length - z.1) ol (0,Ya a i c,vo,S) oA
  ⟨pz,O5.Z _ _,λ_ E=>.inl E,λ_ E=>.inl E,Ln _,ph,U,by simp[pj],by simp[hX],by rw[p0];rfl⟩ ?_
 rintro⟨k,d,gz,hC⟩ g4 p3 ⟨hf,hD,hE,hY,p4,V,hZ,ga,p5,h4⟩;simp only[]at hf hD hE hY p4 V hZ ga p5 h4;refine Qc<|QY U U<|xe<|Qd<|QH U (λp6=>?_) (λp6=>?_)
 ·rw[Lr oa,NL]at h4;subst h4;refine Qz<|Qv<|Qa<|QP U U<|Qb ?_;have p7:=V.le;refine⟨(i+1,V2 a i c,gz,hW,hC),oh,oA,hf,oh,V,by simp only[];rw[hZ];exact pm,oh,?_⟩;simp only[];rw[<-hS];obtain⟨m,hm⟩:∃m,a.st.toNat - i=m+1:=⟨a.st.toNat - i - 1,oa⟩;rw[hm,YY,OU T,show a.st.toNat - (i+1)=m by omega]
 have gb:k<os.length:=oa
 have p8:=Zf gb;rw[p8,LZ]at h4;have g0:=p2 os[k] (Ll gb);have p9:=gx.st hD;have p7:=V.le;have hzS4:=hD.size;have hI4z:=hf.st.size;have qc:=Qu.ints (L:=[]) hf.o oa oe;obtain⟨q,hq⟩:∃q:Nat,os[k].2.2=q:=⟨os[k].2.2.toNat,oa⟩;have gc:os[k].2.2.toNat=q:=oa
 have gg:q<n:=oa
 have gh:q<d.num.length:=by rw[V.nl];omega
 have g6:ZV d.num os[k].2.2=d.num[q]:=by rw[UI oa];simp only[gc]
 have qf:=Zb hf.e;have ql:=Zb hf.o;refine Qh<|Qd<|Qg<|Qc<|xie p9 U U gb λa67 qo=>x (Qw qo U U)<|Qe<|Qo (us:=[oF oG 0,oF oG 0,oF oG 0]) U λg7 w21 qr qy hg=>Qe<|Qj (us:=QE os[k]) hg U U U U oB λq0 q1 hg=>xe ?_;have g8:O5 [] p3 q0:=qr.O q1 qy;have hF:=hf.I g8;have hl11:=hg.lt;have J:=hD.D g8;refine Q3 (α:=O2) [(6,6),(69,85)] (λz=>[(6,z)]) (λz w'=>KS b3 b22 r3 wS (Yx d os[k]) z hW hC w'/\O5 (b3::b22::(ob vo++ob S)) ho w'/\(∀b∈ob z,b∈ob vo\/ho.heap.size<=b)/\Q7 w'.heap g7 167 (QE os[k])) ol ?_ ?_
 ·refine Qm<|Qs U hg U U<|x (Zw U (OV (Value.int .i64) hq) gg)<|x (zr hF.B22 U gh)<|QY U U<|xe<|QH U (λgi=>?_) (λgi=>?_)
  ·refine Qh<|⟨gz,La,?_,J,hE,hg⟩;unfold Yx;rw[g6,OT gi];exact hF
  refine Qm<|Qs U hg U U<|Qa<|QL qc U<|x (Zw U (OV (Value.int .i64) hq) gg)<|Qe<|Kn hF.B22 U U gh λw23 hG q2=>xe ?_;have q3:=hF.setN h0 hQ hG q2;have g9:=hg.J hG (by simp;omega);refine Qv<|Qa<|Qs U g9 U U<|Qe<|QA (us:=[[oF oG os[k].2.2]]) U U og oe ⟨rfl,rfl,Z⟩ λb84 w24 hH hb84 q4=>?_;have gj:=q3.I hH;refine Qe<|Q8 (news:=[oF oG os[k].2.2]) (L:=[]) gj.o U U U (q4.at oe) (by simp[Value.oneCell']) (by show d.ord.length+1<=_;omega) gj.st.size λka q5 za gk kb=>Qb ?_;have zb:Qu 3 wS.heap.size q5 ka (d.ord++[os[k].2.2]):=Qu.snoc za;have hz23:=hG.size;have hz24:=hH.size;refine⟨ka,La,?_,?_,?_,(g9.I hH).J gk (λE=>ou (ql _ E))⟩
  ·unfold Yx;rw[g6,OU gi,gc];exact gj.setO hz h0 gk zb kb
  ·refine((J.then hG (λb E=>.inl ?_)).D hH).then gk (λb E=>?_)
   ·simp at E;simp[E]
   rcases hE b E with I|I
   ·exact .inl (by simp[I])
   exact .inr I
  intro b E;rcases kb b E with I|I
  ·exact hE b I
  exact .inr oa
 rintro zv g5 kc ⟨h5,ke,z0,kf⟩;have gl:Zq i d os[k]=⟨(Yx d os[k]).ord,(Yx d os[k]).num,(Yx d os[k]).mk',(Yx d os[k]).ed++[((i:Int),os[k].2.1,ZV (Yx d os[k]).num os[k].2.2)]⟩:=zS oa;have z1:q<(Yx d os[k]).num.length:=by rw[QlR];exact gh
 have z2:ZV (Yx d os[k]).num os[k].2.2=(Yx d os[k]).num[q]:=by rw[UI oa];simp only[gc]
 have kg:=QS h5.e hz;have z3:=QS h5.e h0;have kh:g7∉ob hC:=λE=>ou (qf _ E)
 have ki:(Yx d os[k]).ed=d.ed:=by unfold Yx;split <;> rfl
 have z4:Ui a.st (Zq i d os[k]):=QbI V g0.1 g0.2 (by rw[ga];omega);refine ZF (ob hC) (Xi 0 15 [11,12,14])<|p (QQ U)<|pq (λ_ G=>Qq (h5.B3.J G kg) U U)<|p QF<|p (QQ U)<|pq (λ_ G=>Qq (kf.J G kh) U U) <|
  p QF<|p (QQ U)<|pq (λ_ G=>Qq (kf.J G kh) U U)<|p (λ_=>Zw U (OV (Value.int .i64) hq) gg) <|
  pq (λ_ G=>zr (h5.B22.J G z3) U z1)<|p (λ_=>Qx ⟨U,U,U,Z⟩)<|pk<|QA (us:=[QE ((i:Int),os[k].2.1,(Yx d os[k]).num[q])]) U U og (by exact(by decide:1*3<=1000000)) oA λb97 z5 z6 hb97 hB97=>?_
 have h6:O5 [] kc z5:=(O5.C [] kc).D z6;refine⟨h6.any,?_⟩;have hJ:=h5.I h6;refine pk<|Q8 (news:=QE ((i:Int),os[k].2.1,(Yx d os[k]).num[q])) (L:=[]) hJ.e U U U (hB97.at oe) (λu hu=>by simp only[QE,oL,oJ,or_false]at hu;rcases hu with rfl|rfl|rfl <;> rfl) (by rw[ki];have:=V.el;omega) hJ.st.size λkj w28 ho28 hK kk=>?_
 refine⟨h6.any.Q hK,?_⟩;have kn:YJ 167 wS.heap.size w28 kj ((Yx d os[k]).ed++[((i:Int),os[k].2.1,(Yx d os[k]).num[q])]):=YJ.snoc ho28;refine p (QQ U)<|pkl (hl:=by kernel_rfl)<|QB (hJ.B3.J hK kg) U U oe (YJ.eds (L:=[]) kn (by simp[ki];have:=V.el;omega) oe).one λw29 ko hB29=>pe ?_;have gm:=hJ.setE hz h0 hQ hK kn kk ko hB29;rw[<-z2]at gm;rw[<-gl]at gm;refine Qv<|QP U U<|Qa<|xe ?_;have hz26:=ke.size;have hz27:=h6.size;refine⟨(k+1,Zq i d os[k],zv,kj),oh,oA,gm,?_,z0,?_,oh,z4,?_,?_,?_,h4⟩
 ·refine(((ke.D h6)).then hK (λb E=>?_)).then ko (λb E=>.inl (by simp at E;simp[E]));rcases hY b E with I|I
  ·exact .inl (by simp[I])
  exact .inr I
 ·intro b E;rcases kk b E with I|I
  ·exact hY b I
  exact .inr oa
 ·simp only[];rw[<-hZ,gl];simp only[];unfold Yx;split <;> rfl
 ·simp only[];rw[QbK,ga];omega
 simp only[];rw[gl];simp only[];unfold Yx;split
 ·simp only[oM];omega
 omega
end Go.Lg
namespace Go.Proofs
open Go.Proofs.Tryz
open Go.Shelf
def Tryz.lays169_ren:Go.Shelf.Ren:=⟨λ|169=>189|n=>n,λ|70=>337|9=>9|0=>0|72=>339|37=>188|127=>401|3=>3|5=>5|n=>n,λ|n=>n⟩
theorem Tryz.lays169:Go.Proofs.Lays.n169 prog Tryz.lays169_ren:={
 mixed:=od
 f169:=func189.D (OV some od)
 t0:=underlying0
 a0:=isAgg0
 z0:=sizeOf0
 v0:=zeroValue0
 t3:=underlying3
 a3:=isAgg3
 z3:=sizeOf3
 v3:=zeroValue3
 t9:=underlying9
 a9:=isAgg9
 z9:=sizeOf9
 v9:=zeroValue9
 t37:=underlying188
 a37:=isAgg188
 z37:=sizeOf188
 v37:=zeroValue188
 t70:=underlying337
 a70:=isAgg337
 z70:=sizeOf337
 v70:=zeroValue337
 t72:=underlying339
 a72:=isAgg339
 z72:=sizeOf339
 v72:=zeroValue339
 t127:=underlying401
 a127:=isAgg401
 z127:=sizeOf401
 v127:=zeroValue401 }
theorem Tryz.Builder_Extra_169:Builder.Extra prog Tryz.lays169_ren:={
 sizeBuilder:=od
 liesBuilder:=od
 t5:=underlying5
 a5:=isAgg5
 z5:=sizeOf5
 v5:=zeroValue5
 infoByte:=od
 cellsByte:=od
 sizeByte:=od
 neB5:=by decide }
open Go.RowKit in
open Go.RowKit in
open Go.RowKit in
theorem Tryz.Builder_String_any (B b:Nat)(l:List UInt8)(w:O1)(h:Lib.IsBuilder 339 5 B b (Lib.byteCells l) w)(E:B<=w.heap.size):
  Calls prog 189 #[.pointer (some ⟨b,0,none⟩)] w λe w'=>e=.returned (.string ⟨l.toArray⟩)/\Below B w w':=Any.Builder_String_any Tryz.lays169 Tryz.Builder_Extra_169 B b l w h E
def Tryz.laysM171_ren:Go.Shelf.Ren:=⟨λ|171=>188|243=>253|246=>294|283=>328|284=>329|285=>330|286=>331|129=>215|317=>344|318=>345|319=>346|320=>347|337=>350|338=>351|n=>n,λ|3=>3|9=>9|2=>2|4=>4|171=>464|0=>0|53=>369|37=>188|5=>5|173=>466|212=>479|51=>367|20=>20|213=>480|46=>285|232=>483|233=>484|n=>n,λ|17=>0|18=>1|19=>2|n=>n⟩
theorem Tryz.laysM171:Go.Proofs.LaysM.n171 prog Tryz.laysM171_ren:={
 mixed:=od
 f129:=func215.D (OV some od)
 f171:=func188.D (OV some od)
 f243:=func253.D (OV some od)
 f246:=func294.D (OV some od)
 f283:=func328.D (OV some od)
 f284:=func329.D (OV some od)
 f285:=func330.D (OV some od)
 f286:=func331.D (OV some od)
 f317:=func344.D (OV some od)
 f318:=func345.D (OV some od)
 f319:=func346.D (OV some od)
 f320:=func347.D (OV some od)
 f337:=func350.D (OV some od)
 f338:=func351.D (OV some od)
 t0:=underlying0
 a0:=isAgg0
 z0:=sizeOf0
 v0:=zeroValue0
 t2:=underlying2
 a2:=isAgg2
 z2:=sizeOf2
 v2:=zeroValue2
 t3:=underlying3
 a3:=isAgg3
 z3:=sizeOf3
 v3:=zeroValue3
 t4:=underlying4
 a4:=isAgg4
 z4:=sizeOf4
 v4:=zeroValue4
 t5:=underlying5
 a5:=isAgg5
 z5:=sizeOf5
 v5:=zeroValue5
 t9:=underlying9
 a9:=isAgg9
 z9:=sizeOf9
 v9:=zeroValue9
 t20:=underlying20
 a20:=isAgg20
 z20:=sizeOf20
 v20:=zeroValue20
 t37:=underlying188
 a37:=isAgg188
 z37:=sizeOf188
 v37:=zeroValue188
 t46:=underlying285
 a46:=isAgg285
 z46:=sizeOf285
 v46:=zeroValue285
 t51:=underlying367
 a51:=isAgg367
 z51:=sizeOf367
 v51:=zeroValue367
 t53:=underlying369
 a53:=isAgg369
 z53:=sizeOf369
 v53:=zeroValue369
 t171:=underlying464
 a171:=isAgg464
 z171:=sizeOf464
 v171:=zeroValue464
 t173:=underlying466
 a173:=isAgg466
 z173:=sizeOf466
 v173:=zeroValue466
 t212:=underlying479
 a212:=isAgg479
 z212:=sizeOf479
 v212:=zeroValue479
 t213:=underlying480
 a213:=isAgg480
 z213:=sizeOf480
 t232:=underlying483
 a232:=isAgg483
 z232:=sizeOf483
 v232:=zeroValue483
 t233:=underlying484
 a233:=isAgg484
 z233:=sizeOf484
 v233:=zeroValue484
 g17:=od
 g18:=od
 g19:=od
 i0:=od
 i2:=od
 i3:=od
 i4:=od
 i5:=od
 i9:=od
 i20:=od
 i37:=od
 i46:=od
 i51:=od
 i53:=od
 i171:=od
 i173:=od
 i212:=od
 i232:=od
 i233:=od
 m17:=od
 m18:=od
 m19:=by kernel_rfl }
open Go.RowKit Go.Sort Go.Lib in
theorem Tryz.strconv_Itoa (n:Int)(E:-9223372036854775808<=n)(G:n<=9223372036854775807)(w:O1)(H:Lib.TabIs prog w "internal/strconv.uint64pow10" .u64 Lib.pow10Tab):
  Calls prog 188 #[oF oG n] w λe w'=>e=.returned (.string ⟨(Lib.itoa n).toArray⟩)/\∃k os,w'=grow (w.drewN k) os:=Any.strconv_Itoa Tryz.laysM171 n E G w H
def Tryz.lays171_ren:Go.Shelf.Ren:=⟨λ|171=>188|243=>253|246=>294|283=>328|284=>329|285=>330|286=>331|129=>215|317=>344|318=>345|319=>346|320=>347|337=>350|338=>351|n=>n,λ|3=>3|9=>9|2=>2|4=>4|171=>464|0=>0|53=>369|37=>188|5=>5|173=>466|212=>479|51=>367|20=>20|213=>480|46=>285|232=>483|233=>484|n=>n,λ|17=>0|18=>1|19=>2|n=>n⟩
theorem Tryz.lays171:Go.Proofs.Lays.n171 prog Tryz.lays171_ren:={
 mixed:=od
 f129:=func215.D (OV some od)
 f171:=func188.D (OV some od)
 f243:=func253.D (OV some od)
 f246:=func294.D (OV some od)
 f283:=func328.D (OV some od)
 f284:=func329.D (OV some od)
 f285:=func330.D (OV some od)
 f286:=func331.D (OV some od)
 f317:=func344.D (OV some od)
 f318:=func345.D (OV some od)
 f319:=func346.D (OV some od)
 f320:=func347.D (OV some od)
 f337:=func350.D (OV some od)
 f338:=func351.D (OV some od)
 t0:=underlying0
 a0:=isAgg0
 z0:=sizeOf0
 v0:=zeroValue0
 t2:=underlying2
 a2:=isAgg2
 z2:=sizeOf2
 v2:=zeroValue2
 t3:=underlying3
 a3:=isAgg3
 z3:=sizeOf3
 v3:=zeroValue3
 t4:=underlying4
 a4:=isAgg4
 z4:=sizeOf4
 v4:=zeroValue4
 t5:=underlying5
 a5:=isAgg5
 z5:=sizeOf5
 v5:=zeroValue5
 t9:=underlying9
 a9:=isAgg9
 z9:=sizeOf9
 v9:=zeroValue9
 t20:=underlying20
 a20:=isAgg20
 z20:=sizeOf20
 v20:=zeroValue20
 t37:=underlying188
 a37:=isAgg188
 z37:=sizeOf188
 v37:=zeroValue188
 t46:=underlying285
 a46:=isAgg285
 z46:=sizeOf285
 v46:=zeroValue285
 t51:=underlying367
 a51:=isAgg367
 z51:=sizeOf367
 v51:=zeroValue367
 t53:=underlying369
 a53:=isAgg369
 z53:=sizeOf369
 v53:=zeroValue369
 t171:=underlying464
 a171:=isAgg464
 z171:=sizeOf464
 v171:=zeroValue464
 t173:=underlying466
 a173:=isAgg466
 z173:=sizeOf466
 v173:=zeroValue466
 t212:=underlying479
 a212:=isAgg479
 z212:=sizeOf479
 v212:=zeroValue479
 t213:=underlying480
 a213:=isAgg480
 z213:=sizeOf480
 t232:=underlying483
 a232:=isAgg483
 z232:=sizeOf483
 v232:=zeroValue483
 t233:=underlying484
 a233:=isAgg484
 z233:=sizeOf484
 v233:=zeroValue484
 g17:=od
 g18:=od
 g19:=by kernel_rfl }
open Go.RowKit Go.Sort Go.Lib in
theorem Tryz.strconv_Itoa_small (i:Nat)(hi:i<100)(w:O1):
  Calls prog 188 #[oF oG i] w λe w'=>e=.returned (.string ⟨(Lib.decDigits i).toArray⟩)/\w'=w:=Any.strconv_Itoa_small Tryz.lays171 i hi w
end Go.Proofs
namespace Go.Lg
open Go.RowKit
section
variable {K:Fr->O1->Prop}{f:Fr}{pS:String}
theorem J3 {te:Nat}(G:P.underlying t=some (.pointer te)){x:O3}{a:Option Addr}(hx:ev f x=.pointer a)(H:ev f y=.pointer none):
  (execOp (ev f) ⟨d,.binOp .eql t x y E,ty,pS,af,gd⟩).run P w=.ok (.value (.bool a.isNone)) w:=by
 have I:(eqGuard .eql t x y (.pointer a) (.pointer none)).run P w=.ok () w:=by simp[eqGuard]
 have key:∀m,(Op.equalIn (m+1) t (.pointer a) (.pointer none)).run P w=.ok a.isNone w:=by
  intro m;unfold Op.equalIn;cases a <;> simp[run_underlying G]
 have J:(Op.equal t (.pointer a) (.pointer none)).run P w=.ok a.isNone w:=key 9999;simp only[execOp,hx,H,Sem.run_bind,I,Result.andThen_ok,binOp,J,Sem.run_pure]
theorem Qgd {te:Nat}{j:TypeInfo}(G:P.underlying t=some (.pointer te))(H:P.info? te=some j){x:O3}{a:Addr}(hx:ev f x=.pointer (some a))(I:ev f y=.pointer (some a)):
  (execOp (ev f) ⟨d,.binOp .neq t x y E,ty,pS,af,gd⟩).run P w=.ok (.value (.bool false)) w:=by
 have J:(eqGuard .neq t x y (.pointer (some a)) (.pointer (some a))).run P w=.ok () w:=by simp[eqGuard]
 simp only[execOp,hx,I,Sem.run_bind,J,Result.andThen_ok,Lib.run_neq_ptr_same w a G H,Sem.run_pure]
theorem zt {x:O3}{v:O2}(hx:ev f x=v)(h:(convert t E v).run P w=.ok v' w):
  (execOp (ev f) ⟨d,.convert t E x,ty,pS,af,gd⟩).run P w=.ok (.value v') w:=by
 simp[execOp,hx,h]
theorem Qij {e:Array O2->Sem O2}{x:O3}{v:O2}{ts:Array Nat}(G:P.funcs[g]?=some fn)(H:(fn.name == "runtime.NumGoroutine")=false)
  (I:fn.body.isNone=true) (J:Extern.findNext fn=none) (O:Extern.find fn=some e) (h:(e #[ev f x]).run P w=.ok v w):
  (execOp (ev f) ⟨d,.call ⟨.value (.func g),#[x],ts⟩,ty,pS,af,gd⟩).run P w=.ok (.value v) w:=by
 have E:=run_callFunc_extern G H I J O #[ev f x] w;rw[h]at E;have S:ev f (.func g)=.func (.func g) #[] #[]:=rfl;simp[execOp,resolve,S,Deferred.ofValue,invoke,E,Result.andThen]
theorem Qom {e u:Nat}[h:Sl P t e 1 1 (.int .u8 0)](E:P.underlying u=some .string){s:O3}{base:Nat}{v:O2}{cs:LV}(G:w.ownsRow base e 1 v n cs)(H:ev f s=v)
  {b:ByteArray} (I:ev f y=.string b) (hb:n+b.size<=1099511627776) (J:base<=w.heap.size)
  (hK:∀v' w',w'.ownsRow base e 1 v' (n+b.size) (cs++Lib.strCells b)->O5 (ob v) w w'->K (QW f d v') w'):
  XO P ⟨d,.call ⟨.builtin .append,#[s,y],#[t,u]⟩,ty,pS,af,gd⟩ f w K:=by
 obtain⟨i,hi,O,S,T⟩:=Sl.info h;obtain⟨v',w',V,Y,h3,_⟩:=Lib.run_append_own_string (P:=P) w base t u ty e i h.u E hi O S T v n cs G b (by simp only[maxLen];omega) oa J;have ha:(execOp (ev f) ⟨d,.call ⟨.builtin .append,#[s,y],#[t,u]⟩,ty,pS,af,gd⟩).run P w=.ok (.value v') w':=by
  simp[execOp,resolve,invoke,builtin,H,I,V]
 exact xv ha (hK v' w' Y (by rw[yj];exact O5.of_grown h3))
theorem Qig {x:O3}{u:Nat}(E:P.underlying u=some .string){b:ByteArray}(hx:ev f x=.string b):
  (execOp (ev f) ⟨d,.call ⟨.builtin .len,#[x],#[u]⟩,ty,pS,af,gd⟩).run P w=.ok (.value (oF oG b.size)) w:=by
 simp[execOp,resolve,invoke,builtin,Builtin.len_,hx,run_underlying E,goInt]
end
def Bl (p:O2)(b:Nat)(E:List UInt8)(w:O1):Prop:=∃v,Q7 w.heap b 339 [p,v]/\w.ownsRow (b+1) 5 1 v E.length (Lib.byteCells E)
def me (b:Nat):O2:=.pointer (some ⟨b,0,none⟩)
theorem Qmj (h:(P.info? t).map (·.size)=some n):∃j,P.info? t=some j/\j.size=n:=by
 simpa using h
theorem Qak {cs:LV}(h:Q7 w.heap b T cs):w.shape? b=some (T,cs.length):=by
 unfold Q7 at h;simp[World.shape?,h]
theorem US {G:O1}{J:List UInt8}{p:O2}(O:O5 [] G w)(T:G.heap.size<=b)(V:p=.pointer none\/p=me b)(h:Bl p b J w):
  Q6 prog 252 [me b] w λr w'=>r=.tuple #[]/\O5 [] G w'/\Bl (me b) b J w':=by
 obtain⟨v,E,H⟩:=h;obtain⟨j,I,Y⟩:=Qmj (P:=prog) (t:=339) (n:=2) od;refine Zo func252 ?_;refine Qc ?_;rcases V with rfl|rfl
 ·refine Qa<|Yt U<|Qs U E U U<|x (J3 underlying337 U U)<|xe<|y7 U ?_;refine Qv<|Qa<|Qa<|x (zt (v':=me b) U (Lib.run_to_unsafe w ⟨b,0,none⟩ underlying337 underlying441 I (by rw[Y];decide) (Qak E) oe)) <|
   x (Qij (v:=me b) func293 od od od (e:=Extern.AbiNoEscape.same) od U) <|
   x (zt (v':=me b) U (Lib.run_from_unsafe w ⟨b,0,none⟩ underlying441 underlying337 I (Qak E) od))<|x (V3 U) <|
   Zc rfl<|Qe<|QB E U U oe rfl λw2 S ha=>xe ?_
  exact⟨[],Z,U,O.O S T,v,ha,Qf H S (λc hc=>by have:=(Qi H c hc).1;simp;omega)⟩
 refine Qa<|Yt U<|Qs U E U U<|x (J3 underlying337 U U)<|xe<|Z0 U<|Qm<|Yt U<|Qs U E U U<|Qa<|x (Qgd underlying337 I U U)<|xe<|Z0 U<|Qh ?_;exact⟨[],Z,U,O,v,E,H⟩
theorem Qau {I:O1}{E:List UInt8}{p:O2}(h0:O5 [] I w)(T:I.heap.size<=b)(hp:p=.pointer none\/p=me b)(h:Bl p b E w)(c:UInt8)(hl:E.length+1<=1000000000):
  Q6 prog 250 [me b,.int .u8 c.toNat] w λ_ w'=>O5 [] I w'/\Bl (me b) b (E++[c]) w':=by
 refine Zo func250 ?_;refine Qc<|Qb<|Qm<|QN<|(US h0 T hp h).mono ?_;rintro r1 w1 ⟨rfl,ha,v,J,O⟩;refine xe ?_;have hj:=J.lt;refine Qm<|Qa<|Yt U<|Qs U J U U<|Qa<|Qe<|QA (us:=[[.int .u8 c.toNat]]) U U og oe ⟨rfl,rfl,Z⟩ λb13 w2 H hk he=>?_;have hm:=H.size;have hf:=Qn O H;refine Qe<|Q8 (news:=[.int .u8 c.toNat]) (L:=[]) hf U U U (he.at oe) (by simp[Value.oneCell']) oa oa λv3 w3 hg V hn=>?_;have hh:=(J.I H).J V (λG=>ou (Qi O b G).1);have S:w3.ownsRow (b+1) 5 1 v3 (E++[c]).length (Lib.byteCells (E++[c])):=by simpa[Lib.byteCells]using hg
 refine Yt rfl<|Zc U<|Qe<|QB hh U U oe (QK (L:=[]) S (by simp;omega) oe).one λw4 Y hi=>xe ?_;refine Qc<|Qb<|Qk ⟨[.nilIface],La,(((ha.D H).then V (λc G=>.inr ?_)).O Y T),v3,hi,Qf S Y (λc G=>by have:=(Qi S c G).1;simp;omega)⟩;have:=(Qi O c G).1;omega
theorem K4 {H:O1}{E:List UInt8}{p:O2}(h0:O5 [] H w)(S:H.heap.size<=b)(hp:p=.pointer none\/p=me b)(h:Bl p b E w)(s:ByteArray)(hl:E.length+s.size<=1000000000):
  Q6 prog 187 [me b,.string s] w λ_ w'=>O5 [] H w'/\Bl (me b) b (E++s.data.toList) w':=by
 refine Zo func187 ?_;refine Qc<|x Ql<|Qb<|Qm<|QN<|(US h0 S hp h).mono ?_;rintro r1 w1 ⟨rfl,ha,v,I,J⟩;refine xe ?_;have hh:=I.lt;refine Qm<|Qa<|Yt U<|Qs U I U U<|Qa<|Qe<|Qom underlying9 J U U oa oa λv3 w3 he T=>?_;have hf:=I.J T (λG=>ou (Qi J b G).1);have V:s.size=s.data.toList.length:=rfl;have O:w3.ownsRow (b+1) 5 1 v3 (E++s.data.toList).length (Lib.byteCells (E++s.data.toList)):=by
  rw[Lk,<-V,show Lib.byteCells (E++s.data.toList)=Lib.byteCells E++Lib.strCells s by simp[Lib.byteCells,Lib.strCells_eq]];exact he
 refine Yt rfl<|Zc U<|Qe<|QB hf U U oe (QK (L:=[]) O (by rw[Lk,<-V];omega) oe).one λw4 Y hg=>xe ?_;refine Qm<|x (Qig underlying9 U)<|x Ql<|Qb<|Qk ⟨[oF oG s.size,.nilIface],oA,((ha.then T (λc G=>.inr ?_)).O Y S),v3,hg,Qf O Y (λc G=>by have:=(Qi O c G).1;simp;omega)⟩;have:=(Qi J c G).1;omega
theorem jB {I:O1}{H:List UInt8}{p:O2}(E:O5 [] I w)(hb:I.heap.size<=b)(T:p=.pointer none\/p=me b)(h:Bl p b H w):
  Q6 prog 189 [me b] w λr w'=>r=.string ⟨H.toArray⟩/\O5 [] I w':=by
 obtain⟨v,J,O⟩:=h;have ha:=J.lt;have S:Lib.BuilderAt 339 5 b b p (Lib.byteCells H) w:=⟨Lx _,v,J,by rw[Lib.byteCells_length];exact Zu O oa,λe=>by
  have:b∈ob v:=by rw[yj,e];simp
  have:=(Qi O b this).1;omega⟩
 unfold Q6;refine Calls.mono (Tryz.Builder_String_any b b H w (by rcases T with rfl|rfl;exact .inl S;exact .inr S) oa) ?_
 rintro e w' ⟨rfl,G⟩;exact⟨U,⟨G.os.D E.os,G.tape.D E.tape,G.output.D E.output,LP E.size G.size,λk V Y=>(G.block k oa).D (E.block k V Y)⟩⟩
def Tb (w:O1):Prop:=Lib.TabIs prog w "internal/strconv.uint64pow10" .u64 Lib.pow10Tab
theorem Qhy {name:String}{v:Array O2}(h:w.var? P name=some v)(H:O5 [] w w'):w'.var? P name=some v:=by
 unfold World.var? at *;rw[MY]at *;obtain⟨g,I,E⟩:=h;refine⟨g,I,?_⟩;cases G:w.heap[g]? with
 | none=>rw[G]at E;cases E
 | some o =>
  have J:g<w.heap.size:=(LK.1 G).1;rw[H.block g J oe];exact E
theorem Tb.I (h:Tb w)(E:O5 [] w w'):Tb w':=Qhy h E
def Kb (w:O1)(m:Int):Prop:=m<=100\/(m<=1000000/\Tb w)
theorem Kb.I {w w':O1}{m:Int}(h:Kb w m)(E:O5 [] w w'):Kb w' m:=h.imp id λh=>⟨h.1,h.2.I E⟩
theorem Kb.le {m:Int}(h:Kb w m):m<=1000000:=by rcases h with h|h <;> omega
theorem Qdg {k:Nat}{os:xC}:O5 [] w (Sort.grow (w.drewN k) os):=by
 refine⟨U,U,U,?_,λi hi _=>?_⟩
 ·show w.heap.size<=(w.heap++os).size;simp
 show(w.heap++os)[i]?=w.heap[i]?;rw[Array.getElem?_append_left hi]
theorem Qe1 {m:Int}(i:Nat)(hi:(i:Int)<m)(w:O1)(E:Kb w m):Q6 prog 188 [oF oG i] w λr w'=>r=.string ⟨(Lib.decDigits i).toArray⟩/\O5 [] w w':=by
 unfold Q6;rcases E with E|E
 ·refine Calls.mono (Tryz.strconv_Itoa_small i oa w) ?_;rintro e w' ⟨rfl,rfl⟩;exact⟨U,O5.Z _ _⟩
 refine Calls.mono (Tryz.strconv_Itoa i oa oa w E.2) ?_;rintro e w' ⟨rfl,k,os,rfl⟩;refine⟨?_,Qdg⟩;unfold Lib.itoa;rw[OT oa,MD]
def JT (l:LI):List UInt8:=l.flatMap λn=>Lib.decDigits n.toNat++[32]
theorem qw:∀(k u:Nat),u<10 ^ k->(Lib.decDigits u).length<=max 1 k
 | 0,u,h=>by
  unfold Lib.decDigits;rw[dif_pos (by simp at h;omega)];simp
 | k+1,u,h=>by
  unfold Lib.decDigits;split
  ·simp
  rename_i E;have ih:=qw k (u / 10) (by rw[Nat.pow_succ]at h;omega);rw[Lk];simp only[oO];have G:k≠0:=λe=>by subst e;simp at h;omega
  omega
theorem Bl.I {w w':O1}{p:O2}{b:Nat}{E:List UInt8}(h:Bl p b E w)(G:O5 [] w w'):Bl p b E w':=by
 obtain⟨v,H,I⟩:=h;exact⟨v,H.I G,Qn I G⟩
theorem QaX {L:LN}{v:O2}{l:LI}{m:Int}(h:QR L w.heap v l)(S:Kb w m)(Y:∀n∈l,0<=n/\n<m)(hl:l.length<=1000000):
  Q6 prog 182 [v] w λr w'=>r=.string ⟨(JT l).toArray⟩/\O5 [] w w':=by
 refine Zo func182 ?_;refine Qc<|Qb<|Qc<|Qe<|Qo (us:=[.pointer none,nS]) U λH w1 ha I hc=>xe ?_;refine Qd<|Qm<|QL h U<|Qa<|xe<|Qg<|QC (α:=Nat×O2) [(5,5),(8,16)] (λz=>[(8,oF oG z.1)]) (λz w'=>z.1<=l.length/\O5 [] w w'/\(z.2=.pointer none\/z.2=me H)/\Bl z.2 H (JT (l.take z.1)) w'/\(JT (l.take z.1)).length<=8*z.1) (λz=>l.length - z.1) ol (0,.pointer none) La
  ⟨Ln _,ha,.inl U,⟨_,hc,QI _ _ _ _⟩,Lx _⟩ ?_
 rintro⟨k,p⟩ g w2 ⟨hk,E,J,G,he⟩;simp only[]at hk J G he;refine Qc<|QY U U<|xe<|Qd<|QH U (λh9=>?_) (λh9=>?_)
 ·refine Qz<|Qc ?_;rw[Lt oa]at G;refine ZM<|(jB E I J G).mono ?_;rintro r3 w3 ⟨rfl,hf⟩;refine Qb<|Qk ⟨[.string ⟨(JT l).toArray⟩],La,U,hf⟩
 have O:k<l.length:=oa
 have ho:=Y l[k] (Ll O);obtain⟨q,hq⟩:∃q:Nat,l[k]=q:=⟨l[k].toNat,oa⟩;have hg:l[k].toNat=q:=oa
 have hr:=qw 7 q (ou S.le);have T:JT (l.take (k+1))=JT (l.take k)++Lib.decDigits q++[32]:=by
  rw[Lm O];unfold JT;rw[LA,List.flatMap_singleton,hg,LB]
 refine Qh<|Qd<|Qg<|Qc<|xii (h.I E) U U O λhs hh=>x (QD hh U)<|Qb<|Qm<|Qe<|xf ?_;refine(show Q6 _ _ [oF oG l[k]] _ _ by rw[hq];exact(Qe1 q oa w2 (S.I E))).mono ?_;rintro r4 w4 ⟨rfl,V⟩;refine ZM<|(K4 (E.D V) I J (G.I V) ⟨(Lib.decDigits q).toArray⟩ (by show _+(Lib.decDigits q).toArray.size<=_;simp;omega)).mono ?_;rintro r5 w5 ⟨hi,hj⟩;refine xe<|Qv<|ZM<|(Qau hi I (.inr U) hj 32 (by simp;omega)).mono ?_;rintro r6 w6 ⟨hm,hn⟩;refine xe<|Qv<|QP U U<|Qa<|xe<|⟨(k+1,me H),oh,La,oh,hm,.inr U,?_,?_⟩
 ·simp only[];rw[T];simpa using hn
 simp only[];rw[T];simp;omega
section
variable {K:Fr->O1->Prop}{f:Fr}{pS:String}{l:xE}{C:xA}{pl:xu}{i0:Nat}
theorem O8 {g:α->LV}{x:O3}{e bys:Nat}[Sl P t e sz bys z](G:∀x,(g x).length=sz){L:LN}{es:List α}{v:O2}{k:IntKind}
  (h:Zp L w.heap v es.length sz (es.flatMap g)) (H:ev f x=v) (I:ev f y=.int k i) (hi:i<es.length)
  (hK:∀a,At L w.heap a (g es[i])->XL P ops K l (QW f d (.pointer (some a))) w) (J:Yd ops f ⟨d,.indexAddr t x y,ty,pS,af,gd⟩=true:=by rfl):
  XL P ops K (⟨d,.indexAddr t x y,ty,pS,af,gd⟩::l) f w:=by
 obtain⟨a,cap,O,E⟩:=Zp.at h hi;rw[XM g sz G es i hi]at E;refine xl J (xv (Xq (H.D O) I oa oa) (hK _ ?_));simpa using E
theorem pig {g:α->LV}{x:O3}{e bys:Nat}[Sl P t e sz bys z](E:QU ops i0=⟨d,.indexAddr t x y,ty,pS,af,gd⟩)(I:∀x,(g x).length=sz){L:LN}{es:List α}{v:O2}{k:IntKind}
  (h:Zp L H v es.length sz (es.flatMap g)) (J:ev f x=v) (O:ev f y=.int k i) (hi:i<es.length)
  (hK:∀a,At L H a (g es[i])->XP P ops C K pl (QW f d (.pointer (some a))) w) (S:Yd ops f (QU ops i0)=true:=by rfl):
  XP P ops C K ((i0,true)::pl) f w:=by
 obtain⟨a,cap,T,G⟩:=Zp.at h hi;rw[XM g sz I es i hi]at G;refine Lg.p (λw'=>by rw[E];exact Xq (J.D T) O oa oa) ?_ S;rw[E];refine hK _ ?_;simpa using G
end
theorem Zp.grow {X X' Y:LN}{v:O2}{cs:LV}(h:Zp X w.heap v n sz cs)(H:O5 Y w w')(I:∀b∈Y,b∈X)(J:∀b∈X',b∈X\/w.heap.size<=b):Zp X' w'.heap v n sz cs:=by
 have E:Zp (X++X') w.heap v n sz cs:=h.up (λb G=>by
  rcases Lc.1 G with E|E
  ·exact .inl E
  exact J b E)
 have O:=E.J H (λb G=>Lc.2 (.inl (I b G)));exact O.up (λb G=>.inl (Lc.2 (.inr G)))
structure AV where
 va:O2
 vm:O2
 ve:O2
 a:Q0
abbrev ZU (p:AV):LV:=[p.va,oF oG p.a.st,p.vm,p.ve]
structure Kw (L:LN)(H:xC)(v:O2)(ps:List AV):Prop where
 arr:Zp L H v ps.length 4 (ps.flatMap ZU)
 each:∀p∈ps,ZG L H p.va p.vm p.ve p.a
theorem Kw.I {L:LN}{w w':O1}{v:O2}{ps:List AV}(h:Kw L w.heap v ps)(E:O5 [] w w'):Kw L w'.heap v ps:=⟨h.arr.I E,λp G=>(h.each p G).I E⟩
theorem Kw.st {L:LN}{w w':O1}{v:O2}{ps:List AV}(h:Kw L w.heap v ps)(E:O5 L w w'):Kw L w'.heap v ps:=⟨h.arr.st E,λp G=>(h.each p G).st E⟩
theorem Kw.up {L L':LN}{H:xC}{v:O2}{ps:List AV}(h:Kw L H v ps)(E:∀b∈L',b∈L\/H.size<=b):Kw L' H v ps:=⟨h.arr.up E,λp G=>(h.each p G).up E⟩
abbrev TV:=O2×LI
abbrev YM (p:TV):LV:=[p.1]
structure JW (L:LN)(H:xC)(v:O2)(ps:List TV):Prop where
 arr:Zp L H v ps.length 1 (ps.flatMap YM)
 each:∀p∈ps,QR L H p.1 p.2
theorem JW.I {L:LN}{w w':O1}{v:O2}{ps:List TV}(h:JW L w.heap v ps)(E:O5 [] w w'):JW L w'.heap v ps:=⟨h.arr.I E,λp G=>(h.each p G).I E⟩
theorem JW.st {L:LN}{w w':O1}{v:O2}{ps:List TV}(h:JW L w.heap v ps)(E:O5 L w w'):JW L w'.heap v ps:=⟨h.arr.st E,λp G=>(h.each p G).st E⟩
theorem JW.up {L L':LN}{H:xC}{v:O2}{ps:List TV}(h:JW L H v ps)(E:∀b∈L',b∈L\/H.size<=b):JW L' H v ps:=⟨h.arr.up E,λp G=>(h.each p G).up E⟩
def Qd7 (N:Nat)(H:xC)(v:O2)(l:List (LI)):Prop:=∃ps:List TV,ps.map (·.2)=l/\∀L:LN,(∀b∈L,b<N)->JW L H v ps
theorem Qd7.mono {v:O2}{l:List (LI)}(h:Qd7 N H v l)(hM:M<=N):Qd7 M H v l:=let⟨ps,E,G⟩:=h;⟨ps,E,λL I=>G L (λb J=>LX (I b J) hM)⟩
abbrev jq (e base:Nat)(w:O1)(v:O2)(ps:List TV):Prop:=w.ownsRow base e 1 v ps.length (ps.flatMap YM)
theorem jq.snoc {e base:Nat}{v:O2}{ps:List TV}{p:TV}(h:w.ownsRow base e 1 v (ps.length+1) (ps.flatMap YM++[p.1])):jq e base w v (ps++[p]):=by
 unfold jq;rw[Lk,LA];simpa using h
theorem JB {base e:Nat}{v:O2}{cs:LV}(h:w.ownsRow base e sz v n cs)(G:0<n):∃g cap,v=.slice (some ⟨g,0,none⟩) n cap:=by
 rcases h.2 with⟨_,H⟩|⟨g,cap,cur,E,_⟩
 ·omega
 exact⟨g,cap,E⟩
section
variable {K:Fr->O1->Prop}{f:Fr}{pS:String}{l:xE}
theorem Qiw [h1:Ja P t]{x:O3}{base e:Nat}{cs:LV}{u:O2}(h:w.ownsRow base e 1 (.slice (some ⟨g,0,none⟩) n cap) n cs)(hx:ev f x=.pointer (some ⟨g,0+i*1,none⟩))(G:ev f y=u)(hi:i<n)(H:u.oneCell'=true)
  (hK:∀w',O5 [g] w w'->w'.ownsRow base e 1 (.slice (some ⟨g,0,none⟩) n cap) n (cs.set i u)->K (QW f d undef) w'):XO P ⟨d,.store t x y,ty,pS,af,gd⟩ f w K:=by
 obtain⟨hl,h⟩:=h;rcases h with⟨I,_⟩|⟨g',cap',cur,e1,J,O,S,T,E,V⟩
 ·cases I
 cases e1
 have Y:Q7 w.heap g e cur.toList:=by unfold Q7;simpa using O
 refine QB (j:=i) Y (by rw[hx];simp) G (by simp[E];omega) H λw' hs ha=>hK w' hs ⟨oz hl,.inr ⟨g,cap,(cur.toList.set i u).toArray,rfl,J,ha,S,T,oz E,?_⟩⟩;rw[<-V];simp[List.take_set]
end
section
variable {f:Fr}{pS:String}{κ:Type}[DecidableEq κ]
theorem jK [hm:Mp P t kt et z]{enc:κ->O2}[hk:Key P kt enc]{x:O3}{m:List (κ×O2)}{k:κ}{u:O2}(h:Ym enc w.heap b m)(hx:ev f x=.map (some b))(E:ev f y=enc k)(G:xd m k=some u):
  (execOp (ev f) ⟨d,.lookup t x y true,ty,pS,af,gd⟩).run P w=.ok (.value (.tuple #[u,.bool true])) w:=by
 have:=K9 (P:=P) (t:=t) (d:=d) (ty:=ty) (pS:=pS) (af:=af) (gd:=gd) h hx E;rw[G]at this;exact this
theorem Qge [hm:Mp P t kt et z]{enc:κ->O2}[hk:Key P kt enc]{x:O3}{m:List (κ×O2)}{k:κ}(h:Ym enc w.heap b m)(hx:ev f x=.map (some b))(E:ev f y=enc k)(G:xd m k=none):
  (execOp (ev f) ⟨d,.lookup t x y true,ty,pS,af,gd⟩).run P w=.ok (.value (.tuple #[z,.bool false])) w:=by
 have:=K9 (P:=P) (t:=t) (d:=d) (ty:=ty) (pS:=pS) (af:=af) (gd:=gd) h hx E;rw[G]at this;exact this
end
def ckL:List Q0->Int
 | []=>0
 | a::l=>if JD a≠0 then JD a else ckL l
def Ud (l:List Q0):Int:=if 12<l.length then 3 else ckL l
theorem UT:∀(l:List Q0),ckL l=0↔∀a∈l,ZA a
 | []=>by simp[ckL]
 | a::l=>by
  rw[ckL];by_cases h:JD a=0
  ·rw[OT (oz h),UT l];simp[(ZQ a).1 h]
  rw[OU h];simp only[Ot];exact⟨λe=>OW e h,λe=>OW ((ZQ a).2 e.1) h⟩
def evs (l:List Q0):LI:=l.foldl (λacc a=>mrg (· || ·) acc a.al) []
def qQ (m:List ((Int×Int)×O2))(es:List Ed):List ((Int×Int)×O2):=es.foldl (λm e=>xh m (e.1,e.2.1) (oF oG e.2.2)) m
def xo:List Ed->Int->Int->Option Int
 | [],_,_=>none
 | e::l,s,v=>if e.1=s/\e.2.1=v then some e.2.2 else xo l s v
theorem j4 {l:List Ed}{v:Int}(h:∀e∈l,¬(e.1=s/\e.2.1=v)):xo l s v=none:=by
 induction l with
 | nil=>rfl
 | cons e l ih =>
  rw[xo,OT (h e Lp)];exact ih λe E=>h e (Lj _ E)
theorem j5:∀(es:List Ed) (m:List ((Int×Int)×O2)) (s v:Int),(es.Pairwise λx y=>x.1<y.1\/(x.1=y.1/\x.2.1<y.2.1)) ->
  xd (qQ m es) (s,v)=match xo es s v with|some t=>some (oF oG t)|none=>xd m (s,v)
 | [],m,s,v,_=>rfl
 | e::es,m,s,v,h=>by
  simp only[List.pairwise_cons]at h;have ih:=j5 es (xh m (e.1,e.2.1) (oF oG e.2.2)) s v h.2;unfold qQ at *;rw[LZ,ih,xo];by_cases E:e.1=s/\e.2.1=v
  ·rw[OU E,j4 (λx hx H=>ou (h.1 x hx))];simp only[Xx];rw[OU (by rw[E.1,E.2])]
  rw[OT E];cases xo es s v with
  | some t=>rfl
  | none =>
   simp only[Xx];rw[OT (λG=>E (oz G))]
def Yv (ev:Int):List Q0->LI->Option (LI)
 | a::bs,t::ts=>if ev∉a.al then(Yv ev bs ts).map (t::·)else match xo a.ed t ev with|none=>none|some u=>(Yv ev bs ts).map (u::·)
 | _,_=>some []
def JJ:List Q0->LI->Bool
 | a::bs,t::ts=>decide (t∈a.mr) && JJ bs ts
 | _,_=>true
structure Sy where
 tup:List (LI)
 mk':LI
 ed:List Ed
def syE (aa:List Q0)(i:Nat)(t:LI)(s:Sy)(v:Int):Option Sy :=
 match Yv v aa t with
 | none=>some s
 | some u=>if u∈s.tup then some ⟨s.tup,s.mk',s.ed++[((i:Int),v,(s.tup.idxOf u:Int))]⟩
  else if s.tup.length=4096 then none else some ⟨s.tup++[u],s.mk',s.ed++[((i:Int),v,(s.tup.length:Int))]⟩
def K6 (aa:List Q0)(i:Nat)(t:LI):LI->Sy->Option Sy
 | [],s=>some s
 | v::vs,s=>(syE aa i t s v).bind (K6 aa i t vs)
def ZS (aa:List Q0)(i:Nat)(t:LI)(s:Sy):Sy:=if JJ aa t=true then⟨s.tup,s.mk'++[(i:Int)],s.ed⟩else s
def Uj (s:Sy)(i:Nat):LI:=s.tup.getD i []
def syL (aa:List Q0):Nat->Nat->Sy->Option Sy
 | 0,_,s=>some s
 | f+1,i,s=>if i<s.tup.length then(K6 aa i (Uj s i) (evs aa) (ZS aa i (Uj s i) s)).bind (syL aa f (i+1))else some s
def zR (aa:List Q0):Sy:=⟨[oN aa.length 0],[],[]⟩
def xp (aa:List Q0):Option (Q0×List (LI)):=
 if ∃a∈aa,a.st=0 then some (⟨evs aa,0,[],[]⟩,[])else(syL aa 4096 0 (zR aa)).map λs=>(⟨evs aa,s.tup.length,s.mk',s.ed⟩,s.tup)
theorem QhH {aa:List Q0}{f:Nat}{s:Sy}(h:¬i<s.tup.length):syL aa f i s=some s:=by
 cases f with
 | zero=>rfl
 | succ f=>rw[syL,OT h]
def Vt (aa:List Q0)(t:LI):Prop:=t.length=aa.length/\∀i (h:i<t.length) (E:i<aa.length),0<=t[i]/\t[i]<aa[i].st
theorem Vt.cons {a:Q0}{aa:List Q0}{u:Int}{t:LI}(E:0<=u)(G:u<a.st)(h:Vt aa t):Vt (a::aa) (u::t):=by
 refine⟨by simp[h.1],λi H I=>?_⟩;cases i with
 | zero=>exact⟨E,G⟩
 | succ i=>exact h.2 i (oz H) (oz I)
theorem Qcq {l:List Ed}{v u:Int}(h:xo l s v=some u):(s,v,u)∈l:=by
 induction l with
 | nil=>cases h
 | cons e l ih =>
  rw[xo]at h;split at h
  ·rename_i E;obtain⟨e1,e2⟩:=E;cases h
   obtain⟨a,b,c⟩:=e;simp only[]at e1 e2;subst e1 e2;exact Lp
  exact Lj _ (ih h)
theorem JZ {v:Int}:∀{aa:List Q0}{t u:LI},(∀a∈aa,ZA a)->Vt aa t->Yv v aa t=some u->Vt aa u
 | [],t,u,_,h,E=>by
  cases t with
  | nil=>simp[Yv]at E;subst E;exact h
  | cons x t=>have:=h.1;simp at this
 | a::aa,[],u,_,h,E=>by have:=h.1;simp at this
 | a::aa,x::t,u,H,h,E=>by
  have hx:=h.2 0 oe oe;have I:Vt aa t:=⟨by have:=h.1;simpa using this,λi O S=>h.2 (i+1) (oz O) (oz S)⟩;have J:∀a∈aa,ZA a:=λa T=>H a (Lj _ T);rw[Yv]at E;split at E
  ·obtain⟨V,G,rfl⟩:=L7.1 E;exact Vt.cons hx.1 hx.2 (JZ J I G)
  split at E
  ·cases E
  rename_i q Y;obtain⟨V,G,rfl⟩:=L7.1 E;have:=(H a Lp).ed _ (Qcq Y);exact Vt.cons this.2.2.2.1 this.2.2.2.2 (JZ J I G)
structure qI (aa:List Q0)(s:Sy):Prop where
 v:∀t∈s.tup,Vt aa t
 le:s.tup.length<=4096
theorem jy {aa:List Q0}{t:LI}{s:Sy}(h:qI aa s):qI aa (ZS aa i t s):=by
 unfold ZS;split
 ·exact⟨h.v,h.le⟩
 exact h
theorem QhL {aa:List Q0}{t:LI}{s s':Sy}{v:Int}(H:∀a∈aa,ZA a)(h:qI aa s)(G:Vt aa t)(E:syE aa i t s v=some s'):qI aa s':=by
 unfold syE at E;split at E
 ·cases E;exact h
 rename_i u I;have J:=JZ H G I;split at E
 ·cases E;exact⟨h.v,h.le⟩
 split at E
 ·cases E
 cases E
 have:=h.le;refine⟨λt G=>?_,by simp;omega⟩;simp only[oU,oI]at G;rcases G with G|rfl
 ·exact h.v t G
 exact J
theorem qE (p:AV):(ZU p).length=4:=rfl
theorem V1 (p:TV):(YM p).length=1:=rfl
theorem Kw.le {L:LN}{H:xC}{v:O2}{ps:List AV}(h:Kw L H v ps):ps.length<=1099511627776:=h.arr.le
theorem Qkd {l:List Q0}{k:Nat}(h:k<l.length):ckL (l.drop k)=if JD l[k]≠0 then JD l[k]else ckL (l.drop (k+1)):=by
 rw[LF h,ckL]
theorem Qgi {L:LN}{v:O2}{ps:List AV}(h:Kw L w.heap v ps):
  Q6 prog 179 [v] w λr w'=>r=oF oG (Ud (ps.map (·.a)))/\O5 [] w w':=by
 have hi:=Kw.le h;refine Zo func179 ?_;refine Qc<|Qb<|Qd<|Qm<|QL h.arr U<|x (Z6 U U)<|xe<|QZ rfl (λV=>?_) (λV=>?_)
 ·refine Qc<|Qb<|Qk ⟨[oF oG 3],La,?_,O5.Z _ _⟩;unfold Ud;rw[OU (by simp;omega)];rfl
 refine Qh ?_;have Y:Ud (ps.map (·.a))=ckL (ps.map (·.a)):=by unfold Ud;rw[OT (by simp;omega)]
 rw[Y];refine Qd<|Qm<|QL h.arr U<|Qa<|xe<|Qg<|QC (α:=Nat) [(2,2),(4,5),(11,20)] (λz=>[(11,oF oG z)]) (λz w'=>z<=ps.length/\O5 [] w w'/\ckL (ps.map (·.a))=ckL ((ps.map (·.a)).drop z)) (λz=>ps.length - z) ol 0 La
  ⟨Ln _,O5.Z _ _,U⟩ ?_
 rintro k g w1 ⟨hk,E,G⟩;refine Qc<|QY U U<|xe<|Qd<|QH U (λha=>?_) (λha=>?_)
 ·refine Qz<|Qc<|Qb<|Qk ⟨[oF oG 0],La,?_,E⟩;rw[G,Lr (by simp;omega)];rfl
 have H:k<ps.length:=oa
 have hb:k<(ps.map (·.a)).length:=by simpa using H
 rw[Qkd hb,LO]at G;refine Qh<|Qd<|Qg<|Qc<|O8 qE (h.I E).arr U U H λhj hc=>x (Qw hc U U)<|Qe<|Qo (us:=[nS,oF oG 0,nS,nS]) U λb4 w2 he hf J=>?_;have I:=h.each ps[k] (Ll H);refine Qe<|Qj (us:=ZU ps[k]) J U U U U ⟨I.al.one,U,I.mr.one,I.ed.one,Z⟩ λw3 hg J=>xe ?_;have S:O5 [] w1 w3:=he.O hg hf;refine Qc<|Q9 J U U<|QN<|(Jf ((I.I E).I S)).mono ?_;rintro r4 w4 ⟨rfl,hh⟩;refine Qb ?_;have T:=(E.D S).D hh;refine Qm<|ZD U U<|xe<|QZ rfl (λO=>?_) (λO=>?_)
 ·refine Qm<|Qb<|Qk ⟨[oF oG (JD ps[k].a)],La,?_,T⟩;rw[G,OU O];rfl
 refine Qh<|Qv<|QP U U<|Qa<|xe<|⟨k+1,oa,La,H,T,?_⟩;rw[G,OT O]
theorem QjF {l:List Q0}{k:Nat}(h:k<l.length):evs (l.take (k+1))=mrg (· || ·) (evs (l.take k)) l[k].al:=by
 unfold evs;rw[Lm h,MG];rfl
theorem Qbb (l:List Q0)(h:∀a∈l,a.al.length<=32):(evs l).length<=32*l.length:=by
 have key:∀(l:List Q0) (acc:LI),(∀a∈l,a.al.length<=32)->(l.foldl (λacc a=>mrg (· || ·) acc a.al) acc).length<=acc.length+32*l.length:=by
  intro l;induction l with
  | nil=>intro acc _;simp
  | cons a l ih =>
   intro acc h;have G:=ih (mrg (· || ·) acc a.al) (λa E=>h a (Lj _ E));have H:=QaQ (· || ·) acc a.al;have I:=h a Lp;simp only[List.foldl_cons,oW];omega
 have:=key l [] h;unfold evs;simpa using this
theorem QgG {L:LN}{v:O2}{ps:List AV}(h:Kw L w.heap v ps)(hn:ps.length<=12)(S:∀p∈ps,p.a.al.length<=32):
  Q6 prog 249 [v] w λr w'=>O5 [] w w'/\Qu 3 w.heap.size w' r (evs (ps.map (·.a))):=by
 refine Zo func249 ?_;refine Qc<|Qb<|Qc<|Qb<|Qd<|Qm<|QL h.arr U<|Qa<|xe<|Qg<|QC (α:=Nat×O2) [(3,3),(5,5),(8,16)] (λz=>[(3,z.2),(8,oF oG z.1)]) (λz w'=>z.1<=ps.length/\O5 [] w w'/\Qu 3 w.heap.size w' z.2 (evs ((ps.map (·.a)).take z.1))) (λz=>ps.length - z.1) ol (0,nS) oA
  ⟨Ln _,O5.Z _ _,QI _ _ _ _⟩ ?_
 rintro⟨k,vo⟩ g V ⟨Y,I,G⟩;simp only[]at Y G;have hi:=Qbb ((ps.map (·.a)).take k) (λa ha=>by obtain⟨p,hp,rfl⟩:=LC.1 (LY ha);exact S p hp);have hj:((ps.map (·.a)).take k).length<=12:=by simp;omega
 refine Qc<|QY U U<|xe<|Qd<|QH U (λh9=>?_) (λh9=>?_)
 ·refine Qz<|Qm<|Qb<|Qk ⟨[vo],La,I,?_⟩;rw[Lt (by simp;omega)]at G;exact G
 have E:k<ps.length:=oa
 refine Qh<|Qd<|Qg<|Qc<|O8 qE (h.I I).arr U U E λhl hb=>x (Qw hb U U)<|Qe<|Qo (us:=[nS,oF oG 0,nS,nS]) U λb5 w2 hc he J=>?_;have H:=h.each ps[k] (Ll E);have hm:=S ps[k] (Ll E);refine Qe<|Qj (us:=ZU ps[k]) J U U U U ⟨H.al.one,U,H.mr.one,H.ed.one,Z⟩ λw3 hf J=>xe ?_;have T:O5 [] V w3:=hc.O hf he;have O:=I.D T;refine Qv<|Qa<|Qs U J U U<|QN<|(QcZ (Qu.ints (L:=[]) (Qn G T) oa oe) (H.al.I O) oa).mono ?_;rintro r4 w4 ⟨hg,hh⟩;refine Qb<|Qv<|QP U U<|Qa<|xe<|⟨(k+1,r4),oh,oA,E,O.D hg,?_⟩;simp only[];rw[QjF (oz E),LO];exact Zu hh O.size
abbrev QeQ (b:Nat):LV:=[.map (some b)]
structure Vq (L:LN)(H:xC)(vl ve vs:O2)(ps:List AV)(ms:LN):Prop where
 al:Kw L H vl ps
 ev:QR L H ve (evs (ps.map (·.a)))
 ml:ms.length=ps.length
 sl:Zp L H vs ms.length 1 (ms.flatMap QeQ)
 mp:∀i (h:i<ms.length) (h':i<ps.length),Ym Jk H ms[i] (qQ [] ps[i].a.ed)/\ms[i]∉L
theorem Vq.I {L:LN}{w w':O1}{vl ve vs:O2}{ps:List AV}{G:LN}(h:Vq L w.heap vl ve vs ps G)(E:O5 [] w w'):Vq L w'.heap vl ve vs ps G :=
 ⟨h.al.I E,h.ev.I E,h.ml,h.sl.I E,λi H I=>⟨(h.mp i H I).1.I E,(h.mp i H I).2⟩⟩
theorem Vq.st {L:LN}{w w':O1}{vl ve vs:O2}{ps:List AV}{I:LN}(h:Vq L w.heap vl ve vs ps I)(E:O5 L w w'):Vq L w'.heap vl ve vs ps I :=
 ⟨h.al.st E,h.ev.st E,h.ml,h.sl.st E,λi G H=>⟨(h.mp i G H).1.J E (h.mp i G H).2,(h.mp i G H).2⟩⟩
theorem Vq.up {L L':LN}{H:xC}{vl ve vs:O2}{ps:List AV}{J:LN}(h:Vq L H vl ve vs ps J)(E:∀b∈L',b∈L\/H.size<=b):Vq L' H vl ve vs ps J :=
 ⟨h.al.up E,h.ev.up E,h.ml,h.sl.up E,λi G I=>⟨(h.mp i G I).1,λS=>by rcases E _ S with O|O;exact(h.mp i G I).2 O;have:=(h.mp i G I).1.lt;omega⟩⟩
theorem QdQ {m:List ((Int×Int)×O2)}{es:List Ed}{k:Nat}(h:k<es.length):qQ m (es.take (k+1))=xh (qQ m (es.take k)) (es[k].1,es[k].2.1) (oF oG es[k].2.2):=by
 unfold qQ;rw[Lm h,MG];rfl
theorem QlO {L:LN}{ps:List AV}(h:Kw L w.heap vl ps)(hn:ps.length<=12)(hD:∀p∈ps,p.a.al.length<=32)(hL:∀b∈L,b<w.heap.size):
  Q6 prog 180 [vl] w λr w'=>O5 [] w w'/\∃ve vs G,r=.agg #[vl,ve,vs]/\Vq L w'.heap vl ve vs ps G/\Qu 3 w.heap.size w' ve (evs (ps.map (·.a))):=by
 refine Zo func180 ?_;refine Qc<|Qe<|Qo (us:=[nS,nS,nS]) U λb2 w1 hu hP hv=>xe ?_;refine Qm<|Qa<|QN<|(QgG (h.I hu) hn hD).mono ?_;rintro ve w2 ⟨Y,hc⟩;have hQ:=Qbb (ps.map (·.a)) (λa ha=>by obtain⟨p,hp,rfl⟩:=LC.1 ha;exact hD p hp);have g9:(evs (ps.map (·.a))).length<=1000:=by simp at hQ;omega
 have hw:=Qu.ints (L:=[]) hc oa oe;refine x (Qx ⟨h.arr.cells,hw.cells,Z⟩)<|Qe<|Qo (us:=[nS,nS,nS]) U λb3 w3 hR hS he =>
  Qe<|Qj (us:=[vl,ve,nS]) he U U U U ⟨h.arr.one,hw.one,U,Z⟩ λH hT he=>xe ?_
 have hU:=hu.size;have ka:=Y.size;have hf:O5 [] w2 H:=hR.O hT hS;have kb:=hv.lt;have kc:=he.lt;have hV:O5 [] w H:=(hu.D Y).D hf;have hW:=Qn hc hf;refine Qd<|Qm<|QL h.arr U<|Qa<|xe ?_;have hX:=Zb hc;refine Qg<|QC (α:=Nat×LN×O2) [(5,6),(8,8),(15,42)] (λz=>[(15,oF oG z.1)])
  (λz w'=>z.1<=ps.length/\z.2.1.length=z.1/\O5 [b3] H w'/\Q7 w'.heap b3 329 [vl,ve,z.2.2]/\w'.ownsRow H.heap.size 398 1 z.2.2 z.2.1.length (z.2.1.flatMap QeQ) /\
   (∀i (h:i<z.2.1.length) (h':i<ps.length),Ym Jk w'.heap z.2.1[i] (qQ [] ps[i].a.ed)/\H.heap.size<=z.2.1[i]/\z.2.1[i]∉ob z.2.2)) (λz=>ps.length - z.1) ol (0,[],nS) La
  ⟨Ln _,U,O5.Z _ _,he,QI _ _ _ _,λi h=>by simp at h⟩ ?_
 rintro⟨k,G,vs⟩ g w5 ⟨hk,hg,I,hy,J,hh⟩;simp only[]at hk hg I hy J hh;have hl:O5 [] w w5:=hV.O I oa;have ke:=I.size;have ho:=Qi J;refine Qc<|QY U U<|xe<|Qd<|QH U (λhY=>?_) (λhY=>?_)
 ·have hZ:k=ps.length:=oa
  subst hZ;refine Qz<|Qc ?_;have ga:=QK (L:=[]) J oa oe;refine Q9 hy U U<|Qe<|Qj (us:=[vl,ve,vs]) (((hv.I Y).I hf).J I (by simp;omega)) U U U U ⟨h.arr.one,hw.one,ga.one,Z⟩ λw6 hr gb=>xe ?_;have hE:=hl.O hr hP;have hF:Qu 3 w1.heap.size w6 ve _:=Qf (Qf hW I (λb E=>by have:=hX b E;simp;omega)) hr (λb E=>by have:=(Qi hc b E).1;simp;omega);have hG:=Qf J hr (λb E=>by have:=(ho b E).1;simp;omega);refine Qk ⟨[.agg #[vl,ve,vs]],⟨⟨_,U,Qp U (gb.at (L:=[]) oe).cells⟩,Z⟩,hE,ve,vs,G,rfl,⟨h.I hE,Qu.ints hF oa (λb E=>ou (hL b E)),hg,QK hG oa (λb E hbL=>ov (hL b hbL) (Qi hG b E).1),λi h1 h2=>⟨?_,λhbL=>ov (hL _ hbL) (hh i h1 h2).2.1⟩⟩,Zu hF hU⟩;obtain⟨m1,m2,_⟩:=hh i h1 h2;exact m1.J hr (λE=>by
   simp only[oI]at E;have h7:=(((hv.I Y).I hf).J I (by simp;omega));rw[E]at m1;obtain⟨es,c,m4,_⟩:=m1;unfold Q7 at h7;rw[h7]at m4;cases m4)
 have hz:k<ps.length:=oa
 have O:=h.each ps[k] (Ll hz);refine Qh<|Qd<|Qg<|Qc<|O8 qE (h.I hl).arr U U hz λkf gc=>x (Qw gc U U)<|Qe<|Qo (us:=[nS,oF oG 0,nS,nS]) U λb5 w7 gg gh gi =>
  Qe<|Qj (us:=ZU ps[k]) gi U U U U ⟨O.al.one,U,O.mr.one,O.ed.one,Z⟩ λw8 gj hH=>xe ?_
 have gk:O5 [] w5 w8:=gg.O gj gh;have kg:=hH.lt;refine Qc<|Qe<|YE Jk λbm w9 hI kh hJ=>Qb ?_;have ki:=hJ.lt;have hK:=gk.D hI;have gl:=hl.D hK;refine Qd<|Qc<|Qs U (hH.I hI) U U<|QL O.ed U<|Qa<|xe ?_;have gm:=(O.ed.up (L':=[bm]) (λb E=>.inr (by simp at E;have:=hl.size;omega))).I gl;have kj:=O.ed.le;refine Qg<|QC (α:=Nat) [(8,8),(23,35)] (λz=>[(23,oF oG z)]) (λz w'=>z<=ps[k].a.ed.length/\O5 [bm] w9 w'/\Ym Jk w'.heap bm (qQ [] (ps[k].a.ed.take z))) (λz=>ps[k].a.ed.length - z) ol 0 La
  ⟨Ln _,O5.Z _ _,hJ⟩ ?_
 rintro j g2 S ⟨hj,hs,h0⟩;have kk:=hs.size;refine Qc<|QY U U<|xe<|Qd<|QH U (λgn=>?_) (λgn=>?_)
 ·refine Qz ?_;rw[Lt oa]at h0;have h3:O5 [] w5 S:=hK.O hs oa;have hM:Q7 S.heap b3 329 [vl,ve,vs]:=hy.I h3;refine Qv<|Qs U hM U U<|Qa<|Qe<|QA (us:=[[.map (some bm)]]) U U og oe ⟨rfl,rfl,Z⟩ λkn go ht ko gp=>?_;have h4:=h3.D ht;have gq:=Qn J h4;have kq:=h4.size;refine Qe<|Q8 (news:=[.map (some bm)]) (L:=[]) gq U U U (gp.at oe) (by simp[Value.oneCell']) oa oa λh6 gr gs h8 hN=>?_;have h9:gr.ownsRow H.heap.size 398 1 h6 (G++[bm]).length ((G++[bm]).flatMap QeQ):=by
   rw[Lk,LA];simpa using gs
  have gt:=(hM.I ht).J h8 (QS J oa);refine Zc U<|Qe<|QB gt U U oe (QK (L:=[]) h9 (by simp;omega) oe).one λgu hB gv=>xe ?_;refine Qv<|QP U U<|Qa<|xe ?_;have gw:∀b∈ob h6,H.heap.size<=b:=λb E=>(Qi h9 b E).1;have kr:S.heap.size<=go.heap.size:=ht.size;refine⟨(k+1,G++[bm],h6),oh,La,hz,by simp[hg],?_,gv,Qf h9 hB (λb E=>by have:=gw b E;simp;omega),?_⟩
  ·exact((I.D h4).then h8 (λb E=>.inr (ho b E).1)).Q hB
  intro i h1 h2;simp only[oM,oO]at h1;have keep:∀(c:Nat) (m:List ((Int×Int)×O2)),Ym Jk S.heap c m->c≠b3->c∉ob vs->Ym Jk gu.heap c m:=λc m hm gx gy =>
   ((hm.I ht).J h8 gy).J hB (oz gx)
  by_cases hi:i<G.length
  ·obtain⟨m1,m2,m3⟩:=hh i hi h2;simp only[List.getElem_append_left hi];refine⟨keep _ _ (m1.I h3) oa m3,m2,λE=>?_⟩;have kt:=m1.lt;rcases hN _ E with T|T
   ·exact m3 T
   omega
  have gz:i=G.length:=oa
  subst gz;simp only[List.getElem_append_right (Nat.le_refl _),Nat.sub_self,List.getElem_singleton];have hq:G.length=k:=hg;have e2:ps[G.length]=ps[k]:=by simp only[hq]
  rw[e2];refine⟨keep _ _ h0 oa (λE=>ou (ho _ E).2),oa,λE=>?_⟩;rcases hN _ E with T|T
  ·have:=(ho _ T).2;omega
  omega
 have hC:j<ps[k].a.ed.length:=oa
 refine Qh<|Qd<|Qg<|Qc<|xie (gm.st hs) U U hC λku g0=>x (Qw g0 U U)<|Qe<|Qo (us:=[oF oG 0,oF oG 0,oF oG 0]) U λb8 kv g3 g4 V=>Qe<|Qj (us:=QE ps[k].a.ed[j]) V U U U U oB λg5 g6 V=>xe ?_;have hO:O5 [] S g5:=g3.O g6 g4;refine Qv<|Qa<|Qs U V U U<|Qs U V U U<|x (Qx ⟨U,U,Z⟩)<|x (Va U) <|
  Xb V rfl U<|Qe<|XI (k:=(ps[k].a.ed[j].1,ps[k].a.ed[j].2.1)) (h0.I hO) U U λkw g7 g8=>xe ?_
 refine Qv<|QP U U<|Qa<|xe<|⟨j+1,oa,La,hC,(hs.D hO).Q g7,?_⟩;rw[QdQ hC];exact g8
theorem QdK {L:LN}{ps:List AV}{ms:LN}(h:Vq L w.heap vl ve vs ps ms)(hn:ps.length<=12):
  Q6 prog 181 [.agg #[vl,ve,vs]] w λr w'=>O5 [] w w' /\
   if ∃p∈ps,p.a.st=0 then r=.tuple #[nS,.bool false]else ∃v,r=.tuple #[v,.bool true]/\Qu 3 w.heap.size w' v (oN ps.length 0):=by
 refine Zo func181 ?_;refine Qc<|Qe<|QV (us:=[vl,ve,vs]) U λb1 w1 G hj S=>x Ql<|Qb<|Qd<|Qc<|Qs U S U U<|QL h.al.arr U<|Qa<|xe<|Qg<|QC (α:=Nat) [(2,3),(5,5),(9,16)] (λz=>[(9,oF oG z)]) (λz w'=>z<=ps.length/\O5 [] w1 w'/\∀i (h:i<ps.length),i<z->ps[i].a.st≠0) (λz=>ps.length - z) ol 0 La
  ⟨Ln _,O5.Z _ _,λi _ h=>oa⟩ ?_
 rintro k g w2 ⟨hk,E,T⟩;refine Qc<|QY U U<|xe<|Qd<|QH U (λha=>?_) (λha=>?_)
 ·refine Qz<|Qc<|Qs U (S.I E) U U<|QL h.al.arr U<|Qe<|qe (n:=ps.length) U U oa λhb w3 hc hl V=>x Ql<|Qb ?_;rw[show(oN ps.length (oF oG 0).cells.toList).flatten=((oN ps.length 0).map (Value.int .i64)) by rw[show(oF oG 0).cells.toList=[oF oG 0] from rfl,QbT,List.map_replicate]]at V;have hz:=(G.D E).size;refine Qk ⟨[.slice (some ⟨hb,0,none⟩) ps.length ps.length,.bool true],oA,(G.D E).D hc,?_⟩;rw[OT (by
   rintro⟨p,hp,h0⟩;obtain⟨i,hi,rfl⟩:=LG hp;exact T i hi oa h0)]
  refine⟨_,U,?_⟩;have:=V.own (n:=ps.length) (sz:=1) (base:=w.heap.size) oe oa oa;unfold Qu;rw[List.length_replicate];exact this
 have H:k<ps.length:=oa
 have I:=h.al.each ps[k] (Ll H);refine Qh<|Qd<|Qg<|Qc<|O8 qE ((h.al.I G).I E).arr U U H λhm he=>x (Qw he U U)<|Qe<|Qo (us:=[nS,oF oG 0,nS,nS]) U λb5 w4 hf hg J =>
  Qe<|Qj (us:=ZU ps[k]) J U U U U ⟨I.al.one,U,I.mr.one,I.ed.one,Z⟩ λw5 hh J=>xe ?_
 have Y:O5 [] w2 w5:=hf.O hh hg;refine Qc<|Qs U J U U<|x (Q2 U U)<|xe<|QZ rfl (λO=>?_) (λO=>?_)
 ·refine Qc<|x Ql<|Qb<|Qk ⟨[nS,.bool false],oA,(G.D E).D Y,?_⟩;rw[OU ⟨ps[k],Ll H,O⟩];rfl
 refine Qh<|Qv<|QP U U<|Qa<|xe<|⟨k+1,oa,La,H,E.D Y,λi hi ho=>?_⟩;by_cases e:i=k
 ·subst e;exact O
 exact T i hi oa
theorem Qdy {aa:List Q0}{ts:LI}{k:Nat}(h:k<aa.length)(E:k<ts.length):JJ (aa.drop k) (ts.drop k)=(decide (ts[k]∈aa[k].mr) && JJ (aa.drop (k+1)) (ts.drop (k+1))):=by
 rw[LF h,LF E,JJ]
theorem Qgn {L:LN}{ps:List AV}{ms:LN}{ts:LI}(h:Vq L w.heap vl ve vs ps ms)(ht:QR L w.heap vt ts)(hl:ts.length=ps.length)(hi:∀p∈ps,YW p.a.mr)(hn:ps.length<=12):
  Q6 prog 183 [.agg #[vl,ve,vs],vt] w λr w'=>r=.bool (JJ (ps.map (·.a)) ts)/\O5 [] w w':=by
 refine Zo func183 ?_;refine Qc<|Qe<|QV (us:=[vl,ve,vs]) U λb2 w1 hb hq he=>Qb<|Qd<|Qc<|Qs U he U U<|QL h.al.arr U<|Qa<|xe<|Qg<|QC (α:=Nat) [(4,6),(10,23)] (λz=>[(10,oF oG z)]) (λz w'=>z<=ps.length/\O5 [] w w'/\JJ (ps.map (·.a)) ts=JJ ((ps.map (·.a)).drop z) (ts.drop z)) (λz=>ps.length - z) ol 0 La
  ⟨Ln _,hb,U⟩ ?_
 rintro k g w2 ⟨hk,I,G⟩;refine Qc<|QY U U<|xe<|Qd<|QH U (λhf=>?_) (λhf=>?_)
 ·refine Qz<|Qc<|Qb<|Qk ⟨[.bool true],La,?_,I⟩;rw[G,Lr (by simp;omega)];rfl
 have E:k<ps.length:=oa
 have V:k<ts.length:=oa
 have H:=h.al.each ps[k] (Ll E);rw[Qdy (oz E) V,LO]at G;refine Qh<|Qd<|Qg<|Qm<|O8 qE (h.al.I I).arr U U E λhr hg=>x (Qw hg U U)<|Qe<|Qo (us:=[nS,oF oG 0,nS,nS]) U λb6 w3 hh hj J=>x Ql <|
  Qe<|Qj (us:=ZU ps[k]) J U U U U ⟨H.al.one,U,H.mr.one,H.ed.one,Z⟩ λY hm J=>xe ?_
 have ho:O5 [] w2 Y:=hh.O hm hj;have O:=I.D ho;refine Qd<|ZF [] (Xi 0 8 [6])<|p (QQ U)<|pq (λ_ S=>Qq (J.I S) U U)<|p QF<|p QF<|pii U (ht.I O) U U V λhs hp =>
  pq (λ_ S=>QD (hp.I S) U)<|pk<|xg<|(Kj ((H.mr.I O).I (O5.C _ _)) (hi ps[k] (Ll E)) _).mono ?_
 rintro r5 w5 ⟨rfl,rfl⟩;refine⟨O5.C _ _,?_⟩;refine p (λ_=>ZB U)<|pe ?_;have ha:=O.D (O5.C [] Y);refine QX rfl (λT=>?_) (λT=>?_)
 ·refine Qc<|Qb<|Qk ⟨[.bool false],La,?_,ha⟩;rw[G,show decide (ts[k]∈ps[k].a.mr)=false by simpa using T];rfl
 refine Qh<|Qv<|QP U U<|Qa<|xe<|⟨k+1,oa,La,E,ha,?_⟩;rw[G,show decide (ts[k]∈ps[k].a.mr)=true by simpa using T,OO]
theorem Qdh {aa:List Q0}{ts:LI}{k:Nat}{v:Int}(h:k<aa.length)(E:k<ts.length):Yv v (aa.drop k) (ts.drop k) =
  if v∉aa[k].al then(Yv v (aa.drop (k+1)) (ts.drop (k+1))).map (ts[k]::·)else match xo aa[k].ed ts[k] v with|none=>none|some u=>(Yv v (aa.drop (k+1)) (ts.drop (k+1))).map (u::·):=by
 rw[LF h,LF E];show(if v∉aa[k].al then _ else _)=_
 split
 ·rfl
 cases xo aa[k].ed ts[k] v <;> rfl
theorem Qil {L:LN}{ps:List AV}{ms:LN}{ts:LI}(h:Vq L w.heap vl ve vs ps ms)(ht:QR L w.heap vt ts)(hl:ts.length=ps.length)(hi:∀p∈ps,YW p.a.al)
  (hz:∀p∈ps,p.a.ed.Pairwise λx y=>x.1<y.1\/(x.1=y.1/\x.2.1<y.2.1)) (hn:ps.length<=12) (v:Int):
  Q6 prog 184 [.agg #[vl,ve,vs],vt,oF oG v] w λr w'=>O5 [] w w' /\
   match Yv v (ps.map (·.a)) ts with|none=>r=.tuple #[nS,.bool false]|some u=>∃v',r=.tuple #[v',.bool true]/\Qu 3 w.heap.size w' v' u:=by
 refine Zo func184 ?_;refine Qc<|Qe<|QV (us:=[vl,ve,vs]) U λb3 w1 ha hL hf=>x Ql<|Qb<|Qm<|QN<|(Z2 (ht.I ha)).mono ?_;rintro vx w2 ⟨hg,hr⟩;refine Qb ?_;have h0:=ha.size;have hM:=hf.lt;have hh:=ha.D hg;refine Qd<|Qc<|Qs U (hf.I hg) U U<|QL h.al.arr U<|Qa<|xe ?_;have hge:=Qi hr;have h1:Vq (ob vx) w2.heap vl ve vs ps ms:=((h.up (L':=ob vx) (λb G=>.inr (ou (hge b G).1))).I hh);have h2:QR (ob vx) w2.heap vt ts:=((ht.up (L':=ob vx) (λb G=>.inr (ou (hge b G).1))).I hh);refine Qg<|QC (α:=Nat×LI) [(6,7),(9,12),(18,49)] (λz=>[(18,oF oG z.1)])
  (λz w'=>z.1<=ps.length/\z.2.length=z.1/\O5 (ob vx) w2 w'/\Qu 3 w1.heap.size w' vx (z.2++ts.drop z.1)/\Yv v (ps.map (·.a)) ts=(Yv v ((ps.map (·.a)).drop z.1) (ts.drop z.1)).map (z.2++·)) (λz=>ps.length - z.1) ol (0,[]) La
  ⟨Ln _,U,O5.Z _ _,hr,oe⟩ ?_
 rintro⟨k,pre⟩ g w3 ⟨hk,T,O,S,E⟩;simp only[]at hk T S E;have hj:O5 [] w w3:=hh.then O (λb G=>.inr (ou (hge b G).1));refine Qc<|QY U U<|xe<|Qd<|QH U (λh3=>?_) (λh3=>?_)
 ·refine Qz<|Qm<|x Ql<|Qb<|Qk ⟨[vx,.bool true],oA,hj,?_⟩;rw[Lr (by simp;omega),Lr oa]at E;rw[Lr oa]at S;rw[E];simp only[Yv,Oy];exact⟨vx,U,Zu S h0⟩
 have H:k<ps.length:=oa
 have hm:k<ts.length:=oa
 have hs:k<ms.length:=by rw[h.ml];exact H
 have V:=h.al.each ps[k] (Ll H);rw[Qdh (oz H) hm,LO]at E;have hu:=h1.st O;have h4:=h2.st O;refine Qh<|Qd<|Qg<|Qm<|O8 qE hu.al.arr U U H λhN h5=>x (Qw h5 U U)<|Qe<|Qo (us:=[nS,oF oG 0,nS,nS]) U λhO w4 h6 h7 ho=>x Ql <|
  Qe<|Qj (us:=ZU ps[k]) ho U U U U ⟨V.al.one,U,V.mr.one,V.ed.one,Z⟩ λw5 h8 ho=>xe ?_
 have I:O5 [] w3 w5:=h6.O h8 h7;have h9:=hj.D I;refine Qd<|Qc<|Qs U ho U U<|Qa<|QN<|(Kj (V.al.I h9) (hi ps[k] (Ll H)) v).mono ?_;rintro r6 w6 ⟨rfl,rfl⟩;refine x (ZB U)<|xe ?_;have hv:=Zf hm;refine QX rfl (λhp=>?_) (λhp=>?_)
 ·have hB:v∉ps[k].a.al:=by simpa using hp
  refine Qz<|Qv<|QP U U<|Qa<|xe<|⟨(k+1,pre++[ts[k]]),oh,La,H,by simp[T],O.D I,?_,?_⟩
  ·simp only[oV,Ov];rw[<-hv];exact Qn S I
  simp only[];rw[E,OU hB,Option.map_map];congr 1;funext l;simp
 have hC:¬(v∉ps[k].a.al):=by simpa using hp
 rw[OT hC]at E;refine Qh ?_;have hD:=(hf.I hg).J O (λG=>ou (hge b3 G).1);have hw:=hu.I I;obtain⟨hE,hP⟩:=hw.mp k hs H;refine Qd<|ZF [] (Xi 0 17 [])<|p (QQ U)<|pq (λ_ J=>Qq ((hD.I I).I J) U U)<|p QF<|pig U (g:=QeQ) (λ_=>U) hw.sl U U hs λhQ hF =>
  pq (λ_ J=>QD (hF.I J) U)<|p QF<|p QF<|pii U (h4.I I) U U hm λhR hG=>pq (λ_ J=>QD (hG.I J) U) <|
  p QF<|p (λ_=>Qx ⟨U,U,Z⟩)<|pq (λ_ J=>K9 (k:=(ts[k],v)) (hE.I J) U U)<|?_
 rw[j5 ps[k].a.ed [] ts[k] v (hz ps[k] (Ll H))];have hq:O5 [] w3 { w6 with drawn:=w6.drawn+1 }:=I.D (O5.C [] w6)
 cases he:xo ps[k].a.ed ts[k] v with
 | none =>
  rw[he]at E;refine p QF<|p (λ_=>Zr U U)<|p (λ_=>Zr U U)<|p ZI<|p ZI<|pe ?_;refine Qd<|Qm<|x (ZB U)<|xe<|y7 U ?_;refine Qc<|x Ql<|Qb<|Qk ⟨[nS,.bool false],oA,hj.D hq,?_⟩;rw[E];rfl
 | some u =>
  rw[he]at E;refine p QF<|p (λ_=>Zr U U)<|p (λ_=>Zr U U)<|p ZI<|p ZI<|pe ?_;refine Qd<|Qm<|x (ZB U)<|xe<|Z0 U<|Qh ?_;have hy:=Qn S hq;have hS:(pre++ts.drop k).length=ts.length:=by simp;omega
  obtain⟨gx,cx,Y⟩:=JB S oa;have hH:ob vx=[gx]:=by rw[Y];rfl
  refine Qv<|Qa<|Qa<|Qa<|x (Zw Y U oa)<|Qe<|Qiw (u:=oF oG u) (by rw[Y]at hy;exact hy) U U oa U λw7 hI hJ=>xe ?_;refine Qv<|QP U U<|Qa<|xe ?_;have hK:(pre++ts.drop k).set k u=(pre++[u])++ts.drop (k+1):=by
   rw[hv,NA _ _ oa,T,Nat.sub_self,NQ,LB];rfl
  refine⟨(k+1,pre++[u]),oh,La,H,by simp[T],(O.D hq).then hI (λb G=>.inl (by rw[hH];exact G)),?_,?_⟩
  ·simp only[];rw[<-hK];unfold Qu;rw[Mc,NE,Y];exact hJ
  simp only[];rw[E,Option.map_map];congr 1;funext l;simp
theorem Uo (h:n<256):(UInt8.ofNat n).toNat=n:=by
 simp[Nat.mod_eq_of_lt h]
theorem Qcw (u:Nat):(32:UInt8)∉Lib.decDigits u:=by
 induction u using Nat.strongRecOn with
 | _ u ih =>
  unfold Lib.decDigits;split
  ·intro h;simp only[oI]at h;have:=OV UInt8.toNat h;rw[Uo oa]at this;have E:(32:UInt8).toNat=32:=rfl;omega
  intro h;rcases Lc.1 h with h|h
  ·exact ih _ oa h
  simp only[oI]at h;have:=OV UInt8.toNat h;rw[Uo oa]at this;have E:(32:UInt8).toNat=32:=rfl;omega
def dval (l:List UInt8):Nat:=l.foldl (λa b=>a*10+(b.toNat - 48)) 0
theorem Qcu (u:Nat):dval (Lib.decDigits u)=u:=by
 induction u using Nat.strongRecOn with
 | _ u ih =>
  unfold Lib.decDigits;split
  ·simp only[dval,List.foldl_cons,List.foldl_nil];rw[Uo oa];omega
  have:=ih (u / 10) oa;unfold dval at *;rw[MG,this];simp only[List.foldl_cons,List.foldl_nil];rw[Uo oa];omega
theorem Qes:∀{a b r H:List UInt8},(32:UInt8)∉a->(32:UInt8)∉b->a++32::r=b++32::H->a=b/\r=H
 | [],[],_,_,_,_,h=>oz h
 | [],y::b,_,_,_,E,h=>by simp at h;exact OW h.1 (by intro e;exact E (by simp[e]))
 | x::a,[],_,_,G,_,h=>by simp at h;exact OW h.1 (by intro e;exact G (by simp[e]))
 | x::a,y::b,_,_,G,E,h=>by
  simp only[Ob,List.cons.injEq]at h;have:=Qes (λe=>G (Lj _ e)) (λe=>E (Lj _ e)) h.2;exact⟨by rw[h.1,this.1],this.2⟩
theorem Qcb:∀{l l':LI},(∀n∈l,0<=n)->(∀n∈l',0<=n)->JT l=JT l'->l=l'
 | [],[],_,_,_=>rfl
 | [],y::b,_,_,h=>by simp[JT]at h
 | x::a,[],_,_,h=>by simp[JT]at h
 | x::a,y::b,G,H,h=>by
  have I:Lib.decDigits x.toNat++32::JT a=Lib.decDigits y.toNat++32::JT b:=by simpa[JT]using h
  obtain⟨J,O⟩:=Qes (Qcw _) (Qcw _) I;have T:x.toNat=y.toNat:=by rw[<-Qcu x.toNat,<-Qcu y.toNat,J]
  have S:=Qcb (λn E=>G n (Lj _ E)) (λn E=>H n (Lj _ E)) O;have V:=G x Lp;have Y:=H y Lp;rw[S,show x=y by omega]
def KX (l:LI):ByteArray:=⟨(JT l).toArray⟩
theorem Qi1 {l l':LI}(E:∀n∈l,0<=n)(G:∀n∈l',0<=n)(h:KX l=KX l'):l=l':=by
 refine Qcb E G ?_;have:=OV (λb:ByteArray=>b.data.toList) h;simpa[KX]using this
def qK (n:Nat)(m:List (ByteArray×O2))(tup:List (LI)):Prop :=
 ∀u:LI,u.length=n->(∀x∈u,0<=x)->xd m (KX u)=if u∈tup then some (oF oG (tup.idxOf u:Int))else none
theorem qK.add {m:List (ByteArray×O2)}{tup:List (LI)}(h:qK n m tup){u:LI}(H:u∉tup)(I:∀x∈u,0<=x):qK n (xh m (KX u) (oF oG (tup.length:Int))) (tup++[u]):=by
 intro v J G;rw[Xx];by_cases e:u=v
 ·subst e;rw[OU rfl,OU oe,MC,OT H];simp
 rw[OT (λO=>e (Qi1 I G O)),h v J G];by_cases E:v∈tup
 ·rw[OU E,OU (by simp[E]),MC,OU E]
 rw[OT E,OT (by simp[E,Ne.symm e])]
structure SyI (N b2 b38 b37:Nat)(ve:O2)(wS:O1)(s:Sy)(m:List (ByteArray×O2))(qs:List TV)(vt vk vd:O2)(w:O1):Prop where
 st:O5 [b2,b38,b37] wS w
 A:Q7 w.heap b2 59 [ve,oF oG 0,vk,vd]
 M:Ym JL w.heap b38 m
 t:jq 56 N w vt qs
 tb:∀b∈ob vt,b=b37\/wS.heap.size<=b
 k:Qu 3 wS.heap.size w vk s.mk'
 e:YJ 167 wS.heap.size w vd s.ed
 q:qs.map (·.2)=s.tup
 el:∀p∈qs,Qu 3 N w p.1 p.2
 sep:∀p∈qs,∀b∈ob p.1,b≠b38/\b∉ob vt/\b∉ob vk/\b∉ob vd
 d1:Dj vt vk
 d2:Dj vt vd
 d3:Dj vk vd
section
variable {b38 b37:Nat}{wS:O1}{s:Sy}{m:List (ByteArray×O2)}{qs:List TV}{vd:O2}{w'':O1}
theorem SyI.I (h:SyI N b2 b38 b37 ve wS s m qs vt vk vd w)(E:O5 [] w w'):SyI N b2 b38 b37 ve wS s m qs vt vk vd w' :=
 ⟨h.st.D E,h.A.I E,h.M.I E,Qn h.t E,h.tb,Qn h.k E,Qn h.e E,h.q,λp G=>Qn (h.el p G) E,h.sep,h.d1,h.d2,h.d3⟩
structure SyN (N b2 b38 b37:Nat)(wS:O1):Prop where
 l2:b2<N
 l38:b38<wS.heap.size
 l37:b37<wS.heap.size
 n37:N<=b37
 n38:b37<b38
 nS:N<=wS.heap.size
theorem SyI.setK (h:SyI N b2 b38 b37 ve wS s m qs vt vk vd w)(n:SyN N b2 b38 b37 wS){J:O2}{l:LI}(I:O5 (ob vk) w w')(S:Qu 3 wS.heap.size w' J l)
  (O:∀b∈ob J,b∈ob vk\/w.heap.size<=b) (H:O5 [b2] w' w'') (V:Q7 w''.heap b2 59 [ve,oF oG 0,J,vd]):SyI N b2 b38 b37 ve wS ⟨s.tup,l,s.ed⟩ m qs vt J vd w'':=by
 have hge:=Qi h.k;have l2:=n.l2;have l38:=n.l38;have n37:=n.n37;have n38:=n.n38;have nS:=n.nS;refine⟨(h.st.then I (λb E=>.inr (hge b E).1)).then H (λb E=>.inl (by simp at E;simp[E])),V,(h.M.J I (QS h.k oa)).J H (by simp;omega),
  Qf (Qf h.t I h.d1) H (λb E=>by have:=(Qi h.t b E).1;simp;omega),h.tb,Qf S H (λb E=>by have:=(Qi S b E).1;simp;omega),
  Qf (Qf h.e I h.d3.symm) H (λb E=>by have:=(Qi h.e b E).1;simp;omega),h.q,
  λp G=>Qf (Qf (h.el p G) I (λb E=>(h.sep p G b E).2.2.1)) H (λb E=>by have:=(Qi (h.el p G) b E).1;simp;omega),
  λp G b E=>⟨(h.sep p G b E).1,(h.sep p G b E).2.1,λY=>?_,(h.sep p G b E).2.2.2⟩,h.d1.grow O (Zb h.t),h.d2,(h.d3.symm.grow O (Zb h.e)).symm⟩
 rcases O b Y with T|T
 ·exact(h.sep p G b E).2.2.1 T
 have:=Zb (h.el p G) b E;omega
theorem SyI.setE (h:SyI N b2 b38 b37 ve wS s m qs vt vk vd w)(n:SyN N b2 b38 b37 wS){J:O2}{l:List Ed}(I:O5 (ob vd) w w')(S:YJ 167 wS.heap.size w' J l)
  (O:∀b∈ob J,b∈ob vd\/w.heap.size<=b) (H:O5 [b2] w' w'') (V:Q7 w''.heap b2 59 [ve,oF oG 0,vk,J]):SyI N b2 b38 b37 ve wS ⟨s.tup,s.mk',l⟩ m qs vt vk J w'':=by
 have hge:=Qi h.e;have l2:=n.l2;have l38:=n.l38;have n37:=n.n37;have n38:=n.n38;have nS:=n.nS;refine⟨(h.st.then I (λb E=>.inr (hge b E).1)).then H (λb E=>.inl (by simp at E;simp[E])),V,(h.M.J I (QS h.e oa)).J H (by simp;omega),
  Qf (Qf h.t I h.d2) H (λb E=>by have:=(Qi h.t b E).1;simp;omega),h.tb,Qf (Qf h.k I h.d3) H (λb E=>by have:=(Qi h.k b E).1;simp;omega),
  Qf S H (λb E=>by have:=(Qi S b E).1;simp;omega),h.q,
  λp G=>Qf (Qf (h.el p G) I (λb E=>(h.sep p G b E).2.2.2)) H (λb E=>by have:=(Qi (h.el p G) b E).1;simp;omega),
  λp G b E=>⟨(h.sep p G b E).1,(h.sep p G b E).2.1,(h.sep p G b E).2.2.1,λY=>?_⟩,h.d1,h.d2.grow O (Zb h.t),h.d3.grow O (Zb h.k)⟩
 rcases O b Y with T|T
 ·exact(h.sep p G b E).2.2.2 T
 have:=Zb (h.el p G) b E;omega
theorem SyI.setM (h:SyI N b2 b38 b37 ve wS s m qs vt vk vd w)(n:SyN N b2 b38 b37 wS){H:List (ByteArray×O2)}(G:O5 [b38] w w')(J:Ym JL w'.heap b38 H):SyI N b2 b38 b37 ve wS s H qs vt vk vd w':=by
 have l2:=n.l2;have l38:=n.l38;have n37:=n.n37;have n38:=n.n38;have nS:=n.nS;exact⟨h.st.then G (λb E=>.inl (by simp at E;simp[E])),h.A.J G (by simp;omega),J,Qf h.t G (λb E=>by have:=h.tb b E;simp;omega),h.tb,
  Qf h.k G (λb E=>by have:=(Qi h.k b E).1;simp;omega),Qf h.e G (λb E=>by have:=(Qi h.e b E).1;simp;omega),h.q,
  λp I=>Qf (h.el p I) G (λb E=>by have:=(h.sep p I b E).1;simpa using this),h.sep,h.d1,h.d2,h.d3⟩
theorem SyI.setT (h:SyI N b2 b38 b37 ve wS s m qs vt vk vd w)(n:SyN N b2 b38 b37 wS){J:O2}{u:LI}(hx:Qu 3 wS.heap.size w vx u)(S:∀b∈ob vx,b∉ob vt/\b∉ob vk/\b∉ob vd)(H:O5 (ob vt) w w')
  (V:jq 56 N w' J (qs++[(vx,u)])) (O:∀b∈ob J,b∈ob vt\/w.heap.size<=b):SyI N b2 b38 b37 ve wS ⟨s.tup++[u],s.mk',s.ed⟩ m (qs++[(vx,u)]) J vk vd w':=by
 have l2:=n.l2;have l38:=n.l38;have n37:=n.n37;have n38:=n.n38;have nS:=n.nS;have he:=h.st.size;have nott:∀c,c<w.heap.size->c∉ob vt->c∉ob J:=λc hc Y ha=>by
  rcases O c ha with I|I
  ·exact Y I
  omega
 refine⟨h.st.then H (λb E=>by have:=h.tb b E;simp;omega),h.A.J H (λE=>ou (h.tb b2 E)),h.M.J H (λE=>ou (h.tb b38 E)),V,
  λb E=>?_,Qf h.k H h.d1.symm,Qf h.e H h.d2.symm,by rw[Ls,h.q];rfl,λp G=>?_,λp G b E=>?_,(h.d1.symm.grow O (Zb h.k)).symm,(h.d2.symm.grow O (Zb h.e)).symm,h.d3⟩
 ·rcases O b E with I|I
  ·exact h.tb b I
  exact .inr oa
 ·rcases Lc.1 G with G|G
  ·exact Qf (h.el p G) H (λb E=>(h.sep p G b E).2.1)
  simp only[oI]at G;subst G;exact Zu (Qf hx H (λb E=>(S b E).1)) nS
 rcases Lc.1 G with G|G
 ·have:=h.sep p G b E;exact⟨this.1,nott b (Zb (h.el p G) b E) this.2.1,this.2.2⟩
 simp only[oI]at G;subst G;have I:=(Qi hx b E);have T:=S b E;exact⟨oa,nott b I.2 T.1,T.2⟩
end
theorem Qru (o:Option α):o=none\/∃t,o=some t:=by cases o;exact .inl U;exact .inr ⟨_,U⟩
def zA:O2:=.agg #[nS,oF oG 0,nS,nS]
def Zy:O2:=nS
def YT (N:Nat)(H:xC)(aa:List Q0)(va vt:O2)(c:Int):Prop :=
 if Ud aa≠0 then c=Ud aa/\va=zA/\vt=Zy else match xp aa with
  | none=>c=3/\va=zA/\vt=Zy
  | some z=>c=0/\Jw N H va z.1/\Qd7 N H vt z.2
def Y3 (s:Sy)(u:LI):Sy:=if u∈s.tup then s else⟨s.tup++[u],s.mk',s.ed⟩
theorem QhN (s:Sy)(u:LI):(Y3 s u).mk'=s.mk':=by unfold Y3;split <;> rfl
theorem QhO (s:Sy)(u:LI):(Y3 s u).ed=s.ed:=by unfold Y3;split <;> rfl
theorem Qlj {aa:List Q0}{t u:LI}{s:Sy}{v:Int}(h:Yv v aa t=some u)(hl:u∈s.tup\/s.tup.length≠4096):
  syE aa i t s v=some ⟨(Y3 s u).tup,(Y3 s u).mk',(Y3 s u).ed++[((i:Int),v,((Y3 s u).tup.idxOf u:Int))]⟩:=by
 unfold syE Y3;rw[h];simp only[];by_cases E:u∈s.tup
 ·simp only[OU E]
 simp only[OT E];rw[OT (by rcases hl with G|G;exact OW G E;exact G),MC,OT E];simp
theorem QhM {aa:List Q0}{t u:LI}{s:Sy}{v:Int}(h:Yv v aa t=some u)(E:u∉s.tup)(hl:s.tup.length=4096):syE aa i t s v=none:=by
 unfold syE;rw[h];simp only[];rw[OT E,OU hl]
theorem QhK {aa:List Q0}{t:LI}{s:Sy}{v:Int}(h:Yv v aa t=none):syE aa i t s v=some s:=by
 unfold syE;rw[h]
theorem Qp3 {s:Sy}{qs:List TV}(E:qs.map (·.2)=s.tup)(h:i<qs.length):Uj s i=qs[i].2:=by
 unfold Uj;rw[<-E];simp[oQ,h]
theorem Vt.bd {aa:List Q0}{t:LI}(h:Vt aa t){m:Int}(G:∀a∈aa,a.st<=m):∀x∈t,0<=x/\x<m:=by
 intro x hx;obtain⟨i,hi,rfl⟩:=LG hx;have E:i<aa.length:=by rw[<-h.1];exact hi
 have:=h.2 i hi E;have:=G aa[i] (Ll E);omega
theorem Qc0 {L:LN}{ps:List AV}{km:Int}(h:Kw L w.heap vl ps)(gn:Kb w km)(kg:0<km)(pc:∀p∈ps,p.a.st<=km):
  Q6 prog 123 [vl] w λr w'=>O5 [] w w'/\∃va vt c,r=.tuple #[va,vt,oF oG c]/\YT w.heap.size w'.heap (ps.map (·.a)) va vt c:=by
 refine Zo func123 ?_;generalize S:ps.map (·.a)=aa;refine Qc<|Qe<|Qo (us:=[nS,oF oG 0,nS,nS]) U λb2 w1 hQ hB go=>x Ql<|Qb ?_;have hl2:=go.lt;refine Qd<|Qm<|QN<|(Qgi (h.I hQ)).mono ?_;rintro r2 w2 ⟨rfl,hq⟩;refine Qb ?_;rw[S];refine Qm<|ZD U U<|xe<|QZ rfl (λh5=>?_) (λh5=>?_)
 ·refine Qc<|x (Qx Z)<|Qa<|Qe<|Qj (us:=[nS,oF oG 0,nS,nS]) (go.I hq) U U U U oC λw3 pd pf=>x Ql<|Qb<|Qk ⟨[zA,Zy,oF oG (Ud aa)],⟨⟨_,U,Qp U (pf.at (L:=[]) oe).cells⟩,rfl,rfl,Z⟩,(hQ.D hq).O pd hB,zA,Zy,Ud aa,rfl,?_⟩;unfold YT;rw[OU h5];exact⟨U,U,U⟩
 have hr:Ud aa=0:=Lo.1 h5;have hn:ps.length<=12:=by
  unfold Ud at hr;split at hr
  ·cases hr
  rename_i h1;rw[<-S]at h1;simp at h1;exact h1
 have hC:∀a∈aa,ZA a:=by
  unfold Ud at hr;split at hr
  ·cases hr
  exact(UT aa).1 hr
 have hR:∀p∈ps,ZA p.a:=λp G=>hC p.a (by rw[<-S];exact LJ G);have pg:∀p∈ps,p.a.al.length<=32:=λp G=>(hR p G).al_le;have ph:∀a∈aa,a.st<=km:=λa ha=>by rw[<-S]at ha;obtain⟨p,G,rfl⟩:=LC.1 ha;exact pc p G
 have hD:aa.length=ps.length:=by rw[<-S];simp
 refine Qh<|Qm<|QN<|(QlO (L:=[b2]) (((h.up (λb E=>.inr (by simp at E;omega))).I hQ).I hq) hn pg (λb E=>by simp at E;have:=hq.size;omega)).mono ?_;rintro r4 w4 ⟨gp,ve,vs,ms,rfl,kh,hm⟩;rw[S]at hm;have pj:=h.arr.one;have hel:=Qbb aa (λa ha=>(hC a ha).al_le);have hevl:(evs aa).length<=1000:=oa
 have hS:=Qu.ints (L:=[]) hm oa oe;refine Qe<|Qo (us:=[nS,nS,nS]) U λb6 w5 pm pn hE=>Qe<|Qj (us:=[vl,ve,vs]) hE U U U U ⟨pj,hS.one,kh.sl.one,Z⟩ λw6 po hE=>xe ?_;have hU:O5 [] w4 w6:=pm.O po pn;have hz2:=hq.size;have hz4:=gp.size;have hl6:=hE.lt;refine Qc ?_;have pp:=((go.I hq).I gp).I hU;refine Qs rfl hE U U<|Zc U<|Qe<|QB pp U U oe hS.one λw7 hF pu=>xe ?_;have hz7:=hF.size;have gq:O5 [] w w7:=((((hQ.D hq).D gp).D hU).O hF hB);have ki:Vq [b2] w7.heap vl ve vs ps ms:=(kh.I hU).st hF;have kj:Qu 3 w2.heap.size w7 ve (evs aa):=Qf (Qn hm hU) hF (λb E=>by have:=(Qi hm b E).1;simp;omega);have kk:=hE.J hF (by simp;omega);refine Qc<|Q9 kk U U<|QN<|(QdK ki hn).mono ?_;rintro r8 w8 ⟨hk,hV⟩;have hz8:=hk.size;have gr:=pu.I hk;have hW:(∃p∈ps,p.a.st=0)↔(∃a∈aa,a.st=0):=by
  rw[<-S];constructor
  ·rintro⟨p,G,h0⟩;exact⟨p.a,LJ G,h0⟩
  rintro⟨a,ha,h0⟩;obtain⟨p,G,rfl⟩:=LC.1 ha;exact⟨p,G,h0⟩
 by_cases hz:∃p∈ps,p.a.st=0
 ·rw[OU hz]at hV;subst hV;refine Qa<|Zd U U<|Zd U U<|x Ql<|Qb<|Qd<|Qm<|x (ZB U)<|xe<|y7 U ?_;refine Qc<|Q9 gr U U<|Qe<|Qj (us:=[ve,oF oG 0,nS,nS]) gr U U U U ⟨hS.one,U,U,U,Z⟩ λw9 kn pw=>x Ql<|Qb<|Qk ⟨[.agg #[ve,oF oG 0,nS,nS],Zy,oF oG 0],⟨⟨_,U,Qp U (pw.at (L:=[]) oe).cells⟩,rfl,rfl,Z⟩,(gq.D hk).O kn hB,_,Zy,0,rfl,?_⟩;unfold YT;rw[OT h5];unfold xp;rw[OU (hW.1 hz)];have pz:=Qf (Qn kj hk) kn (λb E=>by have:=(Qi hm b E).1;simp;omega);refine⟨U,⟨ve,_,_,U,λL' hl=>⟨Qu.ints pz (by show(evs aa).length<=_;omega) (λb E=>ou (hl b E)),Zp.nil _ _ _,Zp.nil _ _ _⟩⟩,[],U,λL' hl=>⟨Zp.nil _ _ _,λp G=>by cases G⟩⟩
 rw[OT hz]at hV;obtain⟨vf,rfl,gs⟩:=hV;have ko:=Qu.ints (L:=[]) gs (by simp;omega) oe;refine Qa<|Zd U U<|Zd U U<|x Ql<|Qb<|Qd<|Qm<|x (ZB U)<|xe<|Z0 rfl<|Qh<|Qm<|Qe<|QA (us:=[[vf]]) U U og oe ⟨ko.cells,rfl,Z⟩ λV w10 gt hb37 kq=>Qb ?_;have hl37:=kq.lt;refine Qc<|Qe<|YE JL λhg w11 hX hb38 kr=>?_;have hl38:=kr.lt;refine Qa<|QN<|(QaX ((ko.I gt).I hX) (gn.I ((gq.D hk).D (gt.D hX))) (λn hn=>ou (NH hn)) (by simp;omega)).mono ?_;rintro r12 p0 ⟨rfl,hY⟩;have hz12:=hY.size;refine Qe<|Jb (k:=KX (oN ps.length 0)) (kr.I hY) U U λwS gu p1=>Qa<|Qb ?_;have hzS:=gu.size;have p2:O5 [] w8 p0:=(gt.D hX).D hY;have h6:O5 [] w8 wS:=p2.O gu oa;have hZ:O5 [] w wS:=(gq.D hk).D h6;have p3:∀b∈[b2,hg,V],b∈[b2]\/w8.heap.size<=b:=λb E=>by
  simp only[oL,oJ,or_false]at E;rcases E with rfl|rfl|rfl
  ·exact .inl oe
  ·exact .inr oa
  exact .inr oa
 have gv:Vq [b2,hg,V] wS.heap vl ve vs ps ms:=((ki.I hk).up p3).I h6;have gw:Q7 wS.heap b6 329 [vl,ve,vs]:=(kk.I hk).I h6;have p4:Qu 3 w2.heap.size wS ve (evs aa):=Qn (Qn kj hk) h6;have p5:=Zb hm;have p6:=Qi gs;have hG:SyN w1.heap.size b2 hg V wS:=⟨oa,oa,oa,oa,oa,oa⟩;have p7:SyI w1.heap.size b2 hg V ve wS (zR aa) (xh [] (KX (oN ps.length 0)) (oF oG 0)) [(vf,oN ps.length 0)] (.slice (some ⟨V,0,none⟩) 1 1) Zy Zy wS:=by
  refine⟨O5.Z _ _,gr.I h6,p1,?_,λb E=>by simp[ob]at E;exact .inl E,QI _ _ _ _,QI _ _ _ _,by simp[zR,hD],λp G=>?_,λp G b E=>?_,Dj.nil' _,Dj.nil' _,Dj.nil' _⟩
  ·exact(((kq.I hX).I hY).J gu (by simp;omega)).own (n:=1) (sz:=1) U oa oa
  ·simp only[oI]at G;subst G;exact Zu (Qn gs h6) oa
  simp only[oI]at G;subst G;have:=p6 b E;refine⟨oa,?_,by simp[ob,Zy],by simp[ob,Zy]⟩;simp[ob];omega
 have p8:qK ps.length (xh [] (KX (oN ps.length 0)) (oF oG 0)) (zR aa).tup:=by
  have kg:qK ps.length [] []:=λu _ _=>U;have:=kg.add (u:=oN ps.length 0) oe (λx hx=>ou (NH hx));simpa[zR,hD]using this
 have p9:qI aa (zR aa):=by
  refine⟨λt ht=>?_,by simp[zR]⟩;simp only[zR,oI]at ht;subst ht;refine⟨oe,λi h1 h2=>?_⟩;have h3:=(hC aa[i] (Ll h2)).st0;have h4:aa[i].st≠0:=λe=>hz (hW.2 ⟨aa[i],Ll h2,e⟩);simp only[List.getElem_replicate];omega
 generalize hT:syL aa 4096 0 (zR aa)=T;have qc:∀s,T=some s->xp aa=some (⟨evs aa,s.tup.length,s.mk',s.ed⟩,s.tup):=λs hs=>by
  unfold xp;rw[OT (λe=>hz (hW.2 e)),hT,hs];rfl
 have qf:T=none->xp aa=none:=λhs=>by unfold xp;rw[OT (λe=>hz (hW.2 e)),hT,hs];rfl
 refine Qd<|Qc<|Qb ?_;have gx:b6∉[b2,hg,V]:=by simp;omega
 refine Qg<|QC (α:=Nat×Sy×List (ByteArray×O2)×List TV×O2×O2×O2) [(3,4),(10,10),(12,16),(42,111)] (λz=>[(3,z.2.2.2.2.1),(10,oF oG z.1)])
  (λz w'=>SyI w1.heap.size b2 hg V ve wS z.2.1 z.2.2.1 z.2.2.2.1 z.2.2.2.2.1 z.2.2.2.2.2.1 z.2.2.2.2.2.2 w'/\qI aa z.2.1/\qK ps.length z.2.2.1 z.2.1.tup/\z.1<=z.2.1.tup.length/\z.2.1.mk'.length<=z.1/\z.2.1.ed.length<=z.1*1000/\syL aa (4096 - z.1) z.1 z.2.1=T)
  (λz=>4096 - z.1) ol (0,zR aa,_,_,_,Zy,Zy) oA ⟨p7,p9,p8,Ln _,Ln _,Ln _,hT⟩ ?_
 rintro⟨i,s,m,qs,vt,vk,vd⟩ g ga ⟨I,gb,kt,hi,ql,ku,gy⟩;simp only[]at I gb kt hi ql ku gy;have hle:=gb.le;have qo:qs.length=s.tup.length:=by rw[<-I.q];simp
 have kv:∀p∈qs,Vt aa p.2:=λp G=>gb.v p.2 (by rw[<-I.q];exact LJ G);have kw:∀p∈qs,p.2.length<=12:=λp G=>ou (kv p G).1
 have gz:=QK (L:=[]) I.t oa oe;refine Qd<|Qm<|Qa<|QL gz U<|QY U U<|xe<|QH rfl (λqr=>?_) (λqr=>?_)
 ·have qy:T=some s:=by rw[<-gy,QhH oa]
  refine Qz<|Qm<|QL gz U<|Zc U<|Qe<|QB I.A U U oe rfl λw15 q0 kx=>xe ?_;refine Qc ?_;have q1:=Qu.ints (L:=[]) I.k oa oe;have q2:=YJ.eds (L:=[]) I.e oa oe;refine Q9 kx U U<|Qa<|Qe<|Qj (us:=[ve,oF oG qs.length,vk,vd]) kx U U U U ⟨hS.one,U,q1.one,q2.one,Z⟩ λg0 q3 q4=>x Ql<|Qb ?_;have h7:O5 [b2] ga g0:=q0.Q q3;have q5:O5 [] w g0:=(hZ.then I.st (λb E=>.inr (by simp at E;omega))).O h7 hB;refine Qk ⟨[.agg #[ve,oF oG qs.length,vk,vd],vt,oF oG 0],⟨⟨_,U,Qp U (q4.at (L:=[]) oe).cells⟩,rfl,rfl,Z⟩,q5,_,vt,0,rfl,?_⟩;unfold YT;rw[OT h5,qc s qy];have e1:(qs.length:Int)=s.tup.length:=by rw[qo]
  have k0:Qu 3 w2.heap.size g0 ve (evs aa):=Qf (Qf p4 I.st (λb E=>by have:=(Qi hm b E).1;have:=p5 b E;simp;omega)) h7 (λb E=>by have:=(Qi hm b E).1;simp;omega);have k1:=Qf I.k h7 (λb E=>by have:=(Qi I.k b E).1;simp;omega);have k2:=Qf I.e h7 (λb E=>by have:=(Qi I.e b E).1;simp;omega);have k3:=Qf I.t h7 (λb E=>by have:=(Qi I.t b E).1;simp;omega);refine⟨U,⟨ve,vk,vd,by rw[e1],λL' hl=>⟨Qu.ints k0 (by show(evs aa).length<=_;omega) (λb E=>ou (hl b E)),Qu.ints k1 (by show s.mk'.length<=_;omega) (λb E=>ou (hl b E)),YJ.eds k2 (by show s.ed.length<=_;omega) (λb E=>ou (hl b E))⟩⟩,qs,I.q,λL' hl=>⟨?_,λp G=>?_⟩⟩
  ·exact QK k3 oa (λb E hbL=>ov (Qi I.t b E).1 (hl b hbL))
  exact Qu.ints (Qf (I.el p G) h7 (λb E=>by have:=(Qi (I.el p G) b E).1;simp;omega)) (ou (kw p G)) (λb E=>ou (hl b E))
 have za:i<s.tup.length:=oa
 have Y:i<qs.length:=oa
 have kz:=Qp3 I.q Y;have h8:=kv (qs[i]'Y) (Ll Y);obtain⟨t,g2⟩:∃t,(qs[i]'Y).2=t:=⟨_,U⟩;rw[g2]at kz h8;refine Qh ?_;have zb:(K6 aa i t (evs aa) (ZS aa i t s)).bind (syL aa (4096 - (i+1)) (i+1))=T:=by
  rw[<-gy];obtain⟨f,hf⟩:∃f,4096 - i=f+1:=⟨4096 - i - 1,oa⟩;rw[hf,syL,OU za,kz,show 4096 - (i+1)=f by omega]
 have zv:=gv.st I.st;have z0:Vq [] ga.heap vl ve vs ps ms:=zv.up (λ_ E=>by cases E);have z1:=gw.J I.st gx;have z2:QR [] ga.heap (qs[i]'Y).1 t:=by rw[<-g2];exact Qu.ints (I.el (qs[i]'Y) (Ll Y)) (ou (kw (qs[i]'Y) (Ll Y))) oe
 refine Qd<|Qg<|Q3 (α:=O2) [(48,59)] (λz=>[]) (λz w'=>SyI w1.heap.size b2 hg V ve wS (ZS aa i t s) m qs vt z vd w') ol ?_ ?_
 ·refine Qd<|ZF [] (Xi 0 6 [5])<|pq (λ_ hc=>Z1 (z1.I hc) U U)<|p QF<|p QF<|pig U V1 gz U U Y λa51 z3 =>
   pq (λ_ hc=>QD (z3.I hc) U)<|pk<|xg<|(Qgn (z0.I (O5.C _ _)) (z2.I (O5.C _ _)) (by rw[h8.1,hD]) (λp G=>(hR p G).mri) hn).mono ?_
  rintro r17 w17 ⟨rfl,z4⟩;have k4:=(O5.C [] ga).D z4;refine⟨k4,?_⟩;refine pe ?_;have g5:=I.I k4;refine QX U (λhH=>?_) (λhH=>?_)
  rotate_left
  ·refine Qh<|⟨vk,Z,?_⟩;rw[S]at hH;unfold ZS;rw[OT (by rw[hH];simp)];exact g5
  refine Qv<|Qs U g5.A U U<|Qa<|Qe<|QA (us:=[[oF oG i]]) U U og oe ⟨rfl,rfl,Z⟩ λb57 w18 z5 hb57 z6=>?_;have hJ:=g5.I z5;refine Qe<|Q8 (news:=[oF oG i]) (L:=[]) hJ.k U U U (z6.at oe) (by simp[Value.oneCell']) oa hJ.st.size λk5 w19 ho19 k6 hn19=>?_;have k7:Qu 3 wS.heap.size w19 k5 (s.mk'++[(i:Int)]):=Qu.snoc ho19;refine Zc U<|Qe<|QB (hJ.A.J k6 (QS hJ.k oa)) U U oe (Qu.ints (L:=[]) k7 (by simp;omega) oe).one λw20 hs20 hB20=>xe ?_;refine⟨k5,Z,?_⟩;rw[S]at hH;unfold ZS;rw[OU hH];exact hJ.setK hG k6 k7 hn19 hs20 hB20
 rintro gc g3 w21 k8;have hsk2:qI aa (ZS aa i t s):=jy gb;have htup2:(ZS aa i t s).tup=s.tup:=by unfold ZS;split <;> rfl
 have hed2:(ZS aa i t s).ed=s.ed:=by unfold ZS;split <;> rfl
 have hmk2:(ZS aa i t s).mk'.length<=i+1:=by
  unfold ZS;split
  ·simp only[oM,oO];omega
  omega
 have k9:QR [b2,hg,V] wS.heap ve (evs aa):=by have:=gv.ev;rw[S]at this;exact this
 refine Qc<|Qs U (gw.J k8.st gx) U U<|QL k9 U<|Qa<|xe<|Qg<|QC (α:=Nat×Sy×List (ByteArray×O2)×List TV×O2×O2) [(3,4),(12,16),(63,111)] (λz=>[(3,z.2.2.2.2.1),(63,oF oG z.1)])
  (λz w'=>SyI w1.heap.size b2 hg V ve wS z.2.1 z.2.2.1 z.2.2.2.1 z.2.2.2.2.1 gc z.2.2.2.2.2 w'/\qI aa z.2.1/\qK ps.length z.2.2.1 z.2.1.tup/\z.1<=(evs aa).length/\z.2.1.mk'=(ZS aa i t s).mk'/\z.2.1.ed.length<=i*1000+z.1 /\
   (∃h:i<z.2.2.2.1.length,(z.2.2.2.1[i]'h).2=t)/\(K6 aa i t ((evs aa).drop z.1) z.2.1).bind (syL aa (4096 - (i+1)) (i+1))=T)
  (λz=>(evs aa).length - z.1) ol (0,ZS aa i t s,m,qs,vt,vd) oA
  ⟨k8,hsk2,by rw[htup2];exact kt,Ln _,U,by rw[hed2];simpa using ku,⟨Y,g2⟩,zb⟩ ?_
 rintro⟨j,H,m4,hh,gg,gh⟩ g4 hK ⟨O,hL,hv,hj,gi,ma,⟨ho,h9⟩,he⟩;simp only[]at O hL hv hj gi ma he ho h9;have mf:hh.length=H.tup.length:=by rw[<-O.q];simp
 have hle4:=hL.le;refine Qc<|QY U U<|xe<|Qd<|QH U (λh64=>?_) (λh64=>?_)
 ·rw[Lr oa,K6]at he;refine Qz<|Qv<|Qa<|QP U U<|Qb<|⟨(i+1,H,m4,hh,gg,gc,gh),oh,oA,O,hL,hv,oh,by simp only[];rw[gi];exact hmk2,oh,he⟩
 have gj:j<(evs aa).length:=oa
 rw[Zf gj,K6]at he;obtain⟨v,mg⟩:∃v,(evs aa)[j]=v:=⟨_,U⟩;rw[mg]at he;refine Qh<|Qd<|Qg<|Qc ?_;have hveI4:=k9.st O.st;refine xii hveI4 U U gj λa65 mh=>?_;rw[mg]at mh;refine x (QD mh U)<|Qb ?_;have hM22:=(gv.st O.st).up (L':=[]) (λ_ E=>by cases E);have hB622:=gw.J O.st gx;have htA4:=QK (L:=[]) O.t oa oe;have htI4:QR [] hK.heap (hh[i]'ho).1 t:=by rw[<-h9];exact Qu.ints (O.el (hh[i]'ho) (Ll ho)) (by rw[h9,h8.1];omega) oe
 refine Qd<|ZF [] (Xi 0 12 [6])<|pq (λ_ hc=>Z1 (hB622.I hc) U U)<|p QF<|p QF<|pig U V1 htA4 U U ho λa71 h71 =>
  pq (λ_ hc=>QD (h71.I hc) U)<|p QF<|pk<|xg<|(Qil (hM22.I (O5.C _ _)) (htI4.I (O5.C _ _)) (by rw[h8.1,hD]) (λp G=>(hR p G).ali) (λp G=>(hR p G).edi) hn _).mono ?_
 rintro r23 w23 ⟨hs23,hM⟩;rw[S]at hM;have mj:=(O5.C [] hK).D hs23;refine⟨mj,?_⟩;have hN:=O.I mj;have hz22:=O.st.size;rcases Qru (Yv v aa t)with hw|⟨u,hw⟩
 ·rw[hw]at hM;subst hM;rw[QhK hw]at he;refine p QF<|p (λ_=>Zr U U)<|p (λ_=>Zr U U)<|p ZI<|p ZI<|pe ?_;refine Qd<|Qm<|x (ZB U)<|xe<|y7 U ?_;refine Qz<|Qv<|QP U U<|Qa<|xe ?_;exact⟨(j+1,H,m4,hh,gg,gh),oh,oA,hN,hL,hv,gj,gi,oh,⟨ho,h9⟩,he⟩
 rw[hw]at hM;obtain⟨vx,rfl,g8⟩:=hM;have mo:=JZ hC h8 hw;have mq:u.length=ps.length:=by rw[mo.1,hD]
 have g9:=mo.bd ph;have ka:∀x∈u,0<=x:=λx hx=>(g9 x hx).1;refine p QF<|p (λ_=>Zr U U)<|p (λ_=>Zr U U)<|p ZI<|p ZI<|pe ?_;refine Qd<|Qm<|x (ZB U)<|xe<|Z0 U<|Qh ?_;have gk:=Qu.ints (L:=[]) g8 oa oe;have mt:=Qi g8;refine Q3 (α:=Unit) [(15,16),(79,85)] (λz=>[(15,oF oG (if u∈H.tup then(H.tup.idxOf u:Int)else 0)),(16,.bool (decide (u∈H.tup)))]) (λz w'=>O5 [] w23 w') ol ?_ ?_
 ·refine Qv<|Qa<|Qa<|QN<|(QaX gk (gn.I (hZ.then hN.st (λb E=>.inr (by simp at E;omega)))) g9 oa).mono ?_;rintro r24 w24 ⟨rfl,gl⟩;by_cases J:u∈H.tup
  ·refine x (jK (k:=KX u) ((hN.I gl).M) U U (by rw[hv u mq ka,OU J]))<|Qa<|Zd rfl rfl<|Zd rfl rfl<|x Ql<|Qb<|⟨(),⟨OV (Value.int .i64) (OU J).symm,OV Value.bool (OX J).symm,Z⟩,gl⟩
  refine x (Qge (k:=KX u) ((hN.I gl).M) U U (by rw[hv u mq ka,OT J]))<|Qa<|Zd rfl rfl<|Zd rfl rfl<|x Ql<|Qb<|⟨(),⟨OV (Value.int .i64) (OT J).symm,OV Value.bool (OZ J).symm,Z⟩,gl⟩
 rintro _ g6 w25 kb;have hA:=hN.I kb;have hx25:=Qn g8 kb;have hxA25:=gk.I kb;have hadd:∀b∈ob vx,b∉ob gg/\b∉ob gc/\b∉ob gh:=λb E=>by
  have h1:=(mt b E).1;have h1':hK.heap.size<=b:=h1;exact⟨λhO=>ou (Zb O.t b hO),λhO=>ou (Zb O.k b hO),λhO=>ou (Zb O.e b hO)⟩
 refine Q3 (α:=List (ByteArray×O2)×List TV×O2) [(3,4),(15,15),(86,101)] (λz=>[(3,z.2.2),(15,oF oG ((Y3 H u).tup.idxOf u:Int))])
  (λz w'=>SyI w1.heap.size b2 hg V ve wS (Y3 H u) z.1 z.2.1 z.2.2 gc gh w'/\(u∈H.tup\/H.tup.length≠4096)/\qK ps.length z.1 (Y3 H u).tup/\∃h:i<z.2.1.length,(z.2.1[i]'h).2=t) ol ?_ ?_
 ·refine Qm<|x (ZB U)<|xe<|QX U (λkc=>?_) (λkc=>?_)
  rotate_left
  ·have J:u∈H.tup:=by simpa using kc
   refine Qh ?_;have e1:Y3 H u=H:=by unfold Y3;rw[OU J]
   have e2:(if u∈H.tup then(H.tup.idxOf u:Int)else 0)=((Y3 H u).tup.idxOf u:Int):=by rw[e1,OU J]
   refine⟨(m4,hh,gg),⟨U,OV (Value.int .i64) e2,Z⟩,?_,.inl J,?_,ho,h9⟩
   ·rw[e1];exact hA
   rw[e1];exact hv
  have J:u∉H.tup:=by simpa using kc
  have mu:=QK (L:=[]) hA.t oa oe;refine Qd<|Qm<|QL mu U<|x (Q2 U U)<|xe<|QZ U (λh90=>?_) (λh90=>?_)
  ·refine Qc<|x (Qx Z)<|Qe<|Qj (us:=[nS,oF oG 0,nS,nS]) hA.A U U U U oC λw26 gm hB26=>x Ql<|Qb<|Qk ⟨[zA,Zy,oF oG 3],⟨⟨_,U,Qp U (hB26.at (L:=[]) oe).cells⟩,rfl,rfl,Z⟩,(hZ.then hA.st (λb E=>.inr (by simp at E;omega))).O gm hB,zA,Zy,3,U,?_⟩;unfold YT;rw[QhM hw J oa]at he;rw[OT h5,qf he.symm];exact⟨rfl,U,U⟩
  have hl4:H.tup.length≠4096:=oa
  refine Qh<|Qm<|QL mu U<|Qb<|Qm<|Qa<|QN<|(QaX hxA25 (gn.I (hZ.then hA.st (λb E=>.inr (by simp at E;omega)))) g9 oa).mono ?_;rintro r26 w26 ⟨rfl,gm⟩;have mv:=hA.I gm;refine Qa<|Qe<|XI (k:=KX u) mv.M U U λw27 mw hm27=>xe ?_;have hI8:=mv.setM hG mw hm27;have hx27:=Qf (Qn hx25 gm) mw (λb E=>by have:=(mt b E).1;have h1':hK.heap.size<=b:=this;simp;omega);refine Qv<|Qa<|Qa<|Qe<|QA (us:=[[vx]]) U U og oe ⟨gk.cells,rfl,Z⟩ λb100 w28 my hb100 hB100=>?_;have ke:=hI8.I my;refine Qe<|Q8 (news:=[vx]) (L:=[]) ke.t U U U (hB100.at oe) (λy hy=>by simp only[oI]at hy;subst hy;exact gk.one) oa (ov ke.st.size hG.nS) λmz w29 ho29 hs29 hn29=>Qb ?_;have hk29:jq 56 w1.heap.size w29 mz (hh++[(vx,u)]):=jq.snoc ho29;have hIA:=ke.setT hG (u:=u) (Zu (Qn hx27 my) (by show wS.heap.size<=hK.heap.size;omega)) hadd hs29 hk29 hn29;have e1:Y3 H u=⟨H.tup++[u],H.mk',H.ed⟩:=by unfold Y3;rw[OT J]
  have e2:(hh.length:Int)=((Y3 H u).tup.idxOf u:Int):=by
   rw[e1];simp only[];rw[MC,OT J,<-mf];simp
  refine⟨(xh m4 (KX u) (oF oG (hh.length:Int)),hh++[(vx,u)],mz),⟨U,OV (Value.int .i64) e2,Z⟩,?_,.inr hl4,?_,by simp;omega,?_⟩
  ·rw[e1];exact hIA
  ·rw[e1];simp only[];rw[mf];exact hv.add J ka
  simp only[];rw[MB ho];exact h9
 rintro⟨m5,qs5,vt5⟩ g7 w30 ⟨kf,hlim,m2,m3,m6⟩;simp only[]at kf m2 m3 m6;have hed5:(Y3 H u).ed.length<=i*1000+j:=by rw[QhO];exact ma
 have m7:=Qlj (aa:=aa) (i:=i) (s:=H) hw hlim;have hsk5:=QhL hC hL h8 m7;rw[m7]at he;refine Qv<|Qs U kf.A U U<|Qa<|Qa<|Qa<|x (Qx ⟨U,U,U,Z⟩)<|Qe<|QA (us:=[QE ((i:Int),v,((Y3 H u).tup.idxOf u:Int))]) U U og (by exact(by decide:1*3<=1000000)) oA λb108 w31 hs31 hb108 hB108=>?_;have hP:=kf.I hs31;refine Qe<|Q8 (news:=QE ((i:Int),v,((Y3 H u).tup.idxOf u:Int))) (L:=[]) hP.e U U U (hB108.at oe) (λy hy=>by simp only[QE,oL,oJ,or_false]at hy;rcases hy with rfl|rfl|rfl <;> rfl) oa hP.st.size λm8 w32 ho32 m9 hn32=>?_
 have pa:YJ 167 wS.heap.size w32 m8 ((Y3 H u).ed++[((i:Int),v,((Y3 H u).tup.idxOf u:Int))]):=YJ.snoc ho32;refine Zc U<|Qe<|QB (hP.A.J m9 (QS hP.e oa)) U U oe (YJ.eds (L:=[]) pa (by simp;omega) oe).one λw33 hs33 hB33=>xe ?_;have hI12:=hP.setE hG m9 pa hn32 hs33 hB33;refine Qv<|QP U U<|Qa<|xe<|⟨(j+1,_,m5,qs5,vt5,m8),oh,oA,hI12,hsk5,m2,gj,?_,?_,⟨m3,m6⟩,he⟩
 ·simp only[];rw[QhN];exact gi
 simp only[oM,oO];omega
structure Um where
 en:LI
 dis:LI
 mk':Bool
 ps:Bool
def Qph:Um:=⟨[],[],false,false⟩
def QnW (l:LI)(v:Int):LI:=mrg (· || ·) l [v]
def QrG (p s:Q0)(x y:Int)(c:Um)(v:Int):Um :=
 match xo p.ed x v with
 | none=>c
 | some _=>match xo s.ed y v with
  | some _=>⟨QnW c.en v,c.dis,c.mk',c.ps⟩
  | none=>⟨c.en,QnW c.dis v,c.mk',c.ps⟩
def QrH (p s:Q0)(x y:Int)(c:Um):Um:=⟨c.en,c.dis,decide (y∈s.mr),c.ps || decide (x∈p.mr)⟩
def QrF (p s:Q0)(x y:Int)(c:Um):Um:=s.al.foldl (QrG p s x y) (QrH p s x y c)
def px (q:LI):Int:=q.getD 0 0
def py (q:LI):Int:=q.getD 1 0
def QrE (p s:Q0)(l:List Um)(q:LI):List Um:=l.set (py q).toNat (QrF p s (px q) (py q) (l.getD (py q).toNat Qph))
def ctls (p s:Q0)(pairs:List (LI)):List Um:=pairs.foldl (QrE p s) (oN s.st.toNat Qph)
def occs (n:Nat)(pairs:List (LI)):List Bool:=pairs.foldl (λo q=>o.set (py q).toNat true) (oN n false)
def meets (a b:LI):LI:=mrg (· && ·) a b
def QqG (a b:Um):Bool:=decide ((meets a.en b.dis).length+(meets b.en a.dis).length=0) && (!a.ps || !b.ps || a.mk' == b.mk')
def O6 (l:LI)(i:Nat):Int:=l.getD i 0
def QiM (cl:LI)(x y:Nat):LI:=cl.map λc=>if c=O6 cl y then O6 cl x else c
def lget (l:List Um)(i:Nat):Um:=l.getD i Qph
def to0 (s:Q0)(x:Nat)(v:Int):Int:=match xo s.ed x v with|some u=>u|none=>0
def clE (s:Q0)(x y:Nat)(z:LI×Bool)(v:Int):LI×Bool :=
 if O6 z.1 (to0 s x v).toNat≠O6 z.1 (to0 s y v).toNat then(QiM z.1 (to0 s x v).toNat (to0 s y v).toNat,true)else z
def clY (s:Q0)(l:List Um)(x:Nat)(z:LI×Bool)(y:Nat):LI×Bool :=
 if O6 z.1 x<0\/O6 z.1 x≠O6 z.1 y then z else(meets (lget l x).en (lget l y).en).foldl (clE s x y) z
def clX (s:Q0)(l:List Um)(n:Nat)(z:LI×Bool)(x:Nat):LI×Bool:=(oR (x+1) (n - (x+1))).foldl (clY s l x) z
def pass (s:Q0)(l:List Um)(cl:LI):LI×Bool:=(oR 0 cl.length).foldl (clX s l cl.length) (cl,false)
def Qj4 (s:Q0)(l:List Um):Nat->LI->LI
 | 0,cl=>cl
 | f+1,cl=>if(pass s l cl).2=true then Qj4 s l f (pass s l cl).1 else(pass s l cl).1
def QmT (l:List Um)(cl:LI):Bool :=
 (oR 0 cl.length).all λx=>(oR 0 x).all λy=>!(decide (0<=O6 cl x/\O6 cl x=O6 cl y) && !QqG (lget l x) (lget l y))
def Qrf (s:Q0)(l:List Um)(cl:LI)(x y:Nat):LI :=
 if O6 cl x<0\/O6 cl y<0\/O6 cl x=O6 cl y then cl else
  let d:=Qj4 s l (cl.length*cl.length+1) (QiM cl x y)
  if QmT l d=true then d else cl
def Qre (s:Q0)(l:List Um)(n:Nat)(cl:LI)(x:Nat):LI:=(oR (x+1) (n - (x+1))).foldl (λc y=>Qrf s l c x y) cl
def QrK (o:List Bool):LI:=(oR 0 o.length).map λi=>if o.getD i false=true then(i:Int)else -1
def QrJ (s:Q0)(l:List Um)(cl:LI):LI:=(oR 0 cl.length).foldl (Qre s l cl.length) cl
def Qrw (z:LI×LI)(c:Int):LI×LI :=
 if c∈z.1 then(z.1,z.2++[(z.1.idxOf c:Int) - 1])else(z.1++[c],z.2++[(z.1.length:Int) - 1])
def nums (cl:LI):LI:=(cl.foldl Qrw ([-1],[])).2
def QqN (p s:Q0)(pairs:List (LI)):LI:=nums (QrJ s (ctls p s pairs) (QrK (occs s.st.toNat pairs)))
theorem xI {α:Type}(g:α->LV)(sz:Nat)(G:∀x,(g x).length=sz):∀(l:List α) (i j:Nat) (h:i<l.length) (y:α) (u:O2),j<sz->g y=(g l[i]).set j u ->
  (l.flatMap g).set (i*sz+j) u=(l.set i y).flatMap g
 | x::l,0,j,h,y,u,H,E=>by
  simp only[List.getElem_cons_zero]at E;simp only[OQ,oZ,Oe,List.set_cons_zero];rw[List.set_append_left _ _ (by rw[G];exact H),E]
 | x::l,i+1,j,h,y,u,H,E=>by
  simp only[List.getElem_cons_succ]at E;simp only[Oe,List.set_cons_succ];rw[NA _ _ (by rw[G,Mu];omega),G,show(i+1)*sz+j - sz=i*sz+j by rw[Mu];omega,xI g sz G l i j (oz h) y u H E]
section
variable {f:Fr}{all:xE}{C:xA}{K:Fr->O1->Prop}
def yF (all:Array Oper)(i j:Nat)(E G:xu):xu->Array Bool->Bool
 | [],ls=>Region.ready .any all ls == [i,j] && Xh all E (ls.setIfInBounds i true) && Xh all G (ls.setIfInBounds j true)
 | (k,q)::pl,ls=>q && (Region.ready .any all ls).contains k && Region.free .any all ls k && yF all i j E G pl (ls.setIfInBounds k true)
def Qjm (all:xE)(pl:xu)(i j:Nat)(E G:xu):Bool :=
 Region.noSelect all.toArray && pl.length+1+E.length == all.length && E.length == G.length && yF all.toArray i j E G pl (oX all.length false)
def Fk (P:O4)(all:xE)(C:xA)(K:Fr->O1->Prop)(i j:Nat)(G H:xu)(f:Fr)(w:O1):Prop :=
 (Yd all f (QU all i)=true/\XO P (QU all i) f w λE w'=>C w'/\XP P all C K G E w') /\
 (Yd all f (QU all j)=true/\XO P (QU all j) f w λE w'=>C w'/\XP P all C K H E w')
theorem Ug {i j:Nat}{G V:xu}(hl:G.length=V.length)(H:Region.noSelect all.toArray=true):∀(pl:xu) (ls:Array Bool) (f:Fr) (w:O1),ls.size=all.length->C w->yF all.toArray i j G V pl ls=true ->
  XP P all C (Fk P all C K i j G V) pl f w->XA P all C K (pl.length+(1+G.length)) ls f w
 | [],ls,f,w,ha,I,J,h=>by
  simp only[yF,oK,beq_iff_eq]at J;obtain⟨⟨O,h1⟩,h2⟩:=J;simp only[XP]at h;rw[Np,LS,Nj];refine XS (λh0=>(by rw[h0]at O;cases O)) ?_;rw[O];intro k hk o E;have S:(ls.setIfInBounds k true).size=all.length:=by simpa using ha
  simp only[oL,oJ,or_false]at hk;rcases hk with rfl|rfl
  ·have:=h.1;rw[Zk E]at this;rw[this.1,cond_true];exact this.2.mono λv w' hx=>⟨.inr (.inr hx.1),ZL H G _ _ _ S (.inl hx.1) h1 hx.2⟩
  have:=h.2;rw[Zk E]at this;rw[this.1,cond_true,hl];exact this.2.mono λv w' hx=>⟨.inr (.inr hx.1),ZL H V _ _ _ S (.inl hx.1) h2 hx.2⟩
 | (T,q)::pl,ls,f,w,ha,I,J,h=>by
  simp only[yF,oK]at J;obtain⟨⟨⟨rfl,O⟩,hf⟩,hc⟩:=J;simp only[XP]at h;have hb:T∈Region.ready .any all.toArray ls:=by simpa using O
  have e:(oP ((T,true)::pl))+(1+G.length)=(pl.length+(1+G.length))+1:=by simp;omega
  rw[e];cases E:all[T]? with
  | none =>
   exfalso;obtain⟨_,o,hi,_⟩:=mem_ready.1 hb;simp[E]at hi
  | some o =>
   rw[Zk E]at h;have he:∀(j:Nat) (o:Oper) cs b,all[j]?=some o->o.op≠.select cs b:=λj o cs b hj=>Region.noSelect_spec H j o cs b (oz hj);have hh:=λj oj hj=>Region.free_spec (ops:=all.toArray) (md:=.any) (i:=T) (oi:=o) (listed:=ls) (oz E) hf j oj (oz hj);have S:(ls.setIfInBounds T true).size=all.length:=by simpa using ha
   cases Y:Yd all f o with
   | false =>
    rw[Y]at h;exact Xn (v:=undef) (D:=λw=>U8 o=true->C w) E (λ_ h=>h) he _ ls f w (λ_=>I) hh hb (.inr ⟨Y,U⟩) (Ug hl H pl _ _ _ S I hc h)
   | true =>
    rw[Y]at h;simp only[cond_true]at h;obtain⟨v,hv,hx⟩:=h;exact Xn (v:=v) (D:=λw=>U8 o=true->C w) E (λ_ h=>h) he _ ls f w (λ_=>I) hh hb (.inl ⟨Y,hv⟩) (Ug hl H pl _ _ _ S I hc hx)
theorem Qnj {Q:Exit->Fr->O1->Prop}(C:xA)(pl:xu)(i j:Nat)(G H:xu)(J:P.follows .mixedOrders=true)(O:X0 n all=true)(E:Qjm all pl i j G H=true)
  (S:C { w with drawn:=w.drawn+1 }) (h:XP P all C (Fk P all C (λf w=>Q .normal f w) i j G H) pl f { w with drawn:=w.drawn+1 }):W P n (.region id all.toArray true) Q f w:=by
 simp only[Qjm,oK,beq_iff_eq]at E;obtain⟨⟨⟨T,hl⟩,V⟩,E⟩:=E;refine JR C J O ?_;have I:=Ug V T pl _ _ _ oe S E h;rw[<-ON,hl]at I;exact I
end
theorem ZE {l:LI}(h:i<l.length):l[i]=O6 l i:=by simp[O6,oQ,h]
section
variable {l:xE}{K:Fr->O1->Prop}{f:Fr}{pS:String}{C:xA}{pl:xu}{i0:Nat}
theorem xic {x:O3}{e bys:Nat}[Sl P t e 1 bys z]{L:LN}{li:LI}{v:O2}{k:IntKind}
  (h:QR L w.heap v li) (E:ev f x=v) (G:ev f y=.int k i) (hi:i<li.length)
  (hK:∀a,At L w.heap a [oF oG (O6 li i)]->XL P ops K l (QW f d (.pointer (some a))) w) (H:Yd ops f ⟨d,.indexAddr t x y,ty,pS,af,gd⟩=true:=by rfl):
  XL P ops K (⟨d,.indexAddr t x y,ty,pS,af,gd⟩::l) f w :=
 xii h E G hi (λa I=>hK a (by rw[<-ZE hi];exact I)) H
theorem pic {x:O3}{e bys:Nat}[Sl P t e 1 bys z]{L:LN}{li:LI}{v:O2}{k:IntKind}
  (E:QU ops i0=⟨d,.indexAddr t x y,ty,pS,af,gd⟩) (h:QR L H v li) (G:ev f x=v) (I:ev f y=.int k i) (hi:i<li.length)
  (hK:∀a,At L H a [oF oG (O6 li i)]->XP P ops C K pl (QW f d (.pointer (some a))) w) (J:Yd ops f (QU ops i0)=true:=by rfl):XP P ops C K ((i0,true)::pl) f w :=
 pii E h G I hi (λa O=>hK a (by rw[<-ZE hi];exact O)) J
end
theorem Qh6 {a:Nat}(h:a<n):oR a (n - a)=a::oR (a+1) (n - (a+1)):=by
 rw[show n - a=(n - (a+1))+1 by omega,Ng]
theorem QlD {a:Nat}(h:n<=a):oR a (n - a)=[]:=by rw[show n - a=0 by omega];rfl
section
variable {f:Fr}{pS:String}{κ:Type}[DecidableEq κ]
end
theorem Qeo {aa:List Q0}{i:Nat}{t:LI}(E:∀a∈aa,ZA a)(G:Vt aa t):∀(vs:LI) (s s':Sy),qI aa s->K6 aa i t vs s=some s'->qI aa s'
 | [],s,s',h,e=>by cases e;exact h
 | v::vs,s,s',h,e=>by
  rw[K6]at e;obtain⟨H,I,J⟩:=MY.1 e;exact Qeo E G vs H s' (QhL E h G I) J
theorem QhG {aa:List Q0}(E:∀a∈aa,ZA a):∀(f i:Nat) (s s':Sy),qI aa s->syL aa f i s=some s'->qI aa s'
 | 0,i,s,s',h,e=>by cases e;exact h
 | f+1,i,s,s',h,e=>by
  rw[syL]at e;split at e
  ·rename_i hi;obtain⟨G,H,I⟩:=MY.1 e;have J:Vt aa (Uj s i):=h.v _ (by unfold Uj;simp[oQ,hi]);exact QhG E f _ G s' (Qeo E J _ _ _ (jy h) H) I
  cases e;exact h
theorem Qn1 {aa:List Q0}(H:∀a∈aa,ZA a)(I:¬∃a∈aa,a.st=0):qI aa (zR aa):=by
 refine⟨λt E=>?_,by simp[zR]⟩;simp only[zR,oI]at E;subst E;refine⟨oe,λi J G=>?_⟩;have O:=(H aa[i] (Ll G)).st0;have S:aa[i].st≠0:=λe=>I ⟨aa[i],Ll G,e⟩;simp only[List.getElem_replicate];omega
theorem zo {aa:List Q0}(E:∀a∈aa,ZA a){z:Q0×List (LI)}(h:xp aa=some z):(∀t∈z.2,Vt aa t)/\z.2.length<=4096:=by
 unfold xp at h;split at h
 ·cases h;simp
 rename_i G;obtain⟨s,H,rfl⟩:=L7.1 h;have:=QhG E _ _ _ _ (Qn1 E G) H;exact⟨this.v,this.le⟩
def opC (p s:Q0):Int:=if JD p≠0 then JD p else if JD s≠0 then JD s else if mrg (λp q=>p && !q) s.al p.al=[]then 0 else 9
def opE (p s:Q0):Int:=if opC p s≠0 then opC p s else match xp [p,s]with|none=>3|some _=>0
def opQ (p s:Q0):List (LI):=match xp [p,s]with|none=>[]|some z=>z.2
def Qqk (l:LI):Int:=(l.drop 1).foldl max (O6 l 0)
theorem Kx {v:O2}{a:Q0}(h:Jw N w.heap v a)(G:b<N)(H:O5 [b] w w'):Jw N w'.heap v a:=by
 obtain⟨va,vm,ve,I,J⟩:=h;refine⟨va,vm,ve,I,λL O=>?_⟩;exact((J (b::L) (λc E=>by rcases Li.1 E with rfl|E;exact G;exact O c E)).st (H.mono oe)).up (λc E=>.inl (Lj _ E))
theorem QkD {v:O2}{l:List (LI)}(h:Qd7 N w.heap v l)(G:b<N)(H:O5 [b] w w'):Qd7 N w'.heap v l:=by
 obtain⟨ps,I,J⟩:=h;refine⟨ps,I,λL O=>?_⟩;exact((J (b::L) (λc E=>by rcases Li.1 E with rfl|E;exact G;exact O c E)).st (H.mono oe)).up (λc E=>.inl (Lj _ E))
theorem JS {v:O2}{a:Q0}(h:Jw N H v a):∃us,v=.agg us.toArray/\us.length=4/\Zm us:=by
 obtain⟨va,vm,ve,E,G⟩:=h;have:=G [] oe;exact⟨[va,oF oG a.st,vm,ve],E,U,this.al.one,U,this.mr.one,this.ed.one,Z⟩
end Go.Lg
namespace Go.Lg
abbrev xz:=Fr->xA
end Go.Lg
