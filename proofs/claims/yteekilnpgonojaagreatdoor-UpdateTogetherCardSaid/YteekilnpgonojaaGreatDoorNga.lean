/- Merged out of 43 texts. -/
import Derived.Orders
import Derived.Below
import Derived.WalkKit
import Derived.Laws.AppendOwn
import Derived.Laws.Rows
import Derived.Laws.Tables
import Derived.Great.BuildSlice
import Derived.Deep.OwnRows
import Derived.MapKept
import Derived.Test.YteekilnpgonojaaGreatDoorProg
import Derived.Shelf.Strings.Builder1
import Derived.Shelf.Small.Bits
import Derived.Shelf.Strings.BuilderF
import Derived.Shelf.Strings.BuilderK
import Derived.Shelf.Strconv.Itoa0
import Derived.Shelf.Strconv.Itoa1
import Derived.Shelf.LaysM
import Derived.Shelf.Strconv.Itoa2
import Derived.Shelf.Strconv.Itoa3
import Derived.Shelf.Strings.BuilderCap
import Derived.Ground.SlgfProg
import Derived.Ground.SlgmProg
import Derived.Shelf.SortM.Plain
import Derived.Shelf.SortM.SortNone
import Derived.Lib.Builder
import Derived.Laws.Externs
set_option maxHeartbeats 40000000
set_option maxRecDepth 100000
set_option linter.all false
abbrev Eq.D:=@Eq.trans
abbrev Iff.D:=@Iff.trans
abbrev List.Perm.D:=@List.Perm.trans
namespace Go
abbrev sL (b n c:Nat):Value:=.slice (some ⟨b,0,none⟩) n c
abbrev sP (b:Nat):Value:=.pointer (some ⟨b,0,none⟩)
instance:CoeOut World Nat:=⟨λw=>w.heap.size⟩
abbrev sS (n:Int):Value:=.int .i64 n
abbrev sT (l:List Value):Value:=.agg l.toArray
abbrev xt:=Option (Nat×Bool)
abbrev xu:=List (Nat×Bool)
abbrev xw:=List (Nat×Nat)
abbrev xx:=List (Int×Int)
abbrev xA:=World→Prop
abbrev xC:=Array Obj
abbrev xD:=Array Edge
abbrev xE:=List Oper
abbrev xF:=Option Nat
theorem ov{p q:Prop}(a:q)(h:q→p:=by intro _;omega):p:=h a
theorem oy{p q r:Prop}(a:q)(b:r)(h:q→r→p:=by intro _ _;omega):p:=h a b
theorem oz{p q r s:Prop}(a:q)(b:r)(c:s)(h:q→r→s→p:=by intro _ _ _;omega):p:=h a b c
theorem oA{p q:Prop}(a:q)(h:q→p:=by intro h;simpa using h):p:=h a
theorem oa{p:Prop}(h:p:=by omega):p:=h
theorem od{p:Prop}(h:p:=by simp):p:=h
theorem oe{p:Prop}(h:p:=by kernel_rfl):p:=h
theorem og{p:Prop}(h:p:=by simp only[];omega):p:=h
theorem oh{p:Prop}(h:p:=by simp only[List.mem_singleton];omega):p:=h
theorem ol{p:Prop}(h:p:=by decide):p:=h
theorem om{p:Prop}(h:p:=by rfl):p:=h
theorem oq{p:Prop}(h:p:=by simp[Value.oneCell']):p:=h
theorem ot{p:Prop}(h:p:=by simp only[List.mem_cons,List.not_mem_nil,or_false];omega):p:=h
theorem ou{p:Prop}(h:p:=by simp[ow]):p:=h
abbrev oE(j:Nat):Nat×Bool:=(j,true)
abbrev oF(j:Nat):Nat×Bool:=(j,false)
abbrev OT:=@if_neg
abbrev OU:=@if_pos
abbrev OV:=@congrArg
abbrev OW:=@absurd
abbrev OX:=@decide_eq_true
abbrev OY:=@of_decide_eq_true
abbrev OZ:=@decide_eq_false
abbrev O0:=@of_decide_eq_false
end Go
open Go
open Go.Value renaming int->oG
open Go.IntKind renaming i64->oH
open _root_.List renaming mem_singleton->oJ,not_mem_nil->oK,mem_cons->oL,length_append->oN,replicate->oO,length_singleton->oP,length->oQ,getD->oR,range'->oS,all_cons->oU,range->oV,mem_append->oW,length_cons->oX,map_cons->oY,getElem?_toArray->o0,append_assoc->o6,length_drop->Oa,length_take->Ob,length_map->Oc,size_toArray->Od,flatMap_cons->Of,getElem?_eq_getElem->Og,cons_append->Oh,all_eq_true->Ok,nil_append->Om,forall_mem_cons->Ot,singleton_append->Ow,append_nil->Oy,range'_succ->OC,take_append->OK,map_set->OQ
open _root_.Bool renaming and_eq_true->oM,not_eq_true'->Oe,or_eq_false_iff->Oi,or_eq_true->OG,true_and->OO
open _root_.Array renaming replicate->oT,getElem?_eq_getElem->Ol
open _root_.Nat renaming zero_add->oZ,add_mul->Oq,add_zero->OD,sub_zero->OJ,add_assoc->ON,zero_mul->OP,beq->OS
open _root_.Int renaming toNat_natCast->Ou
open _root_.Option renaming map_some->Oz
open Go renaming World->O1,Value->O2,Operand->O3,Program->O4
open Go.Proofs Go.Proofs.Tryz
open Go.Proofs.Tryz renaming prog->sV
variable {w w':O1}{n t i sz b T j g E N id ty cap b1 B kt lo hi b2 et M gp:Nat}{H:xC}{α β:Type}{y G:O3}{z va ve vm vt v' vl vs vb vx vk:O2}{P:O4}{fn:Func}{o:Oper}{d:xF}{af:xD}{gd:xt}{k':IntKind}{at_:Array Nat}{rest:xu}{ops:xE}
namespace Go
abbrev nS:O2:=.slice none 0 0
abbrev LI:=List Int
abbrev LN:=List Nat
abbrev LV:=List O2
theorem U.{u}{α:Sort u}{a:α}:a=a:=rfl
theorem Z:True:=trivial
theorem La.{u}{α:Sort u}{a:α}:a=a/\True:=⟨rfl,trivial⟩
abbrev Lb:=@List.mem_singleton
abbrev Lc:=@List.mem_append
abbrev Lh:=@List.length_map
abbrev Li:=@List.mem_cons
abbrev Lj:=@List.mem_cons_of_mem
abbrev Lk:=@List.length_append
abbrev Ll:=@List.getElem_mem
abbrev Lm:=@List.take_succ_eq_append_getElem
abbrev Ln:=@Nat.zero_le
abbrev Lo:=@Decidable.not_not
abbrev Lp:=@List.map_append
abbrev Lq:=@List.mem_cons_self
abbrev Lr:=@List.eq_nil_of_length_eq_zero
abbrev Ls:=@List.drop_of_length_le
abbrev Lt:=@List.take_of_length_le
abbrev Lu:=@List.not_mem_nil
abbrev Lv:=@Nat.le_refl
abbrev Lx:=@Bool.and_eq_true
abbrev Ly:=@List.flatMap_append
abbrev LA:=@List.length_take
abbrev LB:=@List.append_assoc
abbrev LC:=@List.mem_map
abbrev LD:=@List.length_singleton
abbrev LE:=@List.drop_eq_getElem_cons
abbrev LF:=@List.getElem?_eq_getElem
abbrev LG:=@List.map_cons
abbrev LH:=@Nat.le_trans
abbrev LJ:=@Array.getElem?_eq_some_iff
abbrev LK:=@List.flatMap_cons
abbrev LM:=@List.mem_map_of_mem
abbrev LO:=@Nat.lt_of_lt_of_le
abbrev LP:=@List.getElem_of_mem
abbrev LQ:=@List.size_toArray
abbrev LR:=@List.append_nil
abbrev LS:=@Nat.zero_add
abbrev LT:=@List.length_cons
abbrev LU:=@List.mem_of_mem_take
abbrev LW:=@List.getElem?_take
abbrev LX:=@List.length_drop
abbrev LY:=@Nat.mul_le_mul_right
abbrev LZ:=@Nat.le_of_ble_eq_true
abbrev L3:=@List.filter_append
abbrev L4:=@List.foldl_cons
abbrev L5:=@List.mem_filter
abbrev L6:=@List.pairwise_cons
abbrev L7:=@List.all_cons
abbrev L8:=@List.mem_of_mem_drop
abbrev L9:=@List.length_set
abbrev Ma:=@List.nil_append
abbrev Mb:=@List.filter_cons
abbrev Mc:=@List.mem_flatMap
abbrev Md:=@List.getElem?_eq_some_iff
abbrev Me:=@List.mem_append_left
abbrev Mf:=@List.length_filter_le
abbrev Mg:=@List.all_eq_true
abbrev Mh:=@Array.size_modify
abbrev Mi:=@Array.getElem?_append
abbrev Mj:=@Nat.min_eq_left
abbrev Mk:=@List.getElem?_toArray
abbrev Ml:=@List.map_map
abbrev Mn:=@List.getElem?_append_left
abbrev Mo:=@Array.getElem?_toList
abbrev Mq:=@List.getElem_map
abbrev Mr:=@Option.map_eq_some_iff
abbrev Ms:=@List.mem_of_getElem?
abbrev Mt:=@Nat.add_mul
abbrev Mu:=@List.ext_getElem
abbrev Mv:=@List.cons_append
abbrev Mw:=@Array.getElem?_modify
abbrev Mx:=@Array.getElem?_eq_getElem
abbrev My:=@List.filterMap_cons
abbrev Mz:=@List.range'_1_concat
abbrev MA:=@List.idxOf_append
abbrev MB:=@List.mem_range'_1
abbrev MC:=@List.nodup_append
abbrev MD:=@List.foldl_append
abbrev ME:=@List.getElem?_drop
abbrev MF:=@List.take_append_drop
abbrev MG:=@List.pairwise_append
abbrev MH:=@List.getElem_append_left
abbrev MI:=@List.idxOf_lt_length_of_mem
abbrev MJ:=@List.take_succ_cons
abbrev MK:=@Nat.add_sub_cancel_left
abbrev ML:=@List.getElem?_append_right
abbrev MM:=@List.nodup_nil
abbrev MN:=@Int.toNat_natCast
abbrev MO:=@List.pairwise_map
abbrev MP:=@Bool.not_eq_true'
abbrev MQ:=@Bool.or_eq_false_iff
abbrev MR:=@List.pairwise_iff_getElem
abbrev MS:=@List.mem_or_eq_of_mem_set
abbrev MT:=@List.getElem?_eq_none
abbrev MU:=@Array.size_append
abbrev MW:=@Option.bind_eq_some_iff
abbrev MX:=@List.mem_filterMap
abbrev MY:=@List.filter_sublist
abbrev MZ:=@List.take_append_of_le_length
abbrev M0:=@List.headD_cons
abbrev M1:=@List.take_length
abbrev M2:=@List.ext_getElem?
abbrev M4:=@List.take_take
abbrev M5:=@List.tail_cons
abbrev M6:=@List.getElem_append_right
abbrev M7:=@List.getElem_set
abbrev M8:=@List.range'_succ
abbrev M9:=@Nat.mod_eq_of_lt
abbrev Na:=@List.map_singleton
abbrev Nb:=@Nat.add_comm
abbrev Nc:=@List.forall_mem_cons
abbrev Nd:=@List.getElem?_map
abbrev Nf:=@List.getElem_take
abbrev Ng:=@List.pairwise_lt_range'
abbrev Nh:=@Nat.not_lt_zero
abbrev Ni:=@List.length_nil
abbrev Nj:=@List.filter_nil
abbrev Nk:=@List.map_congr_left
abbrev Nl:=@Nat.add_zero
abbrev Nm:=@List.filter_eq_nil_iff
abbrev Nn:=@List.map_nil
abbrev Np:=@Nat.lt_or_ge
abbrev Nq:=@List.any_eq_true
abbrev Nr:=@Nat.le_of_not_lt
abbrev Ns:=@List.getD_eq_getElem?_getD
abbrev Nt:=@List.mem_range
abbrev Nu:=@Array.getElem?_mapIdx
abbrev Nv:=@List.singleton_append
abbrev Nw:=@List.mem_append_right
abbrev Nx:=@Option.isNone_iff_eq_none
abbrev Ny:=@Option.map_some
abbrev Nz:=@List.range_succ
abbrev NA:=@List.nodup_cons
abbrev NB:=@List.any_eq_false
abbrev NC:=@List.getElem?_set_ne
abbrev ND:=@Nat.lt_irrefl
abbrev NE:=@List.eq_of_mem_replicate
abbrev NF:=@List.mergeSort_perm
abbrev NG:=@List.filter_eq_self
abbrev NH:=@List.pairwise_singleton
abbrev NI:=@List.zipIdx_cons
abbrev NJ:=@List.foldl_nil
abbrev NK:=@Int.le_refl
abbrev NL:=@Option.isSome_none
abbrev NM:=@Bool.false_eq_true
abbrev NN:=@Nat.sub_zero
abbrev NO:=@Nat.mod_lt
abbrev NP:=@List.set_cons_succ
abbrev NQ:=@Bool.or_eq_true
abbrev NS:=@List.map_take
abbrev NT:=@Nat.one_mul
abbrev NU:=@Nat.le_succ
theorem oB.{u,v}{α:Sort u}{β:Sort v}{a:α}{b:β}:a=a/\b=b/\True:=⟨rfl,rfl,trivial⟩
theorem oC.{u,v,w}{α:Sort u}{β:Sort v}{γ:Sort w}{a:α}{b:β}{c:γ}:a=a/\b=b/\c=c/\True:=⟨rfl,rfl,rfl,trivial⟩
theorem oD.{u,v,w,x}{α:Sort u}{β:Sort v}{γ:Sort w}{δ:Sort x}{a:α}{b:β}{c:γ}{d:δ}:a=a/\b=b/\c=c/\d=d/\True:=⟨rfl,rfl,rfl,rfl,trivial⟩
end Go
namespace Go.Lg
open Go.RowKit
abbrev Fr:=Nat->O2
def upd (f:Fr)(d:Nat)(v:O2):Fr:=λt=>bif OS t d then v else f t
def ev (f:Fr):O3->O2
 | .tmp t=>f t
 | .const v=>v
 | .global g=>.pointer (some ⟨g,0,none⟩)
 | .func g=>.func (.func g) #[] #[]
def QN (f:Fr):xF->O2->Fr
 | some d,v=>upd f d v
 | none,_=>f
structure Rel (n:Nat)(a:Act)(f:Fr):Prop where
 size:a.tmps.size=n
 defers:a.defers=[]
 get:∀t,a.tmps.getD t undef=f t
theorem Y9 (f:Fr)(d:Nat)(v:O2):upd f d v d=v:=by simp[upd]
theorem Kp (f:Fr){d:Nat}(v:O2)(h:t≠d):upd f d v t=f t:=by
 have:OS t d=false:=by
  cases e:OS t d with
  | false=>rfl
  | true=>exact OW (Nat.eq_of_beq_eq_true e) h
 simp[upd,this]
theorem Rel.eval {n:Nat}{a:Act}{f:Fr}(h:Rel n a f):a.eval=ev f:=by
 funext x;cases x with
 | tmp t=>exact h.get t
 | _=>rfl
theorem Rel.put {n:Nat}{a:Act}{f:Fr}(h:Rel n a f){dst:xF}(hd:∀d,dst=some d->d<n)(v:O2):Rel n (a.put dst v) (QN f dst v):=by
 cases dst with
 | none=>exact h
 | some d =>
  have E:d<a.tmps.size:=by rw[h.size];exact hd d U
  refine⟨by simp[Act.put,h.size],h.defers,λt=>?_⟩;by_cases e:t=d
  ·subst e;rw[QN,Y9];simp[Act.put,E]
  rw[QN,Kp _ _ e,<-h.get t];simp[Act.put,Array.getElem?_setIfInBounds_ne (Ne.symm e)]
def Yl (l:xE)(t:Nat):Bool:=l.any λo=>match o.dst with|some d=>OS d t|none=>false
def wrs:Code->Nat->Bool
 | .region _ ops _,t=>Yl ops.toList t
 | .seq a b,t=>wrs a t || wrs b t
 | .cond _ a b,t=>wrs a t || wrs b t
 | .block _ a,t=>wrs a t
 | .loop a,t=>wrs a t
 | .skip,_| .exit _,_| .label _,_| .goto _,_| .ret,_=>false
 | _,_=>true
def Y3 (D:xw)(t:Nat):Bool:=match D with
 | []=>false
 | (lo,hi)::D=>bif (Nat.ble lo t && Nat.ble t hi)then true else Y3 D t
def inD (D:xw)(d:xF):Bool:=match d with|none=>true|some d=>Y3 D d
def QeR (D:xw)(l:xE):Bool:=l.all λo=>inD D o.dst
def wr (D:xw):Code->Bool
 | .region _ ops _=>QeR D ops.toList
 | .seq a b=>wr D a && wr D b
 | .cond _ a b=>wr D a && wr D b
 | .block _ a=>wr D a
 | .loop a=>wr D a
 | .skip| .exit _| .label _| .goto _| .ret=>true
 | _=>false
theorem jU {D:xw}{l:xE}(h:QeR D l=true)(G:Y3 D t=false):Yl l t=false:=by
 unfold QeR at h;unfold Yl;rw[NB];intro o H;have E:=Mg.1 h o H;cases hd:o.dst with
 | none=>simp
 | some d =>
  rw[hd]at E;simp only[inD]at E;intro e;have:=Nat.eq_of_beq_eq_true e;subst this;rw[E]at G;cases G
theorem Vp {D:xw}{t:Nat}(E:Y3 D t=false):∀c:Code,wr D c=true->wrs c t=false
 | .region _ ops _,h=>jU h E
 | .seq a b,h=>by simp only[wr,oM]at h;simp[wrs,Vp E a h.1,Vp E b h.2]
 | .cond _ a b,h=>by simp only[wr,oM]at h;simp[wrs,Vp E a h.1,Vp E b h.2]
 | .block _ a,h=>Vp E a (by simpa[wr]using h)
 | .loop a,h=>Vp E a (by simpa[wr]using h)
 | .skip,_=>rfl
 | .exit _,_=>rfl
 | .label _,_=>rfl
 | .goto _,_=>rfl
 | .ret,_=>rfl
 | .rangeFunc ..,h=>by simp[wr]at h
 | .scope _,h=>by simp[wr]at h
 | .refuse _,h=>by simp[wr]at h
def mix (D:xw)(f g:Fr):Fr:=λt=>bif Y3 D t then g t else f t
theorem Jb {D:xw}{f g:Fr}(h:∀t,Y3 D t=false->g t=f t):mix D f g=g:=by
 funext t;unfold mix;cases e:Y3 D t with
 | false=>exact(h t e).symm
 | true=>rfl
def UO (S:List (Nat×O2))(f:Fr):Fr:=match S with
 | []=>f
 | (t,v)::S=>upd (UO S f) t v
def Y0 (f:Fr):List (Nat×O2)->Prop
 | []=>True
 | (t,v)::S=>f t=v/\Y0 f S
theorem Xg {f:Fr}:∀{S:List (Nat×O2)},Y0 f S->UO S f=f
 | [],_=>rfl
 | (t,v)::S,h=>by
  funext s;simp only[UO,Xg h.2];by_cases e:s=t
  ·subst e;rw[Y9];exact h.1.symm
  exact Kp _ _ e
def W (P:O4)(n:Nat)(c:Code)(Q:Exit->Fr->O1->Prop)(f:Fr)(w:O1):Prop :=
 ∀a,Rel n a f->c.wp P (λe E w'=>∃f',Rel n E f'/\(∀t,wrs c t=false->f' t=f t)/\Q e f' w') a w
def thn (K:Fr->O1->Prop)(Q:Exit->Fr->O1->Prop):Exit->Fr->O1->Prop
 | .normal,f,w=>K f w
 | e,f,w=>Q e f w
def blk (id:Nat)(Q:Exit->Fr->O1->Prop):Exit->Fr->O1->Prop
 | .exit i,f,w=>bif OS i id then Q .normal f w else Q (.exit i) f w
 | e,f,w=>Q e f w
section
variable {Q:Exit->Fr->O1->Prop}{f:Fr}
theorem W.mono {c:Code}{Q':Exit->Fr->O1->Prop}(h:W P n c Q f w)(E:∀e f w,Q e f w->Q' e f w):W P n c Q' f w :=
 λa G=>wp_mono (h a G) λ_ _ _ ⟨H,I,J,O⟩=>⟨H,I,J,E _ _ _ O⟩
theorem W.keeps {c:Code}(h:W P n c Q f w):W P n c (λe E w'=>(∀t,wrs c t=false->E t=f t)/\Q e E w') f w :=
 λa H=>wp_mono (h a H) λ_ _ _ ⟨E,I,G,J⟩=>⟨E,I,G,G,J⟩
theorem Qf (h:Q .normal f w):W P n .skip Q f w:=λ_ E=>wp_skip ⟨f,E,λ_ _=>U,h⟩
theorem Qw (h:Q (.exit i) f w):W P n (.exit i) Q f w:=λ_ E=>wp_exit ⟨f,E,λ_ _=>U,h⟩
theorem Qh (h:Q .ret f w):W P n .ret Q f w:=λ_ E=>wp_ret ⟨f,E,λ_ _=>U,h⟩
theorem Qe {x y:Code}(h:W P n x (thn (λf w=>W P n y Q f w) Q) f w):W P n (.seq x y) Q f w:=by
 intro a J;refine wp_seq (wp_mono (h a J) ?_);rintro e O w' ⟨E,G,S,H⟩;have k1:∀t,wrs (.seq x y) t=false->E t=f t:=λt I=>S t (by simp only[wrs,Oi]at I;exact I.1);cases e with
 | normal =>
  refine wp_mono (H O G) λ_ _ _ ⟨T,g1,V,Y⟩=>⟨T,g1,λt I=>(V t ?_).D (k1 t I),Y⟩;simp only[wrs,Oi]at I;exact I.2
 | exit id=>exact⟨E,G,k1,H⟩
 | goto l=>exact⟨E,G,k1,H⟩
 | ret=>exact⟨E,G,k1,H⟩
 | panic ch=>exact⟨E,G,k1,H⟩
 | outgrown=>exact⟨E,G,k1,H⟩
theorem QX {x y:Code}(D:xw)(S:α->List (Nat×O2))(I:α->O1->Prop)(hD:wr D x=true)
  (J:W P n x (thn (λG w'=>∃z,Y0 G (S z)/\I z w') Q) f w)
  (O:∀z g w',I z w'->W P n y Q (UO (S z) (mix D f g)) w'):W P n (.seq x y) Q f w:=by
 refine Qe (J.keeps.mono ?_);rintro e G w' ⟨T,E⟩;cases e with
 | normal =>
  obtain⟨z,V,hi⟩:=E;have H:=O z G w' hi;rw[Jb (λt Y=>T t (Vp Y x hD)),Xg V]at H;exact H
 | exit id=>exact E
 | goto l=>exact E
 | ret=>exact E
 | panic ch=>exact E
 | outgrown=>exact E
theorem QU {c:O3}{x y:Code}{t:Bool}(H:ev f c=.bool t)(E:t=true->W P n x Q f w)(I:t=false->W P n y Q f w):
  W P n (.cond c x y) Q f w:=by
 intro a G;have J:a.eval c=.bool t:=by rw[G.eval];exact H
 refine wp_cond_split J (λe=>wp_mono (E e a G) ?_) (λe=>wp_mono (I e a G) ?_) <;>
  (rintro e Y w' ⟨O,S,T,V⟩
   refine⟨O,S,λt E=>T t ?_,V⟩;simp only[wrs,Oi]at E
   first|exact E.1|exact E.2)
theorem QO {c:O3}{x y:Code}{p:Prop}[Decidable p](E:ev f c=.bool (decide p))(G:p->W P n x Q f w)(H:¬p->W P n y Q f w):
  W P n (.cond c x y) Q f w :=
 QU E (λe=>G (OY e)) (λe=>H (O0 e))
theorem ZI {c:O3}{x y:Code}{p:Prop}[Decidable p](E:ev f c=.bool (decide p))(G:¬p->W P n y Q f w)(H:p->W P n x Q f w):
  W P n (.cond c x y) Q f w:=QO E H G
theorem jq {c:O3}{x y:Code}(E:ev f c=.bool true)(h:W P n x Q f w):W P n (.cond c x y) Q f w:=QU E (λ_=>h) (λe=>by cases e)
theorem ZO {c:O3}{x y:Code}(E:ev f c=.bool false)(h:W P n y Q f w):W P n (.cond c x y) Q f w:=QU E (λe=>by cases e) (λ_=>h)
theorem Qm {c:Code}(h:W P n c (blk id Q) f w):W P n (.block id c) Q f w:=by
 intro a I;refine wp_block (wp_mono (h a I) ?_);rintro e T w' ⟨G,H,J,E⟩;have k1:∀t,wrs (.block id c) t=false->G t=f t:=λt O=>J t (by simpa[wrs]using O);cases e with
 | exit i =>
  simp only[Exit.inBlock];simp only[blk]at E;by_cases hi:i=id
  ·subst hi;simp only[Nat.beq_refl,cond_true]at E;simp only[if_true];exact⟨G,H,k1,E⟩
  have S:OS i id=false:=by
   cases e:OS i id with
   | false=>rfl
   | true=>exact OW (Nat.eq_of_beq_eq_true e) hi
  rw[S]at E;rw[OT hi];exact⟨G,H,k1,E⟩
 | normal=>exact⟨G,H,k1,E⟩
 | goto l=>exact⟨G,H,k1,E⟩
 | ret=>exact⟨G,H,k1,E⟩
 | panic ch=>exact⟨G,H,k1,E⟩
 | outgrown=>exact⟨G,H,k1,E⟩
theorem QpG {c:Code}(D:xw)(S:α->List (Nat×O2))(I:α->O1->Prop)(m:α->Nat)(hD:wr D c=true)(z:α)
  (h0:Y0 f (S z)) (hI:I z w)
  (round:∀x g w',I x w'->W P n c (thn (λG V=>∃O,m O<m x/\Y0 G (S O)/\I O V) Q) (UO (S x) (mix D f g)) w'):W P n (.loop c) Q f w:=by
 intro a ha;refine wp_loop_ghost (λ(x:α) T w'=>∃G,Rel n T G/\(∀t,wrs c t=false->G t=f t)/\Y0 G (S x)/\I x w') m z ⟨f,ha,λ_ _=>U,h0,hI⟩ ?_;rintro x T w' ⟨G,h1,Y,h3,h4⟩;have h5:=round x G w' h4;rw[Jb (λt H=>Y t (Vp H c hD)),Xg h3]at h5;refine wp_mono (h5 T h1) ?_;rintro e hb V ⟨E,g1,g2,J⟩;have k1:∀t,wrs c t=false->E t=f t:=λt H=>(g2 t H).D (Y t H);have k2:∀t,wrs (.loop c) t=false->E t=f t:=λt H=>k1 t (by simpa[wrs]using H);cases e with
 | normal=>obtain⟨O,hm,hs,hi⟩:=J;exact⟨O,hm,E,g1,k1,hs,hi⟩
 | exit id=>exact⟨E,g1,k2,J⟩
 | goto l=>exact⟨E,g1,k2,J⟩
 | ret=>exact⟨E,g1,k2,J⟩
 | panic ch=>exact⟨E,g1,k2,J⟩
 | outgrown=>exact⟨E,g1,k2,J⟩
 where
 wp_loop_ghost {α:Type} {P:O4} {c:Code} {Q:Exit->Act->O1->Prop} {a:Act} {w:O1} (J:α->Act->O1->Prop) (m:α->Nat) (z:α) (h₀:J z a w)
   (round:∀x a w,J x a w->c.wp P (Exit.then (λa' w'=>∃x',m x'<m x/\J x' a' w') Q) a w):(Code.loop c).wp P Q a w:=by
  intro b k cs
  have key:∀i x a w,m x=i->J x a w ->
    ∃e a' w',Q e a' w'/\Arrives P (lone (b.at a (.code c::.inLoop c::k)) cs w) b k cs e a' w':=by
   intro i
   induction i using Nat.strongRecOn with
   | _ i ih =>
    intro x a w hx hJ
    obtain⟨e,a₁,w₁,hq,harr⟩:=round x a w hJ b (.inLoop c::k) cs
    cases e with
    | normal =>
     obtain⟨x',hlt,hJ'⟩:=hq
     obtain⟨e₂,a₂,w₂,hq₂,harr₂⟩:=ih (m x') (hx ▸ hlt) x' a₁ w₁ rfl hJ'
     exact⟨e₂,a₂,w₂,hq₂,.of_steps (Steps.trans harr (.one step_inLoop)) harr₂⟩
    | exit id=>exact⟨_,a₁,w₁,hq,.pass (x:=.inLoop c) rfl (λ_ _=>.inl od) harr⟩
    | goto l=>exact⟨_,a₁,w₁,hq,.pass (x:=.inLoop c) rfl (λ_ _=>.inl od) harr⟩
    | ret=>exact⟨_,a₁,w₁,hq,.pass (x:=.inLoop c) rfl (λ_ _=>.inl od) harr⟩
    | panic ch=>exact⟨_,a₁,w₁,hq,.pass (x:=.inLoop c) rfl (λ_ _=>.inl od) harr⟩
    | outgrown=>exact⟨_,a₁,w₁,hq,.pass (x:=.inLoop c) rfl (λ_ _=>.inl od) harr⟩
  obtain⟨e,a',w',hq,harr⟩:=key _ z a w rfl h₀
  exact⟨e,a',w',hq,.of_steps (.one step_loop) harr⟩
end
def upF (P:O4)(dst:xF)(f:Fr)(K:Fr->O1->Prop):Result Next->Prop
 | .ok (.value v) w'=>K (QN f dst v) w'
 | .ok .skip w'=>K (QN f dst undef) w'
 | .ok (.enter g args) w'=>Calls P g args w' λe E=>match e with| .returned v=>K (QN f dst v) E|_=>False
 | _=>False
def XO (P:O4)(o:Oper)(f:Fr)(w:O1)(K:Fr->O1->Prop):Prop:=upF P o.dst f K ((execOp (ev f) o).run P w)
def Z9 (ops:xE)(f:Fr)(o:Oper):Bool:=match o.guard with
 | none=>true
 | some (j,want)=>match (ops[j]?).bind (·.dst)with
  | some d=>(match f d with| .bool b=>bif want then b else !b|_=>false)
  | none=>false
def XL (P:O4)(ops:xE)(K:Fr->O1->Prop):xE->Fr->O1->Prop
 | [],f,w=>K f w
 | o::l,f,w=>bif Z9 ops f o then XO P o f w (XL P ops K l)else XL P ops K l (QN f o.dst undef) w
theorem qw {l:xE}{a:Act}{f:Fr}(h:Rel n a f)(H:∀o∈l,∀d,o.dst=some d->d<n)(o:Oper):Region.wanted o (yielded l.toArray a.tmps)=Z9 l f o:=by
 unfold Region.wanted Z9;cases o.guard with
 | none=>rfl
 | some p =>
  obtain⟨j,want⟩:=p;simp only[yielded,o0];cases I:(l[j]?)with
  | none=>simp
  | some o' =>
   cases hd:o'.dst with
   | none=>simp[hd]
   | some d =>
    have E:d<a.tmps.size:=by rw[h.size];exact H o' (Ms I) d hd
    have G:=h.get d;simp only[Option.bind_some,hd,Ol E];simp[E]at G;rw[G];cases f d <;> simp
    cases want <;> simp
theorem QnU {a:Act}{f:Fr}{K:Fr->O1->Prop}{K':Act->O1->Prop}{Q:Exit->Act->O1->Prop}(h:Rel n a f)
  (hK:∀v w',K (QN f o.dst v) w'->K' (a.put o.dst v) w') (hx:XO P o f w K):o.wp P a w K' Q:=by
 unfold XO at hx;unfold Oper.wp;rw[h.eval];generalize (execOp (ev f) o).run P w=r at hx;cases r with
 | ok nx w' =>
  cases nx <;> simp only[upF]at hx <;> simp only[Oper.upon]
  case value v=>exact hK v w' hx
  case skip=>exact hK _ w' hx
  case enter g args =>
   refine Calls.mono hx λe G E=>?_;cases e with
   | returned v=>exact hK v G E
   | panicked c=>exact E.elim
   | outgrown=>exact E.elim
 | halt x w'=>exact hx.elim
theorem XO.mono {P:O4}{o:Oper}{f:Fr}{w:O1}{K K':Fr->O1->Prop}(hK:∀v w',K (QN f o.dst v) w'->K' (QN f o.dst v) w')(hx:XO P o f w K):XO P o f w K':=by
 unfold XO at *;generalize (execOp (ev f) o).run P w=r at *;cases r with
 | ok nx w' =>
  cases nx <;> simp only[upF]at hx ⊢
  case value v=>exact hK v w' hx
  case skip=>exact hK _ w' hx
  case enter g args =>
   refine Calls.mono hx λe G E=>?_;cases e with
   | returned v=>exact hK v G E
   | panicked c=>exact E.elim
   | outgrown=>exact E.elim
 | halt x w'=>exact hx.elim
def XI (n:Nat)(l:xE):Bool:=l.all λo=>match o.dst with|some d=>Nat.blt d n|none=>true
theorem Xy {l:xE}(h:XI n l=true):∀o∈l,∀d,o.dst=some d->d<n:=by
 intro o E d hd;have:=Mg.1 h o E;simp only[hd,Nat.blt_eq]at this;exact this
theorem JS {l:xE}(E:o∈l)(h:Yl l t=false):o.dst≠some t:=by
 intro e;have:=NB.1 h o E;simp[e]at this
theorem Y1 {f:Fr}{dst:xF}(h:dst≠some t)(v:O2):QN f dst v t=f t:=by
 cases dst with
 | none=>rfl
 | some d=>exact Kp _ _ (λe=>h (by rw[e]))
section
variable {Q:Exit->Fr->O1->Prop}{f:Fr}
theorem QnV {all:xE}(G:∀o∈all,∀d,o.dst=some d->d<n)(f0:Fr):
  ∀(l:xE) (k:Nat) (a:Act) (f:Fr) (w:O1),(∀j,l[j]?=all[k+j]?)->Rel n a f->(∀t,Yl all t=false->f t=f0 t) ->
   XL P all (λf w=>Q .normal f w) l f w ->
   wpOps P all.toArray (λe V w'=>∃f',Rel n V f'/\(∀t,Yl all t=false->f' t=f0 t)/\Q e f' w') (oS k l.length) a w
 | [],_,a,f,w,_,E,H,h=>⟨f,E,H,h⟩
 | o::l,k,a,f,w,J,E,H,h=>by
  have O:all[k]?=some o:=by simpa using(J 0).symm
  have I:o∈all:=Ms O;have ih:=λa f w=>QnV G f0 l (k+1) a f w (λj=>by have:=J (j+1);simpa[ON,Nat.add_comm 1 j]using this);have next:∀v,(∀t,Yl all t=false->QN f o.dst v t=f0 t):=λv t S=>(Y1 (JS I S) v).D (H t S);simp only[oX,OC,wpOps,o0,O];rw[qw E G o];simp only[XL]at h;cases T:Z9 all f o with
  | false =>
   rw[T]at h;exact ih _ _ _ (E.put (G o I) _) (next _) h
  | true =>
   rw[T]at h;exact .inl (QnU E (λv w' hx=>ih _ _ _ (E.put (G o I) v) (next v) hx) h)
theorem Qdy {l:xE}(E:XI n l=true)(h:XL P l (λf w=>Q .normal f w) l f w):W P n (.region id l.toArray false) Q f w:=by
 intro a G;refine wp_region ?_;have:=QnV (Xy E) f l 0 a f w od G (λ_ _=>rfl) h;simpa[List.range_eq_range',wrs]using this
end
def zf (o:Oper):Bool:=match o.op with
 | .move _| .assign _| .pick .. | .alloc _| .box .. | .build .. | .buildSlice .. | .store .. | .nilCheck _| .binOp .. | .unOp .. | .makeFunc .. | .makeMap .. | .makeSlice .. | .fieldAddr .. | .field .. | .indexAddr .. | .index .. | .extract .. | .insert .. | .mapUpdate ..=>false
 | .slice ..=>false
 | .call ⟨.builtin .append,_,_⟩=>false
 | .call ⟨.builtin .min,_,_⟩=>false
 | .call ⟨.builtin .max,_,_⟩=>false
 | .call ⟨.builtin .len,_,_⟩=>false
 | .call ⟨.value _,_,_⟩=>false
 | _=>true
def Vi (all:xE)(j:Nat):Bool:=match all[j]? with
 | none=>false
 | some o=>(oV all.length).all λi=>match all[i]? with
  | none=>true
  | some oi=>!zf oi || i == j || o.after.any λe=>Region.binds .any e && e.on == i
def XA (P:O4)(all:xE)(C:xA)(K:Fr->O1->Prop):Nat->Array Bool->Fr->O1->Prop
 | 0,ls,f,w=>Region.ready .any all.toArray ls=[]/\K f w
 | k+1,ls,f,w=>(Region.ready .any all.toArray ls=[]->K f w) /\
  ∀i∈Region.ready .any all.toArray ls,∀o,all[i]?=some o ->
   bif Z9 all f o then XO P o f w (λE w'=>(Vi all i=true\/w'=w\/C w')/\XA P all C K k (ls.setIfInBounds i true) E w')else XA P all C K k (ls.setIfInBounds i true) (QN f o.dst undef) w
section
variable {f:Fr}{all:xE}{C:xA}{K:Fr->O1->Prop}
theorem Qgi {Q:Exit->Act->O1->Prop}(G:∀o∈all,∀d,o.dst=some d->d<n)(f0:Fr)
  (H:∀a f w,Rel n a f->(∀t,Yl all t=false->f t=f0 t)->K f w->Q .normal a w):
  ∀(k:Nat) (ls:Array Bool) (a:Act) (f:Fr) (w:O1),Rel n a f->(∀t,Yl all t=false->f t=f0 t)->XA P all C K k ls f w->wpAny P .any all.toArray Q k ls a w
 | 0,_,a,f,w,E,I,h=>⟨h.1,H a f w E I h.2⟩
 | k+1,ls,a,f,w,E,I,h=>by
  refine⟨λY=>H a f w E I (h.1 Y),λi hi=>?_⟩;unfold wpOp;simp only[o0];cases O:all[i]? with
  | none =>
   exfalso;obtain⟨_,o,ha,_⟩:=mem_ready.1 hi;simp[O]at ha
  | some o =>
   have S:o∈all:=Ms O;have J:=h.2 i hi o O;have next:∀v,(∀t,Yl all t=false->QN f o.dst v t=f0 t):=λv t T=>(Y1 (JS S T) v).D (I t T);simp only[];rw[qw E G o];cases V:Z9 all f o with
   | false =>
    rw[V]at J;exact Qgi G f0 H k _ _ _ _ (E.put (G o S) _) (next _) J
   | true =>
    rw[V]at J;exact .inl (QnU E (λv w' hx=>Qgi G f0 H k _ _ _ _ (E.put (G o S) v) (next v) hx.2) J)
theorem JM (f:Fr){x y:xF}(v u:O2)(h:∀d,x=some d->y≠some d):QN (QN f x v) y u=QN (QN f y u) x v:=by
 cases x with
 | none=>rfl
 | some d =>
  cases y with
  | none=>rfl
  | some e =>
   have H:d≠e:=λI=>h d U (I ▸ U);funext t;simp only[QN];by_cases E:t=d
   ·subst E;rw[Kp _ _ H,Y9,Y9]
   by_cases G:t=e
   ·subst G;rw[Y9,Kp _ _ E,Y9]
   rw[Kp _ _ G,Kp _ _ E,Kp _ _ E,Kp _ _ G]
theorem QmO {f:Fr}{dst:xF}{v:O2}{x:O3}(h:∀d,dst=some d->x≠.tmp d):ev (QN f dst v) x=ev f x:=by
 cases dst with
 | none=>rfl
 | some d =>
  cases x with
  | tmp t=>exact Kp _ _ (λe=>h d U (by rw[e]))
  | _=>rfl
theorem XH (E:∀cs b,o.op≠.select cs b)(f:Fr)(dst:xF)(v:O2)(h:∀d,dst=some d->d∉o.looksAt all.toArray):
  execOp (ev (QN f dst v)) o=execOp (ev f) o :=
 execOp_congr o E λx hx=>QmO λd hd G=>h d hd (by
  subst G;exact Me _ (MX.2 ⟨.tmp d,oA hx,rfl⟩))
theorem Jo (o:Oper)(f:Fr)(dst:xF)(v:O2)(h:∀d,dst=some d->d∉o.looksAt all.toArray):Z9 all (QN f dst v) o=Z9 all f o:=by
 unfold Z9;cases E:o.guard with
 | none=>rfl
 | some gw =>
  obtain⟨g,want⟩:=gw;simp only[];cases G:(all[g]?).bind (·.dst)with
  | none=>rfl
  | some t =>
   have H:dst≠some t:=λe=>h t e (by simp[Oper.looksAt,E,G]);simp only[];rw[Y1 H]
def Qgk (P:O4)(all:xE)(D:xA)(o:Oper)(v:O2)(f:Fr):Prop :=
 (Z9 all f o=true/\∀w,D w->(execOp (ev f) o).run P w=.ok (.value v) w)\/(Z9 all f o=false/\v=undef)
theorem Qmj {oi oj:Oper}(hi:all[i]?=some oi)(H:all[j]?=some oj)(I:zf oi=true)(J:j≠i)(G:Vi all j=true)(O:∀e∈oj.after,Region.binds .any e=true->e.on≠i):False:=by
 simp only[Vi,H,Ok,List.mem_range]at G;have S:i<all.length:=(Md.1 hi).1;have E:=G i S;simp only[hi,I,Bool.not_true,Bool.false_or,OG,beq_iff_eq,Array.any_eq_true',oM]at E;rcases E with E|⟨e,T,V,Y⟩
 ·exact J E.symm
 exact O e T V Y
theorem Xs {oi:Oper}{v:O2}{D:xA}(hi:all[i]?=some oi)(hD:∀w,(zf oi=true->C w)->D w)(ha:∀(j:Nat) (o:Oper) cs b,all[j]?=some o->o.op≠.select cs b):
  ∀(fuel:Nat) (ls:Array Bool) (f:Fr) (w:O1),(zf oi=true->C w) ->
   (∀j oj,all[j]?=some oj->j≠i->ls.getD j true=false->(∀e∈oj.after,Region.binds .any e=true->e.on≠i)->oi.apart all.toArray oj=true) ->
   i∈Region.ready .any all.toArray ls->Qgk P all D oi v f ->
   XA P all C K fuel (ls.setIfInBounds i true) (QN f oi.dst v) w->XA P all C K (fuel+1) ls f w:=by
 have hc:∀(fuel:Nat) (ls:Array Bool) (f:Fr) (w:O1),(zf oi=true->C w)->Qgk P all D oi v f->XA P all C K fuel (ls.setIfInBounds i true) (QN f oi.dst v) w->∀o,all[i]?=some o ->
   bif Z9 all f o then XO P o f w (λf' w'=>(Vi all i=true\/w'=w\/C w')/\XA P all C K fuel (ls.setIfInBounds i true) f' w')else XA P all C K fuel (ls.setIfInBounds i true) (QN f o.dst undef) w:=by
  intro fuel ls f w J T H o ho;rw[hi]at ho;cases ho
  rcases T with⟨V,hv⟩|⟨V,rfl⟩
  ·rw[V];simp only[cond_true,XO,hv w (hD w J),upF];exact⟨.inr (.inl Z),H⟩
  rw[V];exact H
 intro fuel;induction fuel with
 | zero =>
  intro ls f w J _ O T H;refine⟨λh=>(by rw[h]at O;cases O),λj hj=>?_⟩;by_cases I:j=i
  ·subst I;exact hc _ _ _ _ J T H
  have:=ready_mono hj I;rw[H.1]at this;cases this
 | succ fuel ih =>
  intro ls f w J hf O T H;refine⟨λh=>(by rw[h]at O;cases O),λj hj=>?_⟩;by_cases I:j=i
  ·subst I;exact hc _ _ _ _ J T H
  intro oj Y;have E:=H.2 j (ready_mono hj I) oj Y;obtain⟨hh,G,hm,ht⟩:=mem_ready.1 hj;have hu:G=oj:=by rw[Mk,Y]at hm;exact(Option.some.inj hm).symm
  subst hu;have hn:∀e∈G.after,Region.binds .any e=true->e.on≠i:=λe S hb hw=>by
   have E:=ht e S hb;have h0:=(mem_ready.1 O).1;rw[hw]at E;rcases Np i ls.size with h'|h'
   ·simp[h']at h0 E;rw[h0]at E;cases E
   simp[Array.getElem?_eq_none h']at E
  obtain⟨a1,a2,a3⟩:=Oper.apart_spec (hf j G Y I hh hn);have hz:∀k ok,all[k]?=some ok->k≠i->(ls.setIfInBounds j true).getD k true=false ->
    (∀e∈ok.after,Region.binds .any e=true->e.on≠i)->oi.apart all.toArray ok=true:=λk ok hk h2 hp h3=>by
   refine hf k ok hk h2 ?_ h3;by_cases hq:j=k
   ·subst hq;exact hh
   rw[getD_set_ne true hq]at hp;exact hp
  have keep:∀u,Qgk P all D oi v (QN f G.dst u):=λu=>by
   unfold Qgk at *;rw[Jo oi f G.dst u a3,XH (all:=all) (ha i oi · · hi) f G.dst u a3];exact T
  have dOf:∀w',(Vi all j=true\/w'=w\/C w')->(zf oi=true->C w'):=λw' hl hs=>by
   rcases hl with hl|rfl|hl
   ·exact(Qmj hi Y hs I hl hn).elim
   ·exact J hs
   exact hl
  have go:∀u w',(zf oi=true->C w')->XA P all C K fuel ((ls.setIfInBounds i true).setIfInBounds j true) (QN (QN f oi.dst v) G.dst u) w' ->
    XA P all C K (fuel+1) (ls.setIfInBounds j true) (QN f G.dst u) w':=λu w' h4 hx=>by
   refine ih _ _ _ h4 hz (ready_mono O (Ne.symm I)) (keep u) ?_;rw[Array.setIfInBounds_comm _ _ I,<-JM f v u a2];exact hx
  rw[Jo G f oi.dst v a1]at E;cases V:Z9 all f G with
  | false=>rw[V]at E;exact go _ _ J E
  | true =>
   rw[V]at E;simp only[cond_true]at E ⊢;unfold XO at *;rw[XH (all:=all) (ha j G · · Y) f oi.dst v a1]at E;generalize (execOp (ev f) G).run P w=r at *;cases r with
   | ok nx w' =>
    cases nx <;> simp only[upF]at E ⊢
    case value u=>exact⟨E.1,go _ _ (dOf _ E.1) E.2⟩
    case skip=>exact⟨E.1,go _ _ (dOf _ E.1) E.2⟩
    case enter g args =>
     refine Calls.mono E λe h5 S=>?_;cases e with
     | returned u=>exact⟨S.1,go _ _ (dOf _ S.1) S.2⟩
     | panicked c=>exact S.elim
     | outgrown=>exact S.elim
   | halt x w'=>exact E.elim
def Xo (all:Array Oper):xu->Array Bool->Bool
 | [],ls=>(Region.ready .any all ls).isEmpty
 | (i,true)::pl,ls=>(Region.ready .any all ls).contains i && Region.free .any all ls i && Xo all pl (ls.setIfInBounds i true)
 | (i,false)::pl,ls=>Region.ready .any all ls == [i] && Xo all pl (ls.setIfInBounds i true)
def yA (all:xE)(pl:xu):Bool:=Region.noSelect all.toArray && pl.length == all.length && Xo all.toArray pl (oT all.length false)
def QR:xE->Nat->Oper
 | [],_=>default
 | o::_,0=>o
 | _::l,i+1=>QR l i
theorem Zs {l:xE}(h:l[i]?=some o):QR l i=o:=by
 induction l generalizing i with
 | nil=>simp at h
 | cons a l ih=>cases i with
  | zero=>simp at h;subst h;rfl
  | succ i=>exact ih (oA h)
def XP (P:O4)(all:xE)(C:xA)(K:Fr->O1->Prop):xu->Fr->O1->Prop
 | [],f,w=>K f w
 | (i,q)::pl,f,w=>bif Z9 all f (QR all i)then
    (bif q then ∃v,(∀w',(zf (QR all i)=true->C w')->(execOp (ev f) (QR all i)).run P w'=.ok (.value v) w')/\XP P all C K pl (QN f (QR all i).dst v) w
     else XO P (QR all i) f w λE w'=>(Vi all i=true\/w'=w\/C w')/\XP P all C K pl E w')
   else XP P all C K pl (QN f (QR all i).dst undef) w
def Qdw (all:xE)(ls:Array Bool):Prop:=∀i o,all[i]?=some o->zf o=true->ls.getD i false=true
theorem Qdw.set {ls:Array Bool}(h:Qdw all ls)(i:Nat):Qdw all (ls.setIfInBounds i true):=λj o E G=>getD_set_true (h j o E G)
theorem ZY (S:Region.noSelect all.toArray=true):∀(pl:xu) (ls:Array Bool) (f:Fr) (w:O1),ls.size=all.length->(C w\/Qdw all ls)->Xo all.toArray pl ls=true->XP P all C K pl f w ->
  XA P all C K pl.length ls f w
 | [],ls,f,w,_,_,H,h=>⟨by simpa[Xo]using H,h⟩
 | (i,true)::pl,ls,f,w,T,V,H,h=>by
  simp only[Xo,oM]at H;obtain⟨⟨J,hf⟩,Y⟩:=H;simp only[XP]at h;have O:i∈Region.ready .any all.toArray ls:=by simpa using J
  cases E:all[i]? with
  | none =>
   exfalso;obtain⟨_,o,h2,_⟩:=mem_ready.1 O;simp[E]at h2
  | some o =>
   rw[Zs E]at h;have hn:∀(j:Nat) (o:Oper) cs b,all[j]?=some o->o.op≠.select cs b:=λj o cs b hj=>Region.noSelect_spec S j o cs b (oA hj);have hq:=λj oj hj=>Region.free_spec (ops:=all.toArray) (md:=.any) (i:=i) (oi:=o) (listed:=ls) (oA E) hf j oj (oA hj);have ht:=(mem_ready.1 O).1;have hu:zf o=true->C w:=λhh=>V.resolve_right (λhi=>by
    have G:=hi i o E hh;have hm:i<ls.size:=by rw[T];exact(Md.1 E).1
    simp[hm]at ht G;rw[ht]at G;cases G)
   have hw:C w\/Qdw all (ls.setIfInBounds i true):=V.imp id (λh=>h.set i);have ha:(ls.setIfInBounds i true).size=all.length:=by simpa using T
   cases I:Z9 all f o with
   | false =>
    rw[I]at h;exact Xs (v:=undef) (D:=λw=>zf o=true->C w) E (λ_ h=>h) hn pl.length ls f w hu hq O (.inr ⟨I,U⟩) (ZY S pl _ _ _ ha hw Y h)
   | true =>
    rw[I]at h;simp only[cond_true]at h;obtain⟨v,hv,hx⟩:=h;exact Xs (v:=v) (D:=λw=>zf o=true->C w) E (λ_ h=>h) hn pl.length ls f w hu hq O (.inl ⟨I,hv⟩) (ZY S pl _ _ _ ha hw Y hx)
 | (i,false)::pl,ls,f,w,T,V,H,h=>by
  simp only[Xo,oM,beq_iff_eq]at H;obtain⟨J,Y⟩:=H;refine⟨λh0=>(by rw[h0]at J;cases J),?_⟩;have O:i∈Region.ready .any all.toArray ls:=by rw[J];simp
  rw[J];intro j hj o E;have:j=i:=by simpa using hj
  subst this;have ha:(ls.setIfInBounds j true).size=all.length:=by simpa using T
  simp only[XP,Zs E]at h;cases I:Z9 all f o with
  | false=>rw[I]at h;exact ZY S pl _ _ _ ha (V.imp id (λh=>h.set j)) Y h
  | true =>
   rw[I]at h;simp only[cond_true,cond_false]at h ⊢;refine h.mono λv w' hx=>⟨hx.1,ZY S pl _ _ _ ha ?_ Y hx.2⟩;rcases hx.1 with hl|rfl|hc
   ·right;intro k ok hk hh;by_cases hy:k=j
    ·subst hy;have hm:k<ls.size:=by rw[T];exact(Md.1 hk).1
     simp[hm]
    simp only[Vi,E,Ok,List.mem_range]at hl;have G:=hl k (Md.1 hk).1;simp only[hk,hh,Bool.not_true,Bool.false_or,OG,beq_iff_eq,Array.any_eq_true',oM]at G;rcases G with G|⟨e,he,hb,h3⟩
    ·exact OW G hy
    obtain⟨_,o',hz,hi⟩:=mem_ready.1 O;have:o'=o:=by rw[Mk,E]at hz;exact(Option.some.inj hz).symm
    subst this;have:=hi e he hb;rw[h3]at this;exact getD_set_true this
   ·exact V.imp id (λh=>h.set j)
   exact .inl hc
theorem qZ {Q:Exit->Fr->O1->Prop}(C:xA)(pl:xu)(I:P.follows .mixedOrders=true)(J:XI n all=true)(G:yA all pl=true)
  (O:C { w with drawn:=w.drawn+1 }) (h:XP P all C (λf w=>Q .normal f w) pl f { w with drawn:=w.drawn+1 }):W P n (.region id all.toArray true) Q f w:=by
 intro a S;simp only[yA,oM,beq_iff_eq]at G;obtain⟨⟨T,V⟩,G⟩:=G;refine wp_region_any I ?_;have H:=ZY T pl _ _ _ od (.inl O) G h;rw[V]at H;have Y:=Qgi (n:=n) (Q:=λe a' w'=>∃E,Rel n a' E/\(∀t,Yl all t=false->E t=f t)/\Q e E w') (Xy J) f
  (λa E w hr hk hq=>⟨E,hr,hk,hq⟩) _ _ a f _ S (λ_ _=>U) H
 simpa[wrs]using Y
theorem J2 {Q:Exit->Fr->O1->Prop}(C:xA)(G:P.follows .mixedOrders=true)(H:XI n all=true)
  (h:XA P all C (λf w=>Q .normal f w) all.length (oT all.length false) f { w with drawn:=w.drawn+1 }):W P n (.region id all.toArray true) Q f w:=by
 intro a I;refine wp_region_any G ?_;have J:=Qgi (n:=n) (Q:=λe O w'=>∃E,Rel n O E/\(∀t,Yl all t=false->E t=f t)/\Q e E w') (Xy H) f
  (λa E w S T V=>⟨E,S,T,V⟩) _ _ a f _ I (λ_ _=>U) h
 simpa[wrs]using J
end
theorem X2 {all:xE}{C:xA}{K:Fr->O1->Prop}{k:Nat}{ls:Array Bool}{f:Fr}(E:Region.ready .any all.toArray ls=[]->K f w)
  (h:∀i∈Region.ready .any all.toArray ls,∀o,all[i]?=some o ->
   bif Z9 all f o then XO P o f w (λG w'=>(Vi all i=true\/w'=w\/C w')/\XA P all C K k (ls.setIfInBounds i true) G w')else XA P all C K k (ls.setIfInBounds i true) (QN f o.dst undef) w):XA P all C K (k+1) ls f w:=⟨E,h⟩
attribute [irreducible] W XL XP XO XA
theorem sY {α:Type}{x:Option α}{f:α->Bool}(h:x.map f=some true):∃d,x=some d/\f d=true:=by cases x with |none=>cases h |some d=>exact⟨d,rfl,Option.some.inj h⟩
class Sl (P:O4)(t:Nat)(e sz bys:outParam Nat)(z:outParam O2):Prop where
 u:P.underlying t=some (.slice e):=by first|kernel_rfl|decide|rfl|exact sY (by kernel_rfl)
 i:(P.info? e).map (λi=>(i.zero,i.size,i.bytes))=some (some z,sz,bys):=by first|kernel_rfl|decide|rfl|exact sY (by kernel_rfl)
 zs:z.cells.size=sz:=by first|kernel_rfl|decide|rfl|exact sY (by kernel_rfl)
 pos:0<sz:=by first|kernel_rfl|decide|rfl|exact sY (by kernel_rfl)
def QqC (P:O4)(t j:Nat):xF:=match P.underlying t with
 | some (.struct fs)=>match fs[j]? with
  | some fd=>match P.info? fd.type with
   | some i=>if i.size=0 then none else some fd.offset
   | none=>none
  | none=>none
 | _=>none
class Zg (P:O4)(t j:Nat)(off:outParam Nat):Prop where
 h:QqC P t j=some off:=by first|kernel_rfl|decide|rfl|exact sY (by kernel_rfl)
class X6 (P:O4)(t:Nat):Prop where
 u:∃d,P.underlying t=some d/\(match d with| .struct _| .array ..=>false|_=>true)=true:=by first|kernel_rfl|decide|rfl|exact sY (by kernel_rfl)
 i:(P.info? t).map (·.size)=some 1:=by first|kernel_rfl|decide|rfl|exact sY (by kernel_rfl)
class Ag (P:O4)(t:Nat)(sz:outParam Nat):Prop where
 u:∃d,P.underlying t=some d/\(match d with| .struct _| .array ..=>true|_=>false)=true:=by first|kernel_rfl|decide|rfl|exact sY (by kernel_rfl)
 i:(P.info? t).map (·.size)=some sz:=by first|kernel_rfl|decide|rfl|exact sY (by kernel_rfl)
class Ze (P:O4)(t:Nat)(z:outParam O2):Prop where
 i:(P.info? t).map (·.zero)=some (some z):=by first|kernel_rfl|decide|rfl|exact sY (by kernel_rfl)
class Fu (P:O4)(g:Nat)(fn:outParam Func):Prop where
 f:P.funcs[g]?=some fn
 b:fn.body.isNone=false
 nm:(fn.name == "runtime.NumGoroutine")=false
section
variable {K:Fr->O1->Prop}{f:Fr}
theorem xe (h:K f w):XL P ops K [] f w:=by simp only[XL];exact h
theorem xl {l:xE}(E:Z9 ops f o=true)(h:XO P o f w (XL P ops K l)):XL P ops K (o::l) f w:=by
 simp only[XL,E,cond_true];exact h
theorem xs {l:xE}(E:Z9 ops f o=false)(h:XL P ops K l (QN f o.dst undef) w):XL P ops K (o::l) f w:=by
 simp only[XL,E,cond_false];exact h
theorem xv {v:O2}(E:(execOp (ev f) o).run P w=.ok (.value v) w')(h:K (QN f o.dst v) w'):XO P o f w K:=by
 simp only[XO,E,upF];exact h
theorem xk (E:(execOp (ev f) o).run P w=.ok .skip w')(h:K (QN f o.dst undef) w'):XO P o f w K:=by
 simp only[XO,E,upF];exact h
theorem x {l:xE}{v:O2}(E:(execOp (ev f) o).run P w=.ok (.value v) w)(h:XL P ops K l (QN f o.dst v) w)(G:Z9 ops f o=true:=by rfl):XL P ops K (o::l) f w :=
 xl G (xv E h)
theorem xb {l:xE}{q:Prop}[Decidable q](E:(execOp (ev f) o).run P w=.ok (.value (.bool (decide q))) w)(H:q->XL P ops K l (QN f o.dst (.bool true)) w)(I:¬q->XL P ops K l (QN f o.dst (.bool false)) w)
  (G:Z9 ops f o=true:=by rfl):XL P ops K (o::l) f w:=by
 by_cases h:q
 ·rw[OX h]at E;exact x E (H h) G
 rw[OZ h]at E;exact x E (I h) G
variable {C:xA}
theorem pe (h:K f w):XP P ops C K [] f w:=by simp only[XP];exact h
theorem pq {pl:xu}{v:O2}(E:∀w',C w'->(execOp (ev f) (QR ops i)).run P w'=.ok (.value v) w')(h:XP P ops C K pl (QN f (QR ops i).dst v) w)
  (hd:zf (QR ops i)=true:=by rfl) (G:Z9 ops f (QR ops i)=true:=by rfl):XP P ops C K ((i,true)::pl) f w:=by
 simp only[XP,G,cond_true];exact⟨v,λw' H=>E w' (H hd),h⟩
theorem p {pl:xu}{v:O2}(E:∀w',(execOp (ev f) (QR ops i)).run P w'=.ok (.value v) w')(h:XP P ops C K pl (QN f (QR ops i).dst v) w)
  (G:Z9 ops f (QR ops i)=true:=by rfl):XP P ops C K ((i,true)::pl) f w:=by
 simp only[XP,G,cond_true];exact⟨v,λw' _=>E w',h⟩
theorem ps {q:Bool}{pl:xu}(h:XP P ops C K pl (QN f (QR ops i).dst undef) w)
  (E:Z9 ops f (QR ops i)=false:=by rfl):XP P ops C K ((i,q)::pl) f w:=by
 simp only[XP,E,cond_false];exact h
theorem pb {pl:xu}{q:Prop}[Decidable q](E:∀w',(execOp (ev f) (QR ops i)).run P w'=.ok (.value (.bool (decide q))) w')(H:q->XP P ops C K pl (QN f (QR ops i).dst (.bool true)) w)(I:¬q->XP P ops C K pl (QN f (QR ops i).dst (.bool false)) w)
  (G:Z9 ops f (QR ops i)=true:=by rfl):XP P ops C K ((i,true)::pl) f w:=by
 by_cases h:q
 ·rw[OX h]at E;exact p E (H h) G
 rw[OZ h]at E;exact p E (I h) G
theorem pk {pl:xu}(h:XO P (QR ops i) f w λE w'=>C w'/\XP P ops C K pl E w')
  (G:Z9 ops f (QR ops i)=true:=by rfl):XP P ops C K ((i,false)::pl) f w:=by
 simp only[XP,G,cond_true,cond_false];exact h.mono λ_ _ hx=>⟨.inr (.inr hx.1),hx.2⟩
theorem pkl {pl:xu}(h:XO P (QR ops i) f w λE w'=>XP P ops C K pl E w')
  (G:Vi ops i=true:=by rfl) (H:Z9 ops f (QR ops i)=true:=by rfl):XP P ops C K ((i,false)::pl) f w:=by
 simp only[XP,H,cond_true,cond_false];exact h.mono λ_ _ hx=>⟨.inl G,hx⟩
end
section
variable {f:Fr}{pS:String}
theorem Kq {x:O3}:(execOp (ev f) ⟨d,.move x,ty,pS,af,gd⟩).run P w=.ok (.value (ev f x)) w:=by simp[execOp]
theorem Qi {x:O3}:(execOp (ev f) ⟨d,.assign x,ty,pS,af,gd⟩).run P w=.ok (.value (ev f x)) w:=by simp[execOp]
theorem qD {c a b:O3}{t:Bool}(h:ev f c=.bool t):(execOp (ev f) ⟨d,.pick c a b,ty,pS,af,gd⟩).run P w=.ok (.value (bif t then ev f a else ev f b)) w:=by
 cases t <;> simp[execOp,h,asBool]
theorem Zi {x:O3}{vs:LV}{v:O2}(h:ev f x=.tuple vs.toArray)(E:vs[j]?=some v):(execOp (ev f) ⟨d,.extract x j,ty,pS,af,gd⟩).run P w=.ok (.value v) w:=by
 simp[execOp,h,Instr.extract,E]
theorem QcY {op:BinOp}{t:TypeId}{x:O3}{k:IntKind}{a b:Int}:(eqGuard op t x y (.int k a) (.int k' b)).run P w=.ok () w:=by
 simp only[eqGuard];split <;> simp
theorem Jv {op:BinOp}{x:O3}{k:IntKind}{a b:Int}{v:O2}(hx:ev f x=.int k a)(G:ev f y=.int k' b)
  (h:(binOp op t (.int k a) (.int k' b)).run P w=.ok v w):(execOp (ev f) ⟨d,.binOp op t x y E,ty,pS,af,gd⟩).run P w=.ok (.value v) w:=by
 simp[execOp,hx,G,QcY,h]
def inK (k:IntKind)(n:Int):Prop:=match k with
 | .i64=>-9223372036854775808<=n/\n<=9223372036854775807
 | .u8=>0<=n/\n<=255
 | .u16=>0<=n/\n<=65535
 | .u32=>0<=n/\n<=4294967295
 | .u64=>0<=n/\n<=18446744073709551615
 | .i32=>-2147483648<=n/\n<=2147483647
 | _=>False
theorem YR {k:IntKind}{n:Int}(h:inK k n):k.wrap n=n:=by
 cases k <;> simp only[inK]at h <;> simp only[IntKind.wrap,IntKind.bits,IntKind.signed] <;> first|exact h.elim|(simp;omega)
theorem XS {x:O3}{k:IntKind}{a b:Int}(hx:ev f x=.int k a)(G:ev f y=.int k b)(h:inK k (a+b)):
  (execOp (ev f) ⟨d,.binOp .add t x y E,ty,pS,af,gd⟩).run P w=.ok (.value (.int k (a+b))) w:=Jv hx G (by simp[binOp,Op.intArith,YR h])
theorem Jk {x:O3}{k:IntKind}{a b:Int}(hx:ev f x=.int k a)(G:ev f y=.int k b)(h:inK k (a - b)):
  (execOp (ev f) ⟨d,.binOp .sub t x y E,ty,pS,af,gd⟩).run P w=.ok (.value (.int k (a - b))) w:=Jv hx G (by simp[binOp,Op.intArith,YR h])
theorem QiA {x:O3}{k:IntKind}{a b:Int}(hx:ev f x=.int k a)(G:ev f y=.int k b)(h:inK k (a*b)):
  (execOp (ev f) ⟨d,.binOp .mul t x y E,ty,pS,af,gd⟩).run P w=.ok (.value (.int k (a*b))) w:=Jv hx G (by simp[binOp,Op.intArith,YR h])
theorem YW {x:O3}{k:IntKind}{a b:Int}(hx:ev f x=.int k a)(G:ev f y=.int k b):
  (execOp (ev f) ⟨d,.binOp .lss t x y E,ty,pS,af,gd⟩).run P w=.ok (.value (.bool (decide (a<b)))) w:=Jv hx G (by simp[binOp,Op.intCmp])
theorem Vg {x:O3}{k:IntKind}{a b:Int}(hx:ev f x=.int k a)(G:ev f y=.int k b):
  (execOp (ev f) ⟨d,.binOp .leq t x y E,ty,pS,af,gd⟩).run P w=.ok (.value (.bool (decide (a<=b)))) w:=Jv hx G (by simp[binOp,Op.intCmp])
theorem Yd {x:O3}{k:IntKind}{a b:Int}(hx:ev f x=.int k a)(G:ev f y=.int k b):
  (execOp (ev f) ⟨d,.binOp .gtr t x y E,ty,pS,af,gd⟩).run P w=.ok (.value (.bool (decide (b<a)))) w:=Jv hx G (by simp[binOp,Op.intCmp])
theorem YA {x:O3}{k:IntKind}{a b:Int}(hx:ev f x=.int k a)(G:ev f y=.int k b):
  (execOp (ev f) ⟨d,.binOp .geq t x y E,ty,pS,af,gd⟩).run P w=.ok (.value (.bool (decide (b<=a)))) w:=Jv hx G (by simp[binOp,Op.intCmp])
theorem QT {x:O3}{k:IntKind}{a b:Int}(hx:ev f x=.int k a)(G:ev f y=.int k b):
  (execOp (ev f) ⟨d,.binOp .eql t x y E,ty,pS,af,gd⟩).run P w=.ok (.value (.bool (decide (a=b)))) w :=
 Jv hx G (by simp[binOp,Op.intCmp];by_cases h:a=b <;> simp[h])
theorem XM {x:O3}{k:IntKind}{a b:Int}(hx:ev f x=.int k a)(G:ev f y=.int k b):
  (execOp (ev f) ⟨d,.binOp .neq t x y E,ty,pS,af,gd⟩).run P w=.ok (.value (.bool (decide (¬a=b)))) w :=
 Jv hx G (by simp[binOp,Op.intCmp];by_cases h:a=b <;> simp[h])
theorem ZC {x:O3}{b:Bool}(hx:ev f x=.bool b):(execOp (ev f) ⟨d,.unOp .not t x,ty,pS,af,gd⟩).run P w=.ok (.value (.bool (!b))) w:=by
 simp[execOp,hx,Op.unary]
theorem UV {x:O3}{e bys:Nat}[h:Sl P t e sz bys z]{a:Option Addr}{c:Nat}(hx:ev f x=.slice a n c):
  (execOp (ev f) ⟨d,.call ⟨.builtin .len,#[x],#[t]⟩,ty,pS,af,gd⟩).run P w=.ok (.value (sS n)) w:=by
 simp[execOp,resolve,invoke,builtin,Builtin.len_,hx,run_underlying h.u,goInt]
theorem Sl.info {e bys:Nat}(h:Sl P t e sz bys z):∃i,P.info? e=some i/\i.zero=some z/\i.size=sz/\i.bytes=bys:=by
 have:=h.i;cases hi:P.info? e with
 | none=>simp[hi]at this
 | some i=>simp[hi]at this;exact⟨i,U,this.1,this.2.1,this.2.2⟩
theorem Xv {x:O3}{e bys:Nat}[h:Sl P t e sz bys z]{a:Addr}{c:Nat}{k:IntKind}{i:Int}(hx:ev f x=.slice (some a) n c)(E:ev f y=.int k i)(G:0<=i)(H:i<n):
  (execOp (ev f) ⟨d,.indexAddr t x y,ty,pS,af,gd⟩).run P w=.ok (.value (.pointer (some (a.add (i.toNat*sz))))) w:=by
 obtain⟨ii,hi,_,I,_⟩:=Sl.info h;simp[execOp,hx,E,Instr.indexAt,asIntOf,run_underlying h.u,G,H,sizeOf,typeInfo,hi,I]
theorem Qau [h:X6 P t]:(isAgg t).run P w=.ok false w:=by
 obtain⟨d,E,hd⟩:=h.u;unfold isAgg;cases d <;> simp at hd <;> simp[run_underlying E]
theorem QcP [h:Ag P t sz]:(isAgg t).run P w=.ok true w:=by
 obtain⟨d,E,hd⟩:=h.u;unfold isAgg;cases d <;> simp at hd <;> simp[run_underlying E]
theorem Xu [h:X6 P t]{a:Addr}{v:O2}(E:w.cell? a=some v):(loadVar t a).run P w=.ok v w:=by
 simp[loadVar,Qau,E]
theorem QdY [h:X6 P t]:(sizeOf t).run P w=.ok 1 w:=by
 have:=h.i;cases hi:P.info? t with
 | none=>simp[hi]at this
 | some i=>simp[hi]at this;simp[sizeOf,typeInfo,hi,this]
theorem VR [h:Ag P t sz]:(sizeOf t).run P w=.ok sz w:=by
 have:=h.i;cases hi:P.info? t with
 | none=>simp[hi]at this
 | some i=>simp[hi]at this;simp[sizeOf,typeInfo,hi,this]
theorem Kf {a:Addr}:∀(vs:LV) (i:Nat) (acc:Array O2),(∀j v,vs[j]?=some v->w.cell? (a.add (i+j))=some v)->(loadCellsFrom a i vs.length acc).run P w=.ok (acc++vs.toArray) w
 | [],_,acc,_=>by simp[loadCellsFrom]
 | v::vs,i,acc,h=>by
  have E:=h 0 v U;simp only[OD]at E;simp[loadCellsFrom,E,(Kf vs (i+1) (acc.push v) (λj u G=>by have:=h (j+1) u (oA G);simpa[ON,Nat.add_comm 1 j]using this))]
theorem Yc [h:Ag P t sz]{a:Addr}{vs:LV}(E:vs.length=sz)(G:∀j v,vs[j]?=some v->w.cell? (a.add j)=some v):(loadVar t a).run P w=.ok (sT vs) w:=by
 have:=Kf (P:=P) (w:=w) (a:=a) vs 0 #[] (oA G);subst E;simp[loadVar,QcP,VR (sz:=vs.length),loadCells,this]
theorem QiB [h:X6 P t]{x:O3}{a:Addr}{v:O2}(hx:ev f x=.pointer (some a))(E:w.cell? a=some v):
  (execOp (ev f) ⟨d,.load t x,ty,pS,af,gd⟩).run P w=.ok (.value v) w:=by
 simp[execOp,hx,Instr.loadAt,Instr.sureAddr,Xu E]
theorem zP [h:Ag P t sz]{x:O3}{a:Addr}{vs:LV}(hx:ev f x=.pointer (some a))(E:vs.length=sz)(G:∀j v,vs[j]?=some v->w.cell? (a.add j)=some v):
  (execOp (ev f) ⟨d,.load t x,ty,pS,af,gd⟩).run P w=.ok (.value (sT vs)) w:=by
 simp[execOp,hx,Instr.loadAt,Instr.sureAddr,Yc E G]
theorem Zf {off:Nat}[h:Zg P t j off]{x:O3}{a:Addr}(hx:ev f x=.pointer (some a)):
  (execOp (ev f) ⟨d,.fieldAddr t x j,ty,pS,af,gd⟩).run P w=.ok (.value (.pointer (some (a.add off)))) w:=by
 have E:=h.h;unfold QqC at E;cases H:P.underlying t with
 | none=>simp[H]at E
 | some dd =>
  cases dd <;> simp[H]at E
  rename_i fs;cases G:fs[j]? with
  | none=>simp[G]at E
  | some fd =>
   cases hi:P.info? fd.type with
   | none=>simp[G,hi]at E
   | some i =>
    simp[G,hi]at E;simp[execOp,hx,Instr.fieldAt,run_underlying H,G,Instr.sureAddr,fieldPlace,sizeOf,typeInfo,hi,E]
theorem Ur {x:O3}{a:Addr}(hx:ev f x=.pointer (some a)):(execOp (ev f) ⟨d,.nilCheck x,ty,pS,af,gd⟩).run P w=.ok (.value (.pointer (some a))) w:=by
 simp[execOp,hx]
theorem ZD {fn:Fn}{l l':List O3}:(execOp (ev f) ⟨d,.makeFunc fn l.toArray l'.toArray,ty,pS,af,gd⟩).run P w=.ok (.value (.func fn (l.map (ev f)).toArray (l'.map (ev f)).toArray)) w:=by
 simp[execOp,Instr.makeFunc]
end
def QZ (P:O4)(g:Nat)(args:LV)(w:O1)(R:O2->O1->Prop):Prop :=
 Calls P g args.toArray w λe w'=>match e with| .returned v=>R v w'|_=>False
theorem QZ.mono {P:O4}{g:Nat}{args:LV}{w:O1}{R R':O2->O1->Prop}(h:QZ P g args w R)(G:∀v w',R v w'->R' v w'):QZ P g args w R' :=
 Calls.mono h λe w' E=>by cases e <;> first|exact G _ _ E|exact E
theorem xc {f:Fr}{K:Fr->O1->Prop}{pS:String}{x:O3}{l:List O3}
    {first capt:LV} [hF:Fu P g fn] (hx:ev f x=.func (.func g) first.toArray capt.toArray) (h:QZ P g (first++l.map (ev f)++capt) w λv w'=>K (QN f d v) w'):
  XO P ⟨d,.call ⟨.value x,l.toArray,at_⟩,ty,pS,af,gd⟩ f w K:=by
 have E:(execOp (ev f) ⟨d,.call ⟨.value x,l.toArray,at_⟩,ty,pS,af,gd⟩).run P w=.ok (.enter g (first++l.map (ev f)++capt).toArray) w:=by
  have G:¬fn.name = "runtime.NumGoroutine" := by simpa using hF.nm
  have H:¬fn.body=none:=by have:=hF.b;intro e;rw[e]at this;cases this
  simp[execOp,resolve,hx,Deferred.ofValue,invoke,callFunc,hF.f,G,H]
 simp only[XO,E,upF];exact h
theorem xf {f:Fr}{K:Fr->O1->Prop}{pS:String}{l:List O3}
    [hF:Fu P g fn] (h:QZ P g (l.map (ev f)) w λv w'=>K (QN f d v) w'):
  XO P ⟨d,.call ⟨.value (.func g),l.toArray,at_⟩,ty,pS,af,gd⟩ f w K :=
 xc (first:=[]) (capt:=[]) (g:=g) (fn:=fn) U (oA h)
def ent:LV->Fr
 | [],_=>undef
 | v::_,0=>v
 | _::l,t+1=>ent l t
def qp (P:O4)(f:Fr)(w:O1):List ResultVar->LV->Prop
 | [],[]=>True
 | .tmp t::rs,v::vs=>f t=v/\qp P f w rs vs
 | .cell a t::rs,v::vs=>(∃ad,f a=.pointer (some ad)/\(loadVar t ad).run P w=.ok v w)/\qp P f w rs vs
 | _,_=>False
def tup:LV->O2
 | [v]=>v
 | vs=>.tuple vs.toArray
def rq (P:O4)(rs:List ResultVar)(R:O2->O1->Prop):Exit->Fr->O1->Prop
 | .ret,f,w=>∃vs,qp P f w rs vs/\R (tup vs) w
 | .normal,f,w=>∃vs,qp P f w rs vs/\R (tup vs) w
 | _,_,_=>False
theorem Ke {P:O4}{n:Nat}{a:Act}{f:Fr}{w:O1}(G:Rel n a f)(g:ResultVar->Sem O2)(g1:∀t,g (.tmp t)=pure (a.tmps.getD t undef))
  (H:∀ad t,g (.cell ad t)=(do loadVar t (<-asAddr (a.tmps.getD ad undef)))):∀(rs:List ResultVar) (vs:LV),qp P f w rs vs->(rs.mapM g).run P w=.ok vs w
 | [],[],_=>od
 | [],_::_,h=>h.elim
 | .tmp t::rs,[],h=>h.elim
 | .cell _ _::rs,[],h=>h.elim
 | .tmp t::rs,v::vs,h=>by
  have ih:=Ke G g g1 H rs vs h.2;have E:=G.get t;rw[h.1]at E;simp only[List.mapM_cons,Sem.run_bind,Sem.run_pure,Result.andThen_ok,ih,E,g1]
 | .cell ad t::rs,v::vs,h=>by
  have ih:=Ke G g g1 H rs vs h.2;obtain⟨⟨I,J,O⟩,_⟩:=h;have E:=G.get ad;rw[J]at E;have S:(asAddr (.pointer (some I))).run P w=.ok I w:=rfl;simp only[List.mapM_cons,Sem.run_bind,H,E,S,Sem.run_pure,Result.andThen_ok,O,ih]
theorem QZ.of_W {c:Code}{args:LV}{R:O2->O1->Prop}{rs:List ResultVar}
  (J:P.funcs[g]?=some fn) (O:fn.body=some c) (S:fn.ntmps=n) (T:fn.results=rs.toArray) (hl:args.length<=n)
  (h:W P n c (rq P rs R) (ent args) w):QZ P g args w R:=by
 unfold W at h;refine calls_of_wp J O (wp_mono (h _ ?_) ?_)
 ·refine⟨by simp[S];omega,U,λt=>?_⟩;have key:∀(l:LV) (t:Nat),l[t]?.getD undef=ent l t:=by
   intro l;induction l with
   | nil=>intro t;rfl
   | cons v l ih=>intro t;cases t with|zero=>rfl|succ t=>simpa[ent]using ih t
  rw[<-key];simp only[Array.getD_eq_getD_getElem?,Array.getElem?_append,Od,o0];by_cases G:t<args.length
  ·simp[G]
  simp[G,Array.getElem?_replicate];split <;> rfl
 rintro e H w' ⟨V,I,_,E⟩;have fin:(∃vs,qp P V w' rs vs/\R (tup vs) w')->H.defers=[]/\∃v,(results fn H.tmps).run P w'=.ok v w'/\R v w':=by
  rintro⟨vs,Y,hR⟩;refine⟨I.defers,tup vs,?_,hR⟩;simp only[results,T,List.mapM_toArray,Sem.run_bind,Sem.run_map];rw[Ke I _ (λ_=>rfl) (λ_ _=>rfl) rs vs Y];cases vs with
  | nil=>rfl
  | cons v vs=>cases vs with|nil=>rfl|cons u us=>rfl
 cases e with
 | normal=>exact fin E
 | ret=>exact fin E
 | exit id=>exact E.elim
 | goto l=>exact E.elim
 | panic c=>exact E.elim
 | outgrown=>exact E.elim
attribute [irreducible] QZ
theorem K5 (f:P.funcs[g]?=some fn)(b:fn.body.isNone=false:=by kernel_rfl)(nm:(fn.name == "runtime.NumGoroutine")=false:=by kernel_rfl):Fu P g fn:=⟨f,b,nm⟩
theorem Qc {f:Fr}{Q:Exit->Fr->O1->Prop}{l:xE}{y:Code}(h:XL P l (λf w=>thn (λf w=>W P n y Q f w) Q .normal f w) l f w)(E:XI n l=true:=by rfl):W P n (.seq (.region id l.toArray false) y) Q f w:=Qe (Qdy E h)
theorem Qs {f:Fr}{Q:Exit->Fr->O1->Prop}{l:xE}(h:XL P l (λf w=>Q .normal f w) l f w)(E:XI n l=true:=by rfl):W P n (.region id l.toArray false) Q f w:=Qdy E h
section
variable {K:Fr->O1->Prop}{f:Fr}{pS:String}{l:xE}
theorem Qa (h:XL P ops K l (QN f d (ev f y)) w)(E:Z9 ops f ⟨d,.move y,ty,pS,af,gd⟩=true:=by rfl):XL P ops K (⟨d,.move y,ty,pS,af,gd⟩::l) f w:=x Kq h E
theorem QG {H:Nat}{E:O3}{k:IntKind}{a b:Int}(hx:ev f E=.int k a)(I:ev f G=.int k b)(h:XL P ops K l (QN f d (.int k (a+b))) w)(J:inK k (a+b):=by exact⟨oa,oa⟩)
  (O:Z9 ops f ⟨d,.binOp .add t E G H,ty,pS,af,gd⟩=true:=by rfl):XL P ops K (⟨d,.binOp .add t E G H,ty,pS,af,gd⟩::l) f w:=x (XS hx I J) h O
theorem Qb (h:K (QN f d (ev f y)) w)(E:Z9 ops f ⟨d,.assign y,ty,pS,af,gd⟩=true:=by rfl):XL P ops K [⟨d,.assign y,ty,pS,af,gd⟩] f w:=x Qi (xe h) E
end
section
variable {C:xA}{K:Fr->O1->Prop}{f:Fr}{pS:String}{l:xE}
theorem Qn (h:XO P o f w (XL P ops K l))(E:Z9 ops f o=true:=by rfl):XL P ops K (o::l) f w:=xl E h
theorem Kz (h:XL P ops K l (QN f o.dst undef) w)(E:Z9 ops f o=false:=by rfl):XL P ops K (o::l) f w:=xs E h
theorem QW {E:O3}{vs:LV}{v:O2}(G:ev f E=.tuple vs.toArray)(H:vs[j]?=some v)(h:XL P ops K l (QN f d v) w)(I:Z9 ops f ⟨d,.extract E j,ty,pS,af,gd⟩=true:=by rfl):XL P ops K (⟨d,.extract E j,ty,pS,af,gd⟩::l) f w:=x (Zi G H) h I
theorem QE {c a b:O3}{t:Bool}(E:ev f c=.bool t)(h:XL P ops K l (QN f d (bif t then ev f a else ev f b)) w)(G:Z9 ops f ⟨d,.pick c a b,ty,pS,af,gd⟩=true:=by rfl):XL P ops K (⟨d,.pick c a b,ty,pS,af,gd⟩::l) f w:=x (qD E) h G
theorem Zx {H:Nat}{E:O3}{k:IntKind}{a b:Int}(hx:ev f E=.int k a)(I:ev f G=.int k b)(h:XL P ops K l (QN f d (.bool (decide (¬a=b)))) w)(J:Z9 ops f ⟨d,.binOp .neq t E G H,ty,pS,af,gd⟩=true:=by rfl):XL P ops K (⟨d,.binOp .neq t E G H,ty,pS,af,gd⟩::l) f w:=x (XM hx I) h J
theorem Ya {H:Nat}{E:O3}{k:IntKind}{a b:Int}(hx:ev f E=.int k a)(I:ev f G=.int k b)(h:XL P ops K l (QN f d (.bool (decide (a<b)))) w)(J:Z9 ops f ⟨d,.binOp .lss t E G H,ty,pS,af,gd⟩=true:=by rfl):XL P ops K (⟨d,.binOp .lss t E G H,ty,pS,af,gd⟩::l) f w:=x (YW hx I) h J
theorem Yf {E:O3}{a:Addr}(hx:ev f E=.pointer (some a))(h:XL P ops K l (QN f d (.pointer (some a))) w)(G:Z9 ops f ⟨d,.nilCheck E,ty,pS,af,gd⟩=true:=by rfl):XL P ops K (⟨d,.nilCheck E,ty,pS,af,gd⟩::l) f w:=x (Ur hx) h G
theorem Zq {c:Code}{args:LV}{R:O2->O1->Prop}{rs:List ResultVar}(E:P.funcs[g]?=some fn)(h:W P n c (rq P rs R) (ent args) w)(G:fn.body=some c:=by rfl)(H:fn.ntmps=n:=by rfl)(I:fn.results=rs.toArray:=by rfl)(J:Nat.ble args.length n=true:=by rfl):QZ P g args w R:=QZ.of_W E G H I (LZ J) h
def YX:Nat->Nat->LN->List (Nat×Bool)
 | _,0,_=>[]
 | i,n+1,fs=>(i,!fs.contains i)::YX (i+1) n fs
def fuB (P:O4)(g:Nat):Bool:=match P.funcs[g]? with|some fn=>!fn.body.isNone && !(fn.name == "runtime.NumGoroutine")|none=>false
theorem fuE (h:fuB P g=true):∃fn,Fu P g fn:=by
 unfold fuB at h;split at h
 ·next fn E=>simp only[oM,Oe]at h;exact⟨fn,E,h.1,h.2⟩
 cases h
theorem xg {f:Fr}{K:Fr->O1->Prop}{pS:String}{l:List O3}(h:QZ P g (l.map (ev f)) w λv w'=>K (QN f d v) w')(E:fuB P g=true:=by kernel_rfl):XO P ⟨d,.call ⟨.value (.func g),l.toArray,at_⟩,ty,pS,af,gd⟩ f w K:=(fuE E).elim λ_ _=>xf h
theorem Qz {l':List O3}(h:QZ P g (l'.map (ev f)) w λv w'=>XL P ops K l (QN f d v) w')(E:fuB P g=true:=by kernel_rfl)(G:Z9 ops f ⟨d,.call ⟨.value (.func g),l'.toArray,at_⟩,ty,pS,af,gd⟩=true:=by rfl):XL P ops K (⟨d,.call ⟨.value (.func g),l'.toArray,at_⟩,ty,pS,af,gd⟩::l) f w:=xl G (xg h E)
theorem jB {l':List O3}[Fu P g fn](h:QZ P g (l'.map (ev f)) w λv w'=>XL P ops K l (QN f d v) w')(E:Z9 ops f ⟨d,.call ⟨.value (.func g),l'.toArray,at_⟩,ty,pS,af,gd⟩=true:=by rfl):XL P ops K (⟨d,.call ⟨.value (.func g),l'.toArray,at_⟩,ty,pS,af,gd⟩::l) f w:=xl E (xf h)
theorem Qx {E:O3}:∀w',(execOp (ev f) ⟨d,.move E,ty,pS,af,gd⟩).run P w'=.ok (.value (ev f E)) w':=λ_=>Kq
theorem ZG {E:O3}:∀w',(execOp (ev f) ⟨d,.assign E,ty,pS,af,gd⟩).run P w'=.ok (.value (ev f E)) w':=λ_=>Qi
theorem Y7 {c a b:O3}{t:Bool}(h:ev f c=.bool t):∀w',(execOp (ev f) ⟨d,.pick c a b,ty,pS,af,gd⟩).run P w'=.ok (.value (bif t then ev f a else ev f b)) w':=λ_=>qD h
theorem YG {E:O3}{a:Addr}(hx:ev f E=.pointer (some a)):∀w',(execOp (ev f) ⟨d,.nilCheck E,ty,pS,af,gd⟩).run P w'=.ok (.value (.pointer (some a))) w':=λ_=>Ur hx
theorem Qj {Q:Exit->Fr->O1->Prop}{c:Code}(h:XL P (⟨d,.move y,ty,pS,af,gd⟩::l) (λf w=>thn (λf w=>W P n c Q f w) Q .normal f w) l (QN f d (ev f y)) w)(E:Z9 (⟨d,.move y,ty,pS,af,gd⟩::l) f ⟨d,.move y,ty,pS,af,gd⟩=true:=by rfl)(G:XI n (⟨d,.move y,ty,pS,af,gd⟩::l)=true:=by rfl):W P n (.seq (.region id (⟨d,.move y,ty,pS,af,gd⟩::l).toArray false) c) Q f w:=Qc (Qa h E) G
theorem Zn {Q:Exit->Fr->O1->Prop}{H:Nat}{E:O3}{k:IntKind}{a b:Int}{c1 c2 c3:Code}(hx:ev f E=.int k a)(I:ev f G=.int k b)(J:¬a<b->W P n c2 (thn (λf w=>W P n c3 Q f w) Q) (QN f (some j) (.bool (decide (a<b)))) w)(O:a<b->W P n c1 (thn (λf w=>W P n c3 Q f w) Q) (QN f (some j) (.bool (decide (a<b)))) w)(S:Z9 [⟨some j,.binOp .lss t E G H,ty,pS,af,gd⟩] f ⟨some j,.binOp .lss t E G H,ty,pS,af,gd⟩=true:=by rfl)(T:XI n [⟨some j,.binOp .lss t E G H,ty,pS,af,gd⟩]=true:=by rfl):W P n (.seq (.region id #[⟨some j,.binOp .lss t E G H,ty,pS,af,gd⟩] false) (.seq (.cond (.tmp j) c1 c2) c3)) Q f w:=Qc (Ya hx I (xe (Qe (ZI (by simp[ev,QN,upd]) J O))) S) T
theorem Yq {o2:Oper}(h:XL P ops K l (QN (QN f o.dst undef) o2.dst undef) w)(E:Z9 ops (QN f o.dst undef) o2=false:=by rfl)(G:Z9 ops f o=false:=by rfl):XL P ops K (o::o2::l) f w:=Kz (Kz h E) G
theorem Zu {o2 o3:Oper}(h:XL P ops K l (QN (QN (QN f o.dst undef) o2.dst undef) o3.dst undef) w)(E:Z9 ops (QN (QN f o.dst undef) o2.dst undef) o3=false:=by rfl)(G:Z9 ops (QN f o.dst undef) o2=false:=by rfl)(H:Z9 ops f o=false:=by rfl):XL P ops K (o::o2::o3::l) f w:=Kz (Yq h E G) H
theorem pkk {pl:xu}(h:XO P (QR ops i) f w λE w'=>XP P ops C K pl E w')(G:Vi ops i=true:=by kernel_rfl)(H:Z9 ops f (QR ops i)=true:=by rfl):XP P ops C K ((i,false)::pl) f w:=pkl h G H
theorem Q8 {Q:Exit->Fr->O1->Prop}{c:Code}(D:xw)(S:α->List (Nat×O2))(I:α->O1->Prop)(m:α->Nat)(z:α)(E:Y0 f (S z))(G:I z w)(round:∀x g w',I x w'->W P n c (thn (λH J=>∃x',m x'<m x/\Y0 H (S x')/\I x' J) (blk id Q)) (UO (S x) (mix D f g)) w')(hD:wr D c=true:=by rfl):W P n (.block id (.loop c)) Q f w:=Qm (QpG D S I m hD z E G round)
end
structure O5 (L:LN)(w w':O1):Prop where
 os:w'.os=w.os
 tape:w'.tape=w.tape
 output:w'.output=w.output
 size:w.heap.size<=↑w'
 block:∀k,k<↑w->k∉L->w'.heap[k]?=w.heap[k]?
abbrev sX (w w':World):Prop:=O5 [] w w'
theorem O5.Z (L:LN)(w:O1):O5 L w w:=⟨U,U,U,Lv _,λ_ _ _=>U⟩
theorem O5.C (L:LN)(w:O1):O5 L w { w with drawn:=w.drawn+1 }:=⟨U,U,U,Lv _,λ_ _ _=>U⟩
theorem O5.mono {L L':LN}(h:O5 L w w')(E:∀b∈L,b∈L'):O5 L' w w' :=
 ⟨h.os,h.tape,h.output,h.size,λk G H=>h.block k G (λI=>H (E k I))⟩
theorem O5.any {L:LN}(h:sX w w'):O5 L w w':=h.mono (λ_ E=>by cases E)
theorem O5.then {L L':LN}{E:O1}(h:O5 L E w)(k:O5 L' w w')(I:∀b∈L',b∈L\/↑E<=b):O5 L E w' :=
 ⟨k.os.D h.os,k.tape.D h.tape,k.output.D h.output,LH h.size k.size,λi hi G =>
  (k.block i (LO hi h.size) (λJ=>by rcases I i J with H|H;exact G H;omega)).D (h.block i hi G)⟩
theorem O5.D {L:LN}{E:O1}(h:O5 L E w)(k:sX w w'):O5 L E w':=h.then k (λ_ G=>by cases G)
theorem O5.Q {L:LN}{E:O1}(h:O5 L E w)(k:O5 L w w'):O5 L E w':=h.then k (λ_ G=>.inl G)
theorem O5.below (h:sX w w'):Below ↑w w w':=⟨h.os,h.tape,h.output,h.size,λk E=>h.block k E od⟩
theorem O5.of_below (h:Below ↑w w w'):sX w w':=⟨h.os,h.tape,h.output,h.size,λk E _=>h.block k E⟩
theorem O5.of_grown {row:xF}(h:w.grownBy w' row):O5 row.toList w w' :=
 ⟨h.os,h.tape,h.output,h.size,λk E G=>h.block k E (λe=>G (by simp[<-e]))⟩
theorem qY (w:O1)(o:Obj)(k:Nat)(h:k<↑w):(w.alloc o).heap[k]?=w.heap[k]?:=by
 show(w.heap.push o)[k]?=_;rw[Array.getElem?_push,OT oa]
theorem Kv (w:O1)(o:Obj):(w.alloc o).heap[w.heap.size]?=some o:=by
 show(w.heap.push o)[w.heap.size]?=_;simp
theorem V1 (w:O1)(o:Obj):(w.alloc o).heap.size=w.heap.size+1:=by show(w.heap.push o).size=_;simp
theorem O5.alloc (w:O1)(o:Obj):sX w (w.alloc o):=⟨U,U,U,by rw[V1];omega,λk E _=>qY w o k E⟩
theorem O5.setRow (w:O1)(g:Nat)(cs:Array O2):O5 [g] w (w.setRow g cs):=
 ⟨U,U,U,by simp[World.setRow],λk _ E=>setRow_other w g k cs (λe=>E (by simp[e]))⟩
def cel (H:xC)(a:Addr):Option O2:=match H[a.block]? with
 | some (.cells c _ _)=>if a.spot.isSome then none else c[a.off]?
 | _=>none
theorem KM (w:O1)(a:Addr):w.cell? a=cel w.heap a:=rfl
structure At (L:LN)(H:xC)(a:Addr)(us:LV):Prop where
 out:∀u∈us,a.block∉L
 lt:∀u∈us,a.block<H.size
 cell:∀j u,us[j]?=some u->cel H (a.add j)=some u
theorem YN (a:Addr)(j:Nat):(a.add j).block=a.block:=by unfold Addr.add;split <;> rfl
theorem Qkz {L:LN}(h:O5 L w w'){a:Addr}(E:a.block∉L)(G:a.block<↑w):cel w'.heap a=cel w.heap a:=by
 unfold cel;rw[h.block _ G E]
theorem At.J {L X:LN}{a:Addr}{us:LV}(h:At L w.heap a us)(G:O5 X w w')(I:∀b∈X,b∈L):At L w'.heap a us :=
 ⟨h.out,λu E=>LO (h.lt u E) G.size,λj u E=>by
  have H:=Ms E;rw[Qkz (L:=X) G (by rw[YN];exact λhx=>h.out u H (I _ hx)) (by rw[YN];exact h.lt u H)];exact h.cell j u E⟩
theorem At.I {L:LN}{a:Addr}{us:LV}(h:At L w.heap a us)(E:sX w w'):At L w'.heap a us:=h.J E (λ_ G=>by cases G)
theorem At.st {L:LN}{a:Addr}{us:LV}(h:At L w.heap a us)(E:O5 L w w'):At L w'.heap a us:=h.J E (λ_ G=>G)
theorem At.one {L:LN}{a:Addr}{u:O2}(h:At L w.heap a [u]):w.cell? a=some u:=by
 have:=h.cell 0 u U;simp only[Addr.add,if_true]at this;exact this
theorem At.cells {L:LN}{a:Addr}{us:LV}(h:At L w.heap a us):∀j v,us[j]?=some v->w.cell? (a.add j)=some v:=h.cell
theorem Addr.add_add (a:Addr)(i j:Nat):(a.add i).add j=a.add (i+j):=by
 unfold Addr.add;by_cases hi:i=0
 ·subst hi;simp
 by_cases E:j=0
 ·subst E;simp
 simp[hi,E,ON]
theorem At.fld {L:LN}{a:Addr}{us:LV}(h:At L H a us)(j:Nat)(u:O2)(E:us[j]?=some u):At L H (a.add j) [u]:=
 ⟨λ_ _=>by rw[YN];exact h.out u (Ms E),λ_ _=>by rw[YN];exact h.lt u (Ms E),λi v G=>by
  cases i with
  | zero=>simp at G;subst G;rw[Addr.add_add,Nl];exact h.cell j u E
  | succ i=>simp at G⟩
theorem At.up {L L':LN}{a:Addr}{us:LV}(h:At L H a us)(I:∀b∈L',b∈L\/H.size<=b):At L' H a us :=
 ⟨λu E J=>by rcases I _ J with G|G;exact h.out u E G;have:=h.lt u E;omega,h.lt,h.cell⟩
def Zo (L:LN)(H:xC)(v:O2)(n sz:Nat)(cs:LV):Prop :=
 cs.length=n*sz/\n<=1099511627776/\((v=nS/\n=0)\/∃a cap,v=.slice (some a) n cap/\n<=cap/\At L H a cs)
theorem Zo.J {L X:LN}{w w':O1}{v:O2}{n sz:Nat}{cs:LV}(h:Zo L w.heap v n sz cs)(E:O5 X w w')(G:∀b∈X,b∈L):Zo L w'.heap v n sz cs :=
 ⟨h.1,h.2.1,h.2.2.imp id λ⟨a,cap,H,I,J⟩=>⟨a,cap,H,I,J.J E G⟩⟩
theorem Zo.I {L:LN}{v:O2}{cs:LV}(h:Zo L w.heap v n sz cs)(E:sX w w'):Zo L w'.heap v n sz cs:=h.J E (λ_ G=>by cases G)
theorem Zo.st {L:LN}{v:O2}{cs:LV}(h:Zo L w.heap v n sz cs)(E:O5 L w w'):Zo L w'.heap v n sz cs:=h.J E (λ_ G=>G)
theorem Zo.up {L L':LN}{H:xC}{v:O2}{n sz:Nat}{cs:LV}(h:Zo L H v n sz cs)(E:∀b∈L',b∈L\/H.size<=b):Zo L' H v n sz cs :=
 ⟨h.1,h.2.1,h.2.2.imp id λ⟨a,cap,G,I,J⟩=>⟨a,cap,G,I,J.up E⟩⟩
theorem Zo.nil (L:LN)(H:xC)(sz:Nat):Zo L H (nS) 0 sz []:=⟨od,oa,.inl ⟨rfl,rfl⟩⟩
theorem Zo.shape {L:LN}{v:O2}{cs:LV}(h:Zo L H v n sz cs):∃a cap,v=.slice a n cap:=by
 rcases h.2.2 with⟨E,G⟩|⟨a,cap,E,_⟩
 ·exact⟨none,0,by rw[E,G]⟩
 exact⟨some a,cap,E⟩
theorem Zo.one {L:LN}{v:O2}{cs:LV}(h:Zo L H v n sz cs):v.oneCell'=true:=by obtain⟨a,cap,rfl⟩:=h.shape;rfl
theorem Zo.cells {L:LN}{H:xC}{v:O2}{n sz:Nat}{cs:LV}(h:Zo L H v n sz cs):v.cells=#[v]:=by obtain⟨a,cap,rfl⟩:=h.shape;rfl
theorem Zo.le {L:LN}{v:O2}{cs:LV}(h:Zo L H v n sz cs):n<=1099511627776:=h.2.1
theorem Zo.at {L:LN}{H:xC}{v:O2}{n sz:Nat}{cs:LV}(h:Zo L H v n sz cs){i:Nat}(hi:i<n):
  ∃a cap,v=.slice (some a) n cap/\At L H (a.add (i*sz)) ((cs.drop (i*sz)).take sz):=by
 rcases h.2.2 with⟨_,J⟩|⟨a,cap,I,_,G⟩
 ·omega
 refine⟨a,cap,I,λu E=>by rw[YN];exact G.out u (L8 (LU E)),λu E=>by rw[YN];exact G.lt u (L8 (LU E)),λj u E=>?_⟩;rw[Addr.add_add];refine G.cell _ u ?_;rw[LW]at E;split at E
 ·simpa using E
 cases E
abbrev QL (L:LN)(H:xC)(v:O2)(l:LI):Prop:=Zo L H v l.length 1 (l.map (.int .i64))
theorem QL.at {L:LN}{H:xC}{v:O2}{l:LI}(h:QL L H v l){i:Nat}(hi:i<l.length):
  ∃a cap,v=.slice (some a) l.length cap/\At L H (a.add (i*1)) [sS l[i]]:=by
 obtain⟨a,cap,G,E⟩:=Zo.at h hi;refine⟨a,cap,G,?_⟩;have:((l.map (Value.int .i64)).drop (i*1)).take 1=[sS l[i]]:=by
  rw[Nat.mul_one,LE (oA hi)];simp
 rw[this]at E;exact E
def QY (H:xC)(b T:Nat)(cs:LV):Prop:=H[b]?=some (.cells cs.toArray T (0,0))
theorem QY.lt {cs:LV}(h:QY H b T cs):b<H.size:=(LJ.1 h).1
theorem QY.J {X:LN}{cs:LV}(h:QY w.heap b T cs)(E:O5 X w w')(G:b∉X):QY w'.heap b T cs:=by
 unfold QY;rw[E.block b h.lt G];exact h
theorem QY.I {cs:LV}(h:QY w.heap b T cs)(E:sX w w'):QY w'.heap b T cs:=h.J E od
theorem QY.cell {cs:LV}(h:QY H b T cs)(j:Nat):cel H ⟨b,j,none⟩=cs[j]?:=by
 unfold QY at h;simp[cel,h]
theorem Qfp (b j:Nat):(⟨b,0,none⟩:Addr).add j=⟨b,j,none⟩:=by unfold Addr.add;split <;> simp_all
theorem KD (b i j:Nat):(⟨b,i,none⟩:Addr).add j=⟨b,i+j,none⟩:=by unfold Addr.add;split <;> simp_all
theorem QY.at {L:LN}{cs:LV}(h:QY H b T cs)(E:b∉L):At L H ⟨b,0,none⟩ cs :=
 ⟨λ_ _=>E,λ_ _=>h.lt,λj u G=>by rw[Qfp,h.cell];exact G⟩
theorem QY.arr {L:LN}{cs:LV}(h:QY H b T cs)(E:b∉L)(G:cs.length=n*sz)(I:n<=1099511627776)(J:n<=cap):
  Zo L H (sL b n cap) n sz cs:=⟨G,I,.inr ⟨_,_,U,J,h.at E⟩⟩
def ob:O2->LN
 | .slice (some a) _ _=>[a.block]
 | _=>[]
theorem yE (v:O2):ob v=v.ownBlock.toList:=by
 cases v <;> try rfl
 rename_i a _ _;cases a <;> rfl
theorem Qd {X:LN}{base e:Nat}{v:O2}{cs:LV}(h:w.ownsRow base e sz v n cs)(H:O5 X w w')(I:∀b∈ob v,b∉X):w'.ownsRow base e sz v n cs:=by
 refine⟨h.1,h.2.imp id λ⟨g,cap,cur,E,J,G,O⟩=>⟨g,cap,cur,E,J,?_,O⟩⟩;rw[H.block g (LJ.1 G).1 (I g (by rw[E];simp[ob]))];exact G
theorem Qk {base e:Nat}{v:O2}{cs:LV}(h:w.ownsRow base e sz v n cs)(E:sX w w'):w'.ownsRow base e sz v n cs:=Qd h E (λ_ _=>od)
theorem Qg {base e:Nat}{v:O2}{cs:LV}(h:w.ownsRow base e sz v n cs):∀b∈ob v,base<=b/\b<w.heap.size:=by
 intro b E;rcases h.2 with⟨G,_⟩|⟨g,cap,cur,G,H,I,_⟩
 ·subst G;simp[ob]at E
 subst G;simp[ob]at E;subst E;exact⟨H,(LJ.1 I).1⟩
theorem Zz {base base' e:Nat}{v:O2}{cs:LV}(h:w.ownsRow base e sz v n cs)(E:base'<=base):w.ownsRow base' e sz v n cs :=
 ⟨h.1,h.2.imp id λ⟨g,cap,cur,G,H,I⟩=>⟨g,cap,cur,G,LH E H,I⟩⟩
theorem QB {L:LN}{base e:Nat}{v:O2}{cs:LV}(h:w.ownsRow base e sz v n cs)(I:n<=1099511627776)(J:∀b∈ob v,b∉L):Zo L w.heap v n sz cs:=by
 refine⟨h.1,I,?_⟩;rcases h.2 with E|⟨g,cap,cur,E,T,H,O,V,Y,S⟩
 ·exact .inl E
 refine .inr ⟨_,_,E,O,λ_ _=>J g (by rw[E];simp[ob]),λ_ _=>(LJ.1 H).1,λj u G=>?_⟩;rw[Qfp];unfold cel;simp only[H];rw[<-S,LW]at G;split at G
 ·simpa using G
 cases G
theorem QD (w:O1)(base e sz:Nat):w.ownsRow base e sz (nS) 0 []:=World.ownsRow_nil w base e sz
theorem QY.own {cs:LV}(h:QY w.heap b T cs)(E:cs.length=n*sz)(H:n<=1099511627776){base:Nat}(G:base<=b):w.ownsRow base T sz (sL b n n) n cs :=
 ⟨E,.inr ⟨b,n,cs.toArray,U,G,h,Lv _,by simp only[maxLen];omega,by simp[E],by simp[<-E]⟩⟩
section
variable {K:Fr->O1->Prop}{f:Fr}{pS:String}{l:xE}
theorem Yx {x:O3}{e bys:Nat}[Sl P t e E bys z]{L:LN}{cs:LV}{v:O2}(h:Zo L H v n sz cs)(G:ev f x=v):
  (execOp (ev f) ⟨d,.call ⟨.builtin .len,#[x],#[t]⟩,ty,pS,af,gd⟩).run P w=.ok (.value (sS n)) w:=by
 obtain⟨a,cap,I⟩:=h.shape;exact UV (G.D I)
theorem xi {x:O3}{e bys:Nat}[Sl P t e sz bys z]{L:LN}{cs:LV}{v:O2}{k:IntKind}
  (h:Zo L w.heap v n sz cs) (E:ev f x=v) (G:ev f y=.int k i) (hi:i<n)
  (hK:∀a,At L w.heap a ((cs.drop (i*sz)).take sz)->XL P ops K l (QN f d (.pointer (some a))) w) (H:Z9 ops f ⟨d,.indexAddr t x y,ty,pS,af,gd⟩=true:=by rfl):
  XL P ops K (⟨d,.indexAddr t x y,ty,pS,af,gd⟩::l) f w:=by
 obtain⟨a,cap,I,J⟩:=h.at hi;refine xl H (xv (Xv (E.D I) G oa oa) (hK _ ?_));simpa using J
theorem xii {x:O3}{e bys:Nat}[Sl P t e 1 bys z]{L:LN}{li:LI}{v:O2}{k:IntKind}
  (h:QL L w.heap v li) (E:ev f x=v) (G:ev f y=.int k i) (hi:i<li.length)
  (hK:∀a,At L w.heap a [sS li[i]]->XL P ops K l (QN f d (.pointer (some a))) w) (H:Z9 ops f ⟨d,.indexAddr t x y,ty,pS,af,gd⟩=true:=by rfl):
  XL P ops K (⟨d,.indexAddr t x y,ty,pS,af,gd⟩::l) f w:=by
 obtain⟨a,cap,I,J⟩:=QL.at h hi;refine xl H (xv (Xv (E.D I) G oa oa) (hK _ ?_));simpa using J
theorem Qy [X6 P t]{x:O3}{a:Addr}{L:LN}{u:O2}(h:At L w.heap a [u])(hx:ev f x=.pointer (some a)):
  (execOp (ev f) ⟨d,.load t x,ty,pS,af,gd⟩).run P w=.ok (.value u) w:=QiB hx h.one
theorem Qr [Ag P t sz]{x:O3}{a:Addr}{L:LN}{us:LV}(h:At L w.heap a us)(hx:ev f x=.pointer (some a))(E:us.length=sz):
  (execOp (ev f) ⟨d,.load t x,ty,pS,af,gd⟩).run P w=.ok (.value (sT us)) w:=zP hx E h.cells
theorem Ql [X6 P t]{x:O3}{cs:LV}{u:O2}(h:QY w.heap b T cs)(hx:ev f x=.pointer (some ⟨b,j,none⟩))(E:cs[j]?=some u):
  (execOp (ev f) ⟨d,.load t x,ty,pS,af,gd⟩).run P w=.ok (.value u) w:=QiB hx (by rw[KM,h.cell];exact E)
theorem Zr [Ag P t sz]{x:O3}{cs:LV}(h:QY w.heap b T cs)(hx:ev f x=sP b)(E:cs.length=sz):
  (execOp (ev f) ⟨d,.load t x,ty,pS,af,gd⟩).run P w=.ok (.value (sT cs)) w:=zP hx E (h.at (L:=[]) od).cells
theorem KA {off:Nat}[Zg P t j off]{x:O3}{o:Nat}(hx:ev f x=.pointer (some ⟨b,o,none⟩)):
  (execOp (ev f) ⟨d,.fieldAddr t x j,ty,pS,af,gd⟩).run P w=.ok (.value (.pointer (some ⟨b,o+off,none⟩))) w:=by
 rw[<-KD];exact Zf hx
end
section
variable {K:Fr->O1->Prop}{f:Fr}{pS:String}
theorem yG {x:O3}{us:LV}(hx:(ev f x).cells=us.toArray)
  (hK:∀b w',sX w w'->↑w<=b->QY w'.heap b t us->K (QN f d (sP b)) w'):XO P ⟨d,.box t x,ty,pS,af,gd⟩ f w K:=by
 have E:(execOp (ev f) ⟨d,.box t x,ty,pS,af,gd⟩).run P w=.ok (.value (.pointer (some ⟨↑w,0,none⟩))) (w.alloc (.cells us.toArray t)):=by
  simp[execOp,Instr.box,newVar,newRow,hx]
 exact xv E (hK _ _ (O5.alloc w _) (Lv _) (Kv w _))
theorem K1 [h:Ze P t z]{us:LV}(G:z.cells=us.toArray)
  (hK:∀b w',sX w w'->↑w<=b->QY w'.heap b t us->K (QN f d (sP b)) w'):XO P ⟨d,.alloc t,ty,pS,af,gd⟩ f w K:=by
 have H:(execOp (ev f) ⟨d,.alloc t,ty,pS,af,gd⟩).run P w=.ok (.value (.pointer (some ⟨↑w,0,none⟩))) (w.alloc (.cells us.toArray t)):=by
  have hi:=h.i;cases E:P.info? t with
  | none=>simp[E]at hi
  | some i =>
   simp[E]at hi;simp[execOp,Instr.alloc,newVar,newRow,zeroValue,typeInfo,E,hi,G]
 exact xv H (hK _ _ (O5.alloc w _) (Lv _) (Kv w _))
def yh (sz:Nat):LV->List (LV)->Prop
 | [],[]=>True
 | v::vs,u::us=>v.cells=u.toArray/\u.length=sz/\yh sz vs us
 | _,_=>False
theorem ja {sz:Nat}:∀(vs:LV) (us:List (LV)) (E:Nat) (pre rest:LV),yh sz vs us->pre.length=E*sz->rest.length=vs.length*sz ->
  Instr.fill (λi=>some (i*sz,sz)) (pre++rest).toArray ((vs.zipIdx E).map λx=>(x.2,x.1))=some (pre++us.flatten).toArray
 | [],[],E,pre,rest,_,_,G=>by
  have:rest=[]:=Lr (oA G);subst this;simp[Instr.fill]
 | [],_::_,_,_,_,h,_,_=>h.elim
 | _::_,[],_,_,_,h,_,_=>h.elim
 | v::vs,u::us,E,pre,rest,h,H,G=>by
  obtain⟨I,J,T⟩:=h;have ha:sz<=rest.length:=by rw[G];simp[Oq]
  have ih:=ja vs us (E+1) (pre++u) (rest.drop sz) T (by simp[H,J,Oq]) (by simp only[Oa,G,oX,Oq,Nat.one_mul];omega);simp only[List.zipIdx_cons,oY];unfold Instr.fill;have V:v.cells.size=sz:=by rw[I];simp[J]
  simp only[V];rw[OT (by simp;omega)];have key:v.cells.zipIdx.foldl (λcs (x:O2×Nat)=>cs.setIfInBounds (E*sz+x.2) x.1) (pre++rest).toArray=(pre++u++rest.drop sz).toArray:=by
   rw[<-Array.foldl_toList,Array.toList_zipIdx,I];obtain⟨g1,Y⟩:=Great.foldl_set (E*sz) u 0 (pre++rest).toArray;apply Array.ext';apply M2;intro k;simp only[Array.getElem?_toList];rw[(Y k)];simp only[OD,Od,oN,o0];split
   ·rename_i O;rw[LB,ML oa,Mn oa,<-H]
   rename_i O;by_cases S:k<pre.length
   ·rw[LB,Mn S,Mn S]
   rw[LB,ML oa,ML oa];by_cases hb:k<pre.length+sz
   ·exfalso;apply O;omega
   rw[ML oa,ME];congr 1;omega
  have he:=ih;rw[LB pre u]at key;rw[show(v.cells.zipIdx.foldl (λcs (x:O2×Nat)=>cs.setIfInBounds (E*sz+x.2) x.1) (pre++rest).toArray)=(pre++u++rest.drop sz).toArray by rw[key,LB]];rw[ih];simp
theorem jT (f:Fr):∀(ps:List (Nat×O3)) (i:Nat),ps.map (·.1)=oS i ps.length->(ps.map λx=>(x.1,ev f x.2))=((ps.map λx=>ev f x.2).zipIdx i).map λx=>(x.2,x.1)
 | [],_,_=>rfl
 | p::ps,i,h=>by
  simp only[oY,oX,OC,List.cons.injEq]at h;simp only[oY,List.zipIdx_cons];rw[jT f ps (i+1) h.2,h.1]
theorem Xx {e bys:Nat}[h:Sl P t e sz bys z]{parts:List (Nat×O3)}{us:List (LV)}(G:parts.map (·.1)=oS 0 n)(H:parts.length=n)(I:0<n)(Y:n*sz<=1000000)
  (J:yh sz (parts.map λx=>ev f x.2) us)
  (hK:∀b w',sX w w'->↑w<=b->QY w'.heap b e us.flatten->K (QN f d (sL b n n)) w'):XO P ⟨d,.buildSlice t n parts.toArray,ty,pS,af,gd⟩ f w K:=by
 obtain⟨ie,O,S,E,_⟩:=Sl.info h;subst H;have hm:0<parts.length*sz:=Nat.mul_pos I h.pos;have T:Instr.fill (λi=>some (i*ie.size,ie.size)) ((Array.range (parts.length*ie.size)).map (z.cells[· % z.cells.size]!)) (parts.toArray.map λ(i,x)=>(i,ev f x)).toList=some us.flatten.toArray:=by
  rw[E];have:=ja (parts.map λx=>ev f x.2) us 0 [] ((Array.range (parts.length*sz)).map (z.cells[· % z.cells.size]!)).toList J od od;simp only[Om,Array.toArray_toList]at this;rw[<-this,<-jT f parts 0 G];simp
 have V:(execOp (ev f) ⟨d,.buildSlice t parts.length parts.toArray,ty,pS,af,gd⟩).run P w=.ok (.value (.slice (some ⟨↑w,0,none⟩) parts.length parts.length)) (w.alloc (.cells us.flatten.toArray e)):=by
  have:=run_buildSlice (P:=P) w t e parts.length (parts.toArray.map λ(i,x)=>(i,ev f x)) us.flatten.toArray ie z h.u O S (by rw[E];omega) (by rw[E];omega) T;simp only[execOp,Sem.run_bind,this,Result.andThen_ok,Sem.run_pure]
 exact xv V (hK _ _ (O5.alloc w _) (Lv _) (Kv w _))
theorem jD {base e:Nat}{bys:Nat}[h:Sl P t e sz bys z]{v:O2}{cs:LV}(G:w.ownsRow base e sz v n cs)
  {a:Addr} {m c:Nat} {news:LV} (H:news.length=m*sz) (T:∀j u,news[j]?=some u->w.cell? (a.add j)=some u) (h1:∀u∈news,u.oneCell'=true)
  (hb:n+m<=1099511627776) (hs:bys<=128) (he:base<=↑w):
  ∃v' w',(Builtin.append_ #[t,t] ty #[v,.slice (some a) m c]).run P w=.ok v' w'/\w'.ownsRow base e sz v' (n+m) (cs++news)/\O5 (ob v) w w'/\(∀b∈ob v',b∈ob v\/↑w<=b):=by
 obtain⟨i,hi,Y,J,ha⟩:=Sl.info h;have hc:(n+m)*bys<=140737488355328:=LH (Nat.mul_le_mul hb hs) oa;have hf:n+m<=maxLen:=by simp only[maxLen];omega
 by_cases hg:∃g cap cur,v=sL g n cap/\w.heap[g]?=some (.cells cur e (0,0))/\n+m<=cap
 ·obtain⟨v',w',S,ho,ht,_⟩:=run_append_own (P:=P) w base t ty e i z sz bys h.u hi Y J ha h.zs h.pos v n cs G a m c news H T h1 hf hc he;refine⟨v',w',S,ho,by rw[yE];exact O5.of_grown ht,?_⟩;obtain⟨g,cap,cur,rfl,hh,O⟩:=hg;rcases G.2 with⟨h2,_⟩|⟨g2,cap2,hj,h2,h3,h4,h5,h6,h7,h8⟩
  ·cases h2
  cases h2
  have hu:n*i.size+news.length<=hj.size:=by rw[H,h7,J,<-Mt];exact LY _ O
  rw[(run_append_room (P:=P) w t ty e i h.u hi g n cap hj h4 a m c news (by rw[J];exact H) T h1 O hu)]at S;cases S
  intro b E;exact .inl E
 have new:∀(old:Nat),old<n+m->∀I,I=(Obj.cells (cs.toArray++news.toArray++Builtin.zeroCells z.cells (grownCap w (n+m) old e - (n+m))) e) ->
   (w.drew.alloc I).ownsRow base e sz (.slice (some ⟨↑w,0,none⟩) (n+m) (grownCap w (n+m) old e)) (n+m) (cs++news):=by
  intro old ho I hv;subst hv;have hge:=grownCap_ge w (n+m) old e;have hp:grownCap w (n+m) old e<=maxLen:=grownCap_le_maxLen w (n+m) old e hf;have hq:(cs++news).length=(n+m)*sz:=by rw[Lk,G.1,H,Mt]
  refine⟨hq,.inr ⟨↑w,_,_,U,he,Kv w.drew _,hge,hp,?_,?_⟩⟩
  ·simp only[Array.size_append,Od,size_zeroCells,h.zs,G.1,H,<-Oq];congr 1;omega
  simp only[Array.toList_append,o6];rw[<-LB,<-hq];exact List.take_left
 have stp:∀I,O5 (ob v) w (w.drew.alloc I):=λI=>⟨U,U,U,by rw[V1];exact NU _,λk hk _=>qY w.drew I k hk⟩;have fin:∀(b:Nat),b∈ob (.slice (some ⟨↑w,0,none⟩) (n+m) 0)->b∈ob v\/↑w<=b:=λb E=>by simp[ob]at E;omega
 rcases G.2 with⟨rfl,rfl⟩|⟨g,cap,cur,rfl,h9,hh,hA,hp,hB,hC⟩
 ·have hx:cs=[]:=Lr (oA G.1);subst hx;by_cases hm:m=0
  ·subst hm;have V:news=[]:=Lr (oA H);subst V;refine⟨nS,w,?_,QD _ _ _ _,O5.Z _ _,λb E=>by simp[ob]at E⟩;simp[Builtin.append_,run_underlying h.u,sizeOf,typeInfo,hi,Builtin.lenOf,Builtin.firstCells,loadCells,loadCellsFrom]
  have S:=run_append_nil (P:=P) w t ty e i z h.u hi Y a m c news (by rw[J];exact H) T oa oa (by rw[ha];have hw:=hc;simp only[oZ]at hw;omega);have V:=new 0 oa _ U;simp only[oZ,Om,Array.empty_append]at V ⊢;exact⟨_,_,S,V,stp _,λb E=>fin b E⟩
 have O:cap<n+m:=by
  rcases Np cap (n+m)with hy|hge
  ·exact hy
  exact OW ⟨g,cap,cur,U,hh,hge⟩ hg
 have h0:∀j u,cs[j]?=some u->w.cell? ((⟨g,0,none⟩:Addr).add j)=some u:=G.cells (g:=g) U;exact⟨_,_,(run_append_grow (P:=P) w t ty e i z h.u hi Y ⟨g,0,none⟩ n cap cs (by rw[J];exact G.1) h0 a m c news (by rw[J];exact H) T O oa (growslice_fits O (by rw[ha];exact hc))),new cap O _ U,stp _,λb E=>fin b E⟩
theorem Q2 {e bys:Nat}[h:Sl P t e sz bys z]{s:O3}{base:Nat}{v:O2}{cs:LV}(E:w.ownsRow base e sz v n cs)(G:ev f s=v)
  {a:Addr} {m c:Nat} {news:LV} (H:ev f y=.slice (some a) m c) (I:news.length=m*sz) {L:LN} (J:At L w.heap a news) (O:∀u∈news,u.oneCell'=true)
  (S:n+m<=1099511627776) (T:base<=↑w)
  (hK:∀v' w',w'.ownsRow base e sz v' (n+m) (cs++news)->O5 (ob v) w w'->(∀b∈ob v',b∈ob v\/↑w<=b)->K (QN f d v') w') (V:bys<=128:=by decide):
  XO P ⟨d,.call ⟨.builtin .append,#[s,y],#[t,t]⟩,ty,pS,af,gd⟩ f w K:=by
 obtain⟨v',w',Y,h2,h3,h4⟩:=jD (P:=P) (t:=t) (ty:=ty) E I J.cells O S V T (c:=c);have ha:(execOp (ev f) ⟨d,.call ⟨.builtin .append,#[s,y],#[t,t]⟩,ty,pS,af,gd⟩).run P w=.ok (.value v') w':=by
  simp[execOp,resolve,invoke,builtin,G,H,Y]
 exact xv ha (hK v' w' h2 h3 h4)
end
def QpA (P:O4)(t:Nat):Option (LV×LN):=match P.info? t,P.underlying t with
 | some it,some (.struct fs)=>match it.zero,fs.toList.mapM (λf=>(P.info? f.type).bind λi=>if i.size=1 then some f.offset else none)with
  | some (.agg zs),some offs=>some (zs.toList,offs)
  | _,_=>none
 | some it,some (.array n e)=>match it.zero,P.info? e with
  | some (.agg zs),some ie=>if ie.size=1 then some (zs.toList,oV n)else none
  | _,_=>none
 | _,_=>none
class Bs (P:O4)(t:Nat)(zs:outParam (LV))(offs:outParam (LN)):Prop where
 h:QpA P t=some (zs,offs):=by first|kernel_rfl|decide|rfl|exact sY (by kernel_rfl)
 b:offs.all (·<zs.length)=true:=by first|kernel_rfl|decide|rfl|exact sY (by kernel_rfl)
def bld (offs:LN)(zs:LV):List (Nat×O2)->LV
 | []=>zs
 | (j,v)::ps=>bld offs (zs.set (offs.getD j 0) v) ps
def Qnt:LV->Prop
 | []=>True
 | v::vs=>v.cells=#[v]/\Qnt vs
theorem y9 {place:Nat->Option (Nat×Nat)}{offs:LN}(G:∀j,j<offs.length->place j=some (offs.getD j 0,1)):∀(ps:List (Nat×O2)) (zs:LV),Qnt (ps.map (·.2))->ps.all (λp=>p.1<offs.length)=true ->
  (∀o∈offs,o<zs.length)->Instr.fill place zs.toArray ps=some (bld offs zs ps).toArray
 | [],zs,_,_,_=>rfl
 | (j,v)::ps,zs,H,E,I=>by
  simp only[oU,oM,decide_eq_true_eq]at E;have S:offs.getD j 0<zs.length:=I _ (by simp[oR,Og E.1]);unfold Instr.fill;simp only[(G j E.1)];have J:v.cells=#[v]:=H.1;simp only[J];rw[OT (by rw[show(#[v]:Array O2).size=1 from rfl,LQ];simp only[ne_eq,not_true,decide_false,Bool.false_or,decide_eq_true_eq];omega)];have:(#[v]:Array O2).zipIdx.foldl (λcs (x:O2×Nat)=>cs.setIfInBounds (offs.getD j 0+x.2) x.1) zs.toArray=(zs.set (offs.getD j 0) v).toArray:=by
   simp[Array.zipIdx]
  rw[this];exact y9 G ps _ H.2 E.2 (λo O=>by rw[L9];exact I o O)
theorem QeC {zs:LV}{offs:LN}(h:QpA P t=some (zs,offs))(hb:offs.all (·<zs.length)=true)(ps:List (Nat×O2))(T:Qnt (ps.map (·.2)))(V:ps.all (λp=>p.1<offs.length)=true):
  P.built t ps=some (bld offs zs ps).toArray:=by
 have Y:∀o∈offs,o<zs.length:=λo ho=>oA (Mg.1 hb o ho)
 unfold QpA at h;unfold Program.built;cases hi:P.info? t with
 | none=>simp[hi]at h
 | some it =>
  cases hu:P.underlying t with
  | none=>simp[hi,hu]at h
  | some dd =>
   simp only[hi,hu]at h;cases dd <;> simp only[]at h <;> try (cases h)
   case struct fs =>
    cases E:it.zero with
    | none=>simp[E]at h
    | some z =>
     cases z <;> simp only[E]at h <;> try (cases h)
     rename_i za;cases I:fs.toList.mapM (λf=>(P.info? f.type).bind λi=>if i.size=1 then some f.offset else none)with
     | none=>simp[I]at h
     | some offs' =>
      simp only[I,Option.some.injEq,Prod.mk.injEq]at h;obtain⟨rfl,rfl⟩:=h;have key:∀(l:List Field) (offs:LN),l.mapM (λf=>(P.info? f.type).bind λi=>if i.size=1 then some f.offset else none)=some offs ->
        l.mapM (λf=>(P.info? f.type).map λi=>(f.offset,i.size))=some (offs.map λo=>(o,1)):=by
       intro l;induction l with
       | nil=>intro offs h;simp at h;subst h;rfl
       | cons f l ih =>
        intro offs h;simp only[List.mapM_cons]at h ⊢;cases J:P.info? f.type with
        | none=>simp[J]at h
        | some i =>
         by_cases G:i.size=1
         ·simp only[J,Option.bind_some,G,if_true,Option.bind_eq_bind]at h;cases O:l.mapM (λf=>(P.info? f.type).bind λi=>if i.size=1 then some f.offset else none)with
          | none=>simp[O]at h
          | some os =>
           simp[O]at h;subst h;simp[ih os O,G]
         simp[J,G]at h
      simp only[E,(key _ _ I),Value.cells];rw[<-y9 (place:=λj=>((offs'.map λo=>(o,1)).toArray)[j]?) (λj H=>by simp[Og H,oR]) ps za.toList T V Y]
   case array n e =>
    cases E:it.zero with
    | none=>simp[E]at h
    | some z =>
     cases z <;> simp only[E]at h <;> try (cases h)
     rename_i za;cases S:P.info? e with
     | none=>simp[S]at h
     | some ie =>
      simp only[S]at h;split at h
      ·rename_i G;simp only[Option.some.injEq,Prod.mk.injEq]at h;obtain⟨rfl,rfl⟩:=h;simp only[E,S,Value.cells];rw[<-y9 (place:=λi=>some (i*ie.size,ie.size)) (λj H=>by simp at H;simp[G,oR,H]) ps za.toList T V Y]
      cases h
theorem Qv {f:Fr}{pS:String}{zs:LV}{offs:LN}[h:Bs P t zs offs]{parts:List (Nat×O3)}
  (E:Qnt (parts.map λx=>ev f x.2)) (G:parts.all (λp=>p.1<offs.length)=true:=by rfl):
  (execOp (ev f) ⟨d,.build t parts.toArray,ty,pS,af,gd⟩).run P w=.ok (.value (.agg (bld offs zs (parts.map λx=>(x.1,ev f x.2))).toArray)) w:=by
 simp only[execOp,Sem.run_bind,(run_build (P:=P) w t (parts.toArray.map λ(i,x)=>(i,ev f x)) _ (by simpa using(QeC h.h h.b (parts.map λx=>(x.1,ev f x.2)) (by rw[List.map_map];exact E) (by rw[List.all_map];exact G)))),Result.andThen_ok,Sem.run_pure]
section
variable {K:Fr->O1->Prop}{f:Fr}{pS:String}{l:xE}
theorem QQ {off:Nat}[Zg P t j off]{E:O3}{o:Nat}(hx:ev f E=.pointer (some ⟨b,o,none⟩))(h:XL P ops K l (QN f d (.pointer (some ⟨b,o+off,none⟩))) w)(G:Z9 ops f ⟨d,.fieldAddr t E j,ty,pS,af,gd⟩=true:=by rfl):XL P ops K (⟨d,.fieldAddr t E j,ty,pS,af,gd⟩::l) f w:=x (KA hx) h G
theorem Xn [X6 P t]{E:O3}{cs:LV}{u:O2}(G:QY w.heap b T cs)(hx:ev f E=.pointer (some ⟨b,j,none⟩))(H:cs[j]?=some u)(h:XL P ops K l (QN f d u) w)(I:Z9 ops f ⟨d,.load t E,ty,pS,af,gd⟩=true:=by rfl):XL P ops K (⟨d,.load t E,ty,pS,af,gd⟩::l) f w:=x (Ql G hx H) h I
theorem QS [Ag P t sz]{E:O3}{cs:LV}(G:QY w.heap b T cs)(hx:ev f E=sP b)(H:cs.length=sz)(h:XL P ops K l (QN f d (sT cs)) w)(I:Z9 ops f ⟨d,.load t E,ty,pS,af,gd⟩=true:=by rfl):XL P ops K (⟨d,.load t E,ty,pS,af,gd⟩::l) f w:=x (Zr G hx H) h I
theorem QF {E:O3}{e G bys:Nat}[Sl P t e G bys z]{L:LN}{cs:LV}{v:O2}(I:Zo L H v n sz cs)(J:ev f E=v)(h:XL P ops K l (QN f d (sS n)) w)(O:Z9 ops f ⟨d,.call ⟨.builtin .len,#[E],#[t]⟩,ty,pS,af,gd⟩=true:=by rfl):XL P ops K (⟨d,.call ⟨.builtin .len,#[E],#[t]⟩,ty,pS,af,gd⟩::l) f w:=x (Yx I J) h O
theorem QJ {off:Nat}[Zg P t j off]{E:O3}{o:Nat}(hx:ev f E=.pointer (some ⟨b,o,none⟩)):∀w',(execOp (ev f) ⟨d,.fieldAddr t E j,ty,pS,af,gd⟩).run P w'=.ok (.value (.pointer (some ⟨b,o+off,none⟩))) w':=λ_=>KA hx
theorem Qo {off:Nat}[Zg P t j off]{E:O3}{o:Nat}{G:Nat}[X6 P G]{d2:xF}{I:Nat}{pS2:String}{J:xD}{O:xt}{H:O3}{cs:LV}{u:O2}(hx:ev f E=.pointer (some ⟨b,o,none⟩))(S:QY w.heap b T cs)(V:ev (QN f d (.pointer (some ⟨b,o+off,none⟩))) H=.pointer (some ⟨b,i,none⟩))(Y:cs[i]?=some u)(h:XL P ops K l (QN (QN f d (.pointer (some ⟨b,o+off,none⟩))) d2 u) w)
  (hg:Z9 ops f ⟨d,.fieldAddr t E j,ty,pS,af,gd⟩=true:=by rfl) (ha:Z9 ops (QN f d (.pointer (some ⟨b,o+off,none⟩))) ⟨d2,.load G H,I,pS2,J,O⟩=true:=by rfl):XL P ops K (⟨d,.fieldAddr t E j,ty,pS,af,gd⟩::⟨d2,.load G H,I,pS2,J,O⟩::l) f w:=QQ hx (Xn S V Y h ha) hg
theorem Za {e bys:Nat}[Sl P t e sz bys z]{parts:List (Nat×O3)}{K:Fr->O1->Prop}(us:List (LV))(hK:∀b w',sX w w'->↑w<=b->QY w'.heap b e us.flatten->K (QN f d (sL b n n)) w')(E:parts.map (·.1)=oS 0 n:=by rfl)(G:parts.length=n:=by rfl)(H:0<n:=by decide)(I:n*sz<=1000000:=by decide)(J:yh sz (parts.map λx=>ev f x.2) us:=by first|exact(oB)|exact(oD)):XO P ⟨d,.buildSlice t n parts.toArray,ty,pS,af,gd⟩ f w K:=Xx E G H I J hK
theorem Zl {E:O3}(us:LV)(hK:∀b w',sX w w'->↑w<=b->QY w'.heap b t us->XL P ops K l (QN f d (sP b)) w')(hx:(ev f E).cells=us.toArray:=by rfl)(G:Z9 ops f ⟨d,.box t E,ty,pS,af,gd⟩=true:=by rfl):XL P ops K (⟨d,.box t E,ty,pS,af,gd⟩::l) f w:=xl G (yG hx hK)
end
section
variable {κ:Type}[DecidableEq κ]
def xd:List (κ×O2)->κ->Option O2
 | [],_=>none
 | (k',v)::m,k=>if k'=k then some v else xd m k
def xh:List (κ×O2)->κ->O2->List (κ×O2)
 | [],k,v=>[(k,v)]
 | (k',v')::m,k,v=>if k'=k then(k',v)::m else(k',v')::xh m k v
theorem XG (m:List (κ×O2))(k k':κ)(v:O2):xd (xh m k v) k'=if k=k' then some v else xd m k':=by
 induction m with
 | nil=>simp[xd,xh]
 | cons p m ih =>
  obtain⟨q,u⟩:=p;simp only[xh];by_cases h:q=k
  ·subst h;simp[xd];by_cases E:q=k' <;> simp[E]
  simp only[h,if_false,xd,ih];by_cases E:q=k'
  ·subst E;simp[Ne.symm h]
  simp[E]
def fnd (k:κ):List κ->List MapEntry->Nat->Option (Nat×O2)
 | q::ks,e::es,i=>if k=q then some (i,e.val)else fnd k ks es (i+1)
 | _,_,_=>none
end
class Key (P:O4)(kt:Nat){κ:Type}[DecidableEq κ](enc:κ->O2):Prop where
 check:∀(w:O1) (em:Bool) (k:κ),(Instr.checkKey em 10000 kt (enc k)).run P w=.ok () w
 find:∀(w:O1) (k:κ) (ks:List κ) (es:List MapEntry),es.map (·.key)=ks.map enc->(Instr.findKey kt (enc k) es).run P w=.ok (fnd k ks es 0) w
 same:∀k,Instr.sameBits 10000 (enc k) (enc k)=true
abbrev Uv (n:Int):O2:=sS n
abbrev Jw (p:Int×Int):O2:=.agg #[sS p.1,sS p.2]
abbrev JY (s:ByteArray):O2:=.string s
theorem Qmm (G:P.underlying kt=some (.int .i64)):Key P kt Uv:=by
 refine⟨λw em k=>?_,λw k ks es h=>?_,λk=>by simp[Instr.sameBits]⟩
 ·have H:∀n,(Instr.checkKey em (n+1) kt (Uv k)).run P w=.ok () w:=λn=>by simp[Instr.checkKey,run_underlying G]
  exact H 9999
 have key:∀(ks:LI) (es:List MapEntry) (i:Nat),es.map (·.key)=ks.map Uv->Instr.findNow (.int .i64) (Uv k) es i=some (fnd k ks es i):=by
  intro ks;induction ks with
  | nil=>intro es i h;simp at h;subst h;rfl
  | cons q ks ih =>
   intro es i h;cases es with
   | nil=>simp at h
   | cons e es =>
    simp only[oY,List.cons.injEq]at h;simp only[Instr.findNow,h.1,Instr.sameNow,Uv,if_true,fnd];by_cases E:k=q
    ·subst E;simp
    have:(k == q)=false:=by simpa using E
    simp[E,this,(ih es (i+1) h.2)]
 simp[Instr.findKey,run_underlying G,key ks es 0 h]
theorem Qml (G:P.underlying kt=some .string):Key P kt JY:=by
 refine⟨λw em k=>?_,λw k ks es h=>?_,λk=>by simp[Instr.sameBits,(MapKept.bytes_beq k k).2 rfl]⟩
 ·have H:∀n,(Instr.checkKey em (n+1) kt (JY k)).run P w=.ok () w:=λn=>by simp[Instr.checkKey,run_underlying G]
  exact H 9999
 have key:∀(ks:List ByteArray) (es:List MapEntry) (i:Nat),es.map (·.key)=ks.map JY->Instr.findNow .string (JY k) es i=some (fnd k ks es i):=by
  intro ks;induction ks with
  | nil=>intro es i h;simp at h;subst h;rfl
  | cons q ks ih =>
   intro es i h;cases es with
   | nil=>simp at h
   | cons e es =>
    simp only[oY,List.cons.injEq]at h;simp only[Instr.findNow,h.1,Instr.sameNow,JY,fnd];by_cases E:k=q
    ·subst E;simp[(MapKept.bytes_beq k k).2 rfl]
    have:(k == q)=false:=by
     cases I:(k == q)with
     | false=>rfl
     | true=>exact OW ((MapKept.bytes_beq k q).1 I) E
    simp[E,this,(ih es (i+1) h.2)]
 simp[Instr.findKey,run_underlying G,key ks es 0 h]
theorem yr {e:Nat}(V:P.underlying kt=some (.array 2 e))(I:P.underlying e=some (.int .i64))(E:(P.info? e).map (·.size)=some 1)(w:O1)(p q:Int×Int):
  (Op.equal kt (Jw p) (Jw q)).run P w=.ok (decide (p=q)) w:=by
 obtain⟨a,b⟩:=p;obtain⟨c,d⟩:=q;cases hi:P.info? e with
 | none=>simp[hi]at E
 | some ie =>
  simp[hi]at E;have J:∀w,(isAgg e).run P w=.ok false w:=λw=>by simp[isAgg,run_underlying I]
  have G:∀(x y:Int) (w:O1),(part e #[sS x,sS y] 0).run P w=.ok (sS x) w:=λx y w=>by simp[part,J]
  have O:∀(x y:Int) (w:O1),(part e #[sS x,sS y] 1).run P w=.ok (sS y) w:=λx y w=>by simp[part,J]
  have H:∀(m:Nat) (x y:Int) (w:O1),(Op.equalIn (m+1) e (sS x) (sS y)).run P w=.ok (x == y) w:=λm x y w=>by simp[Op.equalIn,run_underlying I]
  simp only[Op.equal,Op.maxDepth,Jw];unfold Op.equalIn;simp only[Sem.run_bind,run_underlying V,Result.andThen_ok,sizeOf,typeInfo,run_program,hi,Sem.run_pure,E];simp only[Std.Legacy.Range.forIn_eq_forIn_range',Std.Legacy.Range.size,OJ,Nat.add_sub_cancel,Nat.div_one,OC,List.range'_zero,List.forIn_cons,List.forIn_nil,OP,Nat.one_mul,oZ];by_cases S:a=c
  ·subst S;by_cases T:b=d
   ·subst T;simp[G,O,H]
   simp[G,O,H,T]
  simp[G,H,S]
theorem Qjh {e:Nat}(E:P.underlying kt=some (.array 2 e))(H:P.underlying e=some (.int .i64))(G:(P.info? e).map (·.size)=some 1):Key P kt Jw:=by
 refine⟨λw em k=>?_,λw k ks es h=>?_,λk=>?_⟩
 ·obtain⟨a,b⟩:=k;cases hi:P.info? e with
  | none=>simp[hi]at G
  | some ie =>
   simp[hi]at G;have J:∀w,(isAgg e).run P w=.ok false w:=λw=>by simp[isAgg,run_underlying H]
   have S:∀(x y:Int) (w:O1),(part e #[sS x,sS y] 0).run P w=.ok (sS x) w:=λx y w=>by simp[part,J]
   have T:∀(x y:Int) (w:O1),(part e #[sS x,sS y] 1).run P w=.ok (sS y) w:=λx y w=>by simp[part,J]
   have V:∀(m:Nat) (x:Int) (w:O1),(Instr.checkKey em (m+1) e (sS x)).run P w=.ok () w:=λm x w=>by simp[Instr.checkKey,run_underlying H]
   simp only[Jw];unfold Instr.checkKey;simp only[Sem.run_bind,run_underlying E,Result.andThen_ok,sizeOf,typeInfo];simp[Std.Legacy.Range.forIn_eq_forIn_range',Std.Legacy.Range.size,OC,hi,G,S,T,V]
 ·have Y:∀es i,es.map (·.key)=ks.map Jw->Instr.findNow (.array 2 e) (Jw k) es i=none\/es=[]:=by
   intro es i h;cases es with
   | nil=>exact .inr U
   | cons e es=>left;simp[Instr.findNow,Instr.sameNow]
  have ask:∀(ks:xx) (es:List MapEntry) (i:Nat),es.map (·.key)=ks.map Jw->(Instr.findAsking kt (Jw k) es i).run P w=.ok (fnd k ks es i) w:=by
   intro ks;induction ks with
   | nil=>intro es i h;simp at h;subst h;simp[Instr.findAsking,fnd]
   | cons q ks ih =>
    intro es i h;cases es with
    | nil=>simp at h
    | cons e es =>
     simp only[oY,List.cons.injEq]at h;simp only[Instr.findAsking,h.1,Sem.run_bind,yr E H G,Result.andThen_ok,fnd];by_cases O:k=q
     ·subst O;simp
     simp[O,(ih es (i+1) h.2)]
  rcases Y es 0 h with I|I
  ·simp[Instr.findKey,run_underlying E,I,ask ks es 0 h]
  subst I;have:ks=[]:=by simpa using h.symm
  subst this;simp[Instr.findKey,run_underlying E,Instr.findNow,fnd]
 simp[Instr.sameBits]
class Mp (P:O4)(t:Nat)(kt et:outParam Nat)(z:outParam O2):Prop where
 u:P.underlying t=some (.map kt et):=by first|kernel_rfl|decide|rfl|exact sY (by kernel_rfl)
 z:(P.info? et).map (·.zero)=some (some z):=by first|kernel_rfl|decide|rfl|exact sY (by kernel_rfl)
def Yr {κ:Type}(enc:κ->O2)(H:xC)(b:Nat)(m:List (κ×O2)):Prop :=
 ∃es clock,H[b]?=some (.map es clock)/\es.toList.map (λe=>(e.key,e.val))=m.map (λp=>(enc p.1,p.2))
section
variable {κ:Type}{enc:κ->O2}
theorem Yr.lt {m:List (κ×O2)}(h:Yr enc H b m):b<H.size:=by
 obtain⟨es,c,E,_⟩:=h;exact(LJ.1 E).1
theorem Yr.J {X:LN}{m:List (κ×O2)}(h:Yr enc w.heap b m)(E:O5 X w w')(G:b∉X):Yr enc w'.heap b m:=by
 have H:=h.lt;obtain⟨es,c,I,J⟩:=h;exact⟨es,c,by rw[E.block b H G];exact I,J⟩
theorem Yr.I {m:List (κ×O2)}(h:Yr enc w.heap b m)(E:sX w w'):Yr enc w'.heap b m:=h.J E od
theorem Qby {m:List (κ×O2)}{es:List MapEntry}(h:es.map (λe=>(e.key,e.val))=m.map (λp=>(enc p.1,p.2))):es.map (·.key)=(m.map (·.1)).map enc:=by
 have:=OV (List.map Prod.fst) h;simp only[List.map_map]at this ⊢;exact this
variable [DecidableEq κ]
theorem U6 {k:κ}:∀{m:List (κ×O2)}{es:List MapEntry}{i:Nat},es.map (λe=>(e.key,e.val))=m.map (λp=>(enc p.1,p.2))->xd m k=none->fnd k (m.map (·.1)) es i=none
 | [],es,i,h,_=>by simp[fnd]
 | (q,u)::m,[],i,h,_=>by simp at h
 | (q,u)::m,e::es,i,h,E=>by
  simp only[oY,List.cons.injEq]at h;simp only[xd]at E;by_cases G:q=k
  ·simp[G]at E
  simp only[G,if_false]at E;simp only[oY,fnd,Ne.symm G,if_false];exact U6 h.2 E
theorem U5 {k:κ}{u:O2}:∀{m:List (κ×O2)}{es:List MapEntry}{i:Nat},es.map (λe=>(e.key,e.val))=m.map (λp=>(enc p.1,p.2))->xd m k=some u ->
  ∃j,fnd k (m.map (·.1)) es i=some (i+j,u)/\j<es.length/\(∃e,es[j]?=some e/\e.key=enc k) /\
   ∀v,(es.modify j λe=>{ e with key:=enc k,val:=v }).map (λe=>(e.key,e.val))=(xh m k v).map (λp=>(enc p.1,p.2))
 | [],es,i,_,h=>by simp[xd]at h
 | (q,x)::m,[],i,h,_=>by simp at h
 | (q,x)::m,e::es,i,h,E=>by
  simp only[oY,List.cons.injEq,Prod.mk.injEq]at h;simp only[xd]at E;by_cases G:q=k
  ·subst G;simp at E;subst E;refine⟨0,by simp[fnd,h.1.2],od,⟨e,rfl,h.1.1⟩,λv=>?_⟩;simp[xh,h.2]
  simp only[G,if_false]at E;obtain⟨j,H,T,⟨I,J,O⟩,S⟩:=U5 (i:=i+1) h.2 E;refine⟨j+1,?_,by simp;omega,⟨I,oA J,O⟩,λv=>?_⟩
  ·simp only[oY,fnd,Ne.symm G,if_false,H];congr 2;omega
  simp only[xh,G,if_false,List.modify_succ_cons,oY,S v,h.1]
end
section
variable {K:Fr->O1->Prop}{f:Fr}{pS:String}{κ:Type}[DecidableEq κ]
omit [DecidableEq κ] in
theorem YL (enc:κ->O2)
  (hK:∀b w',sX w w'->↑w<=b->Yr enc w'.heap b []->K (QN f d (.map (some b))) w'):XO P ⟨d,.makeMap t none,ty,pS,af,gd⟩ f w K:=by
 have E:(execOp (ev f) ⟨d,.makeMap t none,ty,pS,af,gd⟩).run P w=.ok (.value (.map (some ↑w))) (w.alloc (.map #[] 0)):=by
  simp[execOp,Instr.makeMap]
 exact xv E (hK _ _ (O5.alloc w _) (Lv _) ⟨#[],0,Kv w _,U⟩)
theorem Jh {es:Array MapEntry}{c:Nat}(h:w.heap[b]?=some (.map es c)):(getObj b).run P w=.ok (.map es c) w:=by
 simp[getObj,Sem.run,h]
theorem Uf {es E:Array MapEntry}{c G:Nat}(h:w.heap[b]?=some (.map es c)):(setObj b (.map E G)).run P w=.ok () { w with heap:=w.heap.setIfInBounds b (.map E G) }:=by
 simp[setObj,Sem.run,h]
theorem Vw [hm:Mp P t kt et z]{enc:κ->O2}[G:Key P kt enc]{x:O3}{m:List (κ×O2)}{k:κ}(h:Yr enc w.heap b m)(hx:ev f x=.map (some b))(I:ev f y=enc k):
  (execOp (ev f) ⟨d,.lookup t x y true,ty,pS,af,gd⟩).run P w=.ok (.value (match xd m k with|some u=>.tuple #[u,.bool true]|none=>.tuple #[z,.bool false])) w:=by
 obtain⟨es,c,J,E⟩:=h;have O:(zeroValue et).run P w=.ok z w:=by
  have:=hm.z;cases hi:P.info? et with
  | none=>simp[hi]at this
  | some i=>simp[hi]at this;simp[zeroValue,typeInfo,hi,this]
 simp only[execOp,Sem.run_bind,Instr.lookup,run_underlying hm.u,Result.andThen_ok,hx,I,Jh J,Sem.run_pure,G.check,(G.find w k (m.map (·.1)) es.toList (Qby E))];cases H:xd m k with
 | none=>rw[U6 E H];simp[O]
 | some u =>
  obtain⟨j,S,_⟩:=U5 (i:=0) E H;rw[S];simp
theorem JL [hm:Mp P t kt et z]{enc:κ->O2}[G:Key P kt enc]{x:O3}{m:List (κ×O2)}{k:κ}(h:Yr enc w.heap b m)(hx:ev f x=.map (some b))(I:ev f y=enc k):
  (execOp (ev f) ⟨d,.lookup t x y false,ty,pS,af,gd⟩).run P w=.ok (.value (match xd m k with|some u=>u|none=>z)) w:=by
 obtain⟨es,c,J,E⟩:=h;have O:(zeroValue et).run P w=.ok z w:=by
  have:=hm.z;cases hi:P.info? et with
  | none=>simp[hi]at this
  | some i=>simp[hi]at this;simp[zeroValue,typeInfo,hi,this]
 simp only[execOp,Sem.run_bind,Instr.lookup,run_underlying hm.u,Result.andThen_ok,hx,I,Jh J,Sem.run_pure,G.check,(G.find w k (m.map (·.1)) es.toList (Qby E))];cases H:xd m k with
 | none=>rw[U6 E H];simp[O]
 | some u =>
  obtain⟨j,S,_⟩:=U5 (i:=0) E H;rw[S];simp
theorem yq [hm:Mp P t kt et z]{enc:κ->O2}[I:Key P kt enc]{m:List (κ×O2)}{k:κ}{u:O2}(h:Yr enc w.heap b m):
  ∃w',(Instr.mapUpdate t (.map (some b)) (enc k) u).run P w=.ok () w'/\O5 [b] w w'/\Yr enc w'.heap b (xh m k u):=by
 have S:=h.lt;obtain⟨es,c,J,G⟩:=h;have E:=I.find w k (m.map (·.1)) es.toList (Qby G);have stp:∀T V,O5 [b] w { w with heap:=w.heap.setIfInBounds b (.map T V) }:=λT V =>
  ⟨rfl,rfl,rfl,od,λi hi Y=>by
   have:b≠i:=λe=>Y (by simp[e]);simp[Array.getElem?_setIfInBounds_ne this]⟩
 cases H:xd m k with
 | none =>
  rw[U6 G H]at E;refine⟨_,?_,stp (es.push { key:=enc k,val:=u,born:=c }) (c+1),es.push { key:=enc k,val:=u,born:=c },c+1,?_,?_⟩
  ·simp only[Instr.mapUpdate,Sem.run_bind,run_underlying hm.u,Result.andThen_ok,Jh J,I.check,E,Uf J]
  ·simp[S]
  have ha:xh m k u=m++[(k,u)]:=by
   clear G E;induction m with
   | nil=>rfl
   | cons p m ih =>
    obtain⟨q,x⟩:=p;by_cases O:q=k
    ·simp[xd,O]at H
    simp only[xd,O,if_false]at H;simp[xh,O,ih H]
  simp[ha,G]
 | some u0 =>
  obtain⟨j,hj,hp,⟨e,he,hb⟩,hc⟩:=U5 (i:=0) G H;rw[hj]at E;simp only[oZ]at E;have hh:∀w,(Instr.keyThatStays (enc k) (enc k)).run P w=.ok (enc k) w:=λw=>by simp[Instr.keyThatStays,I.same]
  have ho:((es[j]?).map (·.key)).getD (enc k)=enc k:=by
   have:es[j]?=some e:=by simpa using he
   simp[this,hb]
  refine⟨_,?_,stp (es.modify j λe=>{ e with key:=enc k,val:=u }) c,es.modify j λe=>{ e with key:=enc k,val:=u },c,?_,?_⟩
  ·simp only[Instr.mapUpdate,Sem.run_bind,run_underlying hm.u,Result.andThen_ok,Jh J,I.check,E,ho,hh,Uf J]
  ·simp[S]
  rw[Array.toList_modify];exact hc u
theorem XW [hm:Mp P t kt et z]{enc:κ->O2}[hk:Key P kt enc]{x v:O3}{m:List (κ×O2)}{k:κ}(h:Yr enc w.heap b m)(hx:ev f x=.map (some b))(E:ev f y=enc k)
  (hK:∀w',O5 [b] w w'->Yr enc w'.heap b (xh m k (ev f v))->K (QN f d undef) w'):XO P ⟨d,.mapUpdate t x y v,ty,pS,af,gd⟩ f w K:=by
 obtain⟨w',G,H,I⟩:=yq (P:=P) (t:=t) (k:=k) (u:=ev f v) h;exact xk (w':=w') (by simp[execOp,hx,E,G]) (hK w' H I)
theorem Jl [hm:Mp P t kt et z]{enc:κ->O2}[hk:Key P kt enc]{x v:O3}{m:List (κ×O2)}{k:κ}(h:Yr enc w.heap b m)(hx:ev f x=.map (some b))(E:ev f y=enc k)
  (hK:∀w',O5 [b] w w'->Yr enc w'.heap b (xh m k (ev f v))->K (QN f d undef) w'):XO P ⟨d,.insert t x y v,ty,pS,af,gd⟩ f w K:=by
 obtain⟨w',G,H,I⟩:=yq (P:=P) (t:=t) (k:=k) (u:=ev f v) h;exact xk (w':=w') (by simp[execOp,hx,E,G]) (hK w' H I)
end
section
variable {K:Fr->O1->Prop}{f:Fr}{pS:String}{l:xE}
theorem X7 {cs cs':LV}(h:QY w.heap b T cs):QY (w.setRow b cs'.toArray).heap b T cs':=setRow_heap w b cs.toArray cs'.toArray T (0,0) h
theorem jC (cs:LV)(j:Nat)(u:O2)(h:j<cs.length):cs.take j++[u]++cs.drop (j+1)=cs.set j u:=by
 rw[List.set_eq_take_append_cons_drop,OU h];simp
theorem Qu [h1:X6 P t]{x:O3}{cs:LV}{u:O2}(E:QY w.heap b T cs)(hx:ev f x=.pointer (some ⟨b,j,none⟩))(J:ev f y=u)(O:j<cs.length)(G:u.oneCell'=true)
  (hK:∀w',O5 [b] w w'->QY w'.heap b T (cs.set j u)->K (QN f d undef) w'):XO P ⟨d,.store t x y,ty,pS,af,gd⟩ f w K:=by
 have S:u.cells=#[u]:=by cases u <;> first|rfl|cases G
 have I:=run_storeCells_at P b j T [u] 0 cs.toArray w E (by simp;omega) (by simp[G]);simp only[OD,oP,jC cs j u O]at I;refine xk (w':=w.setRow b (cs.set j u).toArray) ?_ (hK _ (O5.setRow _ _ _) (X7 E));simp[execOp,hx,J,Instr.storeAt,Instr.sureAddr,storeVar,QdY,S,I]
def Zb:LV->Prop
 | []=>True
 | u::us=>u.oneCell'=true/\Zb us
theorem Zb.all:∀{us:LV},Zb us->∀u∈us,u.oneCell'=true
 | [],_,u,E=>by cases E
 | v::us,h,u,E=>by
  rcases Li.1 E with rfl|E
  ·exact h.1
  exact Zb.all h.2 u E
theorem Zv [h1:Ag P t sz]{x:O3}{cs us:LV}(E:QY w.heap b T cs)(hx:ev f x=sP b)(J:ev f y=sT us)(G:us.length=sz)(O:cs.length=sz)(S:Zb us)
  (hK:∀w',O5 [b] w w'->QY w'.heap b T us->K (QN f d undef) w'):XO P ⟨d,.store t x y,ty,pS,af,gd⟩ f w K:=by
 have I:=run_storeCells_at P b 0 T us 0 cs.toArray w E (by simp;omega) S.all;have e:(cs.take 0++us++cs.drop us.length)=us:=by rw[G,<-O];simp
 simp only[OD,oZ,e]at I;refine xk (w':=w.setRow b us.toArray) ?_ (hK _ (O5.setRow _ _ _) (X7 E));subst G;simp[execOp,hx,J,Instr.storeAt,Instr.sureAddr,storeVar,VR (sz:=us.length),Value.cells,I]
theorem Zy {x:O3}{e bys:Nat}[h:Sl P t e sz bys z]{o c:Nat}{k:IntKind}(hx:ev f x=.slice (some ⟨b,o,none⟩) n c)(E:ev f y=.int k i)(G:i<n):
  (execOp (ev f) ⟨d,.indexAddr t x y,ty,pS,af,gd⟩).run P w=.ok (.value (.pointer (some ⟨b,o+i*sz,none⟩))) w:=by
 have:=Xv (P:=P) (w:=w) (d:=d) (ty:=ty) (pS:=pS) (af:=af) (gd:=gd) (t:=t) hx E oa oa;rw[KD]at this;simpa using this
theorem Ql5 {e bys:Nat}[h:Sl P t e sz bys z]{x:O3}{k:IntKind}(hx:ev f x=.int k n)(J:ev f y=.int k' n)(O:bys*n<=281474976710656)(hn:n<=1099511627776)
  (hK:∀b w',sX w w'->↑w<=b->QY w'.heap b e (oO n z.cells.toList).flatten->K (QN f d (sL b n n)) w'):
  XO P ⟨d,.makeSlice t x y,ty,pS,af,gd⟩ f w K:=by
 obtain⟨i,hi,S,T,V⟩:=Sl.info h;have hb:i.bytes*n<=281474976710656:=by rw[V];exact O
 have Y:(i.bytes:Int)*(n:Int)<=281474976710656:=by
  have h:((i.bytes*n:Nat):Int)<=281474976710656:=oa
  rwa [Int.natCast_mul]at h
 have G:=run_make (P:=P) w t e i z h.u hi S k k' n n oa (NK _) Y oa;simp only[Ou]at G;have ha:madeCells z.cells (n*i.size)=(oO n z.cells.toList).flatten.toArray:=by
  have hc:z.cells.size=i.size:=by rw[h.zs,T]
  apply Array.ext';apply M2;intro j;simp only[madeCells,<-hc,Array.toList_map,Array.toList_range,List.getElem?_map];have he:∀n,(oO n z.cells.toList).flatten.length=n*z.cells.size:=λn=>od
  have key:∀n j,j<n*z.cells.size->(oO n z.cells.toList).flatten[j]?=some z.cells[j % z.cells.size]!:=by
   intro n;induction n with
   | zero=>intro j E;omega
   | succ n ih =>
    intro j E;rw[List.replicate_succ,List.flatten_cons];by_cases I:j<z.cells.size
    ·rw[Mn (oA I),M9 I];simp[I]
    rw[ML (by simp;omega)];have:=ih (j - z.cells.size) (by rw[Mt]at E;omega);rw[Array.length_toList,this];rw[<-Nat.mod_eq_sub_mod oa]
  by_cases E:j<n*z.cells.size
  ·rw[key n j E];simp[E]
  rw[MT (oA (Nat.le_of_not_lt E)),List.getElem?_eq_none (by rw[he];omega)];rfl
 rw[ha]at G;refine xv (w':=w.alloc (.cells (oO n z.cells.toList).flatten.toArray e)) (v:=.slice (some ⟨↑w,0,none⟩) n n) ?_ (hK _ _ (O5.alloc w _) (Lv _) (Kv w _));simp[execOp,hx,J,G]
theorem qH {e bys:Nat}[h:Sl P t e sz bys z]{x:O3}{k:IntKind}(hx:ev f x=.int k n)(G:ev f y=.int k' n)(E:n<=1099511627776)
  (hK:∀b w',sX w w'->↑w<=b->QY w'.heap b e (oO n z.cells.toList).flatten->K (QN f d (sL b n n)) w') (I:bys<=128:=by decide):
  XO P ⟨d,.makeSlice t x y,ty,pS,af,gd⟩ f w K:=Ql5 hx G (LH (Nat.mul_le_mul I E) oa) E hK
theorem ZP {k:IntKind}{y:Nat}{c:BoundsCode}(h:i<=y):(Instr.sliceBound (.int k i) y c).run P w=.ok i w:=by
 simp[Instr.sliceBound,asIntOf,h]
theorem Zo.cut {L:LN}{a:Addr}{cs:LV}(h:Zo L H (.slice (some a) n cap) n sz cs)(S:lo<=hi)(T:hi<=n):
  Zo L H (.slice (if cap=lo then some a else some (a.add (lo*sz))) (hi - lo) (cap - lo)) (hi - lo) sz ((cs.drop (lo*sz)).take ((hi - lo)*sz)):=by
 obtain⟨J,V,O⟩:=h;rcases O with⟨G,_⟩|⟨a',cap',G,Y,I⟩
 ·cases G
 cases G
 refine⟨?_,oa,.inr ?_⟩
 ·simp only[Ob,Oa,J,<-Nat.sub_mul];rw[Mj];exact LY _ oa
 split
 ·rename_i hc;have:hi - lo=0:=oa
  refine⟨a,cap - lo,by rw[this],oa,λu E=>?_,λu E=>?_,λj u E=>?_⟩
  ·simp[this]at E
  ·simp[this]at E
  simp[this]at E
 refine⟨a.add (lo*sz),cap - lo,U,oa,λu E=>by rw[YN];exact I.out u (L8 (LU E)),λu E=>by rw[YN];exact I.lt u (L8 (LU E)),λj u E=>?_⟩;rw[Addr.add_add];rw[LW]at E;split at E
 ·exact I.cell _ u (oA E)
 cases E
theorem QlV {e bys:Nat}[h:Sl P t e sz bys z]{x y1 y2:O3}{L:LN}{v:O2}{cs:LV}{k:IntKind}(G:Zo L H v n sz cs)(hx:ev f x=v)(I:ev f y1=.int k lo)(J:ev f y2=.int k' hi)
  (S:lo<=hi) (T:hi<=n):∃v',Zo L H v' (hi - lo) sz ((cs.drop (lo*sz)).take ((hi - lo)*sz))/\∀w,(execOp (ev f) ⟨d,.slice t x (some y1) (some y2) none,ty,pS,af,gd⟩).run P w=.ok (.value v') w:=by
 obtain⟨i,O,_,V,_⟩:=Sl.info h;rcases G.2.2 with⟨E,Y⟩|⟨a,cap,E,hc,ha⟩
 ·have e1:hi=0:=oa
  have e2:lo=0:=oa
  subst e1 e2;refine⟨nS,⟨od,oa,.inl ⟨rfl,rfl⟩⟩,λw=>?_⟩;simp[execOp,hx,E,I,J,Instr.sliceAt,Instr.slice,run_underlying h.u,Instr.sliceBounds,Instr.sliceBound,asIntOf,sizeOf,typeInfo,O]
 subst E;refine⟨_,G.cut S T,λw=>?_⟩;have e1:(Instr.sliceBound (.int k' hi) cap .sliceAcap).run P w=.ok hi w:=ZP oa;have e2:(Instr.sliceBound (.int k lo) hi .sliceB).run P w=.ok lo w:=ZP oa;simp[execOp,hx,I,J,Instr.sliceAt,Instr.slice,run_underlying h.u,Instr.sliceBounds,e1,e2,sizeOf,typeInfo,O,V]
theorem Qcs {e bys:Nat}[h:Sl P t e sz bys z]{x y1:O3}{L:LN}{v:O2}{cs:LV}{k:IntKind}(E:Zo L H v n sz cs)(hx:ev f x=v)(I:ev f y1=.int k lo)
  (J:lo<=n):∃v',Zo L H v' (n - lo) sz (cs.drop (lo*sz))/\∀w,(execOp (ev f) ⟨d,.slice t x (some y1) none none,ty,pS,af,gd⟩).run P w=.ok (.value v') w:=by
 obtain⟨i,O,_,T,_⟩:=Sl.info h;rcases E.2.2 with⟨G,V⟩|⟨a,cap,G,Y,ha⟩
 ·have e2:lo=0:=oa
  subst e2 V;have:cs=[]:=Lr (oA E.1);subst this;refine⟨nS,⟨od,oa,.inl ⟨rfl,rfl⟩⟩,λw=>?_⟩;simp[execOp,hx,G,I,Instr.sliceAt,Instr.slice,run_underlying h.u,Instr.sliceBounds,Instr.sliceBound,asIntOf,sizeOf,typeInfo,O]
 subst G;have S:=E.cut J (Lv n);have e:(cs.drop (lo*sz)).take ((n - lo)*sz)=cs.drop (lo*sz):=Lt (by rw[LX,E.1,<-Nat.sub_mul];exact Lv _);rw[e]at S;refine⟨_,S,λw=>?_⟩;have e2:(Instr.sliceBound (.int k lo) n .sliceB).run P w=.ok lo w:=ZP J;simp[execOp,hx,I,Instr.sliceAt,Instr.slice,run_underlying h.u,Instr.sliceBounds,e2,sizeOf,typeInfo,O,T]
theorem Qct {e bys:Nat}[h:Sl P t e sz bys z]{x y2:O3}{L:LN}{v:O2}{cs:LV}{k:IntKind}(G:Zo L H v n sz cs)(hx:ev f x=v)(I:ev f y2=.int k hi)
  (S:hi<=n):∃v',Zo L H v' hi sz (cs.take (hi*sz))/\∀w,(execOp (ev f) ⟨d,.slice t x none (some y2) none,ty,pS,af,gd⟩).run P w=.ok (.value v') w:=by
 obtain⟨i,J,_,T,_⟩:=Sl.info h;rcases G.2.2 with⟨E,V⟩|⟨a,cap,E,Y,ha⟩
 ·have e2:hi=0:=oa
  subst e2;refine⟨nS,⟨od,oa,.inl ⟨rfl,rfl⟩⟩,λw=>?_⟩;simp[execOp,hx,E,I,Instr.sliceAt,Instr.slice,run_underlying h.u,Instr.sliceBounds,Instr.sliceBound,asIntOf,sizeOf,typeInfo,J]
 subst E;have O:=G.cut (Ln hi) S;simp only[OP,List.drop_zero,OJ]at O;refine⟨_,O,λw=>?_⟩;have e2:(Instr.sliceBound (.int k hi) cap .sliceAcap).run P w=.ok hi w:=ZP oa;simp[execOp,hx,I,Instr.sliceAt,Instr.slice,run_underlying h.u,Instr.sliceBounds,e2,sizeOf,typeInfo,J]
end
section
variable {K:Fr->O1->Prop}{C:xA}{f:Fr}{w0:O1}{pS:String}{pl:xu}{i0:Nat}
theorem pi {x:O3}{e bys:Nat}[Sl P t e sz bys z]{L:LN}{cs:LV}{v:O2}{k:IntKind}
  (E:QR ops i0=⟨d,.indexAddr t x y,ty,pS,af,gd⟩) (h:Zo L H v n sz cs) (G:ev f x=v) (I:ev f y=.int k i) (hi:i<n)
  (hK:∀a,At L H a ((cs.drop (i*sz)).take sz)->XP P ops C K pl (QN f d (.pointer (some a))) w) (J:Z9 ops f (QR ops i0)=true:=by rfl):
  XP P ops C K ((i0,true)::pl) f w:=by
 obtain⟨a,cap,O,S⟩:=h.at hi;refine Lg.p (λw'=>by rw[E];exact Xv (G.D O) I oa oa) ?_ J;rw[E];refine hK _ ?_;simpa using S
theorem pii {x:O3}{e bys:Nat}[Sl P t e 1 bys z]{L:LN}{li:LI}{v:O2}{k:IntKind}
  (E:QR ops i0=⟨d,.indexAddr t x y,ty,pS,af,gd⟩) (h:QL L H v li) (G:ev f x=v) (I:ev f y=.int k i) (hi:i<li.length)
  (hK:∀a,At L H a [sS li[i]]->XP P ops C K pl (QN f d (.pointer (some a))) w) (J:Z9 ops f (QR ops i0)=true:=by rfl):
  XP P ops C K ((i0,true)::pl) f w:=by
 obtain⟨a,cap,O,S⟩:=QL.at h hi;refine Lg.p (λw'=>by rw[E];exact Xv (G.D O) I oa oa) ?_ J;rw[E];refine hK _ ?_;simpa using S
end
abbrev Ed:=Int×Int×Int
def QA (e:Ed):LV:=[sS e.1,sS e.2.1,sS e.2.2]
abbrev zJ (L:LN)(H:xC)(v:O2)(es:List Ed):Prop:=Zo L H v es.length 3 (es.flatMap QA)
theorem XZ {α:Type}(g:α->LV)(sz:Nat)(E:∀x,(g x).length=sz):∀(l:List α) (i:Nat) (h:i<l.length),((l.flatMap g).drop (i*sz)).take sz=g l[i]
 | x::l,0,_=>by simp[E]
 | x::l,i+1,h=>by
  have:=XZ g sz E l i (oA h);simp only[Of,List.getElem_cons_succ];rw[<-this,Mt,NT,Nb,List.drop_append,E];simp[Nat.add_sub_cancel_left,List.drop_eq_nil_of_le,E]
theorem Xe (g:α->LV)(sz:Nat)(E:∀x,(g x).length=sz)(l:List α):(l.flatMap g).length=l.length*sz:=by
 induction l with
 | nil=>simp
 | cons x l ih=>simp[ih,E,Oq,Nat.add_comm]
theorem Kj (e:Ed):(QA e).length=3:=rfl
structure Q6 where
 al:LI
 st:Int
 mr:LI
 ed:List Ed
structure ZM (L:LN)(H:xC)(va vm ve:O2)(a:Q6):Prop where
 al:QL L H va a.al
 mr:QL L H vm a.mr
 ed:zJ L H ve a.ed
def Qr1 (L:LN)(H:xC)(v:O2)(a:Q6):Prop:=∃va vm ve,v=.agg #[va,sS a.st,vm,ve]/\ZM L H va vm ve a
theorem ZM.I {L:LN}{w w':O1}{va vm ve:O2}{a:Q6}(h:ZM L w.heap va vm ve a)(E:sX w w'):ZM L w'.heap va vm ve a:=⟨h.al.I E,h.mr.I E,h.ed.I E⟩
theorem ZM.st {L:LN}{w w':O1}{va vm ve:O2}{a:Q6}(h:ZM L w.heap va vm ve a)(E:O5 L w w'):ZM L w'.heap va vm ve a:=⟨h.al.st E,h.mr.st E,h.ed.st E⟩
theorem ZM.up {L L':LN}{H:xC}{va vm ve:O2}{a:Q6}(h:ZM L H va vm ve a)(E:∀b∈L',b∈L\/H.size<=b):ZM L' H va vm ve a:=⟨h.al.up E,h.mr.up E,h.ed.up E⟩
section
variable {f:Fr}{pS:String}
class Ik (P:O4)(t:Nat)(k:outParam IntKind):Prop where
 u:P.underlying t=some (.int k):=by first|kernel_rfl|decide|rfl|exact sY (by kernel_rfl)
theorem Z6 {k:IntKind}[h:Ik P t k][h':Ik P E k']{x:O3}{n:Int}{G:IntKind}(hx:ev f x=.int G n)(I:inK k' n):
  (execOp (ev f) ⟨d,.convert t E x,ty,pS,af,gd⟩).run P w=.ok (.value (.int k' n)) w:=by
 simp[execOp,hx,convert,run_underlying h.u,run_underlying h'.u,Conv.intToInt,YR I]
class St (P:O4)(t:Nat):Prop where
 u:P.underlying t=some .string
end
theorem Zc {l:List α}{k:Nat}(h:k<l.length):l.drop k=l[k]::l.drop (k+1):=LE h
theorem zJ.at {L:LN}{H:xC}{v:O2}{es:List Ed}(h:zJ L H v es){i:Nat}(hi:i<es.length):
  ∃a cap,v=.slice (some a) es.length cap/\At L H (a.add (i*3)) (QA es[i]):=by
 obtain⟨a,cap,G,E⟩:=Zo.at h hi;rw[XZ QA 3 Kj es i hi]at E;exact⟨a,cap,G,E⟩
section
variable {K:Fr->O1->Prop}{f:Fr}{pS:String}{l:xE}{C:xA}{pl:xu}{i0:Nat}
theorem xie {x:O3}{e bys:Nat}[Sl P t e 3 bys z]{L:LN}{es:List Ed}{v:O2}{k:IntKind}
  (h:zJ L w.heap v es) (E:ev f x=v) (G:ev f y=.int k i) (hi:i<es.length)
  (hK:∀a,At L w.heap a (QA es[i])->XL P ops K l (QN f d (.pointer (some a))) w) (I:Z9 ops f ⟨d,.indexAddr t x y,ty,pS,af,gd⟩=true:=by rfl):
  XL P ops K (⟨d,.indexAddr t x y,ty,pS,af,gd⟩::l) f w:=by
 obtain⟨a,cap,J,O⟩:=zJ.at h hi;refine xl I (xv (Xv (E.D J) G oa oa) (hK _ ?_));simpa using O
theorem pie {x:O3}{e bys:Nat}[Sl P t e 3 bys z]{L:LN}{es:List Ed}{v:O2}{k:IntKind}
  (E:QR ops i0=⟨d,.indexAddr t x y,ty,pS,af,gd⟩) (h:zJ L H v es) (G:ev f x=v) (I:ev f y=.int k i) (hi:i<es.length)
  (hK:∀a,At L H a (QA es[i])->XP P ops C K pl (QN f d (.pointer (some a))) w) (J:Z9 ops f (QR ops i0)=true:=by rfl):
  XP P ops C K ((i0,true)::pl) f w:=by
 obtain⟨a,cap,O,S⟩:=zJ.at h hi;refine Lg.p (λw'=>by rw[E];exact Xv (G.D O) I oa oa) ?_ J;rw[E];refine hK _ ?_;simpa using S
end
section
variable {f:Fr}{pS:String}
theorem Qac {x:O3}{k:IntKind}{a:Int}(hx:ev f x=.int k a)(G:ev f y=.int k' n)(I:n<=k.bits):
  (execOp (ev f) ⟨d,.binOp .shr t x y E,ty,pS,af,gd⟩).run P w=.ok (.value (.int k (a / 2 ^ n))) w:=by
 refine Jv hx G ?_;have J:¬((n:Int)<0):=oa
 simp only[binOp,Op.shift,J,if_false,Ou,Nat.min_eq_left I,Sem.run_pure];rw[Int.fdiv_eq_ediv_of_nonneg _ (Int.le_of_lt (Int.pow_pos ol))]
class S3 (P:O4)(t:Nat):Prop where
 u:∃f0 f1 f2,P.underlying t=some (.struct #[f0,f1,f2])/\f0.name ≠ "_" /\ f1.name ≠ "_" /\ f2.name ≠ "_" /\ f0.offset=0/\f1.offset=1/\f2.offset=2 /\
  P.underlying f0.type=some (.int .i64)/\P.underlying f1.type=some (.int .i64)/\P.underlying f2.type=some (.int .i64)
 s:P.stoodInHeld t=false
 g:P.eqGuardType P.depth t=false
theorem US [h:S3 P t](w:O1)(p q:Ed):(Op.equal t (sT (QA p)) (sT (QA q))).run P w=.ok (decide (p=q)) w:=by
 obtain⟨a,b,c⟩:=p;obtain⟨V,Y,c'⟩:=q;obtain⟨f0,f1,f2,hu,O,n1,n2,S,o1,o2,I,J,u2⟩:=h.u;have ha:∀e w,P.underlying e=some (.int .i64)->(isAgg e).run P w=.ok false w:=λe w E=>by simp[isAgg,run_underlying E]
 have T:∀e (x y z:Int) (w:O1),P.underlying e=some (.int .i64)->(part e #[sS x,sS y,sS z] 0).run P w=.ok (sS x) w:=λe x y z w E=>by simp[part,ha e w E]
 have hb:∀e (x y z:Int) (w:O1),P.underlying e=some (.int .i64)->(part e #[sS x,sS y,sS z] 1).run P w=.ok (sS y) w:=λe x y z w E=>by simp[part,ha e w E]
 have hc:∀e (x y z:Int) (w:O1),P.underlying e=some (.int .i64)->(part e #[sS x,sS y,sS z] 2).run P w=.ok (sS z) w:=λe x y z w E=>by simp[part,ha e w E]
 have G:∀e (m:Nat) (x y:Int) (w:O1),P.underlying e=some (.int .i64)->(Op.equalIn (m+1) e (sS x) (sS y)).run P w=.ok (x == y) w:=λe m x y w E=>by simp[Op.equalIn,run_underlying E]
 have key:∀m,(Op.equalIn (m+2) t (.agg (QA (a,b,c)).toArray) (.agg (QA (V,Y,c')).toArray)).run P w=.ok (decide ((a,b,c)=(V,Y,c'))) w:=by
  intro m;simp only[QA];unfold Op.equalIn;simp only[Sem.run_bind,run_underlying hu,Result.andThen_ok];by_cases e1:a=V
  ·subst e1;by_cases e2:b=Y
   ·subst e2;by_cases e3:c=c'
    ·subst e3;simp[h.s,O,n1,n2,S,o1,o2,T _ _ _ _ _ I,hb _ _ _ _ _ J,hc _ _ _ _ _ u2,G _ _ _ _ _ I,G _ _ _ _ _ J,G _ _ _ _ _ u2]
    simp[h.s,O,n1,n2,S,o1,o2,T _ _ _ _ _ I,hb _ _ _ _ _ J,hc _ _ _ _ _ u2,G _ _ _ _ _ I,G _ _ _ _ _ J,G _ _ _ _ _ u2,e3]
   simp[h.s,O,n1,S,o1,T _ _ _ _ _ I,hb _ _ _ _ _ J,G _ _ _ _ _ I,G _ _ _ _ _ J,e2]
  simp[h.s,O,S,T _ _ _ _ _ I,G _ _ _ _ _ I,e1]
 exact key 9998
theorem UU [h:S3 P t]{x:O3}{p q:Ed}(hx:ev f x=sT (QA p))(G:ev f y=sT (QA q)):
  (execOp (ev f) ⟨d,.binOp .neq t x y E,ty,pS,af,gd⟩).run P w=.ok (.value (.bool (decide (¬p=q)))) w:=by
 have I:(eqGuard .neq t x y (sT (QA p)) (sT (QA q))).run P w=.ok () w:=by simp[eqGuard,h.g]
 simp only[execOp,hx,G,Sem.run_bind,I,Result.andThen_ok,binOp,US,Sem.run_pure];by_cases e:p=q <;> simp[e]
end
theorem O5.O {L:LN}{w0:O1}(h:O5 L w0 w)(k:O5 [b] w w')(G:↑w0<=b):O5 L w0 w':=h.then k (λc E=>.inr (by simp at E;omega))
section
variable {K:Fr->O1->Prop}{f:Fr}{pS:String}
theorem XQ {e bys:Nat}[h:Sl P t e sz bys z]{x:O3}{a:Option Addr}{c:Nat}(hx:ev f x=.slice a n c)(G:ev f y=nS):
  (execOp (ev f) ⟨d,.binOp .eql t x y E,ty,pS,af,gd⟩).run P w=.ok (.value (.bool a.isNone)) w:=by
 have I:(eqGuard .eql t x y (.slice a n c) (nS)).run P w=.ok () w:=by simp[eqGuard]
 have key:∀m,(Op.equalIn (m+1) t (.slice a n c) (nS)).run P w=.ok a.isNone w:=by
  intro m;unfold Op.equalIn;cases a <;> simp[run_underlying h.u]
 have J:(Op.equal t (.slice a n c) (nS)).run P w=.ok a.isNone w:=key 9999;simp only[execOp,hx,G,Sem.run_bind,I,Result.andThen_ok,binOp,J,Sem.run_pure]
theorem XX {e bys:Nat}[h:Sl P t e sz bys z]
  (hK:∀b w',sX w w'->↑w<=b->QY w'.heap b e []->K (QN f d (sL b 0 0)) w'):XO P ⟨d,.buildSlice t 0 #[],ty,pS,af,gd⟩ f w K:=by
 obtain⟨ie,E,I,J,_⟩:=Sl.info h;have G:(execOp (ev f) ⟨d,.buildSlice t 0 #[],ty,pS,af,gd⟩).run P w=.ok (.value (.slice (some ⟨↑w,0,none⟩) 0 0)) (w.alloc (.cells #[] e)):=by
  simp[execOp,Instr.buildSlice,run_underlying h.u,sizeOf,typeInfo,E,Instr.fill,newRow];have e0:Array.map (λ_=>(default:O2)) (Array.range 0)=#[]:=by apply Array.ext';simp
  rw[e0]
 exact xv G (hK _ _ (O5.alloc w _) (Lv _) (Kv w _))
end
abbrev Qq (e base:Nat)(w:O1)(v:O2)(l:LI):Prop:=w.ownsRow base e 1 v l.length (l.map (.int .i64))
theorem Qq.ints {e base:Nat}{v:O2}{l:LI}{L:LN}(h:Qq e base w v l)(E:l.length<=1099511627776)(G:∀b∈L,b<base):QL L w.heap v l :=
 QB h E (λb I hbL=>oy (Qg h b I).1 (G b hbL))
theorem UW (l:LI):∀u∈l.map (Value.int .i64),u.oneCell'=true:=by
 intro u E;obtain⟨n,_,rfl⟩:=LC.1 E;rfl
section
variable {P:O4}{ops:xE}{K:Fr->O1->Prop}{f:Fr}{w:O1}{d:xF}{ty:Nat}{pS:String}{af:xD}{gd:xt}{l:xE}{C:xA}{pl:xu}{i0:Nat}
 {t e sz bys:Nat} {z:O2} {x y1 y2:O3} {L:LN} {v:O2} {n:Nat} {cs:LV} {H:xC} {k k':IntKind} {lo hi:Nat}
theorem Qoq [h:Sl P t e sz bys z](E:QR ops i0=⟨d,.slice t x (some y1) none none,ty,pS,af,gd⟩)(G:Zo L H v n sz cs)(hx:ev f x=v)(I:ev f y1=.int k lo)(J:lo<=n)(hK:∀v',Zo L H v' (n - lo) sz (cs.drop (lo*sz))->XP P ops C K pl (QN f d v') w)
  (O:Z9 ops f (QR ops i0)=true:=by rfl):XP P ops C K ((i0,true)::pl) f w:=by
 obtain⟨v',S,T⟩:=Qcs (P:=P) (d:=d) (ty:=ty) (pS:=pS) (af:=af) (gd:=gd) (t:=t) G hx I J;exact Lg.p (λw'=>by rw[E];exact T w') (by rw[E];exact hK v' S) O
theorem Qrj [h:Sl P t e sz bys z](E:Zo L H v n sz cs)(hx:ev f x=v)(G:ev f y1=.int k lo)(I:lo<=n)(hK:∀v',Zo L H v' (n - lo) sz (cs.drop (lo*sz))->XL P ops K l (QN f d v') w)
  (J:Z9 ops f ⟨d,.slice t x (some y1) none none,ty,pS,af,gd⟩=true:=by rfl):XL P ops K (⟨d,.slice t x (some y1) none none,ty,pS,af,gd⟩::l) f w:=by
 obtain⟨v',O,S⟩:=Qcs (P:=P) (d:=d) (ty:=ty) (pS:=pS) (af:=af) (gd:=gd) (t:=t) E hx G I;exact xl J (xv (S w) (hK v' O))
theorem Qrk [h:Sl P t e sz bys z](E:Zo L H v n sz cs)(hx:ev f x=v)(G:ev f y1=.int k lo)(I:ev f y2=.int k' hi)(J:lo<=hi)(O:hi<=n)(hK:∀v',Zo L H v' (hi - lo) sz ((cs.drop (lo*sz)).take ((hi - lo)*sz))->XL P ops K l (QN f d v') w)
  (S:Z9 ops f ⟨d,.slice t x (some y1) (some y2) none,ty,pS,af,gd⟩=true:=by rfl):XL P ops K (⟨d,.slice t x (some y1) (some y2) none,ty,pS,af,gd⟩::l) f w:=by
 obtain⟨v',T,V⟩:=QlV (P:=P) (d:=d) (ty:=ty) (pS:=pS) (af:=af) (gd:=gd) (t:=t) E hx G I J O;exact xl S (xv (V w) (hK v' T))
theorem Qn3 [h:Sl P t e sz bys z](E:Zo L H v n sz cs)(hx:ev f x=v)(G:ev f y2=.int k hi)(I:hi<=n)(hK:∀v',Zo L H v' hi sz (cs.take (hi*sz))->XL P ops K l (QN f d v') w)
  (J:Z9 ops f ⟨d,.slice t x none (some y2) none,ty,pS,af,gd⟩=true:=by rfl):XL P ops K (⟨d,.slice t x none (some y2) none,ty,pS,af,gd⟩::l) f w:=by
 obtain⟨v',O,S⟩:=Qct (P:=P) (d:=d) (ty:=ty) (pS:=pS) (af:=af) (gd:=gd) (t:=t) E hx G I;exact xl J (xv (S w) (hK v' O))
end
theorem QL.drop {L:LN}{H:xC}{v:O2}{l:LI}{lo:Nat}(h:Zo L H v (l.length - lo) 1 ((l.map (Value.int .i64)).drop (lo*1))):QL L H v (l.drop lo):=by
 rw[Nat.mul_one,<-List.map_drop]at h;have e:(l.drop lo).length=l.length - lo:=LX;unfold QL;rw[e];exact h
theorem Qq.snoc {e base:Nat}{v:O2}{l:LI}{n:Int}(h:w.ownsRow base e 1 v (l.length+1) (l.map (Value.int .i64)++[sS n])):Qq e base w v (l++[n]):=by
 unfold Qq;rw[Lk,Lp];exact h
def Dj (u v:O2):Prop:=∀b∈ob u,b∉ob v
theorem Dj.symm {u v:O2}(h:Dj u v):Dj v u:=λb E G=>h b G E
theorem Dj.nil (v:O2):Dj (nS) v:=λb E=>by simp[ob]at E
theorem Dj.nil' (v:O2):Dj v (nS):=(Dj.nil v).symm
theorem Dj.grow {u v:O2}(h:Dj u v)(I:∀b∈ob v',b∈ob v\/N<=b)(J:∀b∈ob u,b<N):Dj u v' :=
 λb E O=>by rcases I b O with G|G;exact h b E G;have:=J b E;omega
theorem Q7 {base e:Nat}{v:O2}{cs:LV}(h:w.ownsRow base e sz v n cs):∀b∈ob v,b<w.heap.size:=λb E=>(Qg h b E).2
theorem QP {base e:Nat}{v:O2}{cs:LV}(h:w.ownsRow base e sz v n cs)(G:b<base):b∉ob v:=λE=>ov (Qg h b E).1
abbrev YP (e base:Nat)(w:O1)(v:O2)(l:List Ed):Prop:=w.ownsRow base e 3 v l.length (l.flatMap QA)
theorem YP.snoc {e base:Nat}{v:O2}{l:List Ed}{n:Ed}(h:w.ownsRow base e 3 v (l.length+1) (l.flatMap QA++QA n)):YP e base w v (l++[n]):=by
 unfold YP;rw[Lk,Ly];simpa using h
theorem YP.eds {e base:Nat}{v:O2}{l:List Ed}{L:LN}(h:YP e base w v l)(E:l.length<=1099511627776)(G:∀b∈L,b<base):zJ L w.heap v l :=
 QB h E (λb I hbL=>oy (Qg h b I).1 (G b hbL))
def JI (N:Nat)(H:xC)(v:O2)(a:Q6):Prop:=∃va vm ve,v=.agg #[va,sS a.st,vm,ve]/\∀L:LN,(∀b∈L,b<N)->ZM L H va vm ve a
theorem JI.v {N:Nat}{H:xC}{v:O2}{a:Q6}(h:JI N H v a){L:LN}(E:∀b∈L,b<N):Qr1 L H v a:=let⟨va,vm,ve,G,I⟩:=h;⟨va,vm,ve,G,I L E⟩
theorem JI.mono {v:O2}{a:Q6}(h:JI N H v a)(hM:M<=N):JI M H v a:=let⟨va,vm,ve,E,G⟩:=h;⟨va,vm,ve,E,λL I=>G L (λb J=>LO (I b J) hM)⟩
section
variable {K:Fr->O1->Prop}{f:Fr}{pS:String}
theorem zQ [X6 P t]{x:O3}{l:LI}(h:QY w.heap b T (l.map (.int .i64)))(hx:ev f x=.pointer (some ⟨b,0+i*1,none⟩))(hi:i<l.length):
  (execOp (ev f) ⟨d,.load t x,ty,pS,af,gd⟩).run P w=.ok (.value (sS l[i])) w:=Ql h hx (by simp[hi])
theorem KB [h1:X6 P t]{x:O3}{l:LI}{u:Int}(E:QY w.heap b T (l.map (.int .i64)))(hx:ev f x=.pointer (some ⟨b,0+i*1,none⟩))(G:ev f y=sS u)(hi:i<l.length)
  (hK:∀w',O5 [b] w w'->QY w'.heap b T ((l.set i u).map (.int .i64))->K (QN f d undef) w'):XO P ⟨d,.store t x y,ty,pS,af,gd⟩ f w K:=by
 refine Qu E hx G (oA hi) rfl λw' I J=>hK w' I ?_;rw[OQ];simpa using J
end
theorem Qcr (n:Nat)(u:O2):(oO n [u]).flatten=oO n u:=by
 induction n with
 | zero=>rfl
 | succ n ih=>simp[List.replicate_succ,ih]
section
variable {K:Fr->O1->Prop}{f:Fr}{pS:String}{l:xE}
theorem QI [Ag P t sz]{E:O3}{cs:LV}(us:LV)(I:QY w.heap b T cs)(J:Zb us)(hK:∀w',O5 [b] w w'->QY w'.heap b T us->XL P ops K l (QN f d undef) w')(hx:ev f E=sP b:=by rfl)(O:ev f G=sT us:=by rfl)(S:us.length=sz:=by rfl)(V:cs.length=sz:=by rfl)(Y:Z9 ops f ⟨d,.store t E G,ty,pS,af,gd⟩=true:=by rfl):XL P ops K (⟨d,.store t E G,ty,pS,af,gd⟩::l) f w:=xl Y (Zv I hx O S V J hK)
theorem QM [Ze P t z](us:LV)(hK:∀b w',sX w w'->↑w<=b->QY w'.heap b t us->XL P ops K l (QN f d (sP b)) w')(E:z.cells=us.toArray:=by rfl)(G:Z9 ops f ⟨d,.alloc t,ty,pS,af,gd⟩=true:=by rfl):XL P ops K (⟨d,.alloc t,ty,pS,af,gd⟩::l) f w:=xl G (K1 E hK)
theorem Yk {ad:Nat}{us:LV}[Ag P t sz](E:QY w.heap b T us)(G:f ad=sP b:=by rfl)(I:us.length=sz:=by rfl):∃a,f ad=.pointer (some a)/\(loadVar t a).run P w=.ok (sT us) w:=⟨_,G,Yc I (E.at (L:=[]) od).cells⟩
theorem JW {K:Fr->O1->Prop}[Ag P t sz]{E:O3}{cs:LV}(us:LV)(I:QY w.heap b T cs)(J:Zb us)(hK:∀w',O5 [b] w w'->QY w'.heap b T us->K (QN f d undef) w')(hx:ev f E=sP b:=by rfl)(O:ev f G=sT us:=by rfl)(S:us.length=sz:=by rfl)(V:cs.length=sz:=by rfl):XO P ⟨d,.store t E G,ty,pS,af,gd⟩ f w K:=Zv I hx O S V J hK
end
section
variable {K:Fr->O1->Prop}{f:Fr}{pS:String}{l:xE}{C:xA}{pl:xu}{i0:Nat}
theorem O8 {g:α->LV}{x:O3}{e bys:Nat}[Sl P t e sz bys z](G:∀x,(g x).length=sz){L:LN}{es:List α}{v:O2}{k:IntKind}
  (h:Zo L w.heap v es.length sz (es.flatMap g)) (H:ev f x=v) (I:ev f y=.int k i) (hi:i<es.length)
  (hK:∀a,At L w.heap a (g es[i])->XL P ops K l (QN f d (.pointer (some a))) w) (J:Z9 ops f ⟨d,.indexAddr t x y,ty,pS,af,gd⟩=true:=by rfl):
  XL P ops K (⟨d,.indexAddr t x y,ty,pS,af,gd⟩::l) f w:=by
 obtain⟨a,cap,O,E⟩:=Zo.at h hi;rw[XZ g sz G es i hi]at E;refine xl J (xv (Xv (H.D O) I oa oa) (hK _ ?_));simpa using E
theorem pig {g:α->LV}{x:O3}{e bys:Nat}[Sl P t e sz bys z](E:QR ops i0=⟨d,.indexAddr t x y,ty,pS,af,gd⟩)(I:∀x,(g x).length=sz){L:LN}{es:List α}{v:O2}{k:IntKind}
  (h:Zo L H v es.length sz (es.flatMap g)) (J:ev f x=v) (O:ev f y=.int k i) (hi:i<es.length)
  (hK:∀a,At L H a (g es[i])->XP P ops C K pl (QN f d (.pointer (some a))) w) (S:Z9 ops f (QR ops i0)=true:=by rfl):
  XP P ops C K ((i0,true)::pl) f w:=by
 obtain⟨a,cap,T,G⟩:=Zo.at h hi;rw[XZ g sz I es i hi]at G;refine Lg.p (λw'=>by rw[E];exact Xv (J.D T) O oa oa) ?_ S;rw[E];refine hK _ ?_;simpa using G
end
theorem Zo.grow {X X' Y:LN}{v:O2}{cs:LV}(h:Zo X w.heap v n sz cs)(H:O5 Y w w')(I:∀b∈Y,b∈X)(J:∀b∈X',b∈X\/↑w<=b):Zo X' w'.heap v n sz cs:=by
 have E:Zo (X++X') w.heap v n sz cs:=h.up (λb G=>by
  rcases Lc.1 G with E|E
  ·exact .inl E
  exact J b E)
 exact(E.J H (λb G=>Lc.2 (.inl (I b G)))).up (λb G=>.inl (Lc.2 (.inr G)))
structure AV where
 va:O2
 vm:O2
 ve:O2
 a:Q6
abbrev ZX (p:AV):LV:=[p.va,sS p.a.st,p.vm,p.ve]
structure KS (L:LN)(H:xC)(v:O2)(ps:List AV):Prop where
 arr:Zo L H v ps.length 4 (ps.flatMap ZX)
 each:∀p∈ps,ZM L H p.va p.vm p.ve p.a
theorem KS.I {L:LN}{w w':O1}{v:O2}{ps:List AV}(h:KS L w.heap v ps)(E:sX w w'):KS L w'.heap v ps:=⟨h.arr.I E,λp G=>(h.each p G).I E⟩
theorem KS.st {L:LN}{w w':O1}{v:O2}{ps:List AV}(h:KS L w.heap v ps)(E:O5 L w w'):KS L w'.heap v ps:=⟨h.arr.st E,λp G=>(h.each p G).st E⟩
theorem KS.up {L L':LN}{H:xC}{v:O2}{ps:List AV}(h:KS L H v ps)(E:∀b∈L',b∈L\/H.size<=b):KS L' H v ps:=⟨h.arr.up E,λp G=>(h.each p G).up E⟩
abbrev TV:=O2×LI
abbrev YS (p:TV):LV:=[p.1]
structure J8 (L:LN)(H:xC)(v:O2)(ps:List TV):Prop where
 arr:Zo L H v ps.length 1 (ps.flatMap YS)
 each:∀p∈ps,QL L H p.1 p.2
theorem J8.I {L:LN}{w w':O1}{v:O2}{ps:List TV}(h:J8 L w.heap v ps)(E:sX w w'):J8 L w'.heap v ps:=⟨h.arr.I E,λp G=>(h.each p G).I E⟩
theorem J8.st {L:LN}{w w':O1}{v:O2}{ps:List TV}(h:J8 L w.heap v ps)(E:O5 L w w'):J8 L w'.heap v ps:=⟨h.arr.st E,λp G=>(h.each p G).st E⟩
theorem J8.up {L L':LN}{H:xC}{v:O2}{ps:List TV}(h:J8 L H v ps)(E:∀b∈L',b∈L\/H.size<=b):J8 L' H v ps:=⟨h.arr.up E,λp G=>(h.each p G).up E⟩
def QeF (N:Nat)(H:xC)(v:O2)(l:List (LI)):Prop:=∃ps:List TV,ps.map (·.2)=l/\∀L:LN,(∀b∈L,b<N)->J8 L H v ps
theorem QeF.mono {v:O2}{l:List (LI)}(h:QeF N H v l)(hM:M<=N):QeF M H v l:=let⟨ps,E,G⟩:=h;⟨ps,E,λL I=>G L (λb J=>LO (I b J) hM)⟩
abbrev jL (e base:Nat)(w:O1)(v:O2)(ps:List TV):Prop:=w.ownsRow base e 1 v ps.length (ps.flatMap YS)
theorem jL.snoc {e base:Nat}{v:O2}{ps:List TV}{p:TV}(h:w.ownsRow base e 1 v (ps.length+1) (ps.flatMap YS++[p.1])):jL e base w v (ps++[p]):=by
 unfold jL;rw[Lk,Ly];simpa using h
theorem X9 {base e:Nat}{v:O2}{cs:LV}(h:w.ownsRow base e sz v n cs)(G:0<n):∃g cap,v=sL g n cap:=by
 rcases h.2 with⟨_,H⟩|⟨g,cap,cur,E,_⟩
 ·omega
 exact⟨g,cap,E⟩
section
variable {K:Fr->O1->Prop}{f:Fr}{pS:String}{l:xE}
theorem QiQ [h1:X6 P t]{x:O3}{base e:Nat}{cs:LV}{u:O2}(h:w.ownsRow base e 1 (sL g n cap) n cs)(hx:ev f x=.pointer (some ⟨g,0+i*1,none⟩))(G:ev f y=u)(hi:i<n)(H:u.oneCell'=true)
  (hK:∀w',O5 [g] w w'->w'.ownsRow base e 1 (sL g n cap) n (cs.set i u)->K (QN f d undef) w'):XO P ⟨d,.store t x y,ty,pS,af,gd⟩ f w K:=by
 obtain⟨I,h⟩:=h;rcases h with⟨J,_⟩|⟨g',cap',cur,e1,O,S,T,V,E,Y⟩
 ·cases J
 cases e1
 have hB:QY w.heap g e cur.toList:=by unfold QY;simpa using S
 refine Qu (j:=i) hB (by rw[hx];simp) G (by simp[E];omega) H λw' hs ha=>hK w' hs ⟨oA I,.inr ⟨g,cap,(cur.toList.set i u).toArray,rfl,O,ha,T,V,oA E,?_⟩⟩;rw[<-Y];simp[List.take_set]
end
section
variable {f:Fr}{pS:String}{κ:Type}[DecidableEq κ]
theorem Qad [hm:Mp P t kt et z]{enc:κ->O2}[hk:Key P kt enc]{x:O3}{m:List (κ×O2)}{k:κ}{u:O2}(h:Yr enc w.heap b m)(hx:ev f x=.map (some b))(E:ev f y=enc k)(G:xd m k=some u):
  (execOp (ev f) ⟨d,.lookup t x y true,ty,pS,af,gd⟩).run P w=.ok (.value (.tuple #[u,.bool true])) w:=by
 have:=Vw (P:=P) (t:=t) (d:=d) (ty:=ty) (pS:=pS) (af:=af) (gd:=gd) h hx E;rw[G]at this;exact this
theorem QgI [hm:Mp P t kt et z]{enc:κ->O2}[hk:Key P kt enc]{x:O3}{m:List (κ×O2)}{k:κ}(h:Yr enc w.heap b m)(hx:ev f x=.map (some b))(E:ev f y=enc k)(G:xd m k=none):
  (execOp (ev f) ⟨d,.lookup t x y true,ty,pS,af,gd⟩).run P w=.ok (.value (.tuple #[z,.bool false])) w:=by
 have:=Vw (P:=P) (t:=t) (d:=d) (ty:=ty) (pS:=pS) (af:=af) (gd:=gd) h hx E;rw[G]at this;exact this
end
abbrev Y8 (l:LI):Prop:=l.Pairwise (·<·)
def jH:Option Int->Int->Bool
 | none,_=>false
 | some b,a=>decide (a<=b)
def KK (n:Int):Option Int->LI->Int
 | _,[]=>0
 | pr,a::l=>if a<0\/n<=a then 2 else if jH pr a=true then 5 else KK n (some a) l
def pv {α:Type}(l:List α)(k:Nat):Option α:=if k=0 then none else l[k - 1]?
theorem VS {l:List α}{k:Nat}(h:k<l.length):pv l (k+1)=some l[k]:=by simp[pv,h]
def edO:Option Ed->Ed->Bool
 | none,_=>false
 | some y,a=>decide (a.1<y.1\/(a.1=y.1/\a.2.1<=y.2.1))
def ckE (al:LI)(st:Int):Option Ed->List Ed->Int
 | _,[]=>0
 | pr,a::l=>if a.1<0\/st<=a.1\/a.2.2<0\/st<=a.2.2 then 2 else if a.2.1∉al then 9 else if edO pr a=true then 5 else ckE al st (some a) l
def Jz (a:Q6):Int :=
 if KK 32 none a.al≠0 then KK 32 none a.al else if a.st<0 then 2 else if 4096<a.st then 3 else if KK a.st none a.mr≠0 then KK a.st none a.mr else ckE a.al a.st none a.ed
def JE:LI->LI->Bool
 | [],_=>false
 | _::_,[]=>true
 | a::_,b::_=>decide (a<=b)
def tl (c:Bool)(l:LI):LI:=bif c then l.tail else l
def hx (a b:LI):Int:=bif JE b a then b.headD 0 else a.headD 0
def jG (keep:Bool->Bool->Bool):Nat->LI->LI->LI
 | 0,_,_=>[]
 | n+1,a,b=>if a=[]/\b=[]then[]else(bif keep (JE a b) (JE b a)then[hx a b]else[])++jG keep n (tl (JE a b) a) (tl (JE b a) b)
def mrg (keep:Bool->Bool->Bool)(a b:LI):LI:=jG keep (a.length+b.length) a b
theorem yU {a b:LI}(h:¬(a=[]/\b=[])):(tl (JE a b) a).length+(tl (JE b a) b).length<a.length+b.length:=by
 cases a with
 | nil=>cases b with
  | nil=>simp at h
  | cons y b=>simp[JE,tl]
 | cons x a=>cases b with
  | nil=>simp[JE,tl]
  | cons y b =>
   simp only[JE,tl];by_cases E:x<=y <;> by_cases G:y<=x <;> simp[E,G] <;> omega
theorem Qam (keep:Bool->Bool->Bool):∀(n:Nat) (a b:LI),a.length+b.length<=n->jG keep n a b=mrg keep a b:=by
 have key:∀(n m:Nat) (a b:LI),a.length+b.length<=n->a.length+b.length<=m->jG keep n a b=jG keep m a b:=by
  intro n;induction n with
  | zero =>
   intro m a b E _;have G:a=[]:=Lr oa;have H:b=[]:=Lr oa;subst G H;cases m <;> simp[jG]
  | succ n ih =>
   intro m a b E I;by_cases h:a=[]/\b=[]
   ·obtain⟨rfl,rfl⟩:=h;cases m <;> simp[jG]
   have J:=yU h;cases m with
   | zero=>omega
   | succ m=>rw[jG,jG,OT h,OT h,ih m _ _ oa oa]
 intro n a b h;exact key n _ a b h (Lv _)
theorem K4 (keep:Bool->Bool->Bool):mrg keep [] []=[]:=rfl
theorem KC (keep:Bool->Bool->Bool){a b:LI}(h:¬(a=[]/\b=[])):
  mrg keep a b=(bif keep (JE a b) (JE b a)then[hx a b]else[])++mrg keep (tl (JE a b) a) (tl (JE b a) b):=by
 have E:=yU h;rw[<-Qam keep (a.length+b.length - 1+1) a b oa,jG,OT h,Qam keep _ _ _ oa]
theorem Qd8 (keep:Bool->Bool->Bool):∀(n:Nat) (a b:LI),a.length+b.length<=n->(mrg keep a b).length<=a.length+b.length:=by
 intro n;induction n with
 | zero =>
  intro a b h;have E:a=[]:=Lr oa;have G:b=[]:=Lr oa;subst E G;simp[K4]
 | succ n ih =>
  intro a b H;by_cases h:a=[]/\b=[]
  ·obtain⟨rfl,rfl⟩:=h;simp[K4]
  have I:=yU h;rw[KC keep h];have:=ih (tl (JE a b) a) (tl (JE b a) b) oa;cases keep (JE a b) (JE b a) <;> simp <;> omega
theorem Qbt (keep:Bool->Bool->Bool)(a b:LI):(mrg keep a b).length<=a.length+b.length:=Qd8 keep _ a b (Lv _)
theorem Qes (q:α->Bool)(es:List α)(lo hi:Nat)(O:lo<=hi)(S:hi<=es.length)(H:∀m (E:m<es.length),m<lo->q es[m]=false)(I:∀m (E:m<es.length),lo<=m->m<hi->q es[m]=true)
  (J:∀m (E:m<es.length),hi<=m->q es[m]=false):(es.drop lo).take (hi - lo)=es.filter q:=by
 have e1:es=es.take lo++((es.drop lo).take (hi - lo)++es.drop hi):=by
  conv=>lhs;rw[<-MF lo es]
  congr 1;conv=>lhs;rw[<-MF (hi - lo) (es.drop lo)]
  rw[List.drop_drop];congr 2;omega
 have f1:(es.take lo).filter q=[]:=by
  rw[Nm];intro a G;obtain⟨m,E,rfl⟩:=LP G;rw[LA]at E;rw[Nf,H m oa oa];simp
 have f3:(es.drop hi).filter q=[]:=by
  rw[Nm];intro a G;obtain⟨m,E,rfl⟩:=LP G;rw[LX]at E;rw[List.getElem_drop,J (hi+m) oa oa];simp
 have f2:((es.drop lo).take (hi - lo)).filter q=(es.drop lo).take (hi - lo):=by
  rw[NG];intro a G;obtain⟨m,E,rfl⟩:=LP G;rw[LA,LX]at E;rw[Nf,List.getElem_drop];exact I (lo+m) oa oa oa
 conv=>rhs;rw[e1]
 rw[L3,L3,f1,f2,f3];simp
def Z7 (es:List Ed)(s:Int):List Ed:=es.filter λe=>decide (e.1=s)
structure ZK (a:Q6):Prop where
 al:∀e∈a.al,0<=e/\e<32
 ali:Y8 a.al
 st0:0<=a.st
 st1:a.st<=4096
 mr:∀s∈a.mr,0<=s/\s<a.st
 mri:Y8 a.mr
 ed:∀e∈a.ed,0<=e.1/\e.1<a.st/\e.2.1∈a.al/\0<=e.2.2/\e.2.2<a.st
 edi:a.ed.Pairwise λx y=>x.1<y.1\/(x.1=y.1/\x.2.1<y.2.1)
theorem X0 (n:Int):∀(l:LI) (pr:Option Int),KK n pr l=0↔(∀x∈l,0<=x/\x<n)/\Y8 l/\∀y,pr=some y->∀x∈l,y<x
 | [],pr=>by simp[KK]
 | a::l,pr=>by
  rw[KK];by_cases O:a<0\/n<=a
  ·rw[OU O];simp only[Ot];constructor
   ·intro h;cases h
   rintro⟨⟨h,_⟩,_⟩;omega
  rw[OT O];by_cases E:jH pr a=true
  ·rw[OU E];constructor
   ·intro h;cases h
   rintro⟨_,_,h⟩;cases pr with
   | none=>simp[jH]at E
   | some y=>simp[jH]at E;have:=h y U a Lq;omega
  rw[OT E,(X0 n l (some a))];simp only[Ot,List.pairwise_cons];constructor
  ·rintro⟨H,I,G⟩;refine⟨⟨oa,H⟩,⟨λb S=>G a U b S,I⟩,?_⟩;rintro y rfl;simp[jH]at E;exact⟨E,λz J=>ov (G a U z J)⟩
  rintro⟨⟨_,H⟩,⟨I,G⟩,_⟩;exact⟨H,G,λy T z J=>by cases T;exact I z J⟩
theorem Qdj (al:LI)(st:Int):∀(l:List Ed) (pr:Option Ed),ckE al st pr l=0↔(∀e∈l,0<=e.1/\e.1<st/\e.2.1∈al/\0<=e.2.2/\e.2.2<st)/\(l.Pairwise λx y=>x.1<y.1\/(x.1=y.1/\x.2.1<y.2.1)) /\
  ∀y,pr=some y->∀e∈l,y.1<e.1\/(y.1=e.1/\y.2.1<e.2.1)
 | [],pr=>by simp[ckE]
 | a::l,pr=>by
  rw[ckE];by_cases S:a.1<0\/st<=a.1\/a.2.2<0\/st<=a.2.2
  ·rw[OU S];simp only[Ot];constructor
   ·intro h;cases h
   rintro⟨⟨h,_⟩,_⟩;omega
  rw[OT S];by_cases G:a.2.1∉al
  ·rw[OU G];constructor
   ·intro h;cases h
   rintro⟨h,_⟩;exact OW (h a Lq).2.2.1 G
  rw[OT G];by_cases E:edO pr a=true
  ·rw[OU E];constructor
   ·intro h;cases h
   rintro⟨_,_,h⟩;cases pr with
   | none=>simp[edO]at E
   | some y=>simp[edO]at E;have:=h y U a Lq;omega
  rw[OT E,(Qdj al st l (some a))];simp only[Ot,List.pairwise_cons];have T:a.2.1∈al:=Lo.1 G;constructor
  ·rintro⟨I,J,H⟩;refine⟨⟨⟨oa,oa,T,oa,oa⟩,I⟩,⟨λb V=>H a U b V,J⟩,?_⟩;rintro y rfl;simp[edO]at E;have Y:y.1<a.1\/y.1=a.1/\y.2.1<a.2.1:=oa
   exact⟨Y,λz O=>ov (H a U z O)⟩
  rintro⟨⟨_,I⟩,⟨J,H⟩,_⟩;exact⟨I,H,λy hy z O=>by cases hy;exact J z O⟩
theorem Z5 (a:Q6):Jz a=0↔ZK a:=by
 unfold Jz;by_cases E:KK 32 none a.al≠0
 ·rw[OU E];exact⟨λh=>OW h E,λh=>OW ((X0 32 a.al none).2 ⟨h.al,h.ali,λ_ h=>by cases h⟩) E⟩
 rw[OT E];have H:=(X0 32 a.al none).1 (Lo.1 E);by_cases I:a.st<0
 ·rw[OU I];exact⟨λh=>(by cases h),λh=>(ov h.st0)⟩
 rw[OT I];by_cases J:4096<a.st
 ·rw[OU J];exact⟨λh=>(by cases h),λh=>(ov h.st1)⟩
 rw[OT J];by_cases G:KK a.st none a.mr≠0
 ·rw[OU G];exact⟨λh=>OW h G,λh=>OW ((X0 a.st a.mr none).2 ⟨h.mr,h.mri,λ_ h=>by cases h⟩) G⟩
 rw[OT G,Qdj];have O:=(X0 a.st a.mr none).1 (Lo.1 G);exact⟨λh=>⟨H.1,H.2.1,oa,oa,O.1,O.2.1,h.1,h.2.1⟩,λh=>⟨h.ed,h.edi,λ_ h=>by cases h⟩⟩
theorem Jc:∀(l:LI) (a n:Int),Y8 l->(∀x∈l,a<=x/\x<n)->(l.length:Int)<=max 0 (n - a)
 | [],a,n,_,_=>by simp;omega
 | x::l,a,n,E,G=>by
  simp only[List.pairwise_cons,Ot]at E G;have:=Jc l (x+1) n E.2 (λy H=>⟨ov (E.1 y H),(G.2 y H).2⟩);simp only[oX];omega
theorem ZK.al_le {a:Q6}(h:ZK a):a.al.length<=32:=by have:=Jc a.al 0 32 h.ali h.al;omega
theorem ZK.mr_le {a:Q6}(h:ZK a):a.mr.length<=4096:=by have:=Jc a.mr 0 a.st h.mri h.mr;have:=h.st1;omega
theorem ZK.eds {a:Q6}(h:ZK a):a.ed.Pairwise λx y=>x.1<=y.1:=h.edi.imp λh=>oa
structure Cs where
 ord:LI
 num:LI
 mk':LI
 ed:List Ed
def Yg (l:LI)(k:Int):Int:=l.getD k.toNat 0
def ZB (i:Nat)(c:Cs)(e:Ed):Cs :=
 if Yg c.num e.2.2<0 then⟨c.ord++[e.2.2],c.num.set e.2.2.toNat c.ord.length,c.mk',c.ed++[((i:Int),e.2.1,(c.ord.length:Int))]⟩
 else⟨c.ord,c.num,c.mk',c.ed++[((i:Int),e.2.1,Yg c.num e.2.2)]⟩
def Yo (a:Q6)(i:Nat)(c:Cs):Cs:=if Yg c.ord i∈a.mr then⟨c.ord,c.num,c.mk'++[(i:Int)],c.ed⟩else c
def zt (a:Q6)(i:Nat)(c:Cs):Cs:=(Z7 a.ed (Yg c.ord i)).foldl (ZB i) (Yo a i c)
def Jd (a:Q6):Nat->Nat->Cs->Cs
 | 0,_,c=>c
 | f+1,i,c=>if i<c.ord.length then Jd a f (i+1) (zt a i c)else c
def YY (a:Q6):Cs:=⟨[0],(oO a.st.toNat (-1)).set 0 0,[],[]⟩
def Yj (a:Q6):Q6:=if a.st=0 then⟨a.al,0,[],[]⟩else
 let c:=Jd a a.st.toNat 0 (YY a);⟨a.al,c.ord.length,c.mk',c.ed⟩
def neg (l:LI):Nat:=(l.filter (·<0)).length
theorem UZ:∀(l:LI) (k:Nat) (v:Int) (h:k<l.length),l[k]<0->0<=v->neg (l.set k v)+1=neg l
 | a::l,0,v,_,E,G=>by
  have H:a<0:=E;simp[neg,H,show ¬v<0 by omega]
 | a::l,k+1,v,h,E,G=>by
  have ih:=UZ l k v (oA h) E G;unfold neg at *;simp only[List.set_cons_succ,List.filter_cons];split
  ·simp only[oX];omega
  exact ih
structure UJ (st:Int)(c:Cs):Prop where
 nl:c.num.length=st.toNat
 sum:c.ord.length+neg c.num=st.toNat
 ord:∀s∈c.ord,0<=s/\s<st
 num:∀v∈c.num,v<c.ord.length
 el:c.ed.length<=1000000000
theorem UJ.le {st:Int}{c:Cs}(h:UJ st c):c.ord.length<=st.toNat:=by have:=h.sum;omega
theorem U4 {l:LI}{k:Int}(h:k.toNat<l.length):Yg l k=l[k.toNat]:=by unfold Yg;simp[oR,h]
theorem Qcc {st:Int}{c:Cs}{e:Ed}(h:UJ st c)(O:0<=e.2.2)(S:e.2.2<st)(H:c.ed.length+1<=1000000000):UJ st (ZB i c e):=by
 have I:e.2.2.toNat<c.num.length:=by rw[h.nl];omega
 unfold ZB;split
 ·rename_i J;rw[U4 I]at J;refine⟨by simp[h.nl],?_,?_,?_,oA H⟩
  ·have:=UZ c.num e.2.2.toNat c.ord.length I J oa;have:=h.sum;simp only[oN,oP];omega
  ·intro s E;simp only[oW,oJ]at E;rcases E with E|rfl
   ·exact h.ord s E
   exact⟨O,S⟩
  intro v G;simp only[oN,oP];rcases MS G with G|rfl
  ·have:=h.num v G;omega
  omega
 exact⟨h.nl,h.sum,h.ord,h.num,oA H⟩
theorem Qce (i:Nat)(c:Cs)(e:Ed):(ZB i c e).ed.length=c.ed.length+1:=by unfold ZB;split <;> simp
theorem Qi6 {a:Q6}{st:Int}{c:Cs}(h:UJ st c):UJ st (Yo a i c):=by
 unfold Yo;split
 ·exact⟨h.nl,h.sum,h.ord,h.num,h.el⟩
 exact h
theorem ZV {es:List Ed}{s:Int}{e:Ed}(h:e∈Z7 es s):e∈es/\e.1=s:=by unfold Z7 at h;simpa using h
theorem Qf6 {a:Q6}(O:0<a.st):UJ a.st (YY a):=by
 have H:0<a.st.toNat:=oa
 refine⟨by simp[YY],?_,?_,?_,by simp[YY]⟩
 ·have I:0<(oO a.st.toNat (-1:Int)).length:=by simpa using H
  have S:=UZ (oO a.st.toNat (-1)) 0 0 I od (NK _);have T:neg (oO a.st.toNat (-1))=a.st.toNat:=by
   unfold neg;rw[NG.2 (by intro b J;have:=NE J;subst this;rfl)];simp
  simp only[YY,oP];omega
 ·intro s G;simp[YY]at G;subst G;omega
 intro v E;simp only[YY,oP]at *;rcases MS E with E|rfl
 ·have:=NE E;omega
 omega
theorem QaQ {a:Q6}{f:Nat}{c:Cs}(h:¬i<c.ord.length):Jd a f i c=c:=by
 cases f with
 | zero=>rfl
 | succ f=>rw[Jd,OT h]
theorem ZK.ed_le {a:Q6}(h:ZK a):a.ed.length<=131072:=by
 have H:Y8 (a.ed.map λe=>e.1*32+e.2.1):=by
  refine MO.2 (List.Pairwise.imp_of_mem ?_ h.edi);intro x y hx I S;have E:=h.al _ (h.ed x hx).2.2.1;have G:=h.al _ (h.ed y I).2.2.1;omega
 have E:=Jc _ 0 131072 H (by
  intro v J;obtain⟨e,O,rfl⟩:=LC.1 J;have G:=h.ed e O;have T:=h.al _ G.2.2.1;have:=h.st1;omega)
 simp only[Oc]at E;omega
theorem Vx (es:List Ed)(s:Int):(Z7 es s).length<=es.length:=Mf _ _
def ckL:List Q6->Int
 | []=>0
 | a::l=>if Jz a≠0 then Jz a else ckL l
def qq (l:List Q6):Int:=if 12<l.length then 3 else ckL l
theorem Qdh:∀(l:List Q6),ckL l=0↔∀a∈l,ZK a
 | []=>by simp[ckL]
 | a::l=>by
  rw[ckL];by_cases h:Jz a=0
  ·rw[OT (oA h),Qdh l];simp[(Z5 a).1 h]
  rw[OU h];simp only[Ot];exact⟨λe=>OW e h,λe=>OW ((Z5 a).2 e.1) h⟩
def evs (l:List Q6):LI:=l.foldl (λacc a=>mrg (· || ·) acc a.al) []
def zj (m:List ((Int×Int)×O2))(es:List Ed):List ((Int×Int)×O2):=es.foldl (λm e=>xh m (e.1,e.2.1) (sS e.2.2)) m
def xo:List Ed->Int->Int->Option Int
 | [],_,_=>none
 | e::l,s,v=>if e.1=s/\e.2.1=v then some e.2.2 else xo l s v
theorem QaE {l:List Ed}{s v:Int}(h:∀e∈l,¬(e.1=s/\e.2.1=v)):xo l s v=none:=by
 induction l with
 | nil=>rfl
 | cons e l ih =>
  rw[xo,OT (h e Lq)];exact ih λe E=>h e (Lj _ E)
theorem QaF:∀(es:List Ed) (m:List ((Int×Int)×O2)) (s v:Int),(es.Pairwise λx y=>x.1<y.1\/(x.1=y.1/\x.2.1<y.2.1)) ->
  xd (zj m es) (s,v)=match xo es s v with|some t=>some (sS t)|none=>xd m (s,v)
 | [],m,s,v,_=>rfl
 | e::es,m,s,v,h=>by
  simp only[List.pairwise_cons]at h;have ih:=QaF es (xh m (e.1,e.2.1) (sS e.2.2)) s v h.2;unfold zj at *;rw[L4,ih,xo];by_cases E:e.1=s/\e.2.1=v
  ·rw[OU E,QaE (λx hx H=>ov (h.1 x hx))];simp only[XG];rw[OU (by rw[E.1,E.2])]
  rw[OT E];cases xo es s v with
  | some t=>rfl
  | none =>
   simp only[XG];rw[OT (λG=>E (oA G))]
def Y5 (ev:Int):List Q6->LI->Option (LI)
 | a::bs,t::ts=>if ev∉a.al then(Y5 ev bs ts).map (t::·)else match xo a.ed t ev with|none=>none|some u=>(Y5 ev bs ts).map (u::·)
 | _,_=>some []
def JX:List Q6->LI->Bool
 | a::bs,t::ts=>decide (t∈a.mr) && JX bs ts
 | _,_=>true
structure Sy where
 tup:List (LI)
 mk':LI
 ed:List Ed
def syE (aa:List Q6)(i:Nat)(t:LI)(s:Sy)(v:Int):Option Sy :=
 match Y5 v aa t with
 | none=>some s
 | some u=>if u∈s.tup then some ⟨s.tup,s.mk',s.ed++[((i:Int),v,(s.tup.idxOf u:Int))]⟩
  else if s.tup.length=4096 then none else some ⟨s.tup++[u],s.mk',s.ed++[((i:Int),v,(s.tup.length:Int))]⟩
def yj (aa:List Q6)(i:Nat)(t:LI):LI->Sy->Option Sy
 | [],s=>some s
 | v::vs,s=>(syE aa i t s v).bind (yj aa i t vs)
def Ym (aa:List Q6)(i:Nat)(t:LI)(s:Sy):Sy:=if JX aa t=true then⟨s.tup,s.mk'++[(i:Int)],s.ed⟩else s
def jV (s:Sy)(i:Nat):LI:=s.tup.getD i []
def syL (aa:List Q6):Nat->Nat->Sy->Option Sy
 | 0,_,s=>some s
 | f+1,i,s=>if i<s.tup.length then(yj aa i (jV s i) (evs aa) (Ym aa i (jV s i) s)).bind (syL aa f (i+1))else some s
def jY (aa:List Q6):Sy:=⟨[oO aa.length 0],[],[]⟩
def xp (aa:List Q6):Option (Q6×List (LI)):=
 if ∃a∈aa,a.st=0 then some (⟨evs aa,0,[],[]⟩,[])else(syL aa 4096 0 (jY aa)).map λs=>(⟨evs aa,s.tup.length,s.mk',s.ed⟩,s.tup)
theorem Qh6 {aa:List Q6}{f:Nat}{s:Sy}(h:¬i<s.tup.length):syL aa f i s=some s:=by
 cases f with
 | zero=>rfl
 | succ f=>rw[syL,OT h]
def Vt (aa:List Q6)(t:LI):Prop:=t.length=aa.length/\∀i (h:i<t.length) (E:i<aa.length),0<=t[i]/\t[i]<aa[i].st
theorem Vt.cons {a:Q6}{aa:List Q6}{u:Int}{t:LI}(E:0<=u)(G:u<a.st)(h:Vt aa t):Vt (a::aa) (u::t):=by
 refine⟨by simp[h.1],λi H I=>?_⟩;cases i with
 | zero=>exact⟨E,G⟩
 | succ i=>exact h.2 i (oA H) (oA I)
theorem Qc1 {l:List Ed}{s v u:Int}(h:xo l s v=some u):(s,v,u)∈l:=by
 induction l with
 | nil=>cases h
 | cons e l ih =>
  rw[xo]at h;split at h
  ·rename_i E;obtain⟨e1,e2⟩:=E;cases h
   obtain⟨a,b,c⟩:=e;subst e1 e2;exact Lq
  exact Lj _ (ih h)
theorem Kd {v:Int}:∀{aa:List Q6}{t u:LI},(∀a∈aa,ZK a)->Vt aa t->Y5 v aa t=some u->Vt aa u
 | [],t,u,_,h,E=>by
  cases t with
  | nil=>simp[Y5]at E;subst E;exact h
  | cons x t=>have:=h.1;simp at this
 | a::aa,[],u,_,h,E=>by have:=h.1;simp at this
 | a::aa,x::t,u,H,h,E=>by
  have hx:=h.2 0 od od;have I:Vt aa t:=⟨by have:=h.1;simpa using this,λi O S=>h.2 (i+1) (oA O) (oA S)⟩;have J:∀a∈aa,ZK a:=λa T=>H a (Lj _ T);rw[Y5]at E;split at E
  ·obtain⟨V,G,rfl⟩:=Mr.1 E;exact Vt.cons hx.1 hx.2 (Kd J I G)
  split at E
  ·cases E
  rename_i q Y;obtain⟨V,G,rfl⟩:=Mr.1 E;have:=(H a Lq).ed _ (Qc1 Y);exact Vt.cons this.2.2.2.1 this.2.2.2.2 (Kd J I G)
structure q6 (aa:List Q6)(s:Sy):Prop where
 v:∀t∈s.tup,Vt aa t
 le:s.tup.length<=4096
theorem jW {aa:List Q6}{t:LI}{s:Sy}(h:q6 aa s):q6 aa (Ym aa i t s):=by
 unfold Ym;split
 ·exact⟨h.v,h.le⟩
 exact h
theorem Qh9 {aa:List Q6}{t:LI}{s H:Sy}{v:Int}(I:∀a∈aa,ZK a)(h:q6 aa s)(G:Vt aa t)(E:syE aa i t s v=some H):q6 aa H:=by
 unfold syE at E;split at E
 ·cases E;exact h
 rename_i u J;split at E
 ·cases E;exact⟨h.v,h.le⟩
 split at E
 ·cases E
 cases E
 have:=h.le;refine⟨λt G=>?_,by simp;omega⟩;simp only[oW,oJ]at G;rcases G with G|rfl
 ·exact h.v t G
 exact(Kd I G J)
structure UM where
 en:LI
 dis:LI
 mk':Bool
 ps:Bool
def Qpm:UM:=⟨[],[],false,false⟩
def Qn5 (l:LI)(v:Int):LI:=mrg (· || ·) l [v]
def QrP (p s:Q6)(x y:Int)(c:UM)(v:Int):UM :=
 match xo p.ed x v with
 | none=>c
 | some _=>match xo s.ed y v with
  | some _=>⟨Qn5 c.en v,c.dis,c.mk',c.ps⟩
  | none=>⟨c.en,Qn5 c.dis v,c.mk',c.ps⟩
def QrQ (p s:Q6)(x y:Int)(c:UM):UM:=⟨c.en,c.dis,decide (y∈s.mr),c.ps || decide (x∈p.mr)⟩
def QrO (p s:Q6)(x y:Int)(c:UM):UM:=s.al.foldl (QrP p s x y) (QrQ p s x y c)
def px (q:LI):Int:=q.getD 0 0
def py (q:LI):Int:=q.getD 1 0
def QrN (p s:Q6)(l:List UM)(q:LI):List UM:=l.set (py q).toNat (QrO p s (px q) (py q) (l.getD (py q).toNat Qpm))
def ctls (p s:Q6)(pairs:List (LI)):List UM:=pairs.foldl (QrN p s) (oO s.st.toNat Qpm)
def occs (n:Nat)(pairs:List (LI)):List Bool:=pairs.foldl (λo q=>o.set (py q).toNat true) (oO n false)
def meets (a b:LI):LI:=mrg (· && ·) a b
def QqL (a b:UM):Bool:=decide ((meets a.en b.dis).length+(meets b.en a.dis).length=0) && (!a.ps || !b.ps || a.mk' == b.mk')
def O6 (l:LI)(i:Nat):Int:=l.getD i 0
def Qi5 (cl:LI)(x y:Nat):LI:=cl.map λc=>if c=O6 cl y then O6 cl x else c
def lget (l:List UM)(i:Nat):UM:=l.getD i Qpm
def to0 (s:Q6)(x:Nat)(v:Int):Int:=match xo s.ed x v with|some u=>u|none=>0
def clE (s:Q6)(x y:Nat)(z:LI×Bool)(v:Int):LI×Bool :=
 if O6 z.1 (to0 s x v).toNat≠O6 z.1 (to0 s y v).toNat then(Qi5 z.1 (to0 s x v).toNat (to0 s y v).toNat,true)else z
def clY (s:Q6)(l:List UM)(x:Nat)(z:LI×Bool)(y:Nat):LI×Bool :=
 if O6 z.1 x<0\/O6 z.1 x≠O6 z.1 y then z else(meets (lget l x).en (lget l y).en).foldl (clE s x y) z
def clX (s:Q6)(l:List UM)(n:Nat)(z:LI×Bool)(x:Nat):LI×Bool:=(oS (x+1) (n - (x+1))).foldl (clY s l x) z
def pass (s:Q6)(l:List UM)(cl:LI):LI×Bool:=(oS 0 cl.length).foldl (clX s l cl.length) (cl,false)
def Qko (s:Q6)(l:List UM):Nat->LI->LI
 | 0,cl=>cl
 | f+1,cl=>if(pass s l cl).2=true then Qko s l f (pass s l cl).1 else(pass s l cl).1
def Qm7 (l:List UM)(cl:LI):Bool :=
 (oS 0 cl.length).all λx=>(oS 0 x).all λy=>!(decide (0<=O6 cl x/\O6 cl x=O6 cl y) && !QqL (lget l x) (lget l y))
def Qrn (s:Q6)(l:List UM)(cl:LI)(x y:Nat):LI :=
 if O6 cl x<0\/O6 cl y<0\/O6 cl x=O6 cl y then cl else
  let d:=Qko s l (cl.length*cl.length+1) (Qi5 cl x y)
  if Qm7 l d=true then d else cl
def Qrm (s:Q6)(l:List UM)(n:Nat)(cl:LI)(x:Nat):LI:=(oS (x+1) (n - (x+1))).foldl (λc y=>Qrn s l c x y) cl
def QrS (o:List Bool):LI:=(oS 0 o.length).map λi=>if o.getD i false=true then(i:Int)else -1
def QrR (s:Q6)(l:List UM)(cl:LI):LI:=(oS 0 cl.length).foldl (Qrm s l cl.length) cl
def QrE (z:LI×LI)(c:Int):LI×LI :=
 if c∈z.1 then(z.1,z.2++[(z.1.idxOf c:Int) - 1])else(z.1++[c],z.2++[(z.1.length:Int) - 1])
def nums (cl:LI):LI:=(cl.foldl QrE ([-1],[])).2
def QqS (p s:Q6)(pairs:List (LI)):LI:=nums (QrR s (ctls p s pairs) (QrS (occs s.st.toNat pairs)))
theorem xI {α:Type}(g:α->LV)(sz:Nat)(G:∀x,(g x).length=sz):∀(l:List α) (i j:Nat) (h:i<l.length) (y:α) (u:O2),j<sz->g y=(g l[i]).set j u ->
  (l.flatMap g).set (i*sz+j) u=(l.set i y).flatMap g
 | x::l,0,j,h,y,u,H,E=>by
  simp only[List.getElem_cons_zero]at E;simp only[OP,oZ,Of,List.set_cons_zero];rw[List.set_append_left _ _ (by rw[G];exact H),E]
 | x::l,i+1,j,h,y,u,H,E=>by
  simp only[List.getElem_cons_succ]at E;simp only[Of,List.set_cons_succ];rw[List.set_append_right _ _ (by rw[G,Mt];omega),G,show(i+1)*sz+j - sz=i*sz+j by rw[Mt];omega,xI g sz G l i j (oA h) y u H E]
theorem ZL {l:LI}(h:i<l.length):l[i]=O6 l i:=by simp[O6,oR,h]
section
variable {l:xE}{K:Fr->O1->Prop}{f:Fr}{pS:String}{C:xA}{pl:xu}{i0:Nat}
theorem xic {x:O3}{e bys:Nat}[Sl P t e 1 bys z]{L:LN}{li:LI}{v:O2}{k:IntKind}
  (h:QL L w.heap v li) (E:ev f x=v) (G:ev f y=.int k i) (hi:i<li.length)
  (hK:∀a,At L w.heap a [sS (O6 li i)]->XL P ops K l (QN f d (.pointer (some a))) w) (H:Z9 ops f ⟨d,.indexAddr t x y,ty,pS,af,gd⟩=true:=by rfl):
  XL P ops K (⟨d,.indexAddr t x y,ty,pS,af,gd⟩::l) f w :=
 xii h E G hi (λa I=>hK a (by rw[<-ZL hi];exact I)) H
theorem pic {x:O3}{e bys:Nat}[Sl P t e 1 bys z]{L:LN}{li:LI}{v:O2}{k:IntKind}
  (E:QR ops i0=⟨d,.indexAddr t x y,ty,pS,af,gd⟩) (h:QL L H v li) (G:ev f x=v) (I:ev f y=.int k i) (hi:i<li.length)
  (hK:∀a,At L H a [sS (O6 li i)]->XP P ops C K pl (QN f d (.pointer (some a))) w) (J:Z9 ops f (QR ops i0)=true:=by rfl):XP P ops C K ((i0,true)::pl) f w :=
 pii E h G I hi (λa O=>hK a (by rw[<-ZL hi];exact O)) J
end
theorem Qis {a:Nat}(h:a<n):oS a (n - a)=a::oS (a+1) (n - (a+1)):=by
 rw[show n - a=(n - (a+1))+1 by omega,M8]
theorem QlS {a:Nat}(h:n<=a):oS a (n - a)=[]:=by rw[show n - a=0 by omega];rfl
section
variable {f:Fr}{all:xE}{C:xA}{K:Fr->O1->Prop}
def yY (all:Array Oper)(i j:Nat)(E G:xu):xu->Array Bool->Bool
 | [],ls=>Region.ready .any all ls == [i,j] && Xo all E (ls.setIfInBounds i true) && Xo all G (ls.setIfInBounds j true)
 | (k,q)::pl,ls=>q && (Region.ready .any all ls).contains k && Region.free .any all ls k && yY all i j E G pl (ls.setIfInBounds k true)
def QjD (all:xE)(pl:xu)(i j:Nat)(E G:xu):Bool :=
 Region.noSelect all.toArray && pl.length+1+E.length == all.length && E.length == G.length && yY all.toArray i j E G pl (oT all.length false)
def Fk (P:O4)(all:xE)(C:xA)(K:Fr->O1->Prop)(i j:Nat)(G H:xu)(f:Fr)(w:O1):Prop :=
 (Z9 all f (QR all i)=true/\XO P (QR all i) f w λE w'=>C w'/\XP P all C K G E w') /\
 (Z9 all f (QR all j)=true/\XO P (QR all j) f w λE w'=>C w'/\XP P all C K H E w')
theorem UG {i j:Nat}{G V:xu}(hl:G.length=V.length)(H:Region.noSelect all.toArray=true):∀(pl:xu) (ls:Array Bool) (f:Fr) (w:O1),ls.size=all.length->C w->yY all.toArray i j G V pl ls=true ->
  XP P all C (Fk P all C K i j G V) pl f w->XA P all C K (pl.length+(1+G.length)) ls f w
 | [],ls,f,w,ha,I,J,h=>by
  simp only[yY,oM,beq_iff_eq]at J;obtain⟨⟨O,h1⟩,h2⟩:=J;simp only[XP]at h;rw[Ni,LS,Nb];refine X2 (λh0=>(by rw[h0]at O;cases O)) ?_;rw[O];intro k hk o E;have S:(ls.setIfInBounds k true).size=all.length:=by simpa using ha
  simp only[oL,oK,or_false]at hk;rcases hk with rfl|rfl
  ·have:=h.1;rw[Zs E]at this;rw[this.1,cond_true];exact this.2.mono λv w' hx=>⟨.inr (.inr hx.1),ZY H G _ _ _ S (.inl hx.1) h1 hx.2⟩
  have:=h.2;rw[Zs E]at this;rw[this.1,cond_true,hl];exact this.2.mono λv w' hx=>⟨.inr (.inr hx.1),ZY H V _ _ _ S (.inl hx.1) h2 hx.2⟩
 | (T,q)::pl,ls,f,w,ha,I,J,h=>by
  simp only[yY,oM]at J;obtain⟨⟨⟨rfl,O⟩,hf⟩,hc⟩:=J;simp only[XP]at h;have hb:T∈Region.ready .any all.toArray ls:=by simpa using O
  have e:(oQ ((T,true)::pl))+(1+G.length)=(pl.length+(1+G.length))+1:=by simp;omega
  rw[e];cases E:all[T]? with
  | none =>
   exfalso;obtain⟨_,o,hi,_⟩:=mem_ready.1 hb;simp[E]at hi
  | some o =>
   rw[Zs E]at h;have he:∀(j:Nat) (o:Oper) cs b,all[j]?=some o->o.op≠.select cs b:=λj o cs b hj=>Region.noSelect_spec H j o cs b (oA hj);have hh:=λj oj hj=>Region.free_spec (ops:=all.toArray) (md:=.any) (i:=T) (oi:=o) (listed:=ls) (oA E) hf j oj (oA hj);have S:(ls.setIfInBounds T true).size=all.length:=by simpa using ha
   cases Y:Z9 all f o with
   | false =>
    rw[Y]at h;exact Xs (v:=undef) (D:=λw=>zf o=true->C w) E (λ_ h=>h) he _ ls f w (λ_=>I) hh hb (.inr ⟨Y,U⟩) (UG hl H pl _ _ _ S I hc h)
   | true =>
    rw[Y]at h;simp only[cond_true]at h;obtain⟨v,hv,hx⟩:=h;exact Xs (v:=v) (D:=λw=>zf o=true->C w) E (λ_ h=>h) he _ ls f w (λ_=>I) hh hb (.inl ⟨Y,hv⟩) (UG hl H pl _ _ _ S I hc hx)
theorem Qnq {Q:Exit->Fr->O1->Prop}(C:xA)(pl:xu)(i j:Nat)(G H:xu)(J:P.follows .mixedOrders=true)(O:XI n all=true)(E:QjD all pl i j G H=true)
  (S:C { w with drawn:=w.drawn+1 }) (h:XP P all C (Fk P all C (λf w=>Q .normal f w) i j G H) pl f { w with drawn:=w.drawn+1 }):W P n (.region id all.toArray true) Q f w:=by
 simp only[QjD,oM,beq_iff_eq]at E;obtain⟨⟨⟨T,V⟩,Y⟩,E⟩:=E;refine J2 C J O ?_;have I:=UG Y T pl _ _ _ od S E h;rw[<-ON,V]at I;exact I
end
section
variable {f:Fr}{pS:String}
class Ay (P:O4)(t:Nat)(m e sz:outParam Nat):Prop where
 u:P.underlying t=some (.array m e)
 i:(P.info? e).map (·.size)=some sz
theorem Z2 {x:O3}{m e:Nat}[h:Ay P t m e sz]{o:Nat}{k:IntKind}(hx:ev f x=.pointer (some ⟨b,o,none⟩))(G:ev f y=.int k i)(H:i<m):
  (execOp (ev f) ⟨d,.indexAddr t x y,ty,pS,af,gd⟩).run P w=.ok (.value (.pointer (some ⟨b,o+i*sz,none⟩))) w:=by
 have hi:=h.i;cases E:P.info? e with
 | none=>simp[E]at hi
 | some ii =>
  simp[E]at hi;simp[execOp,hx,G,Instr.indexAt,asIntOf,run_underlying h.u,Instr.sureAddr,sizeOf,typeInfo,E,hi,KD];intro I;omega
theorem Qnm {a:Nat}(E:a<256):inK .u8 ((a &&& b:Nat):Int):=by
 have:a &&& b<=a:=Nat.and_le_left;exact⟨oa,oa⟩
theorem yz {G:Nat}{x:O3}{a:Nat}(hx:ev f x=.int .u8 a)(H:ev f y=.int .u8 b)(E:a<256)(I:b<256):
  (execOp (ev f) ⟨d,.binOp .and t x y G,ty,pS,af,gd⟩).run P w=.ok (.value (.int .u8 ((a &&& b:Nat):Int))) w:=by
 refine Jv hx H ?_;simp only[binOp,Op.intBits,BitVec.ofInt_natCast,ne_eq,not_true_eq_false,if_false,Sem.run_pure];rw[BitVec.toNat_and,BitVec.toNat_ofNat,BitVec.toNat_ofNat,M9 (show a<2 ^ IntKind.u8.bits from E),M9 (show b<2 ^ IntKind.u8.bits from I),YR (Qnm E)]
theorem Qbb (m i:Nat):((m:Int) / 2 ^ i)=((m / 2 ^ i:Nat):Int):=by rw[Int.natCast_ediv,Int.natCast_pow];rfl
end
inductive Pt where
 | pl (l:xu)
 | fk (pre:xu) (i j:Nat) (t1 t2:Pt)
def Pt.len:Pt->Nat
 | .pl l=>l.length
 | .fk pre _ _ t1 _=>pre.length+(1+t1.len)
def Kh (all:Array Oper):xu->Array Bool->Bool
 | [],_=>true
 | (k,q)::pl,ls=>q && (Region.ready .any all ls).contains k && Region.free .any all ls k && Kh all pl (ls.setIfInBounds k true)
def Yb:xu->Array Bool->Array Bool
 | [],ls=>ls
 | (k,_)::pl,ls=>Yb pl (ls.setIfInBounds k true)
def XT (P:O4)(all:xE)(C:xA)(K:Fr->O1->Prop):Pt->Fr->O1->Prop
 | .pl l=>XP P all C K l
 | .fk pre i j t1 t2=>XP P all C (λf w=>(Z9 all f (QR all i)=true/\XO P (QR all i) f w λE w'=>C w'/\XT P all C K t1 E w') /\
   (Z9 all f (QR all j)=true/\XO P (QR all j) f w λE w'=>C w'/\XT P all C K t2 E w')) pre
section
variable {f:Fr}{all:xE}{C:xA}{K B:Fr->O1->Prop}
theorem YU:∀(pl:xu) (ls:Array Bool),(Yb pl ls).size=ls.size
 | [],_=>rfl
 | (k,q)::pl,ls=>by rw[Yb,YU];simp
theorem YQ {m:Nat}(O:Region.noSelect all.toArray=true):∀(pl:xu) (ls:Array Bool) (f:Fr) (w:O1),C w->Kh all.toArray pl ls=true ->
  (∀f,B f w->XA P all C K m (Yb pl ls) f w)->XP P all C B pl f w->XA P all C K (pl.length+m) ls f w
 | [],ls,f,w,E,S,H,h=>by
  simp only[XP]at h;rw[Ni,LS];exact H f h
 | (I,q)::pl,ls,f,w,E,S,H,h=>by
  simp only[Kh,oM]at S;obtain⟨⟨⟨rfl,hr⟩,hf⟩,Y⟩:=S;simp only[XP]at h;have T:I∈Region.ready .any all.toArray ls:=by simpa using hr
  have e:(oQ ((I,true)::pl))+m=(pl.length+m)+1:=by simp;omega
  rw[e];cases G:all[I]? with
  | none =>
   exfalso;obtain⟨_,o,hc,_⟩:=mem_ready.1 T;simp[G]at hc
  | some o =>
   rw[Zs G]at h;have ha:∀(j:Nat) (o:Oper) cs b,all[j]?=some o->o.op≠.select cs b:=λj o cs b V=>Region.noSelect_spec O j o cs b (oA V);have hb:=λj oj V=>Region.free_spec (ops:=all.toArray) (md:=.any) (i:=I) (oi:=o) (listed:=ls) (oA G) hf j oj (oA V);cases J:Z9 all f o with
   | false =>
    rw[J]at h;exact Xs (v:=undef) (D:=λw=>zf o=true->C w) G (λ_ h=>h) ha _ ls f w (λ_=>E) hb T (.inr ⟨J,U⟩) (YQ O pl _ _ _ E Y H h)
   | true =>
    rw[J]at h;simp only[cond_true]at h;obtain⟨v,hv,hx⟩:=h;exact Xs (v:=v) (D:=λw=>zf o=true->C w) G (λ_ h=>h) ha _ ls f w (λ_=>E) hb T (.inl ⟨J,hv⟩) (YQ O pl _ _ _ E Y H hx)
end
end Go.Lg
namespace Go.Proofs
open Go.Proofs.Tryz
open Go.Lg
instance:Sl sV 32 113 4 4 (.agg #[.int .u8 0,.int .u8 0,.int .u8 0,.int .u8 0]):={}
instance:Sl sV 39 183 5 32 (.agg #[.string ByteArray.empty,.bool false,.bool false,.bool false,sS 0]):={}
instance:Sl sV 40 71 5 96 (.agg #[.string ByteArray.empty,nS,sS 0,nS,nS]):={}
instance:Sl sV 41 116 2 40 (.agg #[.string ByteArray.empty,nS]):={}
instance:Sl sV 42 121 3 48 (.agg #[.string ByteArray.empty,nS,sS 0]):={}
instance:Sl sV 51 75 2 24 (.agg #[sS 0,.string ByteArray.empty]):={}
instance:Sl sV 56 3 1 8 (sS 0):={}
instance:Sl sV 57 167 3 24 (.agg #[sS 0,sS 0,sS 0]):={}
instance:Sl sV 60 143 2 24 (.agg #[.string ByteArray.empty,sS 0]):={}
instance:Sl sV 61 145 2 24 (.agg #[.string ByteArray.empty,sS 0]):={}
instance:Sl sV 69 65 10 168 (.agg #[.bool false,sS 0,.string ByteArray.empty,nS,sS 0,nS,nS,nS,nS,sS 0]):={}
instance:Sl sV 80 90 10 184 (.agg #[sS 0,.string ByteArray.empty,sS 0,nS,sS 0,nS,nS,nS,nS,nS]):={}
instance:Sl sV 86 241 4 32 (.agg #[sS 0,sS 0,sS 0,sS 0]):={}
instance:Sl sV 101 53 3 72 (.agg #[nS,nS,nS]):={}
instance:Sl sV 114 118 2 16 (.agg #[sS 0,sS 0]):={}
instance:Sl sV 119 123 2 16 (.agg #[sS 0,sS 0]):={}
instance:Sl sV 126 63 9 160 (.agg #[sS 0,.string ByteArray.empty,nS,sS 0,nS,nS,nS,nS,sS 0]):={}
instance:Sl sV 131 149 15 304 (.agg #[sS 0,.string ByteArray.empty,sS 0,nS,sS 0,nS,nS,nS,nS,nS,nS,nS,nS,nS,nS]):={}
instance:Sl sV 134 139 1 8 (.nilFunc):={}
instance:Sl sV 154 165 15 304 (.agg #[sS 0,.string ByteArray.empty,sS 0,nS,sS 0,nS,nS,nS,nS,nS,nS,nS,nS,nS,nS]):={}
instance:Sl sV 159 156 6 144 (.agg #[nS,nS,nS,nS,nS,nS]):={}
instance:Sl sV 168 59 4 80 (.agg #[nS,sS 0,nS,nS]):={}
instance:Sl sV 174 56 1 24 (nS):={}
instance:Sl sV 175 185 4 32 (.agg #[sS 0,sS 0,sS 0,sS 0]):={}
instance:Sl sV 188 5 1 1 (.int .u8 0):={}
instance:Sl sV 197 71 5 96 (.agg #[.string ByteArray.empty,nS,sS 0,nS,nS]):={}
instance:Sl sV 213 219 3 40 (.agg #[sS 0,sS 0,nS]):={}
instance:Sl sV 275 4 1 1 (.bool false):={}
instance:Sl sV 302 306 3 24 (.agg #[sS 0,sS 0,.nilFunc]):={}
instance:Sl sV 327 398 1 8 (.map none):={}
instance:Sl sV 348 403 1 8 (.nilFunc):={}
instance:Sl sV 376 375 2 32 (.agg #[nS,sS 0]):={}
instance:Sl sV 415 414 2 32 (.agg #[nS,sS 0]):={}
instance:Sl sV 429 57 1 24 (nS):={}
instance:Zg sV 28 0 0:={}
instance:Zg sV 28 1 1:={}
instance:Zg sV 28 2 2:={}
instance:Zg sV 36 0 0:={}
instance:Zg sV 36 1 5:={}
instance:Zg sV 36 2 6:={}
instance:Zg sV 36 3 9:={}
instance:Zg sV 36 4 90:={}
instance:Zg sV 36 5 91:={}
instance:Zg sV 36 6 93:={}
instance:Zg sV 36 7 147:={}
instance:Zg sV 36 8 148:={}
instance:Zg sV 36 9 151:={}
instance:Zg sV 44 0 0:={}
instance:Zg sV 44 1 1:={}
instance:Zg sV 44 2 2:={}
instance:Zg sV 44 3 3:={}
instance:Zg sV 44 4 4:={}
instance:Zg sV 53 0 0:={}
instance:Zg sV 53 1 1:={}
instance:Zg sV 53 2 2:={}
instance:Zg sV 59 0 0:={}
instance:Zg sV 59 1 1:={}
instance:Zg sV 59 2 2:={}
instance:Zg sV 59 3 3:={}
instance:Zg sV 63 0 0:={}
instance:Zg sV 63 1 1:={}
instance:Zg sV 63 2 2:={}
instance:Zg sV 63 3 6:={}
instance:Zg sV 63 4 7:={}
instance:Zg sV 63 5 8:={}
instance:Zg sV 65 0 0:={}
instance:Zg sV 65 1 1:={}
instance:Zg sV 68 0 0:={}
instance:Zg sV 68 1 1:={}
instance:Zg sV 68 2 2:={}
instance:Zg sV 71 0 0:={}
instance:Zg sV 71 1 1:={}
instance:Zg sV 75 1 1:={}
instance:Zg sV 88 0 0:={}
instance:Zg sV 88 1 1:={}
instance:Zg sV 88 2 2:={}
instance:Zg sV 90 0 0:={}
instance:Zg sV 90 1 2:={}
instance:Zg sV 90 2 3:={}
instance:Zg sV 90 3 7:={}
instance:Zg sV 116 0 0:={}
instance:Zg sV 116 1 1:={}
instance:Zg sV 118 0 0:={}
instance:Zg sV 118 1 1:={}
instance:Zg sV 121 0 0:={}
instance:Zg sV 121 1 1:={}
instance:Zg sV 121 2 2:={}
instance:Zg sV 123 0 0:={}
instance:Zg sV 123 1 1:={}
instance:Zg sV 136 0 0:={}
instance:Zg sV 136 1 5:={}
instance:Zg sV 136 2 6:={}
instance:Zg sV 136 3 7:={}
instance:Zg sV 136 4 8:={}
instance:Zg sV 143 0 0:={}
instance:Zg sV 143 1 1:={}
instance:Zg sV 145 0 0:={}
instance:Zg sV 145 1 1:={}
instance:Zg sV 149 0 0:={}
instance:Zg sV 149 1 10:={}
instance:Zg sV 156 1 5:={}
instance:Zg sV 161 0 0:={}
instance:Zg sV 161 1 1:={}
instance:Zg sV 161 2 2:={}
instance:Zg sV 165 0 0:={}
instance:Zg sV 165 1 10:={}
instance:Zg sV 167 0 0:={}
instance:Zg sV 167 1 1:={}
instance:Zg sV 167 2 2:={}
instance:Zg sV 177 0 0:={}
instance:Zg sV 177 1 4:={}
instance:Zg sV 177 2 5:={}
instance:Zg sV 177 3 6:={}
instance:Zg sV 177 4 7:={}
instance:Zg sV 183 0 0:={}
instance:Zg sV 183 1 1:={}
instance:Zg sV 183 2 2:={}
instance:Zg sV 183 3 3:={}
instance:Zg sV 183 4 4:={}
instance:Zg sV 185 0 0:={}
instance:Zg sV 206 0 0:={}
instance:Zg sV 206 1 1:={}
instance:Zg sV 206 2 2:={}
instance:Zg sV 219 0 0:={}
instance:Zg sV 219 1 1:={}
instance:Zg sV 219 2 2:={}
instance:Zg sV 224 0 0:={}
instance:Zg sV 224 1 3:={}
instance:Zg sV 224 2 4:={}
instance:Zg sV 224 3 8:={}
instance:Zg sV 241 0 0:={}
instance:Zg sV 266 0 0:={}
instance:Zg sV 266 1 5:={}
instance:Zg sV 266 2 9:={}
instance:Zg sV 266 3 10:={}
instance:Zg sV 266 4 14:={}
instance:Zg sV 266 5 15:={}
instance:Zg sV 266 6 18:={}
instance:Zg sV 306 0 0:={}
instance:Zg sV 306 1 1:={}
instance:Zg sV 306 2 2:={}
instance:Zg sV 309 0 0:={}
instance:Zg sV 309 1 1:={}
instance:Zg sV 309 2 2:={}
instance:Zg sV 309 3 3:={}
instance:Zg sV 329 0 0:={}
instance:Zg sV 329 1 1:={}
instance:Zg sV 329 2 2:={}
instance:Zg sV 339 0 0:={}
instance:Zg sV 339 1 1:={}
instance:Zg sV 375 0 0:={}
instance:Zg sV 375 1 1:={}
instance:Zg sV 388 0 0:={}
instance:Zg sV 388 1 4:={}
instance:Zg sV 388 2 5:={}
instance:Zg sV 388 3 6:={}
instance:Zg sV 414 0 0:={}
instance:Zg sV 414 1 1:={}
instance:X6 sV 3:={}
instance:X6 sV 4:={}
instance:X6 sV 5:={}
instance:X6 sV 9:={}
instance:X6 sV 24:={}
instance:X6 sV 32:={}
instance:X6 sV 33:={}
instance:X6 sV 39:={}
instance:X6 sV 40:={}
instance:X6 sV 41:={}
instance:X6 sV 42:={}
instance:X6 sV 47:={}
instance:X6 sV 51:={}
instance:X6 sV 56:={}
instance:X6 sV 57:={}
instance:X6 sV 60:={}
instance:X6 sV 61:={}
instance:X6 sV 86:={}
instance:X6 sV 101:={}
instance:X6 sV 114:={}
instance:X6 sV 119:={}
instance:X6 sV 131:={}
instance:X6 sV 134:={}
instance:X6 sV 139:={}
instance:X6 sV 154:={}
instance:X6 sV 159:={}
instance:X6 sV 168:={}
instance:X6 sV 174:={}
instance:X6 sV 175:={}
instance:X6 sV 188:={}
instance:X6 sV 261:={}
instance:X6 sV 264:={}
instance:X6 sV 275:={}
instance:X6 sV 304:={}
instance:X6 sV 327:={}
instance:X6 sV 337:={}
instance:X6 sV 386:={}
instance:X6 sV 398:={}
instance:X6 sV 403:={}
instance:Ag sV 23 5:={}
instance:Ag sV 28 27:={}
instance:Ag sV 36 152:={}
instance:Ag sV 44 5:={}
instance:Ag sV 53 3:={}
instance:Ag sV 59 4:={}
instance:Ag sV 63 9:={}
instance:Ag sV 65 10:={}
instance:Ag sV 68 3:={}
instance:Ag sV 71 5:={}
instance:Ag sV 75 2:={}
instance:Ag sV 88 3:={}
instance:Ag sV 90 10:={}
instance:Ag sV 113 4:={}
instance:Ag sV 116 2:={}
instance:Ag sV 118 2:={}
instance:Ag sV 121 3:={}
instance:Ag sV 123 2:={}
instance:Ag sV 143 2:={}
instance:Ag sV 145 2:={}
instance:Ag sV 149 15:={}
instance:Ag sV 156 6:={}
instance:Ag sV 165 15:={}
instance:Ag sV 167 3:={}
instance:Ag sV 177 8:={}
instance:Ag sV 183 5:={}
instance:Ag sV 185 4:={}
instance:Ag sV 206 3:={}
instance:Ag sV 219 3:={}
instance:Ag sV 224 9:={}
instance:Ag sV 241 4:={}
instance:Ag sV 306 3:={}
instance:Ag sV 309 4:={}
instance:Ag sV 329 3:={}
instance:Ag sV 375 2:={}
instance:Ag sV 414 2:={}
instance:Ze sV 3 (sS 0):={}
instance:Ze sV 4 (.bool false):={}
instance:Ze sV 44 (.agg #[nS,nS,nS,nS,nS]):={}
instance:Ze sV 47 (sS 0):={}
instance:Ze sV 53 (.agg #[nS,nS,nS]):={}
instance:Ze sV 56 (nS):={}
instance:Ze sV 59 (.agg #[nS,sS 0,nS,nS]):={}
instance:Ze sV 63 (.agg #[sS 0,.string ByteArray.empty,nS,sS 0,nS,nS,nS,nS,sS 0]):={}
instance:Ze sV 65 (.agg #[.bool false,sS 0,.string ByteArray.empty,nS,sS 0,nS,nS,nS,nS,sS 0]):={}
instance:Ze sV 71 (.agg #[.string ByteArray.empty,nS,sS 0,nS,nS]):={}
instance:Ze sV 75 (.agg #[sS 0,.string ByteArray.empty]):={}
instance:Ze sV 88 (.agg #[nS,nS,nS]):={}
instance:Ze sV 90 (.agg #[sS 0,.string ByteArray.empty,sS 0,nS,sS 0,nS,nS,nS,nS,nS]):={}
instance:Ze sV 113 (.agg #[.int .u8 0,.int .u8 0,.int .u8 0,.int .u8 0]):={}
instance:Ze sV 116 (.agg #[.string ByteArray.empty,nS]):={}
instance:Ze sV 118 (.agg #[sS 0,sS 0]):={}
instance:Ze sV 121 (.agg #[.string ByteArray.empty,nS,sS 0]):={}
instance:Ze sV 123 (.agg #[sS 0,sS 0]):={}
instance:Ze sV 131 (nS):={}
instance:Ze sV 143 (.agg #[.string ByteArray.empty,sS 0]):={}
instance:Ze sV 145 (.agg #[.string ByteArray.empty,sS 0]):={}
instance:Ze sV 149 (.agg #[sS 0,.string ByteArray.empty,sS 0,nS,sS 0,nS,nS,nS,nS,nS,nS,nS,nS,nS,nS]):={}
instance:Ze sV 156 (.agg #[nS,nS,nS,nS,nS,nS]):={}
instance:Ze sV 165 (.agg #[sS 0,.string ByteArray.empty,sS 0,nS,sS 0,nS,nS,nS,nS,nS,nS,nS,nS,nS,nS]):={}
instance:Ze sV 167 (.agg #[sS 0,sS 0,sS 0]):={}
instance:Ze sV 177 (.agg #[nS,sS 0,nS,nS,nS,nS,nS,nS]):={}
instance:Ze sV 183 (.agg #[.string ByteArray.empty,.bool false,.bool false,.bool false,sS 0]):={}
instance:Ze sV 185 (.agg #[sS 0,sS 0,sS 0,sS 0]):={}
instance:Ze sV 206 (.agg #[nS,nS,nS]):={}
instance:Ze sV 219 (.agg #[sS 0,sS 0,nS]):={}
instance:Ze sV 224 (.agg #[nS,nS,nS,sS 0,nS,sS 0,nS,nS,nS]):={}
instance:Ze sV 241 (.agg #[sS 0,sS 0,sS 0,sS 0]):={}
instance:Ze sV 306 (.agg #[sS 0,sS 0,.nilFunc]):={}
instance:Ze sV 309 (.agg #[nS,nS,nS,nS]):={}
instance:Ze sV 329 (.agg #[nS,nS,nS]):={}
instance:Ze sV 339 (.agg #[.pointer none,nS]):={}
instance:Ze sV 375 (.agg #[nS,sS 0]):={}
instance:Ze sV 414 (.agg #[nS,sS 0]):={}
instance:Bs sV 44 [nS,nS,nS,nS,nS] [0,1,2,3,4]:={}
instance:Bs sV 53 [nS,nS,nS] [0,1,2]:={}
instance:Bs sV 59 [nS,sS 0,nS,nS] [0,1,2,3]:={}
instance:Bs sV 75 [sS 0,.string ByteArray.empty] [0,1]:={}
instance:Bs sV 88 [nS,nS,nS] [0,1,2]:={}
instance:Bs sV 116 [.string ByteArray.empty,nS] [0,1]:={}
instance:Bs sV 118 [sS 0,sS 0] [0,1]:={}
instance:Bs sV 121 [.string ByteArray.empty,nS,sS 0] [0,1,2]:={}
instance:Bs sV 123 [sS 0,sS 0] [0,1]:={}
instance:Bs sV 143 [.string ByteArray.empty,sS 0] [0,1]:={}
instance:Bs sV 145 [.string ByteArray.empty,sS 0] [0,1]:={}
instance:Bs sV 161 [nS,nS,sS 0] [0,1,2]:={}
instance:Bs sV 167 [sS 0,sS 0,sS 0] [0,1,2]:={}
instance:Bs sV 183 [.string ByteArray.empty,.bool false,.bool false,.bool false,sS 0] [0,1,2,3,4]:={}
instance:Bs sV 185 [sS 0,sS 0,sS 0,sS 0] [0,1,2,3]:={}
instance:Bs sV 206 [nS,nS,nS] [0,1,2]:={}
instance:Bs sV 219 [sS 0,sS 0,nS] [0,1,2]:={}
instance:Bs sV 241 [sS 0,sS 0,sS 0,sS 0] [0,1,2,3]:={}
instance:Bs sV 306 [sS 0,sS 0,.nilFunc] [0,1,2]:={}
instance:Bs sV 309 [nS,nS,nS,nS] [0,1,2,3]:={}
instance:Bs sV 329 [nS,nS,nS] [0,1,2]:={}
instance:Bs sV 375 [nS,sS 0] [0,1]:={}
instance:Bs sV 399 [sS 0,sS 0] [0,1]:={}
instance:Bs sV 414 [nS,sS 0] [0,1]:={}
instance:Ik sV 3 .i64:={}
instance:Ik sV 5 .u8:={}
instance:St sV 9:=⟨underlying9⟩
instance:Ik sV 21 .i32:={}
instance:Ik sV 33 .i8:={}
instance:Ik sV 285 .u64:={}
instance:S3 sV 167:=⟨⟨_,_,_,underlying167,ol,ol,ol,U,U,U,underlying3,underlying3,underlying3⟩,oe,oe⟩
instance:Mp sV 202 9 4 (.bool false):={}
instance:Key sV 9 JY:=Qml underlying9
instance:Mp sV 216 75 149 (.agg #[sS 0,.string ByteArray.empty,sS 0,nS,sS 0,nS,nS,nS,nS,nS,nS,nS,nS,nS,nS]):={}
instance:Mp sV 217 75 4 (.bool false):={}
instance:Mp sV 264 9 3 (sS 0):={}
instance:Mp sV 380 3 379 (.nilFunc):={}
instance:Key sV 3 Uv:=Qmm underlying3
instance:Mp sV 386 3 56 (nS):={}
instance:Mp sV 398 399 3 (sS 0):={}
instance:Key sV 399 Jw:=Qjh underlying399 underlying3 oe
instance:Mp sV 430 3 3 (sS 0):={}
instance:Fu sV 38 f38:=K5 func38
instance:Fu sV 41 f41:=K5 func41
instance:Fu sV 48 f48:=K5 func48
instance:Fu sV 55 f55:=K5 func55
instance:Fu sV 56 f56:=K5 func56
instance:Fu sV 74 f74:=K5 func74
instance:Fu sV 112 f112:=K5 func112
instance:Fu sV 116 f116:=K5 func116
instance:Fu sV 119 f119:=K5 func119
instance:Fu sV 147 f147:=K5 func147
instance:Fu sV 151 f151:=K5 func151
instance:Fu sV 154 f154:=K5 func154
instance:Fu sV 155 f155:=K5 func155
instance:Fu sV 158 f158:=K5 func158
instance:Fu sV 167 f167:=K5 func167
instance:Fu sV 177 f177:=K5 func177
instance:Fu sV 178 f178:=K5 func178
instance:Fu sV 187 f187:=K5 func187
instance:Fu sV 188 f188:=K5 func188
instance:Fu sV 189 f189:=K5 func189
instance:Fu sV 193 f193:=K5 func193
instance:Fu sV 220 f220:=K5 func220
instance:Fu sV 223 f223:=K5 func223
instance:Fu sV 224 f224:=K5 func224
instance:Fu sV 225 f225:=K5 func225
instance:Fu sV 226 f226:=K5 func226
instance:Fu sV 228 f228:=K5 func228
instance:Fu sV 230 f230:=K5 func230
instance:Fu sV 232 f232:=K5 func232
instance:Fu sV 250 f250:=K5 func250
instance:Fu sV 256 f256:=K5 func256
instance:Fu sV 262 f262:=K5 func262
instance:Fu sV 272 f272:=K5 func272
instance:Fu sV 295 f295:=K5 func295
instance:Fu sV 297 f297:=K5 func297
instance:Fu sV 298 f298:=K5 func298
instance:Fu sV 310 f310:=K5 func310
instance:Fu sV 332 f332:=K5 func332
instance:Fu sV 334 f334:=K5 func334
theorem mixed:sV.follows .mixedOrders=true:=oe
theorem ZA {all:xE}{f:Fr}{Q:Exit->Fr->O1->Prop}(L:LN)(pl:xu)(h:XP sV all (O5 L w) (λf w=>Q .normal f w) pl f { w with drawn:=w.drawn+1 })(E:XI n all=true:=by rfl)(G:yA all pl=true:=by kernel_rfl):W sV n (.region id all.toArray true) Q f w:=qZ (O5 L w) pl mixed E G (O5.C _ _) h
theorem brG {B:Func}(E:((((P.funcs[g]?).map Func.name).getD "") == "runtime.NumGoroutine")=false) (G:P.funcs[g]?=some { B with name:=((P.funcs[g]?).map Func.name).getD "" }):∃nm:String,(nm == "runtime.NumGoroutine")=false/\P.funcs[g]?=some { B with name:=nm }:=⟨_,E,G⟩
theorem lyS {p:Prop}(h:p:=by constructor <;> first|kernel_rfl|decide|(intro _;kernel_rfl)|(apply brG <;> kernel_rfl)|(constructor <;> first|kernel_rfl|decide|(intro _;kernel_rfl)|(apply brG <;> kernel_rfl))):p:=h
end Go.Proofs
namespace Go.Lg
def xj (es:List Ed)(s e:Int):Int:=match es with
 | []=>-1
 | x::es=>if x.1=s/\x.2.1=e then x.2.2 else xj es s e
theorem Qjy {L:LN}{v:O2}{l:LI}(h:QL L w.heap v l)(n:Int):
  QZ sV 75 [v,sS n] w λr w'=>w'=w/\∃i:Int,r=sS i/\(0<=i↔n∈l):=by
 have O:=h.le;refine Zq func75 ?_;refine Qc<|Qb<|Qe<|Qj<|QF h U<|Qa<|xe<|Q8 (α:=Nat) [(4,5),(8,18)] (λk=>[(8,sS k)]) (λk w'=>w'=w/\k<=l.length/\(n∈l↔n∈l.drop k)) (λk=>l.length - k) 0 La ⟨U,Ln _,od⟩ ?_;rintro k g S ⟨rfl,T,E⟩;refine Zn rfl U (λI=>?_) (λI=>?_)
 ·refine Qw<|Qc<|Qb<|Qh ⟨[sS (-1)],La,U,-1,U,?_⟩;rw[Ls oa]at E;simp[E]
 have H:k<l.length:=oa
 have hd:=Zc H;refine Qf<|Qe<|Qm<|Qj<|Qb<|Qj<|Qa<|Qa<|xii h U U H λV J=>x (Qy J U)<|x (QT U U)<|xe<|QO rfl (λG=>?_) (λG=>?_)
 ·refine Qj<|Qb<|Qh ⟨[sS k],La,U,k,U,?_⟩;have:n∈l:=by rw[E,hd,G];exact Lq
  simp[this]
 refine Qf<|Qs<|QG U U<|Qa<|xe<|⟨k+1,oa,La,U,oa,?_⟩;rw[E,hd,Li];exact⟨λh=>h.resolve_left G,.inr⟩
theorem Yp {L:LN}{v:O2}{l:LI}(h:QL L w.heap v l)(n:Int):
  QZ sV 39 [v,sS n] w λr w'=>r=.bool (decide (n∈l))/\w'=w:=by
 refine Zq func39 ?_;refine Qc<|Qb<|Qj<|Qa<|Qz<|(Qjy h n).mono ?_;rintro E G ⟨rfl,i,rfl,hi⟩;refine x (YA U U)<|Qb<|Qh ⟨[.bool (decide (0<=i))],La,?_,U⟩;simp[tup,hi]
theorem JP {L L':LN}{v:O2}{l l':LI}(h:QL L w.heap v l)(E:QL L' w.heap v' l'):
  QZ sV 107 [v,v'] w λr w'=>r=.bool (decide (l=l'))/\sX w w':=by
 have hf:=h.le;refine Zq func107 ?_;refine Qc<|Qb<|Qe<|Qj<|QF h U<|Qa<|QF E U<|Zx U U<|xe<|QO rfl (λO=>?_) (λO=>?_)
 ·refine Qc<|Qb<|Qh ⟨[.bool false],La,?_,O5.Z _ _⟩;have:l≠l':=λe=>O (by rw[e]);simp[tup,this]
 refine Qf<|Qe<|Qj<|QF h U<|Qa<|xe<|Q8 (α:=Nat) [(4,5),(13,25)] (λk=>[(13,sS k)]) (λk w'=>sX w w'/\k<=l.length/\(l=l'↔l.drop k=l'.drop k)) (λk=>l.length - k) 0 La ⟨O5.Z _ _,Ln _,od⟩ ?_;rintro k g Y ⟨G,hk,H⟩
 replace h:=h.I G
 replace E:=E.I G;refine Zn rfl U (λha=>?_) (λha=>?_)
 ·refine Qw<|Qc<|Qb<|Qh ⟨[.bool true],La,?_,G⟩;rw[Ls oa,Ls oa]at H;simp[tup,H]
 have S:k<l.length:=oa
 have T:k<l'.length:=oa
 refine Qf<|Qe<|Qm<|Qj<|Qb<|Qe<|ZA [] (YX 0 9 [])<|p Qx<|p Qx<|pii U h U U S λhg hb=>pq (λ_ I=>Qy (hb.I I) U) <|
  p Qx<|p Qx<|pii U E U U T λhh he=>pq (λ_ I=>Qy (he.I I) U)<|p (λ_=>XM U U)<|pe ?_
 have V:=G.D (O5.C [] Y);refine QO rfl (λJ=>?_) (λJ=>?_)
 ·refine Qc<|Qb<|Qh ⟨[.bool false],La,?_,V⟩;have:l≠l':=λe=>J (by simp[e]);simp[tup,this]
 refine Qf<|Qs<|QG U U<|Qa<|xe<|⟨k+1,oa,La,V,oa,?_⟩;have e:l[k]=l'[k]:=Lo.1 J;rw[H,Zc S,Zc T,e];exact⟨λh=>(List.cons.inj h).2,λh=>by rw[h]⟩
theorem QaD {L L':LN}{v:O2}{l l':List Ed}(h:zJ L w.heap v l)(E:zJ L' w.heap v' l'):
  QZ sV 108 [v,v'] w λr w'=>r=.bool (decide (l=l'))/\sX w w':=by
 have hf:=h.le;refine Zq func108 ?_;refine Qc<|Qb<|Qe<|Qj<|QF h U<|Qa<|QF E U<|Zx U U<|xe<|QO rfl (λO=>?_) (λO=>?_)
 ·refine Qc<|Qb<|Qh ⟨[.bool false],La,?_,O5.Z _ _⟩;have:l≠l':=λe=>O (by rw[e]);simp[tup,this]
 refine Qf<|Qe<|Qj<|QF h U<|Qa<|xe<|Q8 (α:=Nat) [(4,5),(13,25)] (λk=>[(13,sS k)]) (λk w'=>sX w w'/\k<=l.length/\(l=l'↔l.drop k=l'.drop k)) (λk=>l.length - k) 0 La ⟨O5.Z _ _,Ln _,od⟩ ?_;rintro k g Y ⟨G,hk,H⟩
 replace h:=h.I G
 replace E:=E.I G;refine Zn rfl U (λha=>?_) (λha=>?_)
 ·refine Qw<|Qc<|Qb<|Qh ⟨[.bool true],La,?_,G⟩;rw[Ls oa,Ls oa]at H;simp[tup,H]
 have S:k<l.length:=oa
 have T:k<l'.length:=oa
 refine Qf<|Qe<|Qm<|Qj<|Qb<|Qe<|ZA [] (YX 0 9 [])<|p Qx<|p Qx<|pie U h U U S λhg hb=>pq (λ_ I=>Qr (hb.I I) U U) <|
  p Qx<|p Qx<|pie U E U U T λhh he=>pq (λ_ I=>Qr (he.I I) U U)<|p (λ_=>UU U U)<|pe ?_
 have V:=G.D (O5.C [] Y);refine QO rfl (λJ=>?_) (λJ=>?_)
 ·refine Qc<|Qb<|Qh ⟨[.bool false],La,?_,V⟩;have:l≠l':=λe=>J (by simp[e]);simp[tup,this]
 refine Qf<|Qs<|QG U U<|Qa<|xe<|⟨k+1,oa,La,V,oa,?_⟩;have e:l[k]=l'[k]:=Lo.1 J;rw[H,Zc S,Zc T,e];exact⟨λh=>(List.cons.inj h).2,λh=>by rw[h]⟩
theorem QcO (n:Int):QZ sV 175 [sS n] w λr w'=>r=.bool false/\w'=w:=by
 refine Zq func175 ?_;refine Qc<|Qb<|Qj<|Qa<|Zx U U<|Qb<|Qh ⟨[.bool (decide (¬n=n))],La,by simp[tup],rfl⟩
theorem QgZ (n:Int):QZ sV 248 [sS n] w λr w'=>r=.bool false/\w'=w:=by
 refine Zq func248 ?_;refine Qc<|Qb<|Qj<|Qa<|Zx U U<|Qb<|Qh ⟨[.bool (decide (¬n=n))],La,by simp[tup],rfl⟩
theorem Qfr (m n:Int):QZ sV 174 [sS m,sS n] w λr w'=>r=.bool (decide (m<n))/\w'=w:=by
 refine Zq func174 ?_;refine Qc<|Qb<|Qj<|Qz<|(QgZ m).mono ?_;rintro E G ⟨rfl,rfl⟩;refine Qa<|Zu<|QE U<|Qa<|Qa<|Qa<|Ya U U<|QE U<|Qb<|Qh ⟨[.bool (decide (m<n))],La,U,U⟩
theorem Y8.get {l:LI}(h:Y8 l)(E:j<l.length)(G:i<j):l[i]<l[j]:=MR.1 h i j oa E G
theorem jo {L:LN}{v:O2}{l:LI}(h:QL L w.heap v l)(hi:Y8 l)(n:Int):
  QZ sV 104 [v,sS n] w λr w'=>w'=w/\∃i:Int,r=.tuple #[sS i,.bool (decide (n∈l))]:=by
 have hr:=h.le;refine Zq func104 ?_;refine Qc<|x Qi<|Qb<|Qj<|QF h U<|Qb<|Qj<|x Qi<|Qb<|Qe<|Q8 (α:=Nat×Nat) [(7,9),(13,30)] (λz=>[(7,sS z.1),(8,sS z.2)])
  (λz w'=>w'=w/\z.1<=z.2/\z.2<=l.length/\(∀m (E:m<l.length),m<z.1->l[m]<n)/\(∀m (E:m<l.length),z.2<=m->n<=l[m])) (λz=>z.2 - z.1) (0,l.length) oB
  ⟨U,Ln _,Lv _,λm _ I=>OW I (Nh m),λm h1 I=>OW h1 (by simp only[]at I;omega)⟩ ?_
 rintro⟨i,j⟩ g w1 ⟨rfl,hs,hj,J,S⟩;refine Qe<|Qj<|Qa<|Ya U U<|xe<|ZI rfl (λha=>?_) (λha=>?_)
 ·have e:i=j:=oa
  subst e;refine Qw<|QX (α:=Bool) [(4,5),(31,53)] (λz=>[(4,sS i),(5,.bool z)]) (λz w'=>w'=w1/\z=decide (n∈l)) om ?_ ?_
  ·refine Qs<|Qa<|Qa<|Qa<|xb (YW U U) (λhb=>?_) (λhb=>?_)
   ·have G:i<l.length:=oa
    refine Qa<|Qa<|Qa<|xii h U U G λht hc=>x (Qy hc U)<|Qa<|xb (QT U U) (λO=>?_) (λO=>?_)
    ·refine Qa<|Zu<|Zu<|Zu<|QE U<|QE U<|x Qi<|Qb ?_;have:n∈l:=by rw[<-O];exact Ll G
     exact⟨true,oB,U,by simp[this]⟩
    refine Qa<|Qa<|Qa<|xii h U U G λhu he=>x (Qy he U)<|Qz<|(QcO _).mono ?_;rintro r3 w3 ⟨rfl,rfl⟩;refine Qa<|Yq<|QE U<|QE U<|QE U<|x Qi<|Qb<|⟨false,oB,U,?_⟩;have:n∉l:=by
     intro E;obtain⟨m,H,T⟩:=LP E;by_cases hf:m<i
     ·have:=J m H hf;omega
     by_cases hg:m=i
     ·subst hg;exact O T
     have:=Y8.get hi H (show i<m by omega);have:=S i G (Lv _);omega
    simp[this]
   refine Qa<|Zu<|Zu<|Zu<|Zu<|Zu<|Kz<|xs U <|
    QE rfl<|x Qi<|Qb<|⟨false,oB,U,?_⟩
   have:n∉l:=by
    intro E;obtain⟨m,H,T⟩:=LP E;have:=J m H oa;omega
   simp[this]
  rintro z g w7 ⟨rfl,rfl⟩;exact Qh ⟨[sS i,.bool (decide (n∈l))],oB,U,i,U⟩
 refine Qf<|Qm<|Qj<|Qa<|QG U U<|x (Z6 U (by exact⟨oa,oa⟩))<|x (Qac (n:=1) U U ol)<|x (Z6 U (by exact⟨oa,oa⟩))<|Qb ?_;have hh:(((i:Int)+(j:Int)) / 2 ^ 1)=(((i+j) / 2:Nat):Int):=oa
 rw[hh];generalize hq:(i+j) / 2=q;have hk:i<=q:=oa
 have hl:q<j:=oa
 have V:q<l.length:=oa
 refine Qj<|Qa<|xii h U U V λhv hn=>x (Qy hn U)<|Qa<|Qz<|(Qfr _ _).mono ?_;rintro r8 w8 ⟨rfl,rfl⟩;refine xe<|ZI rfl (λY=>?_) (λY=>?_)
 ·refine Qs<|Qa<|Qb<|⟨(i,q),og,oB,U,hk,oa,J,λm E ho=>?_⟩;by_cases e:q=m
  ·subst e;omega
  have:=Y8.get hi E (show q<m by simp only[]at ho;omega);omega
 refine Qs<|Qa<|QG U U<|Qb<|⟨(q+1,j),og,oB,U,hl,hj,λm E hp=>?_,S⟩;by_cases e:m=q
 ·subst e;exact Y
 have:=Y8.get hi V (show m<q by simp only[]at hp;omega);omega
theorem Kw {L:LN}{v:O2}{l:LI}(h:QL L w.heap v l)(hi:Y8 l)(n:Int):
  QZ sV 251 [v,sS n] w λr w'=>r=.bool (decide (n∈l))/\w'=w:=by
 refine Zq func251 ?_;refine Qc<|Qb<|Qj<|Qa<|Qz<|(jo h hi n).mono ?_;rintro E G ⟨rfl,i,rfl⟩;refine Qa<|QW U U<|QW U U<|x Qi<|Qb<|Qj<|Qb<|Qh ⟨[.bool (decide (n∈l))],La,U,U⟩
theorem zl {L:LN}{v:O2}{l:LI}(h:QL L w.heap v l)(n:Int):
  QZ sV 102 [v,sS n] w λr w'=>r=sS (KK n none l)/\w'=w:=by
 have hc:=h.le;refine Zq func102 ?_;refine Qc<|Qb<|Qe<|Qj<|QF h U<|Qa<|xe<|Q8 (α:=Nat) [(4,6),(9,34)] (λk=>[(9,sS k)]) (λk w'=>w'=w/\k<=l.length/\KK n (pv l k) (l.drop k)=KK n none l) (λk=>l.length - k) 0 La ⟨U,Ln _,U⟩ ?_;rintro k g S ⟨rfl,hk,E⟩;refine Zn rfl U (λT=>?_) (λT=>?_)
 ·refine Qw<|Qc<|Qb<|Qh ⟨[sS 0],La,?_,U⟩;rw[<-E,Ls oa];rfl
 have G:k<l.length:=oa
 rw[(Zc G),KK]at E;refine Qf<|Qe<|Qm<|Qj<|xii h U U G λhe V=>x (Qy V U)<|x Qi<|Qb<|Qm<|QX (α:=Bool) [(14,21)] (λz=>[(14,.bool z)]) (λz w'=>w'=S/\z=decide (l[k]<0\/n<=l[k])) om ?_ ?_
 ·refine Qs<|Qa<|xb (YW U U) (λH=>?_) (λH=>?_)
  ·refine Qa<|Zu<|QE U<|Qb<|⟨true,La,U,by simp[H]⟩
  refine Qa<|Qa<|Qa<|x (YA U U)<|QE U<|Qb<|⟨_,La,U,by simp[H]⟩
 rintro z g Y ⟨rfl,rfl⟩;refine QO rfl (λI=>?_) (λI=>?_)
 ·refine Qc<|Qb<|Qh ⟨[sS 2],La,?_,U⟩;rw[<-E,OU I];rfl
 rw[OT I]at E;refine QX (α:=Bool) [(22,33)] (λz=>[(22,.bool z)]) (λz w'=>w'=Y/\z=jH (pv l k) l[k]) om ?_ ?_
 ·refine Qs<|Qa<|xb (Yd U U) (λha=>?_) (λha=>?_)
  ·have hk1:((k:Int) - 1)=((k - 1:Nat):Int):=oa
   refine Qa<|Qa<|Qa<|Qa<|x (Jk U U ⟨oa,oa⟩)<|xii (i:=k - 1) h U (by show Value.int _ ((k:Int) - 1)=_;rw[hk1]) oa λhf hb=>x (Qy hb rfl)<|x (Vg rfl rfl)<|QE rfl<|Qb<|⟨_,⟨rfl,Z⟩,rfl,?_⟩;have:pv l k=some l[k - 1]:=by
    have J:k≠0:=oa
    simp[pv,J,show k - 1<l.length by omega]
   rw[this];rfl
  refine Qa<|Zu<|Zu<|Kz<|QE U<|Qb ?_;have J:k=0:=oa
  exact⟨false,La,U,by simp[pv,J,jH]⟩
 rintro z g w3 ⟨rfl,rfl⟩;refine QU rfl (λO=>?_) (λO=>?_)
 ·refine Qc<|Qb<|Qh ⟨[sS 5],La,?_,U⟩;rw[<-E,OU O];rfl
 rw[OT (by simp[O])]at E;refine Qf<|Qs<|QG U U<|Qa<|xe ?_;exact⟨k+1,oa,La,U,oa,by rw[VS G];exact E⟩
theorem jJ {L:LN}{a:Q6}(h:ZM L w.heap va vm ve a):
  QZ sV 103 [.agg #[va,sS a.st,vm,ve]] w λr w'=>r=sS (ckE a.al a.st none a.ed)/\sX w w':=by
 obtain⟨J,_,H⟩:=h;have h2:=H.le;refine Zq func103 ?_;refine Qc<|Zl [va,sS a.st,vm,ve] λb1 w1 Y h3 I=>Qb ?_
 replace J:=J.I Y
 replace H:=H.I Y;refine Qe<|Qc<|Qo U I U U<|QF H U<|Qa<|xe<|Q8 (α:=Nat) [(2,5),(9,71)] (λk=>[(9,sS k)]) (λk w'=>sX w1 w'/\k<=a.ed.length/\ckE a.al a.st (pv a.ed k) (a.ed.drop k)=ckE a.al a.st none a.ed) (λk=>a.ed.length - k) 0 La
  ⟨O5.Z _ _,Ln _,U⟩ ?_
 rintro k g w2 ⟨O,hk,E⟩
 replace J:=J.I O
 replace H:=H.I O
 replace I:=I.I O;refine Zn rfl U (λhq=>?_) (λhq=>?_)
 ·refine Qw<|Qc<|Qb<|Qh ⟨[sS 0],La,?_,Y.D O⟩;rw[<-E,Ls oa];rfl
 have ha:k<a.ed.length:=oa
 rw[(Zc ha),ckE]at E;refine Qf<|Qe<|Qm<|Qj<|xie H U U ha λh4 hr=>x (Qr hr U U)<|QM [sS 0,sS 0,sS 0] λb4 w3 hs ht G=>x Qi <|
  Qn<|Zv G U U U U oC λw4 hu G=>xe ?_
 have S:=hs.O hu ht
 replace J:=J.I S
 replace H:=H.I S
 replace I:=I.I S;have T:=(Y.D O).D S;refine Qe<|Qm<|QX (α:=Bool) [(14,36)] (λz=>[(14,.bool z)]) (λz w'=>w'=w4/\z=decide (a.ed[k].1<0\/a.st<=a.ed[k].1\/a.ed[k].2.2<0\/a.st<=a.ed[k].2.2)) om ?_ ?_
 ·refine Qs<|Qo U G U U<|xb (YW U U) (λhb=>?_) (λhb=>?_)
  ·refine Qa<|Zu<|Yq<|QE U<|Qa<|Zu<|QE U<|Qa<|Zu<|Yq<|QE U<|Qb<|⟨true,La,U,by simp[hb]⟩
  refine Qa<|Qo U G U U<|Qo U I U U<|xb (YA U U) (λhc=>?_) (λhc=>?_)
  ·refine QE U<|Qa<|Zu<|QE U<|Qa<|Zu<|Yq<|QE U<|Qb<|⟨true,La,U,by simp[hc]⟩
  refine QE U<|Qa<|Qo U G U U<|xb (YW U U) (λhe=>?_) (λhe=>?_)
  ·refine QE U<|Qa<|Zu<|Yq<|QE U<|Qb<|⟨true,La,U,by simp[he]⟩
  refine QE U<|Qa<|Qo U G U U<|Qo U I U U<|x (YA U U)<|QE U<|Qb<|⟨_,La,U,by simp[hb,hc,he]⟩
 rintro z g w5 ⟨rfl,rfl⟩;refine QO rfl (λhf=>?_) (λhf=>?_)
 ·refine Qc<|Qb<|Qh ⟨[sS 2],La,?_,T⟩;rw[<-E,OU hf];rfl
 rw[OT hf]at E;refine Qc<|Qo U I U U<|Qo U G U U<|Qz<|(Yp J _).mono ?_;rintro r4 w6 ⟨rfl,rfl⟩;refine x (ZC U)<|Qb<|QU U (λhg=>?_) (λhg=>?_)
 ·have hn:a.ed[k].2.1∉a.al:=by simpa using hg
  refine Qc<|Qb<|Qh ⟨[sS 9],La,?_,T⟩;rw[<-E,OU hn];rfl
 have hn:¬(a.ed[k].2.1∉a.al):=by simpa using hg
 rw[OT hn]at E;refine Qf<|Qe<|Qj<|x (QT U U)<|xe<|QO rfl (λhv=>?_) (λhv=>?_)
 ·have h0:k=0:=oa
  rw[OT (by simp[pv,h0,edO])]at E;refine Qw<|Qs<|QG U U<|Qa<|xe ?_;exact⟨k+1,oa,La,O.D S,oa,by rw[VS ha];exact E⟩
 have h0:k≠0:=oa
 have hk1:((k:Int) - 1)=((k - 1:Nat):Int):=oa
 have ho:k - 1<a.ed.length:=oa
 refine Qf<|Qc<|Qo U I U U<|Qa<|x (Jk U U ⟨oa,oa⟩)<|xie (i:=k - 1) H U (by show Value.int _ ((k:Int) - 1)=_;rw[hk1]) ho λh5 hw =>
  x (Qr hw U U)<|QM [sS 0,sS 0,sS 0] λb5 w7 hy hz V=>Qn<|Zv V U U U U oC λw8 h1 V=>xe ?_
 have hh:=hy.O h1 hz
 replace G:=G.I hh
 replace T:=T.D hh;have hp:pv a.ed k=some a.ed[k - 1]:=by simp[pv,h0,ho]
 rw[hp]at E;refine QX (α:=Bool) [(52,70)] (λz=>[(70,.bool z)]) (λz w'=>w'=w8/\z=edO (some a.ed[k - 1]) a.ed[k]) om ?_ ?_
 ·refine Qs<|Qo U G U U<|Qo U V U U<|xb (YW U U) (λhi=>?_) (λhi=>?_)
  ·refine Qa<|Zu<|Zu<|Zu<|Zu<|QE U<|xe ?_;exact⟨true,La,U,by simp[edO,hi]⟩
  refine Qa<|Qo U G U U<|Qo U V U U<|xb (QT U U) (λhj=>?_) (λhj=>?_)
  ·refine Qa<|Qo U G U U<|Qo U V U U<|x (Vg U U)<|QE U<|QE U<|xe ?_;exact⟨_,La,U,by simp[edO,hj]⟩
  refine Qa<|Zu<|Yq<|QE U<|QE U<|xe ?_;exact⟨false,La,U,by simp[edO,hj,hi]⟩
 rintro z g w9 ⟨rfl,rfl⟩;refine QU rfl (λhl=>?_) (λhl=>?_)
 ·refine Qc<|Qb<|Qh ⟨[sS 5],La,?_,T⟩;rw[<-E,OU hl];rfl
 rw[OT (by simp[hl])]at E;refine Qf<|Qs<|QG U U<|Qa<|xe ?_;exact⟨k+1,oa,La,(O.D S).D hh,oa,by rw[VS ha];exact E⟩
theorem Jq {L:LN}{a:Q6}(h:ZM L w.heap va vm ve a):
  QZ sV 51 [.agg #[va,sS a.st,vm,ve]] w λr w'=>r=sS (Jz a)/\sX w w':=by
 refine Zq func51 ?_;refine Qc<|Zl [va,sS a.st,vm,ve] λb1 T E V G=>Qb ?_
 replace h:=h.I E;refine Qe<|Qc<|Qo U G U U<|Qz<|(zl h.al 32).mono ?_;rintro r2 Y ⟨rfl,rfl⟩;refine Qb<|Qj<|Zx U U<|xe<|QO rfl (λH=>?_) (λH=>?_)
 ·refine Qj<|Qb<|Qh ⟨[sS (KK 32 none a.al)],La,?_,E⟩;rw[Jz,OU H];rfl
 refine Qf<|Qe<|Qm<|Qc<|Qo U G U U<|Ya U U<|Qb<|QO U (λI=>?_) (λI=>?_)
 ·refine Qc<|Qb<|Qh ⟨[sS 2],La,?_,E⟩;rw[Jz,OT H,OU I];rfl
 refine Qc<|Qo U G U U<|x (Yd U U)<|Qb<|QO U (λJ=>?_) (λJ=>?_)
 ·refine Qc<|Qb<|Qh ⟨[sS 3],La,?_,E⟩;rw[Jz,OT H,OT I,OU J];rfl
 refine Qf<|Qe<|Qc<|Qo U G U U<|Qo U G U U<|Qz<|(zl h.mr a.st).mono ?_;rintro r3 w3 ⟨rfl,rfl⟩;refine Qb<|Qj<|Zx U U<|xe<|QO rfl (λO=>?_) (λO=>?_)
 ·refine Qj<|Qb<|Qh ⟨[sS (KK a.st none a.mr)],La,?_,E⟩;rw[Jz,OT H,OT I,OT J,OU O];rfl
 refine Qf<|Qc<|QS G U U<|Qz<|(jJ h).mono ?_;rintro r4 w4 ⟨rfl,S⟩;refine Qb<|Qh ⟨[sS (ckE a.al a.st none a.ed)],La,?_,E.D S⟩;rw[Jz,OT H,OT I,OT J,OT O];rfl
theorem Z3 {L:LN}{v:O2}{l:LI}(h:QL L w.heap v l):
  QZ sV 70 [v] w λr w'=>sX w w'/\Qq 3 ↑w w' r l:=by
 have ha:=h.le;refine Zq func70 ?_;refine Qc<|Qb ?_;obtain⟨ao,cap,G⟩:=h.shape;refine Qe<|Qj<|x (XQ (show ev _ _=_ from G) U)<|xe<|QU rfl (λH=>?_) (λH=>?_)
 ·refine Qc<|Qb<|Qh ⟨[nS],La,O5.Z _ _,?_⟩;rcases h.2.2 with⟨E,I⟩|⟨a,c,E,_⟩
  ·have:l=[]:=Lr I;subst this;exact QD _ _ _ _
  rw[E]at G;cases G;cases H
 rcases h.2.2 with⟨E,I⟩|⟨a,c,E,I,T⟩
 ·rw[E]at G;injection G with e1;subst e1;cases H
 refine Qf<|Qc<|Qn<|XX λb5 w1 J O S=>Qa<|Qn<|Q2 (base:=↑w) (S.own (n:=0) (sz:=1) U oa O) U (show ev _ _=_ from E) od (T.I J) (UW l) oa (ov S.lt) λv2 w2 V Y hb=>Qb<|Qh ⟨[v2],La,J.O Y O,?_⟩;simpa[tup]using V
theorem QcH [Fu sV g fn]{keep:Bool->Bool->Bool}(hk:∀(p q:Bool) (w:O1),QZ sV g [.bool p,.bool q] w λr w'=>r=.bool (keep p q)/\w'=w)
  {L L':LN}   {a b:LI} (H:QL L w.heap va a) (G:QL L' w.heap vb b) (hH:a.length+b.length<=1099511627776):
  QZ sV 153 [va,vb,.func (.func g) #[] #[]] w λr w'=>sX w w'/\Qq 3 ↑w w' r (mrg keep a b):=by
 refine Zq func153 ?_;refine Qc<|Qb<|Qc<|Qb<|Qe<|Q8 (α:=(LI×O2)×(LI×O2)×(LI×O2)) [(0,1),(7,72)] (λz=>[(0,z.1.2),(1,z.2.1.2),(7,z.2.2.2)])
  (λz w'=>QL L w.heap z.1.2 z.1.1/\QL L' w.heap z.2.1.2 z.2.1.1/\Qq 3 ↑w w' z.2.2.2 z.2.2.1/\sX w w'/\z.2.2.1++mrg keep z.1.1 z.2.1.1=mrg keep a b/\z.2.2.1.length+z.1.1.length+z.2.1.1.length<=1099511627776)
  (λz=>z.1.1.length+z.2.1.1.length) ((a,va),(b,vb),([],nS)) oC ⟨H,G,QD _ _ _ _,O5.Z _ _,U,by simp;omega⟩ ?_
 clear H G;rintro⟨⟨a1,h2⟩,⟨b1,h3⟩,⟨o,vo⟩⟩ g1 w1 ⟨H,G,I,E,T,hl⟩;simp only[]at H G I E T hl;refine Qe<|QX (α:=Bool) [(11,18)] (λz=>[(18,.bool z)]) (λz w'=>w'=w1/\z=decide (¬(a1=[]/\b1=[]))) om ?_ ?_
 ·refine Qs<|Qa<|QF H U<|xb (Yd U U) (λhn=>?_) (λhn=>?_)
  ·refine Qa<|Zu<|QE U<|xe ?_;have:a1≠[]:=by intro e;subst e;simp at hn
   exact⟨true,La,U,by simp[this]⟩
  refine Qa<|Qa<|QF G U<|x (Yd U U)<|QE U<|xe ?_;have:a1=[]:=Lr oa;refine⟨_,La,U,?_⟩;cases b1 <;> simp[this]
 rintro z g2 w2 ⟨rfl,rfl⟩;refine ZI rfl (λhe=>?_) (λhe=>?_)
 ·refine Qw<|Qj<|Qb<|Qh ⟨[vo],La,E,?_⟩;obtain⟨rfl,rfl⟩:=Lo.1 he;rw[K4,LR]at T;rw[<-T];exact I
 refine Qf ?_;rw[KC keep he]at T;have hp:=yU he;have hI:=H.le;have hJ:=G.le;refine Qm<|QX (α:=Bool) [(8,8),(19,35)] (λz=>[(8,.bool z)]) (λz w'=>sX w2 w'/\z=JE a1 b1) om ?_ ?_
 ·refine ZA [] (YX 0 18 [])<|p Qx<|p (λ_=>Yx H U)<|pb (λ_=>Yd U U) (λhq=>?_) (λhq=>?_)
  ·refine p Qx<|p Qx<|p (λ_=>Yx G U)<|pb (λ_=>QT U U) (λh4=>?_) (λh4=>?_)
   ·refine p Qx<|ps<|ps<|ps<|ps<|ps<|ps<|ps<|p (Y7 U)<|p (Y7 U)<|p ZG<|pe ?_;refine⟨true,La,O5.C _ _,?_⟩;have:b1=[]:=Lr oa;subst this;cases a1 with
    | nil=>simp at hq
    | cons y a1=>rfl
   have O:0<a1.length:=oa
   have S:0<b1.length:=oa
   refine p Qx<|p Qx<|pii U (i:=0) (H.I E) U U O λhK h5=>pq (λ_ J=>Qy (h5.I J) U) <|
    p Qx<|pii U (i:=0) (G.I E) U U S λhL h6=>pq (λ_ J=>Qy (h6.I J) U)<|p (λ_=>Vg U U) <|
    p (Y7 rfl)<|p (Y7 U)<|p ZG<|pe ?_
   refine⟨_,La,O5.C _ _,?_⟩;cases a1 with
   | nil=>simp at O
   | cons y a1=>cases b1 with
    | nil=>simp at S
    | cons z b1=>rfl
  refine p Qx<|ps<|ps<|ps<|ps<|ps<|ps<|ps<|ps<|ps<|ps<|ps<|ps<|p (Y7 U)<|p ZG<|pe ?_;refine⟨false,La,O5.C _ _,?_⟩;have:a1=[]:=Lr oa;subst this;rfl
 rintro z g3 w3 ⟨hr,rfl⟩
 replace I:=Qk I hr
 replace E:=E.D hr;refine QX (α:=Bool) [(9,9),(36,52)] (λz=>[(9,.bool z)]) (λz w'=>sX w3 w'/\z=JE b1 a1) om ?_ ?_
 ·refine ZA [] (YX 0 18 [])<|p Qx<|p (λ_=>Yx G U)<|pb (λ_=>Yd U U) (λht=>?_) (λht=>?_)
  ·refine p Qx<|p Qx<|p (λ_=>Yx H U)<|pb (λ_=>QT U U) (λh7=>?_) (λh7=>?_)
   ·refine p Qx<|ps<|ps<|ps<|ps<|ps<|ps<|ps<|p (Y7 U)<|p (Y7 U)<|p ZG<|pe ?_;refine⟨true,La,O5.C _ _,?_⟩;have:a1=[]:=Lr oa;subst this;cases b1 with
    | nil=>simp at ht
    | cons y b1=>rfl
   have O:0<a1.length:=oa
   have S:0<b1.length:=oa
   refine p Qx<|p Qx<|pii U (i:=0) (G.I E) U U S λhM h8=>pq (λ_ J=>Qy (h8.I J) U) <|
    p Qx<|pii U (i:=0) (H.I E) U U O λhN h9=>pq (λ_ J=>Qy (h9.I J) U)<|p (λ_=>Vg U U) <|
    p (Y7 rfl)<|p (Y7 U)<|p ZG<|pe ?_
   refine⟨_,La,O5.C _ _,?_⟩;cases a1 with
   | nil=>simp at O
   | cons y a1=>cases b1 with
    | nil=>simp at S
    | cons z b1=>rfl
  refine p Qx<|ps<|ps<|ps<|ps<|ps<|ps<|ps<|ps<|ps<|ps<|ps<|ps<|p (Y7 U)<|p ZG<|pe ?_;refine⟨false,La,O5.C _ _,?_⟩;have:b1=[]:=Lr oa;subst this;rfl
 rintro z g4 w4 ⟨hu,rfl⟩
 replace I:=Qk I hu
 replace E:=E.D hu;refine Qc<|Qb<|QX (α:=O2) [(0,0),(10,10),(53,58)] (λz=>[(0,z),(10,sS (bif JE a1 b1 then a1.headD 0 else 0))]) (λz w'=>sX w4 w'/\QL L w.heap z (tl (JE a1 b1) a1)) om ?_ ?_
 ·refine Qj<|xe<|QU U (λV=>?_) (λV=>?_)
  ·have O:0<a1.length:=by cases a1 with|nil=>simp[JE]at V|cons y a1=>simp
   refine ZA [] (YX 0 7 [])<|p Qx<|pii U (i:=0) (H.I E) U U O λhC hf=>pq (λ_ J=>Qy (hf.I J) U)<|p Qx <|
    Qoq rfl (lo:=1) H U U O λv' hg=>p ZG<|p ZG<|pe ?_
   have hh:=QL.drop hg;refine⟨v',⟨U,?_,Z⟩,O5.C _ _,?_⟩
   ·show sS a1[0]=_;rw[V];cases a1 with|nil=>simp at O|cons y a1=>rfl
   rw[V];simpa[tl]using hh
  refine Qf<|⟨h2,⟨U,by show _=_;rw[V];rfl,Z⟩,O5.Z _ _,?_⟩;rw[V];exact H
 rintro hv g5 w5 ⟨hw,hy⟩
 replace I:=Qk I hw
 replace E:=E.D hw;refine QX (α:=O2) [(1,1),(10,10),(59,64)] (λz=>[(1,z),(10,sS (bif JE b1 a1 then b1.headD 0 else bif JE a1 b1 then a1.headD 0 else 0))]) (λz w'=>sX w5 w'/\QL L' w.heap z (tl (JE b1 a1) b1)) om ?_ ?_
 ·refine Qj<|xe<|QU U (λY=>?_) (λY=>?_)
  ·have S:0<b1.length:=by cases b1 with|nil=>simp[JE]at Y|cons y b1=>simp
   refine ZA [] (YX 0 7 [])<|p Qx<|pii U (i:=0) (G.I E) U U S λhC hf=>pq (λ_ J=>Qy (hf.I J) U)<|p Qx <|
    Qoq rfl (lo:=1) G U U S λv' hg=>p ZG<|p ZG<|pe ?_
   have hh:=QL.drop hg;refine⟨v',⟨U,?_,Z⟩,O5.C _ _,?_⟩
   ·show sS b1[0]=_;rw[Y];cases b1 with|nil=>simp at S|cons y b1=>rfl
   rw[Y];simpa[tl]using hh
  refine Qf<|⟨h3,⟨U,by show _=_;rw[Y];rfl,Z⟩,O5.Z _ _,?_⟩;rw[Y];exact G
 rintro hz g6 w6 ⟨h0,h1⟩
 replace I:=Qk I h0
 replace E:=E.D h0;have hD:(bif JE b1 a1 then b1.headD 0 else bif JE a1 b1 then a1.headD 0 else 0)=hx a1 b1:=by
  unfold hx;cases e:JE b1 a1 with
  | true=>rfl
  | false =>
   cases e2:JE a1 b1 with
   | true=>rfl
   | false=>rw[e,e2]at hp;simp[tl]at hp
 refine Qj<|Qa<|Qa<|Qn<|xc (first:=[]) (capt:=[]) U<|(hk _ _ _).mono ?_;rintro r7 w7 ⟨rfl,rfl⟩;refine xe<|QU rfl (λhi=>?_) (λhi=>?_)
 ·refine Qs ?_;rw[hi,cond_true]at T;refine Qa<|Qa<|Qn<|Xx (us:=[[sS (hx a1 b1)]]) U U ol od ⟨by rw[<-hD];rfl,U,Z⟩ λhO w8 hj hP hE =>
   Qn<|Q2 (news:=[sS (hx a1 b1)]) (L:=[]) (Qk I hj) U U U (hE.at od) oq oa (oy E.size hj.size) λv9 w9 hF hG hQ=>Qb ?_
  have hge:=Qg I;refine⟨((tl (JE a1 b1) a1,hv),(tl (JE b1 a1) b1,hz),(o++[hx a1 b1],v9)),og,oC,hy,h1,?_,(E.D hj).then hG (λb G=>.inr (hge b G).1),by rw[LB];exact T,by simp only[oN,oP];omega⟩;exact Qq.snoc hF
 rw[hi,cond_false,Ma]at T;refine Qf ?_;exact⟨((tl (JE a1 b1) a1,hv),(tl (JE b1 a1) b1,hz),(o,vo)),og,oC,hy,h1,I,E,T,og⟩
theorem Qqj (p q:Bool)(w:O1):QZ sV 154 [.bool p,.bool q] w λr w'=>r=.bool (p || q)/\w'=w:=by
 refine Zq func154 ?_;refine Qc<|Qb<|Qc ?_;cases p
 ·refine Qa<|Qa<|Qa<|QE U<|Qb<|Qh ⟨[.bool q],La,U,U⟩
 refine Qa<|Qa<|Kz<|QE U<|Qb<|Qh ⟨[.bool true],La,U,U⟩
theorem Qi4 (p q:Bool)(w:O1):QZ sV 272 [.bool p,.bool q] w λr w'=>r=.bool (p && !q)/\w'=w:=by
 refine Zq func272 ?_;refine Qc<|Qb<|Qc ?_;cases p
 ·refine Qa<|Qa<|Yq<|QE U<|Qb<|Qh ⟨[.bool false],La,U,U⟩
 refine Qa<|Qa<|Qa<|x (ZC U)<|QE U<|Qb<|Qh ⟨[.bool (!q)],La,U,U⟩
theorem Qdz {L L':LN}{a b:LI}(E:QL L w.heap va a)(G:QL L' w.heap vb b)(H:a.length+b.length<=1099511627776):
  QZ sV 83 [va,vb] w λr w'=>sX w w'/\Qq 3 ↑w w' r (mrg (· || ·) a b):=by
 refine Zq func83 ?_;refine Qc<|Qb<|Qj<|Qa<|Qz<|(QcH Qqj E G H).mono ?_;rintro I S ⟨J,O⟩;refine Qb<|Qh ⟨[I],La,J,O⟩
theorem Qk4 {L L':LN}{a b:LI}(E:QL L w.heap va a)(G:QL L' w.heap vb b)(H:a.length+b.length<=1099511627776):
  QZ sV 221 [va,vb] w λr w'=>sX w w'/\Qq 3 ↑w w' r (mrg (λp q=>p && !q) a b):=by
 refine Zq func221 ?_;refine Qc<|Qb<|Qj<|Qa<|Qz<|(QcH Qi4 E G H).mono ?_;rintro I S ⟨J,O⟩;refine Qb<|Qh ⟨[I],La,J,O⟩
theorem QhC {L L':LN}{a b:LI}(E:QL L w.heap va a)(G:QL L' w.heap vb b)(H:a.length+b.length<=1099511627776):
  QZ sV 152 [va,vb] w λr w'=>sX w w'/\r=.bool (decide (mrg (λp q=>p && !q) a b=[])):=by
 refine Zq func152 ?_;refine Qc<|Qb<|Qj<|Qa<|Qz<|(Qk4 E G H).mono ?_;rintro O S ⟨I,J⟩;have T:=Qbt (λp q=>p && !q) a b;refine QF (Qq.ints (L:=[]) J oa od) rfl<|x (QT rfl rfl)<|Qb<|Qh ⟨[.bool (decide (((mrg (λp q=>p && !q) a b).length:Int)=0))],⟨rfl,Z⟩,I,?_⟩;simp[tup]
theorem QkI [Fu sV g fn](T:∀(e:Ed) (s:Int) (w:O1),0<=e.1->e.1<=1099511627776->0<=s->s<=1099511627776->QZ sV g [sT (QA e),sS s] w λr w'=>r=sS (e.1 - s)/\sX w w')
  {L:LN}  {v:O2} {es:List Ed} (h:zJ L w.heap v es) (hi:es.Pairwise (λa b=>a.1<=b.1)) (hb:∀e∈es,0<=e.1/\e.1<=1099511627776) (s:Int) (V:0<=s) (Y:s<=1099511627776):
  QZ sV 176 [v,sS s,.func (.func g) #[] #[]] w λr w'=>sX w w'/\∃(i:Nat) (b:Bool),r=.tuple #[sS i,.bool b]/\i<=es.length /\
   (∀m (E:m<es.length),m<i->es[m].1<s)/\(∀m (E:m<es.length),i<=m->s<=es[m].1):=by
 have h3:=h.le;have ha:∀{i j:Nat} (G:j<es.length) (I:i<j),es[i].1<=es[j].1:=λ{i j} G I=>MR.1 hi i j oa G I;have hc:∀m (E:m<es.length),0<=es[m].1/\es[m].1<=1099511627776:=λm E=>hb _ (Ll E);refine Zq func176 ?_;refine Qc<|x Qi<|Qb<|Qj<|QF h U<|Qb<|Qj<|x Qi<|Qb<|Qe<|Q8 (α:=Nat×Nat) [(9,11),(15,34)] (λz=>[(9,sS z.1),(10,sS z.2)])
  (λz w'=>sX w w'/\z.1<=z.2/\z.2<=es.length/\(∀m (E:m<es.length),m<z.1->es[m].1<s)/\(∀m (E:m<es.length),z.2<=m->s<=es[m].1)) (λz=>z.2 - z.1) (0,es.length) oB
  ⟨O5.Z _ _,Ln _,Lv _,λm _ J=>OW J (Nh m),λm h1 J=>OW h1 (by simp only[]at J;omega)⟩ ?_
 rintro⟨i,j⟩ g1 w1 ⟨H,I,G,he,hf⟩;refine Qe<|Qj<|Qa<|Ya U U<|xe<|ZI rfl (λho=>?_) (λho=>?_)
 ·have e:i=j:=oa
  subst e;refine Qw<|QX (α:=Bool) [(6,7),(35,48)] (λz=>[(6,sS i),(7,.bool z)]) (λz w'=>sX w1 w') om ?_ ?_
  ·refine Qs<|Qa<|Qa<|Qa<|xb (YW U U) (λhp=>?_) (λhp=>?_)
   ·have hg:i<es.length:=oa
    have O:=hc i hg;refine Qa<|Qa<|Qa<|Qa<|xie (h.I H) U U hg λh4 hr=>x (Qr hr U U)<|Qa<|Qn<|xc (first:=[]) (capt:=[]) U<|(T es[i] s _ O.1 O.2 V Y).mono ?_;rintro r2 w2 ⟨rfl,hs⟩;refine x (QT U U)<|QE U<|x Qi<|Qb<|⟨_,oB,hs⟩
   refine Qa<|Zu<|Zu<|Yq<|QE U<|x Qi<|Qb<|⟨false,oB,O5.Z _ _⟩
  rintro z g3 w3 ht;exact Qh ⟨[sS i,.bool z],oB,H.D ht,i,z,U,G,he,hf⟩
 refine Qf<|Qm<|Qj<|Qa<|QG U U<|x (Z6 U (by exact⟨oa,oa⟩))<|x (Qac (n:=1) U U ol)<|x (Z6 U (by exact⟨oa,oa⟩))<|Qb ?_;have hh:(((i:Int)+(j:Int)) / 2 ^ 1)=(((i+j) / 2:Nat):Int):=oa
 rw[hh];generalize O:(i+j) / 2=q;have hu:i<=q:=oa
 have hv:q<j:=oa
 have S:q<es.length:=oa
 have hl:=hc q S;refine Qj<|Qa<|Qa<|xie (h.I H) U U S λh5 hw=>x (Qr hw U U)<|Qa<|Qn<|xc (first:=[]) (capt:=[]) U<|(T es[q] s _ hl.1 hl.2 V Y).mono ?_;rintro r4 w4 ⟨rfl,hn⟩;refine Ya rfl U<|xe<|ZI rfl (λhy=>?_) (λhy=>?_)
 ·refine Qs<|Qa<|Qb<|⟨(i,q),og,oB,H.D hn,hu,oa,he,λm E hz=>?_⟩;by_cases e:q=m
  ·subst e;omega
  have:=ha E (show q<m by simp only[]at hz;omega);omega
 refine Qs<|Qa<|QG U U<|Qb<|⟨(q+1,j),og,oB,H.D hn,hv,G,λm E h2=>?_,hf⟩;by_cases e:m=q
 ·subst e;omega
 have:=ha S (show m<q by simp only[]at h2;omega);omega
theorem Ql2 (e:Ed)(s:Int)(w:O1)(H:0<=e.1)(I:e.1<=1099511627776)(J:0<=s)(O:s<=1099511627776):
  QZ sV 177 [sT (QA e),sS s] w λr w'=>r=sS (e.1 - s)/\sX w w':=by
 refine Zq func177 ?_;refine Qc<|Zl (QA e) λb2 S E T G=>Qb<|Qc<|Qo U G U U<|Qa<|x (Jk U U ⟨oa,oa⟩)<|Qb<|Qh ⟨[sS (e.1 - s)],La,U,E⟩
theorem Ql1 (e:Ed)(s:Int)(w:O1)(H:0<=e.1)(I:e.1<=1099511627776)(J:0<=s)(O:s<=1099511627776):
  QZ sV 178 [sT (QA e),sS s] w λr w'=>r=sS (e.1 - s)/\sX w w':=by
 refine Zq func178 ?_;refine Qc<|Zl (QA e) λb2 S E T G=>Qb<|Qc<|Qo U G U U<|Qa<|x (Jk U U ⟨oa,oa⟩)<|Qb<|Qh ⟨[sS (e.1 - s)],La,U,E⟩
theorem Qbn {L:LN}{st:Int}{es:List Ed}(h:zJ L w.heap ve es)(hi:es.Pairwise (λa b=>a.1<=b.1))(S:∀e∈es,0<=e.1/\e.1<=1099511627776)(s:Int)(hf:0<=s)(hp:s<1099511627776):
  QZ sV 105 [.agg #[va,sS st,vm,ve],sS s] w λr w'=>sX w w'/\zJ L w'.heap r (Z7 es s):=by
 refine Zq func105 ?_;refine Qc<|Zl [va,sS st,vm,ve] λb2 w1 T hq E=>Qb ?_
 replace h:=h.I T;refine Qc<|Qo U E U U<|Qa<|Qz<|(QkI Ql2 h hi S s hf oa).mono ?_;rintro r2 w2 ⟨J,lo,b,rfl,hr,V,hg⟩
 replace h:=h.I J
 replace E:=E.I J;refine Qa<|QW U U<|QW U U<|x Qi<|Qb<|Qc<|Qo U E U U<|Qa<|QG U U<|Qz<|(QkI Ql1 h hi S (s+1) oa oa).mono ?_;rintro r3 w3 ⟨O,G,b',rfl,Y,hh,ha⟩
 replace h:=h.I O
 replace E:=E.I O;refine Qa<|QW U U<|QW U U<|x Qi<|Qb ?_;have he:lo<=G:=by
  rcases Np G lo with hj|hge
  ·have I:=V G oa hj;have h2:=ha G oa (Lv _);omega
  exact hge
 refine Qc<|Qo U E U U<|Qa<|Qa<|Qrk h U U U he Y λv' hk=>Qb<|Qh ⟨[v'],La,(T.D J).D O,?_⟩;have hc:=Qes (λe:Ed=>decide (e.1=s)) es lo G he Y (λm H hl=>by have:=V m H hl;simp;omega) (λm H I h2=>by have:=hg m H I;have:=hh m H h2;simp;omega) (λm H I=>by have:=ha m H I;simp;omega);have hn:(Z7 es s).length=G - lo:=by unfold Z7;rw[<-hc,LA,LX];omega
 show Zo L w3.heap v' (Z7 es s).length 3 _;rw[hn];have e1:(Z7 es s).flatMap QA=((es.flatMap QA).drop (lo*3)).take ((G - lo)*3):=by
  unfold Z7;rw[<-hc];have key:∀(l:List Ed) (k:Nat),(l.flatMap QA).drop (k*3)=(l.drop k).flatMap QA:=by
   intro l;induction l with
   | nil=>intro k;simp
   | cons a l ih=>intro k;cases k with
    | zero=>simp
    | succ k=>simp only[Of,List.drop_succ_cons,Oq,Nat.one_mul];rw[Nb,<-List.drop_drop,show(QA a++l.flatMap QA).drop 3=l.flatMap QA from rfl,ih]
  have ho:∀(l:List Ed) (k:Nat),(l.flatMap QA).take (k*3)=(l.take k).flatMap QA:=by
   intro l;induction l with
   | nil=>intro k;simp
   | cons a l ih=>intro k;cases k with
    | zero=>simp
    | succ k =>
     simp only[Of,List.take_succ_cons,Oq,Nat.one_mul];rw[OK,Kj,<-ih,Lt (by simp[Kj])];simp
  rw[key,ho]
 rw[e1];exact hk
structure Vf (b3 b22:Nat)(r3:O2)(wS:O1)(c:Cs)(vo vk ve:O2)(w:O1):Prop where
 st:O5 [b3,b22] wS w
 B3:QY w.heap b3 59 [r3,sS 0,vk,ve]
 B22:QY w.heap b22 3 (c.num.map (Value.int .i64))
 o:Qq 3 ↑wS w vo c.ord
 k:Qq 3 ↑wS w vk c.mk'
 e:YP 167 ↑wS w ve c.ed
 d1:Dj vo vk
 d2:Dj vo ve
 d3:Dj vk ve
theorem Vf.I {b3 b22:Nat}{r3:O2}{wS:O1}{c:Cs}{vo vk ve:O2}{w w':O1}(h:Vf b3 b22 r3 wS c vo vk ve w)(E:sX w w'):Vf b3 b22 r3 wS c vo vk ve w' :=
 ⟨h.st.D E,h.B3.I E,h.B22.I E,Qk h.o E,Qk h.k E,Qk h.e E,h.d1,h.d2,h.d3⟩
section
variable {b3 b22:Nat}{r3:O2}{wS:O1}{c:Cs}{vo:O2}{w'':O1}
theorem Vf.setK (h:Vf b3 b22 r3 wS c vo vk ve w)(V:b3<wS.heap.size)(S:b22<wS.heap.size)(ne:b3≠b22){H:O2}{m:LI}(I:O5 (ob vk) w w')(J:Qq 3 ↑wS w' H m)
  (O:∀b∈ob H,b∈ob vk\/↑w<=b) (G:O5 [b3] w' w'') (T:QY w''.heap b3 59 [r3,sS 0,H,ve]):Vf b3 b22 r3 wS ⟨c.ord,c.num,m,c.ed⟩ vo H ve w'':=by
 refine⟨(h.st.then I (λb E=>.inr ((Qg h.k) b E).1)).then G (λb E=>.inl (by simp at E;simp[E])),T,(h.B22.J I (QP h.k S)).J G (by simp;omega),
  Qd (Qd h.o I h.d1) G (λb E=>by have:=(Qg h.o b E).1;simp;omega),Qd J G (λb E=>by have:=(Qg J b E).1;simp;omega),
  Qd (Qd h.e I h.d3.symm) G (λb E=>by have:=(Qg h.e b E).1;simp;omega),h.d1.grow O (Q7 h.o),h.d2,(h.d3.symm.grow O (Q7 h.e)).symm⟩
theorem Vf.setE (h:Vf b3 b22 r3 wS c vo vk ve w)(V:b3<wS.heap.size)(S:b22<wS.heap.size)(ne:b3≠b22){H:O2}{m:List Ed}(I:O5 (ob ve) w w')(J:YP 167 ↑wS w' H m)
  (O:∀b∈ob H,b∈ob ve\/↑w<=b) (G:O5 [b3] w' w'') (T:QY w''.heap b3 59 [r3,sS 0,vk,H]):Vf b3 b22 r3 wS ⟨c.ord,c.num,c.mk',m⟩ vo vk H w'':=by
 refine⟨(h.st.then I (λb E=>.inr ((Qg h.e) b E).1)).then G (λb E=>.inl (by simp at E;simp[E])),T,(h.B22.J I (QP h.e S)).J G (by simp;omega),
  Qd (Qd h.o I h.d2) G (λb E=>by have:=(Qg h.o b E).1;simp;omega),Qd (Qd h.k I h.d3) G (λb E=>by have:=(Qg h.k b E).1;simp;omega),
  Qd J G (λb E=>by have:=(Qg J b E).1;simp;omega),h.d1,h.d2.grow O (Q7 h.o),h.d3.grow O (Q7 h.k)⟩
theorem Vf.setN (h:Vf b3 b22 r3 wS c vo vk ve w)(I:b22<wS.heap.size)(ne:b3≠b22){m:LI}(G:O5 [b22] w w')(H:QY w'.heap b22 3 (m.map (Value.int .i64))):Vf b3 b22 r3 wS ⟨c.ord,m,c.mk',c.ed⟩ vo vk ve w' :=
 ⟨h.st.then G (λb E=>.inl (by simp at E;simp[E])),h.B3.J G (by simp;omega),H,Qd h.o G (λb E=>by have:=(Qg h.o b E).1;simp;omega),
  Qd h.k G (λb E=>by have:=(Qg h.k b E).1;simp;omega),Qd h.e G (λb E=>by have:=(Qg h.e b E).1;simp;omega),h.d1,h.d2,h.d3⟩
theorem Vf.setO (h:Vf b3 b22 r3 wS c vo vk ve w)(I:b3<wS.heap.size)(J:b22<wS.heap.size){G:O2}{m:LI}(E:O5 (ob vo) w w')(O:Qq 3 ↑wS w' G m)
  (H:∀b∈ob G,b∈ob vo\/↑w<=b):Vf b3 b22 r3 wS ⟨m,c.num,c.mk',c.ed⟩ G vk ve w' :=
 ⟨h.st.then E (λb S=>.inr (Qg h.o b S).1),h.B3.J E (QP h.o I),h.B22.J E (QP h.o J),O,Qd h.k E h.d1.symm,Qd h.e E h.d2.symm,
  (h.d1.symm.grow H (Q7 h.k)).symm,(h.d2.symm.grow H (Q7 h.e)).symm,h.d3⟩
end
def YB (c:Cs)(e:Ed):Cs:=if Yg c.num e.2.2<0 then⟨c.ord++[e.2.2],c.num.set e.2.2.toNat c.ord.length,c.mk',c.ed⟩else c
theorem Ql7 (c:Cs)(e:Ed):(YB c e).num.length=c.num.length:=by unfold YB;split <;> simp
theorem yk {c:Cs}{e:Ed}(h:e.2.2.toNat<c.num.length):ZB i c e=⟨(YB c e).ord,(YB c e).num,(YB c e).mk',(YB c e).ed++[((i:Int),e.2.1,Yg (YB c e).num e.2.2)]⟩:=by
 unfold ZB YB;split
 ·simp[Yg,oR,h]
 rfl
theorem JH {L:LN}{a:Q6}(h:ZM L w.heap va vm ve a)(Y:ZK a):
  QZ sV 52 [.agg #[va,sS a.st,vm,ve]] w λr w'=>sX w w'/\JI ↑w w'.heap r (Yj a):=by
 have hst0:=Y.st0;have hst1:=Y.st1;refine Zq func52 ?_;refine Qc<|Zl [va,sS a.st,vm,ve] λb1 w1 gm hb1 ho=>QM [nS,sS 0,nS,nS] λb2 w2 hh hb2 hp=>xe ?_;have hl1:=ho.lt;have hl2:=hp.lt;refine Qc<|Qo U (ho.I hh) U U<|Qz<|(Z3 ((h.al.I gm).I hh)).mono ?_;rintro r3 w3 ⟨ha,O⟩;have hz3:=ha.size;refine x (Qv ⟨(Qq.ints (L:=[]) O h.al.le od).cells,Z⟩)<|QM [nS,sS 0,nS,nS] λb3 w4 ko kq hr =>
  QI [r3,sS 0,nS,nS] hr ⟨(Qq.ints (L:=[]) O h.al.le od).one,rfl,rfl,rfl,Z⟩ λw5 kr hr=>xe ?_
 have J:sX w3 w5:=ko.O kr kq;have hl3:=hr.lt;have gn:sX w w5:=((gm.D hh).D ha).D J;refine Qe<|Qc<|QQ U<|x (Ql (((ho.I hh).I ha).I J) U U)<|x (QT U U)<|xe<|QO rfl (λhK=>?_) (λhK=>?_)
 ·refine Qc<|QS hr U U<|QI [r3,sS 0,nS,nS] ((hp.I ha).I J) ⟨(Qq.ints (L:=[]) O h.al.le od).one,rfl,rfl,rfl,Z⟩ λw6 go hp=>xe ?_;refine Qh ⟨[.agg #[r3,sS 0,nS,nS]],⟨Yk hp,Z⟩,gn.O go oa,?_⟩;have kt:=Qd (Qk O J) go (λb E=>by have:=(Qg O b E).1;simp;omega);unfold Yj;rw[OU hK];exact⟨r3,_,_,U,λL' ht=>⟨Qq.ints kt h.al.le (λb E=>ov (ht b E)),Zo.nil _ _ _,Zo.nil _ _ _⟩⟩
 have ku:0<a.st:=oa
 obtain⟨n,hn⟩:∃n:Nat,a.st=n:=⟨a.st.toNat,oa⟩;have kv:a.st.toNat=n:=oa
 refine Qf<|Qc<|QQ U<|x (Ql (((ho.I hh).I ha).I J) U U)<|Qn<|qH (n:=n) (OV sS hn) (OV sS hn) oa λb22 w7 hv hb22 hL=>Qb ?_;have hl22:=hL.lt;have kw:=gn.D hv;rw[show(oO n (sS 0).cells.toList).flatten=((oO n 0).map (Value.int .i64)) by rw[show(sS 0).cells.toList=[sS 0] from rfl,Qcr,List.map_replicate]]at hL;have kx:sX w3 w7:=J.D hv;refine Qe<|Qj<|x (UV U)<|Qa<|xe<|Q8 (α:=Nat) [(5,5),(25,31)] (λk=>[(25,sS k)]) (λk w'=>O5 [b22] w7 w'/\k<=n/\QY w'.heap b22 3 ((oO k (-1)++oO (n - k) 0).map (Value.int .i64))) (λk=>n - k) 0 La
  ⟨O5.Z _ _,Ln _,oA hL⟩ ?_
 rintro k g w8 ⟨hM,hk,hN⟩;refine Zn rfl U (λkz=>?_) (λkz=>?_)
 rotate_left
 ·have T:k<n:=oa
  refine Qf<|Qe<|Qm<|Qj<|Qb<|Qs<|Qa<|Qa<|x (Zy U U T)<|Qn<|KB hN U U (by simp;omega) λw9 h6 gp=>xe ?_;refine Qs<|QG U U<|Qa<|xe<|⟨k+1,oa,La,hM.Q h6,oa,?_⟩;have e:(oO k (-1:Int)++oO (n - k) 0).set k (-1)=oO (k+1) (-1)++oO (n - (k+1)) 0:=by
   rw[List.set_append_right _ _ od];obtain⟨m,hm⟩:∃m,n - k=m+1:=⟨n - k - 1,oa⟩;rw[hm,show n - (k+1)=m by omega,List.replicate_succ,List.replicate_succ' (n:=k)];simp
  rw[e]at gp;exact gp
 have k0:n=k:=oa
 subst k0;simp only[Nat.sub_self,List.replicate_zero,Oy]at hN;refine Qw<|Qj<|x (Zy (i:=0) U U oa)<|Qn<|KB (i:=0) hN U U (by simp;omega) λwS h6 k4=>xe ?_;have hzS:w8.heap.size<=wS.heap.size:=h6.size;have hz8:=hM.size;have hw:O5 [b22] w7 wS:=hM.Q h6;have hO:sX w wS:=kw.O hw oa;have hA:ZM [b3,b22] wS.heap va vm ve a:=(h.up (λb E=>.inr (by simp at E;omega))).I hO;have gq:QY wS.heap b1 59 [va,sS a.st,vm,ve]:=((((ho.I hh).I ha).I J).I hv).J hw (by simp;omega);have k5:QY wS.heap b2 59 [nS,sS 0,nS,nS]:=(((hp.I ha).I J).I hv).J hw (by simp;omega);have k6:QY wS.heap b3 59 [r3,sS 0,nS,nS]:=(hr.I hv).J hw (by simp;omega);have k7:Qq 3 ↑w2 wS r3 a.al:=Qd (Qk O kx) hw (λb E=>by have:=Q7 O b E;simp;omega);have k8:∀b∈ob r3,b<w3.heap.size:=Q7 O;have hy:b3<wS.heap.size:=oa
 have hz:b22<wS.heap.size:=oa
 have hP:b3≠b22:=oa
 refine Qc<|Qn<|Za [[sS 0]] λgr k9 hQ hb34 ma=>Qb ?_;have mf:Qq 3 ↑wS k9 (sL gr 1 1) [0]:=ma.own (n:=1) (sz:=1) U oa oa;refine Qe<|Qc<|Qb ?_;have hedle:=Y.ed_le;have mg:∀e∈a.ed,0<=e.1/\e.1<=1099511627776:=λe he=>ov (Y.ed e he)
 refine Q8 (α:=Nat×Cs×O2×O2×O2) [(6,9),(11,11),(35,100)] (λz=>[(6,z.2.2.1),(7,sS z.1)])
  (λz w'=>Vf b3 b22 r3 wS z.2.1 z.2.2.1 z.2.2.2.1 z.2.2.2.2 w'/\z.1<=z.2.1.ord.length/\UJ a.st z.2.1/\z.2.1.mk'.length<=z.1/\z.2.1.ed.length<=z.1*131072/\Jd a (a.st.toNat - z.1) z.1 z.2.1=Jd a a.st.toNat 0 (YY a))
  (λz=>a.st.toNat - z.1) (0,YY a,sL gr 1 1,nS,nS) oB
  ⟨⟨hQ.any,k6.I hQ,by show QY _ _ _ (List.map _ ((oO a.st.toNat (-1)).set 0 0));rw[kv];exact k4.I hQ,mf,QD _ _ _ _,QD _ _ _ _,Dj.nil' _,Dj.nil' _,Dj.nil' _⟩,Ln _,Qf6 ku,Ln _,Ln _,U⟩ ?_
 rintro⟨i,c,vo,vk,S⟩ g2 mh ⟨H,hi,G,mj,mo,hR⟩;simp only[]at H hi G mj mo hR;have hcle:=G.le;have hS:=Qq.ints (L:=[]) H.o oa od;have mq:=hA.st H.st;have ms:=gq.J H.st (by simp;omega);refine Qe<|Qj<|Qa<|QF hS U<|Ya U U<|xe<|ZI rfl (λmt=>?_) (λmt=>?_)
 ·have mu:c=Jd a a.st.toNat 0 (YY a):=by rw[<-hR,QaQ oa]
  refine Qw<|Qj<|QF hS U<|QQ U<|Qn<|Qu H.B3 U U od rfl λmv h7 mw=>xe ?_;refine Qc ?_;have my:=Qq.ints (L:=[]) H.k oa od;have mz:=YP.eds (L:=[]) H.e (ov G.el) od;have m2:=Qq.ints (L:=[]) O h.al.le od;refine QS mw U U<|QI [r3,sS c.ord.length,vk,S] (((k5.J H.st (by simp;omega))).J h7 (by simp;omega)) ⟨m2.one,U,my.one,mz.one,Z⟩ λm3 h8 m4=>xe ?_;have gs:O5 [b3,b22] wS mv:=H.st.then h7 (λb E=>.inl (by simp at E;simp[E]));have m5:sX w m3:=(hO.then gs (λb E=>.inr (by simp at E;omega))).O h8 oa;refine Qh ⟨[.agg #[r3,sS c.ord.length,vk,S]],⟨Yk m4,Z⟩,m5,?_⟩;unfold Yj;rw[OT hK];simp only[];rw[<-mu];have k1:=Qd (Qd H.k h7 (λb E=>by have:=(Qg H.k b E).1;simp;omega)) h8 (λb E=>by have:=(Qg H.k b E).1;simp;omega);have k2:=Qd (Qd H.e h7 (λb E=>by have:=(Qg H.e b E).1;simp;omega)) h8 (λb E=>by have:=(Qg H.e b E).1;simp;omega);have k3:=Qd (Qd k7 gs (λb E=>by have:=k8 b E;simp;omega)) h8 (λb E=>by have:=(Qg O b E).1;simp;omega);exact⟨r3,vk,S,U,λL' ht=>⟨Qq.ints k3 h.al.le (λb E=>ov (ht b E)),Qq.ints k1 (by show c.mk'.length<=_;omega) (λb E=>ov (ht b E)),YP.eds k2 (by show c.ed.length<=_;have:=G.el;omega) (λb E=>ov (ht b E))⟩⟩
 have T:i<c.ord.length:=oa
 refine Qf<|Qe<|Qm<|QX (α:=O2) [(8,9),(41,57)] (λz=>[]) (λz w'=>Vf b3 b22 r3 wS (Yo a i c) vo z S w') om ?_ ?_
 ·refine Qe<|ZA [] (YX 0 12 [6])<|p (QJ U)<|pq (λ_ G=>Ql (ms.I G) U U)<|p Qx<|p Qx<|pii U hS U U T λa46 m6 =>
   pq (λ_ G=>Qy (m6.I G) U)<|pk<|xg<|(jo (mq.mr.I (O5.C _ _)) Y.mri _).mono ?_
  rintro r14 w14 ⟨rfl,j14,rfl⟩;refine⟨O5.C _ _,?_⟩;refine p Qx<|p (λ_=>Zi U U)<|p (λ_=>Zi U U)<|p ZG<|p ZG<|pe ?_;have hT:=H.I (O5.C [] mh);refine Qj<|xe ?_;have h9:Yg c.ord i=c.ord[i]:=U4 (oA T);refine ZI U (λhU=>?_) (λhU=>?_)
  ·refine Qf<|⟨vk,Z,?_⟩;unfold Yo;rw[h9,OT hU];exact hT
  refine Qs<|Qo U hT.B3 U U<|Qa<|Qn<|Za [[sS i]] λb55 w15 m7 hb55 m8=>?_;have h0:=hT.I m7;refine Qn<|Q2 (news:=[sS i]) (L:=[]) h0.k U U U (m8.at od) oq oa h0.st.size λv16 m9 pa gt pc=>?_;have gu:Qq 3 ↑wS m9 v16 (c.mk'++[(i:Int)]):=Qq.snoc pa;refine QQ U<|Qn<|Qu (h0.B3.J gt (QP h0.k hy)) U U od (Qq.ints (L:=[]) gu (by simp;omega) od).one λw17 pd pf=>xe ?_;refine⟨v16,Z,?_⟩;unfold Yo;rw[h9,OU hU];exact h0.setK hy hz hP gt gu pc pd pf
 rintro hV g3 h2 hj;have pg:UJ a.st (Yo a i c):=Qi6 G;have hW:(Yo a i c).ord=c.ord:=by unfold Yo;split <;> rfl
 have ph:(Yo a i c).ed=c.ed:=by unfold Yo;split <;> rfl
 have pj:(Yo a i c).mk'.length<=i+1:=by
  unfold Yo;split
  ·simp only[oN,oP];omega
  omega
 have gv:QL [] h2.heap vo (Yo a i c).ord:=Qq.ints (L:=[]) hj.o (by rw[hW];omega) od;rw[hW]at gv;have pm:sX w h2:=hO.then hj.st (λb E=>.inr (by simp at E;omega));have pn:ZM (b3::b22::(ob vo++ob S)) h2.heap va vm ve a:=(h.up (λb E=>.inr (by
  simp only[oL,oW]at E;rcases E with rfl|rfl|E|E
  ·omega
  ·omega
  ·have:=(Qg hj.o b E).1;omega
  have:=(Qg hj.e b E).1;omega))).I pm
 have po:=gq.J hj.st (by simp;omega);have hs:=G.ord c.ord[i] (Ll T);refine Qe<|ZA [] [oE 0,oE 1,oE 2,oE 3,oE 4,oE 7,oF 5,oE 6]<|pq (λ_ G=>Zr (po.I G) U U)<|p Qx<|p Qx<|pii U gv U U T λa61 pp =>
  pq (λ_ G=>Qy (pp.I G) U)<|p Qx<|pk<|xg<|(Qbn (pn.ed.I (O5.C _ _)) Y.eds mg c.ord[i] hs.1 oa).mono ?_
 rintro r19 hl ⟨pu,gw⟩;have gx:sX h2 hl:=(O5.C [] h2).D pu;refine⟨gx,?_⟩;refine p (λ_=>Yx gw U)<|pe ?_;have pw:=hj.I gx;have h9:Yg c.ord i=c.ord[i]:=U4 (oA T);have hol:=Vx a.ed c.ord[i];have pz:zt a i c=(Z7 a.ed c.ord[i]).foldl (ZB i) (Yo a i c):=by unfold zt;rw[h9]
 generalize p0:Z7 a.ed c.ord[i]=os at *;have p1:∀e∈os,0<=e.2.2/\e.2.2<a.st:=λe he=>by rw[<-p0]at he;have:=Y.ed e (ZV he).1;omega
 refine Q8 (α:=Nat×Cs×O2×O2) [(6,6),(11,11),(65,100)] (λz=>[(6,z.2.2.1),(65,sS z.1)])
  (λz w'=>Vf b3 b22 r3 wS z.2.1 z.2.2.1 hV z.2.2.2 w'/\O5 (b3::b22::(ob vo++ob S)) hl w'/\(∀b∈ob z.2.2.1,b∈ob vo\/↑hl<=b)/\(∀b∈ob z.2.2.2,b∈ob S\/↑hl<=b)/\z.1<=os.length/\UJ a.st z.2.1/\z.2.1.mk'=(Yo a i c).mk'/\z.2.1.ed.length=c.ed.length+z.1/\c.ord.length<=z.2.1.ord.length/\(os.drop z.1).foldl (ZB i) z.2.1=zt a i c)
  (λz=>os.length - z.1) (0,Yo a i c,vo,S) oB
  ⟨pw,O5.Z _ _,λ_ E=>.inl E,λ_ E=>.inl E,Ln _,pg,U,by simp[ph],by simp[hW],by rw[pz];rfl⟩ ?_
 rintro⟨k,d,gy,hB⟩ g4 p2 ⟨hf,hC,hD,hX,p3,V,hY,hZ,p4,h3⟩;simp only[]at hf hC hD hX p3 V hY hZ p4 h3;refine Zn rfl U (λp5=>?_) (λp5=>?_)
 ·rw[Ls oa,NJ]at h3;subst h3;refine Qw<|Qs<|Qa<|QG U U<|Qb ?_;have p6:=V.le;refine⟨(i+1,zt a i c,gy,hV,hB),og,oB,hf,og,V,by simp only[];rw[hY];exact pj,og,?_⟩;simp only[];rw[<-hR];obtain⟨m,hm⟩:∃m,a.st.toNat - i=m+1:=⟨a.st.toNat - i - 1,oa⟩;rw[hm,Jd,OU T,show a.st.toNat - (i+1)=m by omega]
 have ga:k<os.length:=oa
 have p7:=Zc ga;rw[p7,L4]at h3;have gz:=p1 os[k] (Ll ga);have p8:=gw.st hC;have p6:=V.le;have hzS4:=hC.size;have hI4z:=hf.st.size;have p9:=Qq.ints (L:=[]) hf.o oa od;obtain⟨q,hq⟩:∃q:Nat,os[k].2.2=q:=⟨os[k].2.2.toNat,oa⟩;have gb:os[k].2.2.toNat=q:=oa
 have gc:q<n:=oa
 have gg:q<d.num.length:=by rw[V.nl];omega
 have g0:Yg d.num os[k].2.2=d.num[q]:=by rw[U4 oa];simp only[gb]
 have qc:=Q7 hf.e;have qf:=Q7 hf.o;refine Qf<|Qe<|Qm<|Qc<|xie p8 U U ga λa67 ql=>x (Qr ql U U)<|QM [sS 0,sS 0,sS 0] λg6 w21 qm qn hg=>QI (QA os[k]) hg oC λqo qr hg=>xe ?_;have g7:sX p2 qo:=qm.O qr qn;have hE:=hf.I g7;have hl11:=hg.lt;have J:=hC.D g7;refine QX (α:=O2) [(6,6),(69,85)] (λz=>[(6,z)]) (λz w'=>Vf b3 b22 r3 wS (YB d os[k]) z hV hB w'/\O5 (b3::b22::(ob vo++ob S)) hl w'/\(∀b∈ob z,b∈ob vo\/↑hl<=b)/\QY w'.heap g6 167 (QA os[k])) om ?_ ?_
 ·refine Qj<|Qo U hg U U<|x (Zy U (OV sS hq) gc)<|x (zQ hE.B22 U gg)<|Ya U U<|xe<|ZI U (λgh=>?_) (λgh=>?_)
  ·refine Qf<|⟨gy,La,?_,J,hD,hg⟩;unfold YB;rw[g0,OT gh];exact hE
  refine Qj<|Qo U hg U U<|Qa<|QF p9 U<|x (Zy U (OV sS hq) gc)<|Qn<|KB hE.B22 U U gg λw23 hF q0=>xe ?_;have q1:=hE.setN hz hP hF q0;have g8:=hg.J hF (by simp;omega);refine Qs<|Qa<|Qo U g8 U U<|Qn<|Xx (us:=[[sS os[k].2.2]]) U U ol od ⟨rfl,rfl,Z⟩ λb84 w24 hG hb84 q2=>?_;have gi:=q1.I hG;refine Qn<|Q2 (news:=[sS os[k].2.2]) (L:=[]) gi.o U U U (q2.at od) oq (by show d.ord.length+1<=_;omega) gi.st.size λg9 q3 q4 gj ka=>Qb ?_;have q5:Qq 3 ↑wS q3 g9 (d.ord++[os[k].2.2]):=Qq.snoc q4;have hz23:=hF.size;have hz24:=hG.size;refine⟨g9,La,?_,?_,?_,(g8.I hG).J gj (λE=>ov (qf _ E))⟩
  ·unfold YB;rw[g0,OU gh,gb];exact gi.setO hy hz gj q5 ka
  ·refine((J.then hF (λb E=>.inl ?_)).D hG).then gj (λb E=>?_)
   ·simp at E;simp[E]
   rcases hD b E with I|I
   ·exact .inl (by simp[I])
   exact .inr I
  intro b E;rcases ka b E with I|I
  ·exact hD b I
  exact .inr oa
 rintro j1 g5 kb ⟨h4,kc,j2,ke⟩;have gk:ZB i d os[k]=⟨(YB d os[k]).ord,(YB d os[k]).num,(YB d os[k]).mk',(YB d os[k]).ed++[((i:Int),os[k].2.1,Yg (YB d os[k]).num os[k].2.2)]⟩:=yk oa;have j3:q<(YB d os[k]).num.length:=by rw[Ql7];exact gg
 have za:Yg (YB d os[k]).num os[k].2.2=(YB d os[k]).num[q]:=by rw[U4 oa];simp only[gb]
 have kf:=QP h4.e hy;have zb:=QP h4.e hz;have kg:g6∉ob hB:=λE=>ov (qc _ E)
 have kh:(YB d os[k]).ed=d.ed:=by unfold YB;split <;> rfl
 have zv:UJ a.st (ZB i d os[k]):=Qcc V gz.1 gz.2 (by rw[hZ];omega);refine ZA (ob hB) (YX 0 15 [11,12,14])<|p (QJ U)<|pq (λ_ G=>Ql (h4.B3.J G kf) U U)<|p Qx<|p (QJ U)<|pq (λ_ G=>Ql (ke.J G kg) U U) <|
  p Qx<|p (QJ U)<|pq (λ_ G=>Ql (ke.J G kg) U U)<|p (λ_=>Zy U (OV sS hq) gc) <|
  pq (λ_ G=>zQ (h4.B22.J G zb) U j3)<|p (λ_=>Qv ⟨U,U,U,Z⟩)<|pk<|Za [QA ((i:Int),os[k].2.1,(YB d os[k]).num[q])] λb97 z1 z2 hb97 z3=>?_
 have h5:sX kb z1:=(O5.C [] kb).D z2;refine⟨h5.any,?_⟩;have hH:=h4.I h5;refine pk<|Q2 (news:=QA ((i:Int),os[k].2.1,(YB d os[k]).num[q])) (L:=[]) hH.e U U U (z3.at od) (λu hu=>by simp only[QA,oL,oK,or_false]at hu;rcases hu with rfl|rfl|rfl <;> rfl) (by rw[kh];have:=V.el;omega) hH.st.size λki z4 z5 hJ kj=>?_
 refine⟨h5.any.Q hJ,?_⟩;have kk:YP 167 ↑wS z4 ki ((YB d os[k]).ed++[((i:Int),os[k].2.1,(YB d os[k]).num[q])]):=YP.snoc z5;refine p (QJ U)<|pkk<|Qu (hH.B3.J hJ kf) U U od (YP.eds (L:=[]) kk (by simp[kh];have:=V.el;omega) od).one λw29 kn hB29=>pe ?_;have gl:=hH.setE hy hz hP hJ kk kj kn hB29;rw[<-za]at gl;rw[<-gk]at gl;refine Qs<|QG U U<|Qa<|xe ?_;have hz26:=kc.size;have hz27:=h5.size;refine⟨(k+1,ZB i d os[k],j1,ki),og,oB,gl,?_,j2,?_,og,zv,?_,?_,?_,h3⟩
 ·refine(((kc.D h5)).then hJ (λb E=>?_)).then kn (λb E=>.inl (by simp at E;simp[E]));rcases hX b E with I|I
  ·exact .inl (by simp[I])
  exact .inr I
 ·intro b E;rcases kj b E with I|I
  ·exact hX b I
  exact .inr oa
 ·simp only[];rw[<-hY,gk];simp only[];unfold YB;split <;> rfl
 ·simp only[];rw[Qce,hZ];omega
 simp only[];rw[gk];simp only[];unfold YB;split
 ·simp only[oN];omega
 omega
end Go.Lg
namespace Go.Proofs
open Go.Proofs.Tryz
open Go.Shelf
def Tryz.lays169_ren:Go.Shelf.Ren:=⟨λ|169=>189|n=>n,λ|70=>337|9=>9|0=>0|72=>339|37=>188|127=>401|3=>3|5=>5|n=>n,λ|n=>n⟩
theorem Tryz.lays169:Go.Proofs.Lays.n169 sV Tryz.lays169_ren:=lyS
theorem Tryz.Builder_Extra_169:Builder.Extra sV Tryz.lays169_ren:=lyS
open Go.RowKit in
open Go.RowKit in
open Go.RowKit in
theorem Tryz.Builder_String_any (B b:Nat)(l:List UInt8)(w:O1)(h:Lib.IsBuilder 339 5 B b (Lib.byteCells l) w)(E:B<=↑w):
  Calls sV 189 #[sP b] w λe w'=>e=.returned (.string ⟨l.toArray⟩)/\Below B w w':=Any.Builder_String_any Tryz.lays169 Tryz.Builder_Extra_169 B b l w h E
def Tryz.laysM171_ren:Go.Shelf.Ren:=⟨λ|171=>188|243=>253|246=>294|283=>328|284=>329|285=>330|286=>331|129=>215|317=>344|318=>345|319=>346|320=>347|337=>350|338=>351|n=>n,λ|3=>3|9=>9|2=>2|4=>4|171=>464|0=>0|53=>369|37=>188|5=>5|173=>466|212=>479|51=>367|20=>20|213=>480|46=>285|232=>483|233=>484|n=>n,λ|17=>0|18=>1|19=>2|n=>n⟩
theorem Tryz.laysM171:Go.Proofs.LaysM.n171 sV Tryz.laysM171_ren:=lyS
open Go.RowKit Go.Sort Go.Lib in
theorem Tryz.strconv_Itoa (n:Int)(E:-9223372036854775808<=n)(G:n<=9223372036854775807)(w:O1)(H:Lib.TabIs sV w "internal/strconv.uint64pow10" .u64 Lib.pow10Tab):
  Calls sV 188 #[sS n] w λe w'=>e=.returned (.string ⟨(Lib.itoa n).toArray⟩)/\∃k os,w'=grow (w.drewN k) os:=Any.strconv_Itoa Tryz.laysM171 n E G w H
def Tryz.lays171_ren:Go.Shelf.Ren:=⟨λ|171=>188|243=>253|246=>294|283=>328|284=>329|285=>330|286=>331|129=>215|317=>344|318=>345|319=>346|320=>347|337=>350|338=>351|n=>n,λ|3=>3|9=>9|2=>2|4=>4|171=>464|0=>0|53=>369|37=>188|5=>5|173=>466|212=>479|51=>367|20=>20|213=>480|46=>285|232=>483|233=>484|n=>n,λ|17=>0|18=>1|19=>2|n=>n⟩
theorem Tryz.lays171:Go.Proofs.Lays.n171 sV Tryz.lays171_ren:=lyS
open Go.RowKit Go.Sort Go.Lib in
theorem Tryz.strconv_Itoa_small (i:Nat)(hi:i<100)(w:O1):
  Calls sV 188 #[sS i] w λe w'=>e=.returned (.string ⟨(Lib.decDigits i).toArray⟩)/\w'=w:=Any.strconv_Itoa_small Tryz.lays171 i hi w
end Go.Proofs
namespace Go.Lg
open Go.RowKit
section
variable {K:Fr->O1->Prop}{f:Fr}{pS:String}
theorem XN {te:Nat}(G:P.underlying t=some (.pointer te)){x:O3}{a:Option Addr}(hx:ev f x=.pointer a)(H:ev f y=.pointer none):
  (execOp (ev f) ⟨d,.binOp .eql t x y E,ty,pS,af,gd⟩).run P w=.ok (.value (.bool a.isNone)) w:=by
 have I:(eqGuard .eql t x y (.pointer a) (.pointer none)).run P w=.ok () w:=by simp[eqGuard]
 have key:∀m,(Op.equalIn (m+1) t (.pointer a) (.pointer none)).run P w=.ok a.isNone w:=by
  intro m;unfold Op.equalIn;cases a <;> simp[run_underlying G]
 have J:(Op.equal t (.pointer a) (.pointer none)).run P w=.ok a.isNone w:=key 9999;simp only[execOp,hx,H,Sem.run_bind,I,Result.andThen_ok,binOp,J,Sem.run_pure]
theorem QgH {te:Nat}{j:TypeInfo}(G:P.underlying t=some (.pointer te))(H:P.info? te=some j){x:O3}{a:Addr}(hx:ev f x=.pointer (some a))(I:ev f y=.pointer (some a)):
  (execOp (ev f) ⟨d,.binOp .neq t x y E,ty,pS,af,gd⟩).run P w=.ok (.value (.bool false)) w:=by
 have J:(eqGuard .neq t x y (.pointer (some a)) (.pointer (some a))).run P w=.ok () w:=by simp[eqGuard]
 simp only[execOp,hx,I,Sem.run_bind,J,Result.andThen_ok,Lib.run_neq_ptr_same w a G H,Sem.run_pure]
theorem zR {x:O3}{v:O2}(hx:ev f x=v)(h:(convert t E v).run P w=.ok v' w):
  (execOp (ev f) ⟨d,.convert t E x,ty,pS,af,gd⟩).run P w=.ok (.value v') w:=by
 simp[execOp,hx,h]
theorem QiE {e:Array O2->Sem O2}{x:O3}{v:O2}{ts:Array Nat}(G:P.funcs[g]?=some fn)(H:(fn.name == "runtime.NumGoroutine")=false)
  (I:fn.body.isNone=true) (J:Extern.findNext fn=none) (O:Extern.find fn=some e) (h:(e #[ev f x]).run P w=.ok v w):
  (execOp (ev f) ⟨d,.call ⟨.value (.func g),#[x],ts⟩,ty,pS,af,gd⟩).run P w=.ok (.value v) w:=by
 have E:=run_callFunc_extern G H I J O #[ev f x] w;rw[h]at E;have S:ev f (.func g)=.func (.func g) #[] #[]:=rfl;simp[execOp,resolve,S,Deferred.ofValue,invoke,E,Result.andThen]
theorem Qot {e u:Nat}[h:Sl P t e 1 1 (.int .u8 0)](E:P.underlying u=some .string){s:O3}{base:Nat}{v:O2}{cs:LV}(G:w.ownsRow base e 1 v n cs)(H:ev f s=v)
  {b:ByteArray} (I:ev f y=.string b) (hb:n+b.size<=1099511627776) (J:base<=↑w)
  (hK:∀v' w',w'.ownsRow base e 1 v' (n+b.size) (cs++Lib.strCells b)->O5 (ob v) w w'->K (QN f d v') w'):
  XO P ⟨d,.call ⟨.builtin .append,#[s,y],#[t,u]⟩,ty,pS,af,gd⟩ f w K:=by
 obtain⟨i,hi,O,S,T⟩:=Sl.info h;obtain⟨v',w',V,Y,h3,_⟩:=Lib.run_append_own_string (P:=P) w base t u ty e i h.u E hi O S T v n cs G b (by simp only[maxLen];omega) oa J;have ha:(execOp (ev f) ⟨d,.call ⟨.builtin .append,#[s,y],#[t,u]⟩,ty,pS,af,gd⟩).run P w=.ok (.value v') w':=by
  simp[execOp,resolve,invoke,builtin,H,I,V]
 exact xv ha (hK v' w' Y (by rw[yE];exact O5.of_grown h3))
theorem QiC {x:O3}{u:Nat}(E:P.underlying u=some .string){b:ByteArray}(hx:ev f x=.string b):
  (execOp (ev f) ⟨d,.call ⟨.builtin .len,#[x],#[u]⟩,ty,pS,af,gd⟩).run P w=.ok (.value (sS b.size)) w:=by
 simp[execOp,resolve,invoke,builtin,Builtin.len_,hx,run_underlying E,goInt]
end
def Bl (p:O2)(b:Nat)(E:List UInt8)(w:O1):Prop:=∃v,QY w.heap b 339 [p,v]/\w.ownsRow (b+1) 5 1 v E.length (Lib.byteCells E)
def me (b:Nat):O2:=sP b
theorem QmA (h:(P.info? t).map (·.size)=some n):∃j,P.info? t=some j/\j.size=n:=by
 simpa using h
theorem QaS {cs:LV}(h:QY w.heap b T cs):w.shape? b=some (T,cs.length):=by
 unfold QY at h;simp[World.shape?,h]
theorem qd {G:O1}{J:List UInt8}{p:O2}(O:sX G w)(T:↑G<=b)(V:p=.pointer none\/p=me b)(h:Bl p b J w):
  QZ sV 252 [me b] w λr w'=>r=.tuple #[]/\sX G w'/\Bl (me b) b J w':=by
 obtain⟨v,E,H⟩:=h;obtain⟨j,I,Y⟩:=QmA (P:=sV) (t:=339) (n:=2) oe;refine Zq func252 ?_;refine Qc ?_;rcases V with rfl|rfl
 ·refine Qa<|Yf U<|Qo U E U U<|x (XN underlying337 U U)<|xe<|jq U ?_;refine Qs<|Qa<|Qa<|x (zR (v':=me b) U (Lib.run_to_unsafe w ⟨b,0,none⟩ underlying337 underlying441 I (by rw[Y];decide) (QaS E) od)) <|
   x (QiE (v:=me b) func293 oe oe oe (e:=Extern.AbiNoEscape.same) oe U) <|
   x (zR (v':=me b) U (Lib.run_from_unsafe w ⟨b,0,none⟩ underlying441 underlying337 I (QaS E) oe))<|x (Ur U) <|
   QQ rfl<|Qn<|Qu E U U od rfl λw2 S ha=>xe ?_
  exact⟨[],Z,U,O.O S T,v,ha,Qd H S (λc hc=>by have:=(Qg H c hc).1;simp;omega)⟩
 refine Qa<|Yf U<|Qo U E U U<|x (XN underlying337 U U)<|xe<|ZO U<|Qj<|Yf U<|Qo U E U U<|Qa<|x (QgH underlying337 I U U)<|xe<|ZO U<|Qf ?_;exact⟨[],Z,U,O,v,E,H⟩
theorem Qa4 {I:O1}{E:List UInt8}{p:O2}(h0:sX I w)(T:↑I<=b)(hp:p=.pointer none\/p=me b)(h:Bl p b E w)(c:UInt8)(hl:E.length+1<=1000000000):
  QZ sV 250 [me b,.int .u8 c.toNat] w λ_ w'=>sX I w'/\Bl (me b) b (E++[c]) w':=by
 refine Zq func250 ?_;refine Qc<|Qb<|Qj<|Qz<|(qd h0 T hp h).mono ?_;rintro r1 w1 ⟨rfl,ha,v,J,O⟩;refine xe ?_;have hh:=J.lt;refine Qj<|Qa<|Yf U<|Qo U J U U<|Qa<|Qn<|Za [[.int .u8 c.toNat]] λb13 w2 H hi he=>?_;have hj:=H.size;refine Qn<|Q2 (news:=[.int .u8 c.toNat]) (L:=[]) (Qk O H) U U U (he.at od) oq oa oa λv3 w3 hf V hk=>?_;have S:w3.ownsRow (b+1) 5 1 v3 (E++[c]).length (Lib.byteCells (E++[c])):=by simpa[Lib.byteCells]using hf
 refine Yf rfl<|QQ U<|Qn<|Qu ((J.I H).J V (λG=>ov (Qg O b G).1)) U U od (QB (L:=[]) S (by simp;omega) od).one λw4 Y hg=>xe ?_;refine Qc<|Qb<|Qh ⟨[.nilIface],La,(((ha.D H).then V (λc G=>.inr ?_)).O Y T),v3,hg,Qd S Y (λc G=>by have:=(Qg S c G).1;simp;omega)⟩;have:=(Qg O c G).1;omega
theorem Vq {H:O1}{E:List UInt8}{p:O2}(h0:sX H w)(S:↑H<=b)(hp:p=.pointer none\/p=me b)(h:Bl p b E w)(s:ByteArray)(hl:E.length+s.size<=1000000000):
  QZ sV 187 [me b,.string s] w λ_ w'=>sX H w'/\Bl (me b) b (E++s.data.toList) w':=by
 refine Zq func187 ?_;refine Qc<|x Qi<|Qb<|Qj<|Qz<|(qd h0 S hp h).mono ?_;rintro r1 w1 ⟨rfl,ha,v,I,J⟩;refine xe ?_;have hg:=I.lt;refine Qj<|Qa<|Yf U<|Qo U I U U<|Qa<|Qn<|Qot underlying9 J U U oa oa λv3 w3 he T=>?_;have V:s.size=s.data.toList.length:=rfl;have O:w3.ownsRow (b+1) 5 1 v3 (E++s.data.toList).length (Lib.byteCells (E++s.data.toList)):=by
  rw[Lk,<-V,show Lib.byteCells (E++s.data.toList)=Lib.byteCells E++Lib.strCells s by simp[Lib.byteCells,Lib.strCells_eq]];exact he
 refine Yf rfl<|QQ U<|Qn<|Qu (I.J T (λG=>ov (Qg J b G).1)) U U od (QB (L:=[]) O (by rw[Lk,<-V];omega) od).one λw4 Y hf=>xe ?_;refine Qj<|x (QiC underlying9 U)<|x Qi<|Qb<|Qh ⟨[sS s.size,.nilIface],oB,((ha.then T (λc G=>.inr ?_)).O Y S),v3,hf,Qd O Y (λc G=>by have:=(Qg O c G).1;simp;omega)⟩;have:=(Qg J c G).1;omega
theorem jZ {I:O1}{H:List UInt8}{p:O2}(E:sX I w)(hb:↑I<=b)(T:p=.pointer none\/p=me b)(h:Bl p b H w):
  QZ sV 189 [me b] w λr w'=>r=.string ⟨H.toArray⟩/\sX I w':=by
 obtain⟨v,J,O⟩:=h;have ha:=J.lt;have S:Lib.BuilderAt 339 5 b b p (Lib.byteCells H) w:=⟨Lv _,v,J,by rw[Lib.byteCells_length];exact Zz O oa,λe=>by
  have:b∈ob v:=by rw[yE,e];simp
  have:=(Qg O b this).1;omega⟩
 unfold QZ;refine Calls.mono (Tryz.Builder_String_any b b H w (by rcases T with rfl|rfl;exact .inl S;exact .inr S) oa) ?_
 rintro e w' ⟨rfl,G⟩;exact⟨U,⟨G.os.D E.os,G.tape.D E.tape,G.output.D E.output,LH E.size G.size,λk V Y=>(G.block k oa).D (E.block k V Y)⟩⟩
def Tb (w:O1):Prop:=Lib.TabIs sV w "internal/strconv.uint64pow10" .u64 Lib.pow10Tab
theorem Qh0 {name:String}{v:Array O2}(h:w.var? P name=some v)(H:sX w w'):w'.var? P name=some v:=by
 unfold World.var? at *;rw[MW]at *;obtain⟨g,I,E⟩:=h;refine⟨g,I,?_⟩;cases G:w.heap[g]? with
 | none=>rw[G]at E;cases E
 | some o =>
  have J:g<w.heap.size:=(LJ.1 G).1;rw[H.block g J od];exact E
theorem Tb.I (h:Tb w)(E:sX w w'):Tb w':=Qh0 h E
def Kb (w:O1)(m:Int):Prop:=m<=100\/(m<=1000000/\Tb w)
theorem Kb.I {w w':O1}{m:Int}(h:Kb w m)(E:sX w w'):Kb w' m:=h.imp id λh=>⟨h.1,h.2.I E⟩
theorem Kb.le {m:Int}(h:Kb w m):m<=1000000:=by rcases h with h|h <;> omega
theorem QdQ {k:Nat}{os:xC}:sX w (Sort.grow (w.drewN k) os):=by
 refine⟨U,U,U,?_,λi hi _=>?_⟩
 ·show ↑w<=(w.heap++os).size;simp
 show(w.heap++os)[i]?=w.heap[i]?;rw[Array.getElem?_append_left hi]
theorem Qfx {m:Int}(i:Nat)(hi:(i:Int)<m)(w:O1)(E:Kb w m):QZ sV 188 [sS i] w λr w'=>r=.string ⟨(Lib.decDigits i).toArray⟩/\sX w w':=by
 unfold QZ;rcases E with E|E
 ·refine Calls.mono (Tryz.strconv_Itoa_small i oa w) ?_;rintro e w' ⟨rfl,rfl⟩;exact⟨U,O5.Z _ _⟩
 refine Calls.mono (Tryz.strconv_Itoa i oa oa w E.2) ?_;rintro e w' ⟨rfl,k,os,rfl⟩;refine⟨?_,QdQ⟩;unfold Lib.itoa;rw[OT oa,MN]
def J4 (l:LI):List UInt8:=l.flatMap λn=>Lib.decDigits n.toNat++[32]
theorem qV:∀(k u:Nat),u<10 ^ k->(Lib.decDigits u).length<=max 1 k
 | 0,u,h=>by
  unfold Lib.decDigits;rw[dif_pos (by simp at h;omega)];simp
 | k+1,u,h=>by
  unfold Lib.decDigits;split
  ·simp
  rename_i E;have ih:=qV k (u / 10) (by rw[Nat.pow_succ]at h;omega);rw[Lk];simp only[oP];have G:k≠0:=λe=>by subst e;simp at h;omega
  omega
theorem Bl.I {w w':O1}{p:O2}{b:Nat}{E:List UInt8}(h:Bl p b E w)(G:sX w w'):Bl p b E w':=by
 obtain⟨v,H,I⟩:=h;exact⟨v,H.I G,Qk I G⟩
theorem Qbz {L:LN}{v:O2}{l:LI}{m:Int}(h:QL L w.heap v l)(S:Kb w m)(Y:∀n∈l,0<=n/\n<m)(hl:l.length<=1000000):
  QZ sV 182 [v] w λr w'=>r=.string ⟨(J4 l).toArray⟩/\sX w w':=by
 refine Zq func182 ?_;refine Qc<|Qb<|Qc<|QM [.pointer none,nS] λH w1 ha I hc=>xe ?_;refine Qe<|Qj<|QF h U<|Qa<|xe<|Q8 (α:=Nat×O2) [(5,5),(8,16)] (λz=>[(8,sS z.1)]) (λz w'=>z.1<=l.length/\sX w w'/\(z.2=.pointer none\/z.2=me H)/\Bl z.2 H (J4 (l.take z.1)) w'/\(J4 (l.take z.1)).length<=8*z.1) (λz=>l.length - z.1) (0,.pointer none) La
  ⟨Ln _,ha,.inl U,⟨_,hc,QD _ _ _ _⟩,Lv _⟩ ?_
 rintro⟨k,p⟩ g w2 ⟨hk,E,J,G,he⟩;simp only[]at hk J G he;refine Zn rfl U (λh9=>?_) (λh9=>?_)
 ·refine Qw<|Qc ?_;rw[Lt oa]at G;refine jB<|(jZ E I J G).mono ?_;rintro r3 w3 ⟨rfl,hf⟩;refine Qb<|Qh ⟨[.string ⟨(J4 l).toArray⟩],La,U,hf⟩
 have O:k<l.length:=oa
 have ho:=Y l[k] (Ll O);obtain⟨q,hq⟩:∃q:Nat,l[k]=q:=⟨l[k].toNat,oa⟩;have hg:l[k].toNat=q:=oa
 have hr:=qV 7 q (ov S.le);have T:J4 (l.take (k+1))=J4 (l.take k)++Lib.decDigits q++[32]:=by
  rw[Lm O];unfold J4;rw[Ly,List.flatMap_singleton,hg,LB]
 refine Qf<|Qe<|Qm<|Qc<|xii (h.I E) U U O λhs hh=>x (Qy hh U)<|Qb<|Qj<|Qn<|xf ?_;refine(show QZ _ _ [sS l[k]] _ _ by rw[hq];exact(Qfx q oa w2 (S.I E))).mono ?_;rintro r4 w4 ⟨rfl,V⟩;refine jB<|(Vq (E.D V) I J (G.I V) ⟨(Lib.decDigits q).toArray⟩ (by show _+(Lib.decDigits q).toArray.size<=_;simp;omega)).mono ?_;rintro r5 w5 ⟨hi,hj⟩;refine xe<|Qs<|jB<|(Qa4 hi I (.inr U) hj 32 (by simp;omega)).mono ?_;rintro r6 w6 ⟨hm,hn⟩;refine xe<|Qs<|QG U U<|Qa<|xe<|⟨(k+1,me H),og,La,og,hm,.inr U,?_,?_⟩
 ·simp only[];rw[T];simpa using hn
 simp only[];rw[T];simp;omega
theorem qX (p:AV):(ZX p).length=4:=rfl
theorem Up (p:TV):(YS p).length=1:=rfl
theorem KS.le {L:LN}{H:xC}{v:O2}{ps:List AV}(h:KS L H v ps):ps.length<=1099511627776:=h.arr.le
theorem Qkv {l:List Q6}{k:Nat}(h:k<l.length):ckL (l.drop k)=if Jz l[k]≠0 then Jz l[k]else ckL (l.drop (k+1)):=by
 rw[LE h,ckL]
theorem QgN {L:LN}{v:O2}{ps:List AV}(h:KS L w.heap v ps):
  QZ sV 179 [v] w λr w'=>r=sS (qq (ps.map (·.a)))/\sX w w':=by
 have hi:=KS.le h;refine Zq func179 ?_;refine Qc<|Qb<|Qe<|Qj<|QF h.arr U<|x (Yd U U)<|xe<|QO rfl (λV=>?_) (λV=>?_)
 ·refine Qc<|Qb<|Qh ⟨[sS 3],La,?_,O5.Z _ _⟩;unfold qq;rw[OU (by simp;omega)];rfl
 refine Qf ?_;have Y:qq (ps.map (·.a))=ckL (ps.map (·.a)):=by unfold qq;rw[OT (by simp;omega)]
 rw[Y];refine Qe<|Qj<|QF h.arr U<|Qa<|xe<|Q8 (α:=Nat) [(2,2),(4,5),(11,20)] (λz=>[(11,sS z)]) (λz w'=>z<=ps.length/\sX w w'/\ckL (ps.map (·.a))=ckL ((ps.map (·.a)).drop z)) (λz=>ps.length - z) 0 La
  ⟨Ln _,O5.Z _ _,U⟩ ?_
 rintro k g w1 ⟨hk,E,G⟩;refine Zn rfl U (λha=>?_) (λha=>?_)
 ·refine Qw<|Qc<|Qb<|Qh ⟨[sS 0],La,?_,E⟩;rw[G,Ls (by simp;omega)];rfl
 have H:k<ps.length:=oa
 have hb:k<(ps.map (·.a)).length:=by simpa using H
 rw[Qkv hb,Mq]at G;refine Qf<|Qe<|Qm<|Qc<|O8 qX (h.I E).arr U U H λhj hc=>x (Qr hc U U)<|QM [nS,sS 0,nS,nS] λb4 w2 he hf J=>?_;have I:=h.each ps[k] (Ll H);refine QI (ZX ps[k]) J ⟨I.al.one,U,I.mr.one,I.ed.one,Z⟩ λw3 hg J=>xe ?_;have S:sX w1 w3:=he.O hg hf;refine Qc<|QS J U U<|Qz<|(Jq ((I.I E).I S)).mono ?_;rintro r4 w4 ⟨rfl,hh⟩;refine Qb ?_;have T:=(E.D S).D hh;refine Qj<|Zx U U<|xe<|QO rfl (λO=>?_) (λO=>?_)
 ·refine Qj<|Qb<|Qh ⟨[sS (Jz ps[k].a)],La,?_,T⟩;rw[G,OU O];rfl
 refine Qf<|Qs<|QG U U<|Qa<|xe<|⟨k+1,oa,La,H,T,?_⟩;rw[G,OT O]
theorem QjW {l:List Q6}{k:Nat}(h:k<l.length):evs (l.take (k+1))=mrg (· || ·) (evs (l.take k)) l[k].al:=by
 unfold evs;rw[Lm h,MD];rfl
theorem QbK (l:List Q6)(h:∀a∈l,a.al.length<=32):(evs l).length<=32*l.length:=by
 have key:∀(l:List Q6) (acc:LI),(∀a∈l,a.al.length<=32)->(l.foldl (λacc a=>mrg (· || ·) acc a.al) acc).length<=acc.length+32*l.length:=by
  intro l;induction l with
  | nil=>intro acc _;simp
  | cons a l ih =>
   intro acc h;have G:=ih (mrg (· || ·) acc a.al) (λa E=>h a (Lj _ E));have H:=Qbt (· || ·) acc a.al;have I:=h a Lq;simp only[List.foldl_cons,oX];omega
 have:=key l [] h;unfold evs;simpa using this
theorem Qg9 {L:LN}{v:O2}{ps:List AV}(h:KS L w.heap v ps)(hn:ps.length<=12)(S:∀p∈ps,p.a.al.length<=32):
  QZ sV 249 [v] w λr w'=>sX w w'/\Qq 3 ↑w w' r (evs (ps.map (·.a))):=by
 refine Zq func249 ?_;refine Qc<|Qb<|Qc<|Qb<|Qe<|Qj<|QF h.arr U<|Qa<|xe<|Q8 (α:=Nat×O2) [(3,3),(5,5),(8,16)] (λz=>[(3,z.2),(8,sS z.1)]) (λz w'=>z.1<=ps.length/\sX w w'/\Qq 3 ↑w w' z.2 (evs ((ps.map (·.a)).take z.1))) (λz=>ps.length - z.1) (0,nS) oB
  ⟨Ln _,O5.Z _ _,QD _ _ _ _⟩ ?_
 rintro⟨k,vo⟩ g V ⟨Y,I,G⟩;simp only[]at Y G;have hi:=QbK ((ps.map (·.a)).take k) (λa ha=>by obtain⟨p,hp,rfl⟩:=LC.1 (LU ha);exact S p hp);have hj:((ps.map (·.a)).take k).length<=12:=by simp;omega
 refine Zn rfl U (λh9=>?_) (λh9=>?_)
 ·refine Qw<|Qj<|Qb<|Qh ⟨[vo],La,I,?_⟩;rw[Lt (by simp;omega)]at G;exact G
 have E:k<ps.length:=oa
 refine Qf<|Qe<|Qm<|Qc<|O8 qX (h.I I).arr U U E λhl hb=>x (Qr hb U U)<|QM [nS,sS 0,nS,nS] λb5 w2 hc he J=>?_;have H:=h.each ps[k] (Ll E);have hm:=S ps[k] (Ll E);refine QI (ZX ps[k]) J ⟨H.al.one,U,H.mr.one,H.ed.one,Z⟩ λw3 hf J=>xe ?_;have T:sX V w3:=hc.O hf he;have O:=I.D T;refine Qs<|Qa<|Qo U J U U<|Qz<|(Qdz (Qq.ints (L:=[]) (Qk G T) oa od) (H.al.I O) oa).mono ?_;rintro r4 w4 ⟨hg,hh⟩;refine Qb<|Qs<|QG U U<|Qa<|xe<|⟨(k+1,r4),og,oB,E,O.D hg,?_⟩;simp only[];rw[QjW (oA E),Mq];exact Zz hh O.size
abbrev Qfl (b:Nat):LV:=[.map (some b)]
structure VO (L:LN)(H:xC)(vl ve vs:O2)(ps:List AV)(ms:LN):Prop where
 al:KS L H vl ps
 ev:QL L H ve (evs (ps.map (·.a)))
 ml:ms.length=ps.length
 sl:Zo L H vs ms.length 1 (ms.flatMap Qfl)
 mp:∀i (h:i<ms.length) (h':i<ps.length),Yr Jw H ms[i] (zj [] ps[i].a.ed)/\ms[i]∉L
theorem VO.I {L:LN}{w w':O1}{vl ve vs:O2}{ps:List AV}{G:LN}(h:VO L w.heap vl ve vs ps G)(E:sX w w'):VO L w'.heap vl ve vs ps G :=
 ⟨h.al.I E,h.ev.I E,h.ml,h.sl.I E,λi H I=>⟨(h.mp i H I).1.I E,(h.mp i H I).2⟩⟩
theorem VO.st {L:LN}{w w':O1}{vl ve vs:O2}{ps:List AV}{I:LN}(h:VO L w.heap vl ve vs ps I)(E:O5 L w w'):VO L w'.heap vl ve vs ps I :=
 ⟨h.al.st E,h.ev.st E,h.ml,h.sl.st E,λi G H=>⟨(h.mp i G H).1.J E (h.mp i G H).2,(h.mp i G H).2⟩⟩
theorem VO.up {L L':LN}{H:xC}{vl ve vs:O2}{ps:List AV}{J:LN}(h:VO L H vl ve vs ps J)(E:∀b∈L',b∈L\/H.size<=b):VO L' H vl ve vs ps J :=
 ⟨h.al.up E,h.ev.up E,h.ml,h.sl.up E,λi G I=>⟨(h.mp i G I).1,λS=>by rcases E _ S with O|O;exact(h.mp i G I).2 O;have:=(h.mp i G I).1.lt;omega⟩⟩
theorem Qep {m:List ((Int×Int)×O2)}{es:List Ed}{k:Nat}(h:k<es.length):zj m (es.take (k+1))=xh (zj m (es.take k)) (es[k].1,es[k].2.1) (sS es[k].2.2):=by
 unfold zj;rw[Lm h,MD];rfl
theorem Ql4 {L:LN}{ps:List AV}(h:KS L w.heap vl ps)(hn:ps.length<=12)(hD:∀p∈ps,p.a.al.length<=32)(hL:∀b∈L,b<↑w):
  QZ sV 180 [vl] w λr w'=>sX w w'/\∃ve vs G,r=.agg #[vl,ve,vs]/\VO L w'.heap vl ve vs ps G/\Qq 3 ↑w w' ve (evs (ps.map (·.a))):=by
 refine Zq func180 ?_;refine Qc<|QM [nS,nS,nS] λb2 w1 hu hP hv=>xe ?_;refine Qj<|Qa<|Qz<|(Qg9 (h.I hu) hn hD).mono ?_;rintro ve w2 ⟨Y,hc⟩;have hQ:=QbK (ps.map (·.a)) (λa ha=>by obtain⟨p,hp,rfl⟩:=LC.1 ha;exact hD p hp);have g9:(evs (ps.map (·.a))).length<=1000:=by simp at hQ;omega
 have hw:=Qq.ints (L:=[]) hc oa od;refine x (Qv ⟨h.arr.cells,hw.cells,Z⟩)<|QM [nS,nS,nS] λb3 w3 hR hS he =>
  QI [vl,ve,nS] he ⟨h.arr.one,hw.one,U,Z⟩ λH hT he=>xe ?_
 have hU:=hu.size;have ka:=Y.size;have hf:sX w2 H:=hR.O hT hS;have kb:=hv.lt;have kc:=he.lt;have hV:sX w H:=(hu.D Y).D hf;have hW:=Qk hc hf;refine Qe<|Qj<|QF h.arr U<|Qa<|xe ?_;have hX:=Q7 hc;refine Q8 (α:=Nat×LN×O2) [(5,6),(8,8),(15,42)] (λz=>[(15,sS z.1)])
  (λz w'=>z.1<=ps.length/\z.2.1.length=z.1/\O5 [b3] H w'/\QY w'.heap b3 329 [vl,ve,z.2.2]/\w'.ownsRow ↑H 398 1 z.2.2 z.2.1.length (z.2.1.flatMap Qfl) /\
   (∀i (h:i<z.2.1.length) (h':i<ps.length),Yr Jw w'.heap z.2.1[i] (zj [] ps[i].a.ed)/\↑H<=z.2.1[i]/\z.2.1[i]∉ob z.2.2)) (λz=>ps.length - z.1) (0,[],nS) La
  ⟨Ln _,U,O5.Z _ _,he,QD _ _ _ _,λi h=>by simp at h⟩ ?_
 rintro⟨k,G,vs⟩ g w5 ⟨hk,hg,I,hy,J,hh⟩;simp only[]at hk hg I hy J hh;have hl:sX w w5:=hV.O I oa;have ke:=I.size;have ho:=Qg J;refine Zn rfl U (λhY=>?_) (λhY=>?_)
 ·have hZ:k=ps.length:=oa
  subst hZ;refine Qw<|Qc ?_;have ga:=QB (L:=[]) J oa od;refine QS hy U U<|QI [vl,ve,vs] (((hv.I Y).I hf).J I (by simp;omega)) ⟨h.arr.one,hw.one,ga.one,Z⟩ λw6 hr gb=>xe ?_;have hE:=hl.O hr hP;have hF:Qq 3 ↑w1 w6 ve _:=Qd (Qd hW I (λb E=>by have:=hX b E;simp;omega)) hr (λb E=>by have:=(Qg hc b E).1;simp;omega);have hG:=Qd J hr (λb E=>by have:=(ho b E).1;simp;omega);refine Qh ⟨[.agg #[vl,ve,vs]],⟨Yk gb,Z⟩,hE,ve,vs,G,U,⟨h.I hE,Qq.ints hF oa (λb E=>ov (hL b E)),hg,QB hG oa (λb E hbL=>oy (hL b hbL) (Qg hG b E).1),λi h1 h2=>⟨?_,λhbL=>oy (hL _ hbL) (hh i h1 h2).2.1⟩⟩,Zz hF hU⟩;obtain⟨m1,m2,_⟩:=hh i h1 h2;exact m1.J hr (λE=>by
   simp only[oJ]at E;have h7:=(((hv.I Y).I hf).J I (by simp;omega));rw[E]at m1;obtain⟨es,c,m4,_⟩:=m1;unfold QY at h7;rw[h7]at m4;cases m4)
 have hz:k<ps.length:=oa
 have O:=h.each ps[k] (Ll hz);refine Qf<|Qe<|Qm<|Qc<|O8 qX (h.I hl).arr U U hz λkf gc=>x (Qr gc U U)<|QM [nS,sS 0,nS,nS] λb5 w7 gg gh gi =>
  QI (ZX ps[k]) gi ⟨O.al.one,U,O.mr.one,O.ed.one,Z⟩ λw8 gj hH=>xe ?_
 have gk:sX w5 w8:=gg.O gj gh;have kg:=hH.lt;refine Qc<|Qn<|YL Jw λbm w9 hI kh hJ=>Qb ?_;have ki:=hJ.lt;have hK:=gk.D hI;have gl:=hl.D hK;refine Qe<|Qc<|Qo U (hH.I hI) U U<|QF O.ed U<|Qa<|xe ?_;have gm:=(O.ed.up (L':=[bm]) (λb E=>.inr (by simp at E;have:=hl.size;omega))).I gl;have kj:=O.ed.le;refine Q8 (α:=Nat) [(8,8),(23,35)] (λz=>[(23,sS z)]) (λz w'=>z<=ps[k].a.ed.length/\O5 [bm] w9 w'/\Yr Jw w'.heap bm (zj [] (ps[k].a.ed.take z))) (λz=>ps[k].a.ed.length - z) 0 La
  ⟨Ln _,O5.Z _ _,hJ⟩ ?_
 rintro j g2 S ⟨hj,hs,h0⟩;have kk:=hs.size;refine Zn rfl U (λgn=>?_) (λgn=>?_)
 ·refine Qw ?_;rw[Lt oa]at h0;have h3:sX w5 S:=hK.O hs oa;have hM:QY S.heap b3 329 [vl,ve,vs]:=hy.I h3;refine Qs<|Qo U hM U U<|Qa<|Qn<|Za [[.map (some bm)]] λkn go ht ko gp=>?_;have h4:=h3.D ht;have gq:=Qk J h4;have kq:=h4.size;refine Qn<|Q2 (news:=[.map (some bm)]) (L:=[]) gq U U U (gp.at od) oq oa oa λh6 gr gs h8 hN=>?_;have h9:gr.ownsRow ↑H 398 1 h6 (G++[bm]).length ((G++[bm]).flatMap Qfl):=by
   rw[Lk,Ly];simpa using gs
  have gt:=(hM.I ht).J h8 (QP J oa);refine QQ U<|Qn<|Qu gt U U od (QB (L:=[]) h9 (by simp;omega) od).one λgu hB gv=>xe ?_;refine Qs<|QG U U<|Qa<|xe ?_;have gw:∀b∈ob h6,↑H<=b:=λb E=>(Qg h9 b E).1;have kr:S.heap.size<=go.heap.size:=ht.size;refine⟨(k+1,G++[bm],h6),og,La,hz,by simp[hg],?_,gv,Qd h9 hB (λb E=>by have:=gw b E;simp;omega),?_⟩
  ·exact((I.D h4).then h8 (λb E=>.inr (ho b E).1)).Q hB
  intro i h1 h2;simp only[oN,oP]at h1;have keep:∀(c:Nat) (m:List ((Int×Int)×O2)),Yr Jw S.heap c m->c≠b3->c∉ob vs->Yr Jw gu.heap c m:=λc m hm gx gy =>
   ((hm.I ht).J h8 gy).J hB (oA gx)
  by_cases hi:i<G.length
  ·obtain⟨m1,m2,m3⟩:=hh i hi h2;simp only[List.getElem_append_left hi];refine⟨keep _ _ (m1.I h3) oa m3,m2,λE=>?_⟩;have kt:=m1.lt;rcases hN _ E with T|T
   ·exact m3 T
   omega
  have gz:i=G.length:=oa
  subst gz;simp only[List.getElem_append_right (Nat.le_refl _),Nat.sub_self,List.getElem_singleton];have hq:G.length=k:=hg;have e2:ps[G.length]=ps[k]:=by simp only[hq]
  rw[e2];refine⟨keep _ _ h0 oa (λE=>ov (ho _ E).2),oa,λE=>?_⟩;rcases hN _ E with T|T
  ·have:=(ho _ T).2;omega
  omega
 have hC:j<ps[k].a.ed.length:=oa
 refine Qf<|Qe<|Qm<|Qc<|xie (gm.st hs) U U hC λku g0=>x (Qr g0 U U)<|QM [sS 0,sS 0,sS 0] λb8 kv g3 g4 V=>QI (QA ps[k].a.ed[j]) V oC λg5 g6 V=>xe ?_;have hO:sX S g5:=g3.O g6 g4;refine Qs<|Qa<|Qo U V U U<|Qo U V U U<|x (Qv ⟨U,U,Z⟩)<|x (KA U) <|
  Xn V rfl U<|Qn<|XW (k:=(ps[k].a.ed[j].1,ps[k].a.ed[j].2.1)) (h0.I hO) U U λkw g7 g8=>xe ?_
 refine Qs<|QG U U<|Qa<|xe<|⟨j+1,oa,La,hC,(hs.D hO).Q g7,?_⟩;rw[Qep hC];exact g8
theorem Qek {L:LN}{ps:List AV}{ms:LN}(h:VO L w.heap vl ve vs ps ms)(hn:ps.length<=12):
  QZ sV 181 [.agg #[vl,ve,vs]] w λr w'=>sX w w' /\
   if ∃p∈ps,p.a.st=0 then r=.tuple #[nS,.bool false]else ∃v,r=.tuple #[v,.bool true]/\Qq 3 ↑w w' v (oO ps.length 0):=by
 refine Zq func181 ?_;refine Qc<|Zl [vl,ve,vs] λb1 w1 G hj S=>x Qi<|Qb<|Qe<|Qc<|Qo U S U U<|QF h.al.arr U<|Qa<|xe<|Q8 (α:=Nat) [(2,3),(5,5),(9,16)] (λz=>[(9,sS z)]) (λz w'=>z<=ps.length/\sX w1 w'/\∀i (h:i<ps.length),i<z->ps[i].a.st≠0) (λz=>ps.length - z) 0 La
  ⟨Ln _,O5.Z _ _,λi _ h=>oa⟩ ?_
 rintro k g w2 ⟨hk,E,T⟩;refine Zn rfl U (λha=>?_) (λha=>?_)
 ·refine Qw<|Qc<|Qo U (S.I E) U U<|QF h.al.arr U<|Qn<|qH (n:=ps.length) U U oa λhb w3 hc hl V=>x Qi<|Qb ?_;rw[show(oO ps.length (sS 0).cells.toList).flatten=((oO ps.length 0).map (Value.int .i64)) by rw[show(sS 0).cells.toList=[sS 0] from rfl,Qcr,List.map_replicate]]at V;have hz:=(G.D E).size;refine Qh ⟨[sL hb ps.length ps.length,.bool true],oB,(G.D E).D hc,?_⟩;rw[OT (by
   rintro⟨p,hp,h0⟩;obtain⟨i,hi,rfl⟩:=LP hp;exact T i hi oa h0)]
  refine⟨_,U,?_⟩;have:=V.own (n:=ps.length) (sz:=1) (base:=↑w) od oa oa;unfold Qq;rw[List.length_replicate];exact this
 have H:k<ps.length:=oa
 have I:=h.al.each ps[k] (Ll H);refine Qf<|Qe<|Qm<|Qc<|O8 qX ((h.al.I G).I E).arr U U H λhm he=>x (Qr he U U)<|QM [nS,sS 0,nS,nS] λb5 w4 hf hg J =>
  QI (ZX ps[k]) J ⟨I.al.one,U,I.mr.one,I.ed.one,Z⟩ λw5 hh J=>xe ?_
 have Y:sX w2 w5:=hf.O hh hg;refine Qc<|Qo U J U U<|x (QT U U)<|xe<|QO rfl (λO=>?_) (λO=>?_)
 ·refine Qc<|x Qi<|Qb<|Qh ⟨[nS,.bool false],oB,(G.D E).D Y,?_⟩;rw[OU ⟨ps[k],Ll H,O⟩];rfl
 refine Qf<|Qs<|QG U U<|Qa<|xe<|⟨k+1,oa,La,H,E.D Y,λi hi ho=>?_⟩;by_cases e:i=k
 ·subst e;exact O
 exact T i hi oa
theorem Qd9 {aa:List Q6}{ts:LI}{k:Nat}(h:k<aa.length)(E:k<ts.length):JX (aa.drop k) (ts.drop k)=(decide (ts[k]∈aa[k].mr) && JX (aa.drop (k+1)) (ts.drop (k+1))):=by
 rw[LE h,LE E,JX]
theorem QgR {L:LN}{ps:List AV}{ms:LN}{ts:LI}(h:VO L w.heap vl ve vs ps ms)(ht:QL L w.heap vt ts)(hl:ts.length=ps.length)(hi:∀p∈ps,Y8 p.a.mr)(hn:ps.length<=12):
  QZ sV 183 [.agg #[vl,ve,vs],vt] w λr w'=>r=.bool (JX (ps.map (·.a)) ts)/\sX w w':=by
 refine Zq func183 ?_;refine Qc<|Zl [vl,ve,vs] λb2 w1 hb hq he=>Qb<|Qe<|Qc<|Qo U he U U<|QF h.al.arr U<|Qa<|xe<|Q8 (α:=Nat) [(4,6),(10,23)] (λz=>[(10,sS z)]) (λz w'=>z<=ps.length/\sX w w'/\JX (ps.map (·.a)) ts=JX ((ps.map (·.a)).drop z) (ts.drop z)) (λz=>ps.length - z) 0 La
  ⟨Ln _,hb,U⟩ ?_
 rintro k g w2 ⟨hk,I,G⟩;refine Zn rfl U (λhf=>?_) (λhf=>?_)
 ·refine Qw<|Qc<|Qb<|Qh ⟨[.bool true],La,?_,I⟩;rw[G,Ls (by simp;omega)];rfl
 have E:k<ps.length:=oa
 have V:k<ts.length:=oa
 have H:=h.al.each ps[k] (Ll E);rw[Qd9 (oA E) V,Mq]at G;refine Qf<|Qe<|Qm<|Qj<|O8 qX (h.al.I I).arr U U E λhr hg=>x (Qr hg U U)<|QM [nS,sS 0,nS,nS] λb6 w3 hh hj J=>x Qi <|
  QI (ZX ps[k]) J ⟨H.al.one,U,H.mr.one,H.ed.one,Z⟩ λY hm J=>xe ?_
 have ho:sX w2 Y:=hh.O hm hj;have O:=I.D ho;refine Qe<|ZA [] (YX 0 8 [6])<|p (QJ U)<|pq (λ_ S=>Ql (J.I S) U U)<|p Qx<|p Qx<|pii U (ht.I O) U U V λhs hp =>
  pq (λ_ S=>Qy (hp.I S) U)<|pk<|xg<|(Kw ((H.mr.I O).I (O5.C _ _)) (hi ps[k] (Ll E)) _).mono ?_
 rintro r5 w5 ⟨rfl,rfl⟩;refine⟨O5.C _ _,?_⟩;refine p (λ_=>ZC U)<|pe ?_;have ha:=O.D (O5.C [] Y);refine QU rfl (λT=>?_) (λT=>?_)
 ·refine Qc<|Qb<|Qh ⟨[.bool false],La,?_,ha⟩;rw[G,show decide (ts[k]∈ps[k].a.mr)=false by simpa using T];rfl
 refine Qf<|Qs<|QG U U<|Qa<|xe<|⟨k+1,oa,La,E,ha,?_⟩;rw[G,show decide (ts[k]∈ps[k].a.mr)=true by simpa using T,OO]
theorem QdR {aa:List Q6}{ts:LI}{k:Nat}{v:Int}(h:k<aa.length)(E:k<ts.length):Y5 v (aa.drop k) (ts.drop k) =
  if v∉aa[k].al then(Y5 v (aa.drop (k+1)) (ts.drop (k+1))).map (ts[k]::·)else match xo aa[k].ed ts[k] v with|none=>none|some u=>(Y5 v (aa.drop (k+1)) (ts.drop (k+1))).map (u::·):=by
 rw[LE h,LE E];show(if v∉aa[k].al then _ else _)=_
 split
 ·rfl
 cases xo aa[k].ed ts[k] v <;> rfl
theorem QiH {L:LN}{ps:List AV}{ms:LN}{ts:LI}(h:VO L w.heap vl ve vs ps ms)(ht:QL L w.heap vt ts)(hl:ts.length=ps.length)(hi:∀p∈ps,Y8 p.a.al)
  (hz:∀p∈ps,p.a.ed.Pairwise λx y=>x.1<y.1\/(x.1=y.1/\x.2.1<y.2.1)) (hn:ps.length<=12) (v:Int):
  QZ sV 184 [.agg #[vl,ve,vs],vt,sS v] w λr w'=>sX w w' /\
   match Y5 v (ps.map (·.a)) ts with|none=>r=.tuple #[nS,.bool false]|some u=>∃v',r=.tuple #[v',.bool true]/\Qq 3 ↑w w' v' u:=by
 refine Zq func184 ?_;refine Qc<|Zl [vl,ve,vs] λb3 w1 ha hL hf=>x Qi<|Qb<|Qj<|Qz<|(Z3 (ht.I ha)).mono ?_;rintro vx w2 ⟨hg,hr⟩;refine Qb ?_;have h0:=ha.size;have hM:=hf.lt;have hh:=ha.D hg;refine Qe<|Qc<|Qo U (hf.I hg) U U<|QF h.al.arr U<|Qa<|xe ?_;have hge:=Qg hr;have h1:VO (ob vx) w2.heap vl ve vs ps ms:=((h.up (L':=ob vx) (λb G=>.inr (ov (hge b G).1))).I hh);have h2:QL (ob vx) w2.heap vt ts:=((ht.up (L':=ob vx) (λb G=>.inr (ov (hge b G).1))).I hh);refine Q8 (α:=Nat×LI) [(6,7),(9,12),(18,49)] (λz=>[(18,sS z.1)])
  (λz w'=>z.1<=ps.length/\z.2.length=z.1/\O5 (ob vx) w2 w'/\Qq 3 ↑w1 w' vx (z.2++ts.drop z.1)/\Y5 v (ps.map (·.a)) ts=(Y5 v ((ps.map (·.a)).drop z.1) (ts.drop z.1)).map (z.2++·)) (λz=>ps.length - z.1) (0,[]) La
  ⟨Ln _,U,O5.Z _ _,hr,od⟩ ?_
 rintro⟨k,pre⟩ g w3 ⟨hk,T,O,S,E⟩;simp only[]at hk T S E;have hj:sX w w3:=hh.then O (λb G=>.inr (ov (hge b G).1));refine Zn rfl U (λh3=>?_) (λh3=>?_)
 ·refine Qw<|Qj<|x Qi<|Qb<|Qh ⟨[vx,.bool true],oB,hj,?_⟩;rw[Ls (by simp;omega),Ls oa]at E;rw[Ls oa]at S;rw[E];simp only[Y5,Oz];exact⟨vx,U,Zz S h0⟩
 have H:k<ps.length:=oa
 have hm:k<ts.length:=oa
 have hs:k<ms.length:=by rw[h.ml];exact H
 have V:=h.al.each ps[k] (Ll H);rw[QdR (oA H) hm,Mq]at E;have hu:=h1.st O;have h4:=h2.st O;refine Qf<|Qe<|Qm<|Qj<|O8 qX hu.al.arr U U H λhN h5=>x (Qr h5 U U)<|QM [nS,sS 0,nS,nS] λhO w4 h6 h7 ho=>x Qi <|
  QI (ZX ps[k]) ho ⟨V.al.one,U,V.mr.one,V.ed.one,Z⟩ λw5 h8 ho=>xe ?_
 have I:sX w3 w5:=h6.O h8 h7;have h9:=hj.D I;refine Qe<|Qc<|Qo U ho U U<|Qa<|Qz<|(Kw (V.al.I h9) (hi ps[k] (Ll H)) v).mono ?_;rintro r6 w6 ⟨rfl,rfl⟩;refine x (ZC U)<|xe ?_;have hv:=Zc hm;refine QU rfl (λhp=>?_) (λhp=>?_)
 ·have hB:v∉ps[k].a.al:=by simpa using hp
  refine Qw<|Qs<|QG U U<|Qa<|xe<|⟨(k+1,pre++[ts[k]]),og,La,H,by simp[T],O.D I,?_,?_⟩
  ·simp only[o6,Ow];rw[<-hv];exact Qk S I
  simp only[];rw[E,OU hB,Option.map_map];congr 1;funext l;simp
 have hC:¬(v∉ps[k].a.al):=by simpa using hp
 rw[OT hC]at E;refine Qf ?_;have hD:=(hf.I hg).J O (λG=>ov (hge b3 G).1);have hw:=hu.I I;obtain⟨hE,hP⟩:=hw.mp k hs H;refine Qe<|ZA [] (YX 0 17 [])<|p (QJ U)<|pq (λ_ J=>Ql ((hD.I I).I J) U U)<|p Qx<|pig U (g:=Qfl) (λ_=>U) hw.sl U U hs λhQ hF =>
  pq (λ_ J=>Qy (hF.I J) U)<|p Qx<|p Qx<|pii U (h4.I I) U U hm λhR hG=>pq (λ_ J=>Qy (hG.I J) U) <|
  p Qx<|p (λ_=>Qv ⟨U,U,Z⟩)<|pq (λ_ J=>Vw (k:=(ts[k],v)) (hE.I J) U U)<|?_
 rw[QaF ps[k].a.ed [] ts[k] v (hz ps[k] (Ll H))];have hq:sX w3 { w6 with drawn:=w6.drawn+1 }:=I.D (O5.C [] w6)
 cases he:xo ps[k].a.ed ts[k] v with
 | none =>
  rw[he]at E;refine p Qx<|p (λ_=>Zi U U)<|p (λ_=>Zi U U)<|p ZG<|p ZG<|pe ?_;refine Qe<|Qj<|x (ZC U)<|xe<|jq U ?_;refine Qc<|x Qi<|Qb<|Qh ⟨[nS,.bool false],oB,hj.D hq,?_⟩;rw[E];rfl
 | some u =>
  rw[he]at E;refine p Qx<|p (λ_=>Zi U U)<|p (λ_=>Zi U U)<|p ZG<|p ZG<|pe ?_;refine Qe<|Qj<|x (ZC U)<|xe<|ZO U<|Qf ?_;have hy:=Qk S hq;have hS:(pre++ts.drop k).length=ts.length:=by simp;omega
  obtain⟨gx,cx,Y⟩:=X9 S oa;have hH:ob vx=[gx]:=by rw[Y];rfl
  refine Qs<|Qa<|Qa<|Qa<|x (Zy Y U oa)<|Qn<|QiQ (u:=sS u) (by rw[Y]at hy;exact hy) U U oa U λw7 hI hJ=>xe ?_;refine Qs<|QG U U<|Qa<|xe ?_;have hK:(pre++ts.drop k).set k u=(pre++[u])++ts.drop (k+1):=by
   rw[hv,List.set_append_right _ _ oa,T,Nat.sub_self,List.set_cons_zero,LB];rfl
  refine⟨(k+1,pre++[u]),og,La,H,by simp[T],(O.D hq).then hI (λb G=>.inl (by rw[hH];exact G)),?_,?_⟩
  ·simp only[];rw[<-hK];unfold Qq;rw[L9,OQ,Y];exact hJ
  simp only[];rw[E,Option.map_map];congr 1;funext l;simp
theorem UP (h:n<256):(UInt8.ofNat n).toNat=n:=by
 simp[Nat.mod_eq_of_lt h]
theorem Qc7 (u:Nat):(32:UInt8)∉Lib.decDigits u:=by
 induction u using Nat.strongRecOn with
 | _ u ih =>
  unfold Lib.decDigits;split
  ·intro h;simp only[oJ]at h;have:=OV UInt8.toNat h;rw[UP oa]at this;have E:(32:UInt8).toNat=32:=rfl;omega
  intro h;rcases Lc.1 h with h|h
  ·exact ih _ oa h
  simp only[oJ]at h;have:=OV UInt8.toNat h;rw[UP oa]at this;have E:(32:UInt8).toNat=32:=rfl;omega
def dval (l:List UInt8):Nat:=l.foldl (λa b=>a*10+(b.toNat - 48)) 0
theorem Qc5 (u:Nat):dval (Lib.decDigits u)=u:=by
 induction u using Nat.strongRecOn with
 | _ u ih =>
  unfold Lib.decDigits;split
  ·simp only[dval,List.foldl_cons,List.foldl_nil];rw[UP oa];omega
  have:=ih (u / 10) oa;unfold dval at *;rw[MD,this];simp only[List.foldl_cons,List.foldl_nil];rw[UP oa];omega
theorem QeY:∀{a b r H:List UInt8},(32:UInt8)∉a->(32:UInt8)∉b->a++32::r=b++32::H->a=b/\r=H
 | [],[],_,_,_,_,h=>oA h
 | [],y::b,_,_,_,E,h=>by simp at h;exact OW h.1 (by intro e;exact E (by simp[e]))
 | x::a,[],_,_,G,_,h=>by simp at h;exact OW h.1 (by intro e;exact G (by simp[e]))
 | x::a,y::b,_,_,G,E,h=>by
  simp only[Oh,List.cons.injEq]at h;have:=QeY (λe=>G (Lj _ e)) (λe=>E (Lj _ e)) h.2;exact⟨by rw[h.1,this.1],this.2⟩
theorem QcL:∀{l l':LI},(∀n∈l,0<=n)->(∀n∈l',0<=n)->J4 l=J4 l'->l=l'
 | [],[],_,_,_=>rfl
 | [],y::b,_,_,h=>by simp[J4]at h
 | x::a,[],_,_,h=>by simp[J4]at h
 | x::a,y::b,G,H,h=>by
  have I:Lib.decDigits x.toNat++32::J4 a=Lib.decDigits y.toNat++32::J4 b:=by simpa[J4]using h
  obtain⟨J,O⟩:=QeY (Qc7 _) (Qc7 _) I;have S:x.toNat=y.toNat:=by rw[<-Qc5 x.toNat,<-Qc5 y.toNat,J]
  have T:=G x Lq;have V:=H y Lq;rw[(QcL (λn E=>G n (Lj _ E)) (λn E=>H n (Lj _ E)) O),show x=y by omega]
def Vj (l:LI):ByteArray:=⟨(J4 l).toArray⟩
theorem Qjj {l l':LI}(E:∀n∈l,0<=n)(G:∀n∈l',0<=n)(h:Vj l=Vj l'):l=l':=by
 refine QcL E G ?_;have:=OV (λb:ByteArray=>b.data.toList) h;simpa[Vj]using this
def q8 (n:Nat)(m:List (ByteArray×O2))(tup:List (LI)):Prop :=
 ∀u:LI,u.length=n->(∀x∈u,0<=x)->xd m (Vj u)=if u∈tup then some (sS (tup.idxOf u:Int))else none
theorem q8.add {m:List (ByteArray×O2)}{tup:List (LI)}(h:q8 n m tup){u:LI}(H:u∉tup)(I:∀x∈u,0<=x):q8 n (xh m (Vj u) (sS (tup.length:Int))) (tup++[u]):=by
 intro v J G;rw[XG];by_cases e:u=v
 ·subst e;rw[OU rfl,OU od,MA,OT H];simp
 rw[OT (λO=>e (Qjj I G O)),h v J G];by_cases E:v∈tup
 ·rw[OU E,OU (by simp[E]),MA,OU E]
 rw[OT E,OT (by simp[E,Ne.symm e])]
structure SyI (N b2 b38 b37:Nat)(ve:O2)(wS:O1)(s:Sy)(m:List (ByteArray×O2))(qs:List TV)(vt vk vd:O2)(w:O1):Prop where
 st:O5 [b2,b38,b37] wS w
 A:QY w.heap b2 59 [ve,sS 0,vk,vd]
 M:Yr JY w.heap b38 m
 t:jL 56 N w vt qs
 tb:∀b∈ob vt,b=b37\/↑wS<=b
 k:Qq 3 ↑wS w vk s.mk'
 e:YP 167 ↑wS w vd s.ed
 q:qs.map (·.2)=s.tup
 el:∀p∈qs,Qq 3 N w p.1 p.2
 sep:∀p∈qs,∀b∈ob p.1,b≠b38/\b∉ob vt/\b∉ob vk/\b∉ob vd
 d1:Dj vt vk
 d2:Dj vt vd
 d3:Dj vk vd
section
variable {b38 b37:Nat}{wS:O1}{s:Sy}{m:List (ByteArray×O2)}{qs:List TV}{vd:O2}{w'':O1}
theorem SyI.I (h:SyI N b2 b38 b37 ve wS s m qs vt vk vd w)(E:sX w w'):SyI N b2 b38 b37 ve wS s m qs vt vk vd w' :=
 ⟨h.st.D E,h.A.I E,h.M.I E,Qk h.t E,h.tb,Qk h.k E,Qk h.e E,h.q,λp G=>Qk (h.el p G) E,h.sep,h.d1,h.d2,h.d3⟩
structure SyN (N b2 b38 b37:Nat)(wS:O1):Prop where
 l2:b2<N
 l38:b38<wS.heap.size
 l37:b37<wS.heap.size
 n37:N<=b37
 n38:b37<b38
 nS:N<=↑wS
theorem SyI.setK (h:SyI N b2 b38 b37 ve wS s m qs vt vk vd w)(n:SyN N b2 b38 b37 wS){J:O2}{l:LI}(I:O5 (ob vk) w w')(S:Qq 3 ↑wS w' J l)
  (O:∀b∈ob J,b∈ob vk\/↑w<=b) (H:O5 [b2] w' w'') (V:QY w''.heap b2 59 [ve,sS 0,J,vd]):SyI N b2 b38 b37 ve wS ⟨s.tup,l,s.ed⟩ m qs vt J vd w'':=by
 have l2:=n.l2;have l38:=n.l38;have n37:=n.n37;have n38:=n.n38;have nS:=n.nS;refine⟨(h.st.then I (λb E=>.inr ((Qg h.k) b E).1)).then H (λb E=>.inl (by simp at E;simp[E])),V,(h.M.J I (QP h.k oa)).J H (by simp;omega),
  Qd (Qd h.t I h.d1) H (λb E=>by have:=(Qg h.t b E).1;simp;omega),h.tb,Qd S H (λb E=>by have:=(Qg S b E).1;simp;omega),
  Qd (Qd h.e I h.d3.symm) H (λb E=>by have:=(Qg h.e b E).1;simp;omega),h.q,
  λp G=>Qd (Qd (h.el p G) I (λb E=>(h.sep p G b E).2.2.1)) H (λb E=>by have:=(Qg (h.el p G) b E).1;simp;omega),
  λp G b E=>⟨(h.sep p G b E).1,(h.sep p G b E).2.1,λY=>?_,(h.sep p G b E).2.2.2⟩,h.d1.grow O (Q7 h.t),h.d2,(h.d3.symm.grow O (Q7 h.e)).symm⟩
 rcases O b Y with T|T
 ·exact(h.sep p G b E).2.2.1 T
 have:=Q7 (h.el p G) b E;omega
theorem SyI.setE (h:SyI N b2 b38 b37 ve wS s m qs vt vk vd w)(n:SyN N b2 b38 b37 wS){J:O2}{l:List Ed}(I:O5 (ob vd) w w')(S:YP 167 ↑wS w' J l)
  (O:∀b∈ob J,b∈ob vd\/↑w<=b) (H:O5 [b2] w' w'') (V:QY w''.heap b2 59 [ve,sS 0,vk,J]):SyI N b2 b38 b37 ve wS ⟨s.tup,s.mk',l⟩ m qs vt vk J w'':=by
 have l2:=n.l2;have l38:=n.l38;have n37:=n.n37;have n38:=n.n38;have nS:=n.nS;refine⟨(h.st.then I (λb E=>.inr ((Qg h.e) b E).1)).then H (λb E=>.inl (by simp at E;simp[E])),V,(h.M.J I (QP h.e oa)).J H (by simp;omega),
  Qd (Qd h.t I h.d2) H (λb E=>by have:=(Qg h.t b E).1;simp;omega),h.tb,Qd (Qd h.k I h.d3) H (λb E=>by have:=(Qg h.k b E).1;simp;omega),
  Qd S H (λb E=>by have:=(Qg S b E).1;simp;omega),h.q,
  λp G=>Qd (Qd (h.el p G) I (λb E=>(h.sep p G b E).2.2.2)) H (λb E=>by have:=(Qg (h.el p G) b E).1;simp;omega),
  λp G b E=>⟨(h.sep p G b E).1,(h.sep p G b E).2.1,(h.sep p G b E).2.2.1,λY=>?_⟩,h.d1,h.d2.grow O (Q7 h.t),h.d3.grow O (Q7 h.k)⟩
 rcases O b Y with T|T
 ·exact(h.sep p G b E).2.2.2 T
 have:=Q7 (h.el p G) b E;omega
theorem SyI.setM (h:SyI N b2 b38 b37 ve wS s m qs vt vk vd w)(n:SyN N b2 b38 b37 wS){H:List (ByteArray×O2)}(G:O5 [b38] w w')(J:Yr JY w'.heap b38 H):SyI N b2 b38 b37 ve wS s H qs vt vk vd w':=by
 have l2:=n.l2;have l38:=n.l38;have n37:=n.n37;have n38:=n.n38;have nS:=n.nS;exact⟨h.st.then G (λb E=>.inl (by simp at E;simp[E])),h.A.J G (by simp;omega),J,Qd h.t G (λb E=>by have:=h.tb b E;simp;omega),h.tb,
  Qd h.k G (λb E=>by have:=(Qg h.k b E).1;simp;omega),Qd h.e G (λb E=>by have:=(Qg h.e b E).1;simp;omega),h.q,
  λp I=>Qd (h.el p I) G (λb E=>by have:=(h.sep p I b E).1;simpa using this),h.sep,h.d1,h.d2,h.d3⟩
theorem SyI.setT (h:SyI N b2 b38 b37 ve wS s m qs vt vk vd w)(n:SyN N b2 b38 b37 wS){J:O2}{u:LI}(hx:Qq 3 ↑wS w vx u)(S:∀b∈ob vx,b∉ob vt/\b∉ob vk/\b∉ob vd)(H:O5 (ob vt) w w')
  (V:jL 56 N w' J (qs++[(vx,u)])) (O:∀b∈ob J,b∈ob vt\/↑w<=b):SyI N b2 b38 b37 ve wS ⟨s.tup++[u],s.mk',s.ed⟩ m (qs++[(vx,u)]) J vk vd w':=by
 have l2:=n.l2;have l38:=n.l38;have n37:=n.n37;have n38:=n.n38;have nS:=n.nS;have he:=h.st.size;have nott:∀c,c<↑w->c∉ob vt->c∉ob J:=λc hc Y ha=>by
  rcases O c ha with I|I
  ·exact Y I
  omega
 refine⟨h.st.then H (λb E=>by have:=h.tb b E;simp;omega),h.A.J H (λE=>ov (h.tb b2 E)),h.M.J H (λE=>ov (h.tb b38 E)),V,
  λb E=>?_,Qd h.k H h.d1.symm,Qd h.e H h.d2.symm,by rw[Lp,h.q];rfl,λp G=>?_,λp G b E=>?_,(h.d1.symm.grow O (Q7 h.k)).symm,(h.d2.symm.grow O (Q7 h.e)).symm,h.d3⟩
 ·rcases O b E with I|I
  ·exact h.tb b I
  exact .inr oa
 ·rcases Lc.1 G with G|G
  ·exact Qd (h.el p G) H (λb E=>(h.sep p G b E).2.1)
  simp only[oJ]at G;subst G;exact Zz (Qd hx H (λb E=>(S b E).1)) nS
 rcases Lc.1 G with G|G
 ·have:=h.sep p G b E;exact⟨this.1,nott b (Q7 (h.el p G) b E) this.2.1,this.2.2⟩
 simp only[oJ]at G;subst G;have I:=(Qg hx b E);have T:=S b E;exact⟨oa,nott b I.2 T.1,T.2⟩
end
theorem QrC (o:Option α):o=none\/∃t,o=some t:=by cases o;exact .inl U;exact .inr ⟨_,U⟩
def zA:O2:=.agg #[nS,sS 0,nS,nS]
def ZE:O2:=nS
def YZ (N:Nat)(H:xC)(aa:List Q6)(va vt:O2)(c:Int):Prop :=
 if qq aa≠0 then c=qq aa/\va=zA/\vt=ZE else match xp aa with
  | none=>c=3/\va=zA/\vt=ZE
  | some z=>c=0/\JI N H va z.1/\QeF N H vt z.2
def Xa (s:Sy)(u:LI):Sy:=if u∈s.tup then s else⟨s.tup++[u],s.mk',s.ed⟩
theorem Qib (s:Sy)(u:LI):(Xa s u).mk'=s.mk':=by unfold Xa;split <;> rfl
theorem Qic (s:Sy)(u:LI):(Xa s u).ed=s.ed:=by unfold Xa;split <;> rfl
theorem Qlz {aa:List Q6}{t u:LI}{s:Sy}{v:Int}(h:Y5 v aa t=some u)(H:u∈s.tup\/s.tup.length≠4096):
  syE aa i t s v=some ⟨(Xa s u).tup,(Xa s u).mk',(Xa s u).ed++[((i:Int),v,((Xa s u).tup.idxOf u:Int))]⟩:=by
 unfold syE Xa;rw[h];simp only[];by_cases E:u∈s.tup
 ·simp only[OU E]
 simp only[OT E];rw[OT (by rcases H with G|G;exact OW G E;exact G),MA,OT E];simp
theorem Qia {aa:List Q6}{t u:LI}{s:Sy}{v:Int}(h:Y5 v aa t=some u)(E:u∉s.tup)(G:s.tup.length=4096):syE aa i t s v=none:=by
 unfold syE;rw[h];simp only[];rw[OT E,OU G]
theorem Qh8 {aa:List Q6}{t:LI}{s:Sy}{v:Int}(h:Y5 v aa t=none):syE aa i t s v=some s:=by
 unfold syE;rw[h]
theorem Qp5 {s:Sy}{qs:List TV}(E:qs.map (·.2)=s.tup)(h:i<qs.length):jV s i=qs[i].2:=by
 unfold jV;rw[<-E];simp[oR,h]
theorem Vt.bd {aa:List Q6}{t:LI}(h:Vt aa t){m:Int}(G:∀a∈aa,a.st<=m):∀x∈t,0<=x/\x<m:=by
 intro x hx;obtain⟨i,hi,rfl⟩:=LP hx;have E:i<aa.length:=by rw[<-h.1];exact hi
 have:=h.2 i hi E;have:=G aa[i] (Ll E);omega
theorem QdA {L:LN}{ps:List AV}{km:Int}(h:KS L w.heap vl ps)(gn:Kb w km)(kf:0<km)(m8:∀p∈ps,p.a.st<=km):
  QZ sV 123 [vl] w λr w'=>sX w w'/\∃va vt c,r=.tuple #[va,vt,sS c]/\YZ ↑w w'.heap (ps.map (·.a)) va vt c:=by
 refine Zq func123 ?_;generalize S:ps.map (·.a)=aa;refine Qc<|QM [nS,sS 0,nS,nS] λb2 w1 hQ hB go=>x Qi<|Qb ?_;have hl2:=go.lt;refine Qe<|Qj<|Qz<|(QgN (h.I hQ)).mono ?_;rintro r2 w2 ⟨rfl,hq⟩;refine Qb ?_;rw[S];refine Qj<|Zx U U<|xe<|QO rfl (λh5=>?_) (λh5=>?_)
 ·refine Qc<|x (Qv Z)<|Qa<|QI [nS,sS 0,nS,nS] (go.I hq) oD λw3 m9 pa=>x Qi<|Qb<|Qh ⟨[zA,ZE,sS (qq aa)],⟨Yk pa,U,U,Z⟩,(hQ.D hq).O m9 hB,zA,ZE,qq aa,U,?_⟩;unfold YZ;rw[OU h5];exact⟨U,U,U⟩
 have hr:qq aa=0:=Lo.1 h5;have hn:ps.length<=12:=by
  unfold qq at hr;split at hr
  ·cases hr
  rename_i h1;rw[<-S]at h1;simp at h1;exact h1
 have hC:∀a∈aa,ZK a:=by
  unfold qq at hr;split at hr
  ·cases hr
  exact(Qdh aa).1 hr
 have hR:∀p∈ps,ZK p.a:=λp G=>hC p.a (by rw[<-S];exact LM G);have pc:∀p∈ps,p.a.al.length<=32:=λp G=>(hR p G).al_le;have pd:∀a∈aa,a.st<=km:=λa ha=>by rw[<-S]at ha;obtain⟨p,G,rfl⟩:=LC.1 ha;exact m8 p G
 have hD:aa.length=ps.length:=by rw[<-S];simp
 refine Qf<|Qj<|Qz<|(Ql4 (L:=[b2]) (((h.up (λb E=>.inr (by simp at E;omega))).I hQ).I hq) hn pc (λb E=>by simp at E;have:=hq.size;omega)).mono ?_;rintro r4 w4 ⟨gp,ve,vs,ms,rfl,kg,hm⟩;rw[S]at hm;have hel:=QbK aa (λa ha=>(hC a ha).al_le);have hevl:(evs aa).length<=1000:=oa
 have hS:=Qq.ints (L:=[]) hm oa od;refine QM [nS,nS,nS] λb6 w5 pf pg hE=>QI [vl,ve,vs] hE ⟨h.arr.one,hS.one,kg.sl.one,Z⟩ λw6 ph hE=>xe ?_;have hU:sX w4 w6:=pf.O ph pg;have hz2:=hq.size;have hz4:=gp.size;have hl6:=hE.lt;refine Qc<|Qo U hE U U<|QQ U<|Qn<|Qu (((go.I hq).I gp).I hU) U U od hS.one λw7 hF pj=>xe ?_;have hz7:=hF.size;have gq:sX w w7:=((((hQ.D hq).D gp).D hU).O hF hB);have kh:VO [b2] w7.heap vl ve vs ps ms:=(kg.I hU).st hF;have ki:Qq 3 ↑w2 w7 ve (evs aa):=Qd (Qk hm hU) hF (λb E=>by have:=(Qg hm b E).1;simp;omega);have kj:=hE.J hF (by simp;omega);refine Qc<|QS kj U U<|Qz<|(Qek kh hn).mono ?_;rintro r8 w8 ⟨hk,hV⟩;have hz8:=hk.size;have gr:=pj.I hk;have hW:(∃p∈ps,p.a.st=0)↔(∃a∈aa,a.st=0):=by
  rw[<-S];constructor
  ·rintro⟨p,G,h0⟩;exact⟨p.a,LM G,h0⟩
  rintro⟨a,ha,h0⟩;obtain⟨p,G,rfl⟩:=LC.1 ha;exact⟨p,G,h0⟩
 by_cases hz:∃p∈ps,p.a.st=0
 ·rw[OU hz]at hV;subst hV;refine Qa<|QW U U<|QW U U<|x Qi<|Qb<|Qe<|Qj<|x (ZC U)<|xe<|jq U ?_;refine Qc<|QS gr U U<|QI [ve,sS 0,nS,nS] gr ⟨hS.one,U,U,U,Z⟩ λw9 kk pm=>x Qi<|Qb<|Qh ⟨[.agg #[ve,sS 0,nS,nS],ZE,sS 0],⟨Yk pm,U,U,Z⟩,(gq.D hk).O kk hB,_,ZE,0,U,?_⟩;unfold YZ;rw[OT h5];unfold xp;rw[OU (hW.1 hz)];refine⟨U,⟨ve,_,_,U,λL' hl=>⟨Qq.ints (Qd (Qk ki hk) kk (λb E=>by have:=(Qg hm b E).1;simp;omega)) (by show(evs aa).length<=_;omega) (λb E=>ov (hl b E)),Zo.nil _ _ _,Zo.nil _ _ _⟩⟩,[],U,λL' hl=>⟨Zo.nil _ _ _,λp G=>by cases G⟩⟩
 rw[OT hz]at hV;obtain⟨vf,rfl,gs⟩:=hV;have kn:=Qq.ints (L:=[]) gs (by simp;omega) od;refine Qa<|QW U U<|QW U U<|x Qi<|Qb<|Qe<|Qj<|x (ZC U)<|xe<|ZO rfl<|Qf<|Qj<|Qn<|Xx (us:=[[vf]]) U U ol od ⟨kn.cells,rfl,Z⟩ λV w10 gt hb37 ko=>Qb ?_;have hl37:=ko.lt;refine Qc<|Qn<|YL JY λhg w11 hX hb38 kq=>?_;have hl38:=kq.lt;refine Qa<|Qz<|(Qbz ((kn.I gt).I hX) (gn.I ((gq.D hk).D (gt.D hX))) (λn hn=>ov (NE hn)) (by simp;omega)).mono ?_;rintro r12 pn ⟨rfl,hY⟩;have hz12:=hY.size;refine Qn<|Jl (k:=Vj (oO ps.length 0)) (kq.I hY) U U λwS gu po=>Qa<|Qb ?_;have hzS:=gu.size;have pp:sX w8 pn:=(gt.D hX).D hY;have h6:sX w8 wS:=pp.O gu oa;have hZ:sX w wS:=(gq.D hk).D h6;have pu:∀b∈[b2,hg,V],b∈[b2]\/↑w8<=b:=λb E=>by
  simp only[oL,oK,or_false]at E;rcases E with rfl|rfl|rfl
  ·exact .inl od
  ·exact .inr oa
  exact .inr oa
 have gv:VO [b2,hg,V] wS.heap vl ve vs ps ms:=((kh.I hk).up pu).I h6;have gw:QY wS.heap b6 329 [vl,ve,vs]:=(kj.I hk).I h6;have pw:Qq 3 ↑w2 wS ve (evs aa):=Qk (Qk ki hk) h6;have hG:SyN ↑w1 b2 hg V wS:=⟨oa,oa,oa,oa,oa,oa⟩;have pz:SyI ↑w1 b2 hg V ve wS (jY aa) (xh [] (Vj (oO ps.length 0)) (sS 0)) [(vf,oO ps.length 0)] (sL V 1 1) ZE ZE wS:=by
  refine⟨O5.Z _ _,gr.I h6,po,?_,λb E=>by simp[ob]at E;exact .inl E,QD _ _ _ _,QD _ _ _ _,by simp[jY,hD],λp G=>?_,λp G b E=>?_,Dj.nil' _,Dj.nil' _,Dj.nil' _⟩
  ·exact(((ko.I hX).I hY).J gu (by simp;omega)).own (n:=1) (sz:=1) U oa oa
  ·simp only[oJ]at G;subst G;exact Zz (Qk gs h6) oa
  simp only[oJ]at G;subst G;have:=(Qg gs) b E;refine⟨oa,?_,by simp[ob,ZE],by simp[ob,ZE]⟩;simp[ob];omega
 have p0:q8 ps.length (xh [] (Vj (oO ps.length 0)) (sS 0)) (jY aa).tup:=by
  have kf:q8 ps.length [] []:=λu _ _=>U;have:=kf.add (u:=oO ps.length 0) od (λx hx=>ov (NE hx));simpa[jY,hD]using this
 have p1:q6 aa (jY aa):=by
  refine⟨λt ht=>?_,by simp[jY]⟩;simp only[jY,oJ]at ht;subst ht;refine⟨od,λi h1 h2=>?_⟩;have h3:=(hC aa[i] (Ll h2)).st0;have h4:aa[i].st≠0:=λe=>hz (hW.2 ⟨aa[i],Ll h2,e⟩);simp only[List.getElem_replicate];omega
 generalize hT:syL aa 4096 0 (jY aa)=T;have p2:∀s,T=some s->xp aa=some (⟨evs aa,s.tup.length,s.mk',s.ed⟩,s.tup):=λs hs=>by
  unfold xp;rw[OT (λe=>hz (hW.2 e)),hT,hs];rfl
 have p3:T=none->xp aa=none:=λhs=>by unfold xp;rw[OT (λe=>hz (hW.2 e)),hT,hs];rfl
 refine Qe<|Qc<|Qb ?_;have gx:b6∉[b2,hg,V]:=by simp;omega
 refine Q8 (α:=Nat×Sy×List (ByteArray×O2)×List TV×O2×O2×O2) [(3,4),(10,10),(12,16),(42,111)] (λz=>[(3,z.2.2.2.2.1),(10,sS z.1)])
  (λz w'=>SyI ↑w1 b2 hg V ve wS z.2.1 z.2.2.1 z.2.2.2.1 z.2.2.2.2.1 z.2.2.2.2.2.1 z.2.2.2.2.2.2 w'/\q6 aa z.2.1/\q8 ps.length z.2.2.1 z.2.1.tup/\z.1<=z.2.1.tup.length/\z.2.1.mk'.length<=z.1/\z.2.1.ed.length<=z.1*1000/\syL aa (4096 - z.1) z.1 z.2.1=T)
  (λz=>4096 - z.1) (0,jY aa,_,_,_,ZE,ZE) oB ⟨pz,p1,p0,Ln _,Ln _,Ln _,hT⟩ ?_
 rintro⟨i,s,m,qs,vt,vk,vd⟩ g ga ⟨I,gb,kr,hi,p4,kt,gy⟩;simp only[]at I gb kr hi p4 kt gy;have hle:=gb.le;have p5:qs.length=s.tup.length:=by rw[<-I.q];simp
 have ku:∀p∈qs,Vt aa p.2:=λp G=>gb.v p.2 (by rw[<-I.q];exact LM G);have kv:∀p∈qs,p.2.length<=12:=λp G=>ov (ku p G).1
 have gz:=QB (L:=[]) I.t oa od;refine Qe<|Qj<|Qa<|QF gz U<|Ya U U<|xe<|ZI rfl (λp6=>?_) (λp6=>?_)
 ·have p7:T=some s:=by rw[<-gy,Qh6 oa]
  refine Qw<|Qj<|QF gz U<|QQ U<|Qn<|Qu I.A U U od rfl λw15 p8 kw=>xe ?_;refine Qc<|QS kw U U<|Qa<|QI [ve,sS qs.length,vk,vd] kw ⟨hS.one,U,(Qq.ints (L:=[]) I.k oa od).one,(YP.eds (L:=[]) I.e oa od).one,Z⟩ λg0 p9 qc=>x Qi<|Qb ?_;have h7:O5 [b2] ga g0:=p8.Q p9;have qf:sX w g0:=(hZ.then I.st (λb E=>.inr (by simp at E;omega))).O h7 hB;refine Qh ⟨[.agg #[ve,sS qs.length,vk,vd],vt,sS 0],⟨Yk qc,U,U,Z⟩,qf,_,vt,0,U,?_⟩;unfold YZ;rw[OT h5,p2 s p7];have e1:(qs.length:Int)=s.tup.length:=by rw[p5]
  have k0:Qq 3 ↑w2 g0 ve (evs aa):=Qd (Qd pw I.st (λb E=>by have:=(Qg hm b E).1;have:=(Q7 hm) b E;simp;omega)) h7 (λb E=>by have:=(Qg hm b E).1;simp;omega);have k1:=Qd I.k h7 (λb E=>by have:=(Qg I.k b E).1;simp;omega);have k2:=Qd I.e h7 (λb E=>by have:=(Qg I.e b E).1;simp;omega);have k3:=Qd I.t h7 (λb E=>by have:=(Qg I.t b E).1;simp;omega);refine⟨U,⟨ve,vk,vd,by rw[e1],λL' hl=>⟨Qq.ints k0 (by show(evs aa).length<=_;omega) (λb E=>ov (hl b E)),Qq.ints k1 (by show s.mk'.length<=_;omega) (λb E=>ov (hl b E)),YP.eds k2 (by show s.ed.length<=_;omega) (λb E=>ov (hl b E))⟩⟩,qs,I.q,λL' hl=>⟨?_,λp G=>?_⟩⟩
  ·exact QB k3 oa (λb E hbL=>oy (Qg I.t b E).1 (hl b hbL))
  exact Qq.ints (Qd (I.el p G) h7 (λb E=>by have:=(Qg (I.el p G) b E).1;simp;omega)) (ov (kv p G)) (λb E=>ov (hl b E))
 have ql:i<s.tup.length:=oa
 have Y:i<qs.length:=oa
 have kx:=Qp5 I.q Y;have h8:=ku (qs[i]'Y) (Ll Y);obtain⟨t,g2⟩:∃t,(qs[i]'Y).2=t:=⟨_,U⟩;rw[g2]at kx h8;refine Qf ?_;have qm:(yj aa i t (evs aa) (Ym aa i t s)).bind (syL aa (4096 - (i+1)) (i+1))=T:=by
  rw[<-gy];obtain⟨f,hf⟩:∃f,4096 - i=f+1:=⟨4096 - i - 1,oa⟩;rw[hf,syL,OU ql,kx,show 4096 - (i+1)=f by omega]
 have qn:=gv.st I.st;have qo:VO [] ga.heap vl ve vs ps ms:=qn.up (λ_ E=>by cases E);have qr:=gw.J I.st gx;have q0:QL [] ga.heap (qs[i]'Y).1 t:=by rw[<-g2];exact Qq.ints (I.el (qs[i]'Y) (Ll Y)) (ov (kv (qs[i]'Y) (Ll Y))) od
 refine Qe<|Qm<|QX (α:=O2) [(48,59)] (λz=>[]) (λz w'=>SyI ↑w1 b2 hg V ve wS (Ym aa i t s) m qs vt z vd w') om ?_ ?_
 ·refine Qe<|ZA [] (YX 0 6 [5])<|pq (λ_ hc=>Zr (qr.I hc) U U)<|p Qx<|p Qx<|pig U Up gz U U Y λa51 q1 =>
   pq (λ_ hc=>Qy (q1.I hc) U)<|pk<|xg<|(QgR (qo.I (O5.C _ _)) (q0.I (O5.C _ _)) (by rw[h8.1,hD]) (λp G=>(hR p G).mri) hn).mono ?_
  rintro r17 w17 ⟨rfl,q2⟩;have kz:=(O5.C [] ga).D q2;refine⟨kz,?_⟩;refine pe ?_;have g5:=I.I kz;refine QU U (λhH=>?_) (λhH=>?_)
  rotate_left
  ·refine Qf<|⟨vk,Z,?_⟩;rw[S]at hH;unfold Ym;rw[OT (by rw[hH];simp)];exact g5
  refine Qs<|Qo U g5.A U U<|Qa<|Qn<|Za [[sS i]] λb57 w18 q3 hb57 q4=>?_;have hJ:=g5.I q3;refine Qn<|Q2 (news:=[sS i]) (L:=[]) hJ.k U U U (q4.at od) oq oa hJ.st.size λk4 q5 j1 k5 j2=>?_;have k6:Qq 3 ↑wS q5 k4 (s.mk'++[(i:Int)]):=Qq.snoc j1;refine QQ U<|Qn<|Qu (hJ.A.J k5 (QP hJ.k oa)) U U od (Qq.ints (L:=[]) k6 (by simp;omega) od).one λw20 j3 za=>xe ?_;refine⟨k4,Z,?_⟩;rw[S]at hH;unfold Ym;rw[OU hH];exact hJ.setK hG k5 k6 j2 j3 za
 rintro gc g3 w21 k7;have zb:q6 aa (Ym aa i t s):=jW gb;have zv:(Ym aa i t s).tup=s.tup:=by unfold Ym;split <;> rfl
 have z1:(Ym aa i t s).ed=s.ed:=by unfold Ym;split <;> rfl
 have z2:(Ym aa i t s).mk'.length<=i+1:=by
  unfold Ym;split
  ·simp only[oN,oP];omega
  omega
 have k8:QL [b2,hg,V] wS.heap ve (evs aa):=by have:=gv.ev;rw[S]at this;exact this
 refine Qc<|Qo U (gw.J k7.st gx) U U<|QF k8 U<|Qa<|xe<|Q8 (α:=Nat×Sy×List (ByteArray×O2)×List TV×O2×O2) [(3,4),(12,16),(63,111)] (λz=>[(3,z.2.2.2.2.1),(63,sS z.1)])
  (λz w'=>SyI ↑w1 b2 hg V ve wS z.2.1 z.2.2.1 z.2.2.2.1 z.2.2.2.2.1 gc z.2.2.2.2.2 w'/\q6 aa z.2.1/\q8 ps.length z.2.2.1 z.2.1.tup/\z.1<=(evs aa).length/\z.2.1.mk'=(Ym aa i t s).mk'/\z.2.1.ed.length<=i*1000+z.1 /\
   (∃h:i<z.2.2.2.1.length,(z.2.2.2.1[i]'h).2=t)/\(yj aa i t ((evs aa).drop z.1) z.2.1).bind (syL aa (4096 - (i+1)) (i+1))=T)
  (λz=>(evs aa).length - z.1) (0,Ym aa i t s,m,qs,vt,vd) oB
  ⟨k7,zb,by rw[zv];exact kr,Ln _,U,by rw[z1];simpa using kt,⟨Y,g2⟩,qm⟩ ?_
 rintro⟨j,H,m4,hh,gg,gh⟩ g4 hK ⟨O,hL,hv,hj,gi,k9,⟨ho,h9⟩,he⟩;simp only[]at O hL hv hj gi k9 he ho h9;have ma:hh.length=H.tup.length:=by rw[<-O.q];simp
 have hle4:=hL.le;refine Zn rfl U (λz3=>?_) (λz3=>?_)
 ·rw[Ls oa,yj]at he;refine Qw<|Qs<|Qa<|QG U U<|Qb<|⟨(i+1,H,m4,hh,gg,gc,gh),og,oB,O,hL,hv,og,by simp only[];rw[gi];exact z2,og,he⟩
 have gj:j<(evs aa).length:=oa
 rw[Zc gj,yj]at he;obtain⟨v,mf⟩:∃v,(evs aa)[j]=v:=⟨_,U⟩;rw[mf]at he;refine Qf<|Qe<|Qm<|Qc<|xii (k8.st O.st) U U gj λa65 mg=>?_;rw[mf]at mg;refine x (Qy mg U)<|Qb ?_;have z4:=gw.J O.st gx;have z5:=QB (L:=[]) O.t oa od;have htI4:QL [] hK.heap (hh[i]'ho).1 t:=by rw[<-h9];exact Qq.ints (O.el (hh[i]'ho) (Ll ho)) (by rw[h9,h8.1];omega) od
 refine Qe<|ZA [] (YX 0 12 [6])<|pq (λ_ hc=>Zr (z4.I hc) U U)<|p Qx<|p Qx<|pig U Up z5 U U ho λa71 h71 =>
  pq (λ_ hc=>Qy (h71.I hc) U)<|p Qx<|pk<|xg<|(QiH (((gv.st O.st).up (L':=[]) (λ_ E=>by cases E)).I (O5.C _ _)) (htI4.I (O5.C _ _)) (by rw[h8.1,hD]) (λp G=>(hR p G).ali) (λp G=>(hR p G).edi) hn _).mono ?_
 rintro r23 w23 ⟨hs23,hM⟩;rw[S]at hM;have mh:=(O5.C [] hK).D hs23;refine⟨mh,?_⟩;have hN:=O.I mh;have hz22:=O.st.size;rcases QrC (Y5 v aa t)with hw|⟨u,hw⟩
 ·rw[hw]at hM;subst hM;rw[Qh8 hw]at he;refine p Qx<|p (λ_=>Zi U U)<|p (λ_=>Zi U U)<|p ZG<|p ZG<|pe ?_;refine Qe<|Qj<|x (ZC U)<|xe<|jq U ?_;refine Qw<|Qs<|QG U U<|Qa<|xe ?_;exact⟨(j+1,H,m4,hh,gg,gh),og,oB,hN,hL,hv,gj,gi,og,⟨ho,h9⟩,he⟩
 rw[hw]at hM;obtain⟨vx,rfl,g8⟩:=hM;have mj:=Kd hC h8 hw;have mo:u.length=ps.length:=by rw[mj.1,hD]
 have g9:=mj.bd pd;have ka:∀x∈u,0<=x:=λx hx=>(g9 x hx).1;refine p Qx<|p (λ_=>Zi U U)<|p (λ_=>Zi U U)<|p ZG<|p ZG<|pe ?_;refine Qe<|Qj<|x (ZC U)<|xe<|ZO U<|Qf ?_;have gk:=Qq.ints (L:=[]) g8 oa od;have mq:=Qg g8;refine QX (α:=Unit) [(15,16),(79,85)] (λz=>[(15,sS (if u∈H.tup then(H.tup.idxOf u:Int)else 0)),(16,.bool (decide (u∈H.tup)))]) (λz w'=>sX w23 w') om ?_ ?_
 ·refine Qs<|Qa<|Qa<|Qz<|(Qbz gk (gn.I (hZ.then hN.st (λb E=>.inr (by simp at E;omega)))) g9 oa).mono ?_;rintro r24 w24 ⟨rfl,gl⟩;by_cases J:u∈H.tup
  ·refine x (Qad (k:=Vj u) ((hN.I gl).M) U U (by rw[hv u mo ka,OU J]))<|Qa<|QW rfl rfl<|QW rfl rfl<|x Qi<|Qb<|⟨(),⟨OV sS (OU J).symm,OV Value.bool (OX J).symm,Z⟩,gl⟩
  refine x (QgI (k:=Vj u) ((hN.I gl).M) U U (by rw[hv u mo ka,OT J]))<|Qa<|QW rfl rfl<|QW rfl rfl<|x Qi<|Qb<|⟨(),⟨OV sS (OT J).symm,OV Value.bool (OZ J).symm,Z⟩,gl⟩
 rintro _ g6 w25 kb;have hA:=hN.I kb;have hxA25:=gk.I kb;have hadd:∀b∈ob vx,b∉ob gg/\b∉ob gc/\b∉ob gh:=λb E=>by
  have h1:=(mq b E).1;have h1':↑hK<=b:=h1;exact⟨λhO=>ov (Q7 O.t b hO),λhO=>ov (Q7 O.k b hO),λhO=>ov (Q7 O.e b hO)⟩
 refine QX (α:=List (ByteArray×O2)×List TV×O2) [(3,4),(15,15),(86,101)] (λz=>[(3,z.2.2),(15,sS ((Xa H u).tup.idxOf u:Int))])
  (λz w'=>SyI ↑w1 b2 hg V ve wS (Xa H u) z.1 z.2.1 z.2.2 gc gh w'/\(u∈H.tup\/H.tup.length≠4096)/\q8 ps.length z.1 (Xa H u).tup/\∃h:i<z.2.1.length,(z.2.1[i]'h).2=t) om ?_ ?_
 ·refine Qj<|x (ZC U)<|xe<|QU U (λkc=>?_) (λkc=>?_)
  rotate_left
  ·have J:u∈H.tup:=by simpa using kc
   refine Qf ?_;have e1:Xa H u=H:=by unfold Xa;rw[OU J]
   have e2:(if u∈H.tup then(H.tup.idxOf u:Int)else 0)=((Xa H u).tup.idxOf u:Int):=by rw[e1,OU J]
   refine⟨(m4,hh,gg),⟨U,OV sS e2,Z⟩,?_,.inl J,?_,ho,h9⟩
   ·rw[e1];exact hA
   rw[e1];exact hv
  have J:u∉H.tup:=by simpa using kc
  have mt:=QB (L:=[]) hA.t oa od;refine Qe<|Qj<|QF mt U<|x (QT U U)<|xe<|QO U (λh90=>?_) (λh90=>?_)
  ·refine Qc<|x (Qv Z)<|QI [nS,sS 0,nS,nS] hA.A oD λw26 gm hB26=>x Qi<|Qb<|Qh ⟨[zA,ZE,sS 3],⟨Yk hB26,U,U,Z⟩,(hZ.then hA.st (λb E=>.inr (by simp at E;omega))).O gm hB,zA,ZE,3,U,?_⟩;unfold YZ;rw[Qia hw J oa]at he;rw[OT h5,p3 he.symm];exact⟨rfl,U,U⟩
  have hl4:H.tup.length≠4096:=oa
  refine Qf<|Qj<|QF mt U<|Qb<|Qj<|Qa<|Qz<|(Qbz hxA25 (gn.I (hZ.then hA.st (λb E=>.inr (by simp at E;omega)))) g9 oa).mono ?_;rintro r26 w26 ⟨rfl,gm⟩;have mu:=hA.I gm;refine Qa<|Qn<|XW (k:=Vj u) mu.M U U λw27 mv hm27=>xe ?_;have hx27:=Qd (Qk (Qk g8 kb) gm) mv (λb E=>by have:=(mq b E).1;have h1':↑hK<=b:=this;simp;omega);refine Qs<|Qa<|Qa<|Qn<|Xx (us:=[[vx]]) U U ol od ⟨gk.cells,rfl,Z⟩ λb100 w28 mw hb100 hB100=>?_;have ke:=(mu.setM hG mv hm27).I mw;refine Qn<|Q2 (news:=[vx]) (L:=[]) ke.t U U U (hB100.at od) (λy hy=>by simp only[oJ]at hy;subst hy;exact gk.one) oa (oy ke.st.size hG.nS) λmy w29 ho29 hs29 hn29=>Qb ?_;have hk29:jL 56 ↑w1 w29 my (hh++[(vx,u)]):=jL.snoc ho29;have hIA:=ke.setT hG (u:=u) (Zz (Qk hx27 mw) (by show wS.heap.size<=↑hK;omega)) hadd hs29 hk29 hn29;have e1:Xa H u=⟨H.tup++[u],H.mk',H.ed⟩:=by unfold Xa;rw[OT J]
  have e2:(hh.length:Int)=((Xa H u).tup.idxOf u:Int):=by
   rw[e1];simp only[];rw[MA,OT J,<-ma];simp
  refine⟨(xh m4 (Vj u) (sS (hh.length:Int)),hh++[(vx,u)],my),⟨U,OV sS e2,Z⟩,?_,.inr hl4,?_,by simp;omega,?_⟩
  ·rw[e1];exact hIA
  ·rw[e1];simp only[];rw[ma];exact hv.add J ka
  simp only[];rw[MH ho];exact h9
 rintro⟨m5,qs5,vt5⟩ g7 w30 ⟨mz,hlim,hkn5,hlt5,ht5⟩;have hed5:(Xa H u).ed.length<=i*1000+j:=by rw[Qic];exact k9
 have m2:=Qlz (aa:=aa) (i:=i) (s:=H) hw hlim;rw[m2]at he;refine Qs<|Qo U mz.A U U<|Qa<|Qa<|Qa<|x (Qv ⟨U,U,U,Z⟩)<|Qn<|Za [QA ((i:Int),v,((Xa H u).tup.idxOf u:Int))] λb108 w31 hs31 hb108 hB108=>?_;have hP:=mz.I hs31;refine Qn<|Q2 (news:=QA ((i:Int),v,((Xa H u).tup.idxOf u:Int))) (L:=[]) hP.e U U U (hB108.at od) (λy hy=>by simp only[QA,oL,oK,or_false]at hy;rcases hy with rfl|rfl|rfl <;> rfl) oa hP.st.size λm3 w32 ho32 m6 hn32=>?_
 have m7:YP 167 ↑wS w32 m3 ((Xa H u).ed++[((i:Int),v,((Xa H u).tup.idxOf u:Int))]):=YP.snoc ho32;refine QQ U<|Qn<|Qu (hP.A.J m6 (QP hP.e oa)) U U od (YP.eds (L:=[]) m7 (by simp;omega) od).one λw33 hs33 hB33=>xe ?_;refine Qs<|QG U U<|Qa<|xe<|⟨(j+1,_,m5,qs5,vt5,m3),og,oB,(hP.setE hG m6 m7 hn32 hs33 hB33),(Qh9 hC hL h8 m2),hkn5,gj,?_,?_,⟨hlt5,ht5⟩,he⟩
 ·simp only[];rw[Qib];exact gi
 simp only[oN,oP];omega
section
variable {f:Fr}{pS:String}{κ:Type}[DecidableEq κ]
end
theorem QeW {aa:List Q6}{i:Nat}{t:LI}(G:∀a∈aa,ZK a)(H:Vt aa t):∀(vs:LI) (s E:Sy),q6 aa s->yj aa i t vs s=some E->q6 aa E
 | [],s,E,h,e=>by cases e;exact h
 | v::vs,s,E,h,e=>by
  rw[yj]at e;obtain⟨I,J,O⟩:=MW.1 e;exact QeW G H vs I E (Qh9 G h H J) O
theorem Qh5 {aa:List Q6}(G:∀a∈aa,ZK a):∀(f i:Nat) (s E:Sy),q6 aa s->syL aa f i s=some E->q6 aa E
 | 0,i,s,E,h,e=>by cases e;exact h
 | f+1,i,s,E,h,e=>by
  rw[syL]at e;split at e
  ·rename_i hi;obtain⟨H,I,J⟩:=MW.1 e;have O:Vt aa (jV s i):=h.v _ (by unfold jV;simp[oR,hi]);exact Qh5 G f _ H E (QeW G O _ _ _ (jW h) I) J
  cases e;exact h
theorem Qn9 {aa:List Q6}(H:∀a∈aa,ZK a)(I:¬∃a∈aa,a.st=0):q6 aa (jY aa):=by
 refine⟨λt E=>?_,by simp[jY]⟩;simp only[jY,oJ]at E;subst E;refine⟨od,λi J G=>?_⟩;have O:=(H aa[i] (Ll G)).st0;have S:aa[i].st≠0:=λe=>I ⟨aa[i],Ll G,e⟩;simp only[List.getElem_replicate];omega
theorem zM {aa:List Q6}(E:∀a∈aa,ZK a){z:Q6×List (LI)}(h:xp aa=some z):(∀t∈z.2,Vt aa t)/\z.2.length<=4096:=by
 unfold xp at h;split at h
 ·cases h;simp
 rename_i G;obtain⟨s,H,rfl⟩:=Mr.1 h;have:=Qh5 E _ _ _ _ (Qn9 E G) H;exact⟨this.v,this.le⟩
def opC (p s:Q6):Int:=if Jz p≠0 then Jz p else if Jz s≠0 then Jz s else if mrg (λp q=>p && !q) s.al p.al=[]then 0 else 9
def opE (p s:Q6):Int:=if opC p s≠0 then opC p s else match xp [p,s]with|none=>3|some _=>0
def opQ (p s:Q6):List (LI):=match xp [p,s]with|none=>[]|some z=>z.2
def Qqn (l:LI):Int:=(l.drop 1).foldl max (O6 l 0)
theorem KT {v:O2}{a:Q6}(h:JI N w.heap v a)(G:b<N)(H:O5 [b] w w'):JI N w'.heap v a:=by
 obtain⟨va,vm,ve,I,J⟩:=h;refine⟨va,vm,ve,I,λL O=>?_⟩;exact((J (b::L) (λc E=>by rcases Li.1 E with rfl|E;exact G;exact O c E)).st (H.mono od)).up (λc E=>.inl (Lj _ E))
theorem QkV {v:O2}{l:List (LI)}(h:QeF N w.heap v l)(G:b<N)(H:O5 [b] w w'):QeF N w'.heap v l:=by
 obtain⟨ps,I,J⟩:=h;refine⟨ps,I,λL O=>?_⟩;exact((J (b::L) (λc E=>by rcases Li.1 E with rfl|E;exact G;exact O c E)).st (H.mono od)).up (λc E=>.inl (Lj _ E))
theorem J3 {v:O2}{a:Q6}(h:JI N H v a):∃us,v=sT us/\us.length=4/\Zb us:=by
 obtain⟨va,vm,ve,E,G⟩:=h;have:=G [] od;exact⟨[va,sS a.st,vm,ve],E,U,this.al.one,U,this.mr.one,this.ed.one,Z⟩
theorem QbX {L:LN}{a:Q6}(h:ZM L w.heap va vm ve a):
  QZ sV 199 [.agg #[va,sS a.st,vm,ve]] w λr w'=>sX w w'/\∃v,r=.tuple #[v,sS (Jz a)]/\(Jz a≠0->v=zA)/\(Jz a=0->JI ↑w w'.heap v (Yj a)):=by
 refine Zq func199 ?_;refine Qc<|Zl [va,sS a.st,vm,ve] λb1 w1 T hj V=>QM [nS,sS 0,nS,nS] λb2 w2 G hk H=>Qb ?_;have I:=T.D G;refine Qe<|Qc<|QS (V.I G) U U<|Qz<|(Jq (h.I I)).mono ?_;rintro r3 w3 ⟨rfl,E⟩;refine Qb ?_;have hl:=T.size;refine Qj<|Zx U U<|xe<|QO rfl (λJ=>?_) (λJ=>?_)
 ·refine Qc<|x (Qv Z)<|Qa<|QI [nS,sS 0,nS,nS] (H.I E) oD λw4 hf hg=>Qb<|Qh ⟨[zA,sS (Jz a)],⟨Yk hg,U,Z⟩,(I.D E).O hf oa,zA,U,λ_=>U,λe=>OW e J⟩
 have O:Jz a=0:=Lo.1 J;have hm:=H.lt;have S:=I.D E;refine Qf<|Qc<|QS ((V.I G).I E) U U<|Qz<|(JH (h.I S) ((Z5 a).1 O)).mono ?_;rintro v w5 ⟨Y,hF⟩;obtain⟨us,ha,hb,hh⟩:=J3 hF;have hn:=E.size;refine Qn<|Zv (us:=us) ((H.I E).I Y) U ha hb U hh λw6 he hi =>
  Qb<|Qh ⟨[sT us,sS 0],⟨⟨_,U,Yc hb (hi.at (L:=[]) od).cells⟩,rfl,Z⟩,(S.D Y).O he oa,v,by rw[O,ha];rfl,λe=>OW O e,λ_=>?_⟩
 exact(KT hF oa he).mono S.size
def gget:List ((Int×Int)×Int)->Int×Int->Option Int
 | [],_=>none
 | (k',v)::m,k=>if k'=k then some v else gget m k
def gput:List ((Int×Int)×Int)->Int×Int->Int->List ((Int×Int)×Int)
 | [],k,v=>[(k,v)]
 | (k',v')::m,k,v=>if k'=k then(k',v)::m else(k',v')::gput m k v
def Qrx (s:Q6)(cls:LI)(x:Nat)(m:List ((Int×Int)×Int))(v:Int):List ((Int×Int)×Int):=gput m (O6 cls x,v) (O6 cls (to0 s x v).toNat)
def Qru (s:Q6)(l:List UM)(cls:LI)(z:LI×List ((Int×Int)×Int))(x:Nat):LI×List ((Int×Int)×Int):=
 if O6 cls x<0 then z else(if((lget l x).mk' && (lget l x).ps)=true then Qn5 z.1 (O6 cls x)else z.1,(lget l x).en.foldl (Qrx s cls x) z.2)
def Qqa (s:Q6)(l:List UM)(cls:LI):LI×List ((Int×Int)×Int):=(oS 0 cls.length).foldl (Qru s l cls) ([],[])
def Qrw (m:List ((Int×Int)×Int))(c:Nat)(v:Int):Option Ed:=(gget m ((c:Int),v)).map λt=>((c:Int),v,t)
def Qrv (m:List ((Int×Int)×Int))(al:LI)(n:Nat):List Ed:=(oS 0 n).flatMap λc=>al.filterMap (Qrw m c)
def Qry (s:Q6)(l:List UM)(cls:LI):Q6:=⟨s.al,Qqn cls+1,(Qqa s l cls).1,Qrv (Qqa s l cls).2 s.al (Qqn cls+1).toNat⟩
def red (p s:Q6):Q6:=Qry s (ctls p s (opQ p s)) (QqS p s (opQ p s))
def xK (p s:Q6):Int:=if opE p s≠0 then opE p s else if opQ p s=[]then 0 else Jz (red p s)
theorem KL {l:LI}(h:i<l.length):O6 l i∈l:=by rw[<-ZL h];exact Ll h
theorem Zh (a:α){Q:Prop}(h:∀b,a=b->Q):Q:=h a U
theorem exN {a:Int}(E:0<=a){Q:Prop}(h:∀u:Nat,a=u->Q):Q:=h a.toNat (Int.toNat_of_nonneg E).symm
theorem Qa2 {a:Q6}{J n1 G I:Nat}(S:QY H b1 3 (a.al.map (.int .i64)))(T:QY H b2 3 (a.mr.map (.int .i64)))(V:QY H J 167 (a.ed.flatMap QA))(g1:N<=b1)(g2:N<=b2)(g3:N<=J)
  (Y:a.al.length=n1) (l2:a.mr.length=G) (l3:a.ed.length=I) (m1:n1<=1000) (m2:G<=1000) (m3:I<=1000):
  JI N H (.agg #[sL b1 n1 n1,sS a.st,sL b2 G G,sL J I I]) a:=by
 subst Y l2 l3;refine⟨_,_,_,U,λL O=>⟨?_,?_,?_⟩⟩
 ·exact S.arr (λE=>ov (O _ E)) od oa (Lv _)
 ·exact T.arr (λE=>ov (O _ E)) od oa (Lv _)
 exact V.arr (λE=>ov (O _ E)) (by rw[Xe _ 3 Kj]) oa (Lv _)
end Go.Lg
namespace Go.Lg
abbrev xz:=Fr->xA
end Go.Lg
