/- Merged out of 43 texts. -/
import Derived.Orders
import Derived.Below
import Derived.WalkKit
import Derived.Laws.AppendOwn
import Derived.Laws.Rows
import Derived.Laws.Tables
import Derived.Great.BuildSlice
import Derived.Deep.OwnRows
import Derived.MapKept
import Derived.Test.YtnlnkchlcpfehaaGreatDoorProg
import Derived.Shelf.Strings.Builder1
import Derived.Shelf.Small.Bits
import Derived.Shelf.Strings.BuilderF
import Derived.Shelf.Strings.BuilderK
import Derived.Shelf.Strconv.Itoa0
import Derived.Shelf.Strconv.Itoa1
import Derived.Shelf.LaysM
import Derived.Shelf.Strconv.Itoa2
import Derived.Shelf.Strconv.Itoa3
import Derived.Shelf.Strings.BuilderCap
import Derived.Lib.Builder
import Derived.Laws.Externs
set_option maxHeartbeats 40000000
set_option maxRecDepth 100000
set_option linter.all false
abbrev Eq.D:=@Eq.trans
abbrev Iff.D:=@Iff.trans
abbrev List.Perm.D:=@List.Perm.trans
namespace Go
abbrev sL (b n c:Nat):Value:=.slice (some ⟨b,0,none⟩) n c
abbrev sP (b:Nat):Value:=.pointer (some ⟨b,0,none⟩)
instance:CoeOut World Nat:=⟨λw=>w.heap.size⟩
instance:CoeOut World (Array Obj):=⟨λw=>w.heap⟩
abbrev sS (n:Int):Value:=.int .i64 n
abbrev sT (l:List Value):Value:=.agg l.toArray
abbrev xq:=Option (Nat×Bool)
abbrev xt:=List (Nat×Bool)
abbrev xu:=List (Nat×Nat)
abbrev xw:=List (Int×Int)
abbrev xz:=World→Prop
abbrev xA:=Array Obj
abbrev xC:=Array Edge
abbrev xD:=List Oper
abbrev xE:=Option Nat
theorem ov{p q:Prop}(a:q)(h:q→p:=by intro _;omega):p:=h a
theorem oy{p q r:Prop}(a:q)(b:r)(h:q→r→p:=by intro _ _;omega):p:=h a b
theorem oz{p q r s:Prop}(a:q)(b:r)(c:s)(h:q→r→s→p:=by intro _ _ _;omega):p:=h a b c
theorem oA{p q:Prop}(a:q)(h:q→p:=by intro h;simpa using h):p:=h a
theorem oa{p:Prop}(h:p:=by omega):p:=h
theorem od{p:Prop}(h:p:=by simp):p:=h
theorem oe{p:Prop}(h:p:=by kernel_rfl):p:=h
theorem og{p:Prop}(h:p:=by simp only[];omega):p:=h
theorem oh{p:Prop}(h:p:=by simp only[List.mem_singleton];omega):p:=h
theorem ol{p:Prop}(h:p:=by decide):p:=h
theorem om{p:Prop}(h:p:=by rfl):p:=h
theorem oq{p:Prop}(h:p:=by simp[Value.oneCell']):p:=h
theorem ot{p:Prop}(h:p:=by simp only[List.mem_cons,List.not_mem_nil,or_false];omega):p:=h
theorem ou{p:Prop}(h:p:=by simp[ow]):p:=h
abbrev oE(j:Nat):Nat×Bool:=(j,true)
abbrev oF(j:Nat):Nat×Bool:=(j,false)
abbrev OT:=@if_neg
abbrev OU:=@if_pos
abbrev OV:=@congrArg
abbrev OW:=@absurd
abbrev OX:=@decide_eq_true
abbrev OY:=@of_decide_eq_true
abbrev OZ:=@decide_eq_false
abbrev O0:=@of_decide_eq_false
end Go
open Go
open Go.Value renaming int->oG
open Go.IntKind renaming i64->oH
open _root_.List renaming mem_singleton->oJ,not_mem_nil->oK,mem_cons->oL,length_append->oN,replicate->oO,length_singleton->oP,length->oQ,getD->oR,range'->oS,all_cons->oT,range->oV,mem_append->oW,length_cons->oX,map_cons->oY,getElem?_toArray->o0,append_assoc->o6,length_drop->Oa,length_take->Ob,length_map->Oc,size_toArray->Od,flatMap_cons->Of,getElem?_eq_getElem->Og,cons_append->Oh,all_eq_true->Ok,nil_append->Om,forall_mem_cons->Ot,singleton_append->Ow,append_nil->Oy,range'_succ->OC,take_append->OK,map_set->OQ
open _root_.Bool renaming and_eq_true->oM,not_eq_true'->Oe,or_eq_false_iff->Oi,or_eq_true->OG,true_and->OO
open _root_.Array renaming replicate->oU,getElem?_eq_getElem->Ol
open _root_.Nat renaming zero_add->oZ,add_mul->Oq,add_zero->OD,sub_zero->OJ,add_assoc->ON,zero_mul->OP,beq->OS
open _root_.Int renaming toNat_natCast->Ou
open _root_.Option renaming map_some->Oz
open Go renaming World->O1,Value->O2,Operand->O3,Program->O4
open Go.Proofs Go.Proofs.Tryz
open Go.Proofs.Tryz renaming prog->sV
variable {w w':O1}{n t sz i b T j E g N id ty cap b1 B kt lo hi b2 et M gp:Nat}{H:xA}{α β:Type}{y G:O3}{z va ve vm vt v' vl vs vb vx vk:O2}{P:O4}{fn:Func}{o:Oper}{d:xE}{af:xC}{gd:xq}{k':IntKind}{at_:Array Nat}{rest:xt}{ops:xD}
namespace Go
abbrev nS:O2:=.slice none 0 0
abbrev LI:=List Int
abbrev LN:=List Nat
abbrev LV:=List O2
theorem U.{u}{α:Sort u}{a:α}:a=a:=rfl
theorem Z:True:=trivial
theorem La.{u}{α:Sort u}{a:α}:a=a/\True:=⟨rfl,trivial⟩
abbrev Lb:=@List.mem_singleton
abbrev Lc:=@List.mem_append
abbrev Lh:=@List.length_map
abbrev Lj:=@List.mem_cons
abbrev Lk:=@List.mem_cons_of_mem
abbrev Ll:=@List.length_append
abbrev Lm:=@List.getElem_mem
abbrev Ln:=@List.take_succ_eq_append_getElem
abbrev Lo:=@Nat.zero_le
abbrev Lp:=@Decidable.not_not
abbrev Lq:=@List.mem_cons_self
abbrev Lr:=@List.map_append
abbrev Ls:=@List.eq_nil_of_length_eq_zero
abbrev Lt:=@List.drop_of_length_le
abbrev Lu:=@List.take_of_length_le
abbrev Lv:=@List.not_mem_nil
abbrev Lx:=@Nat.le_refl
abbrev Ly:=@Bool.and_eq_true
abbrev LA:=@List.flatMap_append
abbrev LB:=@List.length_take
abbrev LC:=@List.append_assoc
abbrev LD:=@List.mem_map
abbrev LE:=@List.length_singleton
abbrev LF:=@List.drop_eq_getElem_cons
abbrev LG:=@List.getElem?_eq_getElem
abbrev LH:=@Nat.le_trans
abbrev LJ:=@List.map_cons
abbrev LK:=@Array.getElem?_eq_some_iff
abbrev LM:=@List.flatMap_cons
abbrev LO:=@List.getElem_of_mem
abbrev LP:=@List.mem_map_of_mem
abbrev LQ:=@Nat.lt_of_lt_of_le
abbrev LR:=@List.size_toArray
abbrev LS:=@List.append_nil
abbrev LT:=@Nat.zero_add
abbrev LU:=@List.length_cons
abbrev LW:=@List.getElem?_take
abbrev LX:=@List.mem_of_mem_take
abbrev LY:=@List.length_drop
abbrev LZ:=@Nat.le_of_ble_eq_true
abbrev L3:=@Nat.mul_le_mul_right
abbrev L4:=@List.filter_append
abbrev L5:=@List.foldl_cons
abbrev L6:=@List.mem_filter
abbrev L7:=@List.getElem?_eq_some_iff
abbrev L8:=@List.pairwise_cons
abbrev L9:=@List.all_cons
abbrev Ma:=@List.mem_of_mem_drop
abbrev Mb:=@List.length_set
abbrev Mc:=@List.nil_append
abbrev Md:=@List.filter_cons
abbrev Me:=@List.mem_flatMap
abbrev Mf:=@List.mem_append_left
abbrev Mg:=@List.length_filter_le
abbrev Mh:=@List.all_eq_true
abbrev Mi:=@Array.size_modify
abbrev Mj:=@Array.getElem?_append
abbrev Mk:=@Nat.min_eq_left
abbrev Ml:=@List.getElem?_toArray
abbrev Mn:=@List.map_map
abbrev Mo:=@List.getElem?_append_left
abbrev Mq:=@Array.getElem?_toList
abbrev Mr:=@List.getElem_map
abbrev Ms:=@Option.map_eq_some_iff
abbrev Mt:=@List.mem_of_getElem?
abbrev Mu:=@Nat.add_mul
abbrev Mv:=@List.ext_getElem
abbrev Mw:=@List.cons_append
abbrev Mx:=@Array.getElem?_modify
abbrev My:=@List.getElem?_drop
abbrev Mz:=@Array.getElem?_eq_getElem
abbrev MA:=@List.filterMap_cons
abbrev MB:=@List.range'_1_concat
abbrev MC:=@List.idxOf_append
abbrev MD:=@List.mem_range'_1
abbrev ME:=@List.nodup_append
abbrev MF:=@List.foldl_append
abbrev MG:=@List.take_append_drop
abbrev MH:=@List.pairwise_append
abbrev MI:=@List.getElem_append_left
abbrev MJ:=@List.idxOf_lt_length_of_mem
abbrev MK:=@List.take_succ_cons
abbrev ML:=@Nat.add_sub_cancel_left
abbrev MM:=@List.getElem?_append_right
abbrev MN:=@List.nodup_nil
abbrev MO:=@Option.bind_eq_some_iff
abbrev MP:=@Int.toNat_natCast
abbrev MQ:=@List.pairwise_map
abbrev MR:=@Bool.not_eq_true'
abbrev MS:=@Bool.or_eq_false_iff
abbrev MT:=@List.pairwise_iff_getElem
abbrev MU:=@List.mem_or_eq_of_mem_set
abbrev MW:=@List.dropLast_concat_getLast
abbrev MX:=@List.getElem?_eq_none
abbrev MY:=@Array.size_append
abbrev MZ:=@List.mem_filterMap
abbrev M0:=@List.filter_sublist
abbrev M1:=@List.take_append_of_le_length
abbrev M2:=@List.headD_cons
abbrev M4:=@List.take_length
abbrev M5:=@List.ext_getElem?
abbrev M6:=@List.take_take
abbrev M7:=@List.tail_cons
abbrev M8:=@List.getElem_append_right
abbrev M9:=@List.getElem_set
abbrev Na:=@List.range'_succ
abbrev Nb:=@Nat.mod_eq_of_lt
abbrev Nc:=@List.map_singleton
abbrev Nd:=@Nat.add_comm
abbrev Nf:=@List.forall_mem_cons
abbrev Ng:=@List.getElem?_map
abbrev Nh:=@List.getElem_take
abbrev Ni:=@List.length_eq_zero_iff
abbrev Nj:=@List.pairwise_lt_range'
abbrev Nk:=@Nat.not_lt_zero
abbrev Nl:=@List.length_nil
abbrev Nm:=@List.filter_nil
abbrev Nn:=@List.map_congr_left
abbrev Np:=@Nat.add_zero
abbrev Nq:=@List.filter_eq_nil_iff
abbrev Nr:=@List.map_nil
abbrev Ns:=@Nat.lt_or_ge
abbrev Nt:=@List.any_eq_true
abbrev Nu:=@Nat.le_of_not_lt
abbrev Nv:=@List.getD_eq_getElem?_getD
abbrev Nw:=@List.mem_range
abbrev Nx:=@Array.getElem?_mapIdx
abbrev Ny:=@List.singleton_append
abbrev Nz:=@List.mem_append_right
abbrev NA:=@Option.isNone_iff_eq_none
abbrev NB:=@Option.map_some
abbrev NC:=@List.range_succ
abbrev ND:=@List.nodup_cons
abbrev NE:=@List.any_eq_false
abbrev NF:=@List.length_dropLast
abbrev NG:=@List.getElem?_set_ne
abbrev NH:=@Nat.mod_lt
abbrev NI:=@Nat.lt_irrefl
abbrev NJ:=@List.eq_of_mem_replicate
abbrev NK:=@List.mergeSort_perm
abbrev NL:=@List.filter_eq_self
abbrev NM:=@List.pairwise_singleton
abbrev NN:=@List.zipIdx_cons
abbrev NO:=@List.foldl_nil
abbrev NP:=@Nat.le_succ
abbrev NQ:=@Int.le_refl
abbrev NS:=@Option.isSome_none
abbrev NT:=@Bool.false_eq_true
abbrev NU:=@Nat.sub_zero
abbrev NV:=@List.set_cons_succ
abbrev NW:=@Bool.or_eq_true
abbrev NX:=@List.map_take
abbrev NY:=@Nat.one_mul
theorem oB.{u,v}{α:Sort u}{β:Sort v}{a:α}{b:β}:a=a/\b=b/\True:=⟨rfl,rfl,trivial⟩
theorem oC.{u,v,w}{α:Sort u}{β:Sort v}{γ:Sort w}{a:α}{b:β}{c:γ}:a=a/\b=b/\c=c/\True:=⟨rfl,rfl,rfl,trivial⟩
theorem oD.{u,v,w,x}{α:Sort u}{β:Sort v}{γ:Sort w}{δ:Sort x}{a:α}{b:β}{c:γ}{d:δ}:a=a/\b=b/\c=c/\d=d/\True:=⟨rfl,rfl,rfl,rfl,trivial⟩
end Go
namespace Go.Lg
open Go.RowKit
abbrev Fr:=Nat->O2
def upd (f:Fr)(d:Nat)(v:O2):Fr:=λt=>bif OS t d then v else f t
def ev (f:Fr):O3->O2
 | .tmp t=>f t
 | .const v=>v
 | .global g=>.pointer (some ⟨g,0,none⟩)
 | .func g=>.func (.func g) #[] #[]
def QN (f:Fr):xE->O2->Fr
 | some d,v=>upd f d v
 | none,_=>f
structure Rel (n:Nat)(a:Act)(f:Fr):Prop where
 size:a.tmps.size=n
 defers:a.defers=[]
 get:∀t,a.tmps.getD t undef=f t
theorem Xb (f:Fr)(d:Nat)(v:O2):upd f d v d=v:=by simp[upd]
theorem Kr (f:Fr){d:Nat}(v:O2)(h:t≠d):upd f d v t=f t:=by
 have:OS t d=false:=by
  cases e:OS t d with
  | false=>rfl
  | true=>exact OW (Nat.eq_of_beq_eq_true e) h
 simp[upd,this]
theorem Rel.eval {n:Nat}{a:Act}{f:Fr}(h:Rel n a f):a.eval=ev f:=by
 funext x;cases x with
 | tmp t=>exact h.get t
 | _=>rfl
theorem Rel.put {n:Nat}{a:Act}{f:Fr}(h:Rel n a f){dst:xE}(hd:∀d,dst=some d->d<n)(v:O2):Rel n (a.put dst v) (QN f dst v):=by
 cases dst with
 | none=>exact h
 | some d =>
  have E:d<a.tmps.size:=by rw[h.size];exact hd d U
  refine⟨by simp[Act.put,h.size],h.defers,λt=>?_⟩;by_cases e:t=d
  ·subst e;rw[QN,Xb];simp[Act.put,E]
  rw[QN,Kr _ _ e,<-h.get t];simp[Act.put,Array.getElem?_setIfInBounds_ne (Ne.symm e)]
def Ym (l:xD)(t:Nat):Bool:=l.any λo=>match o.dst with|some d=>OS d t|none=>false
def wrs:Code->Nat->Bool
 | .region _ ops _,t=>Ym ops.toList t
 | .seq a b,t=>wrs a t || wrs b t
 | .cond _ a b,t=>wrs a t || wrs b t
 | .block _ a,t=>wrs a t
 | .loop a,t=>wrs a t
 | .skip,_| .exit _,_| .label _,_| .goto _,_| .ret,_=>false
 | _,_=>true
def Y4 (D:xu)(t:Nat):Bool:=match D with
 | []=>false
 | (lo,hi)::D=>bif (Nat.ble lo t && Nat.ble t hi)then true else Y4 D t
def inD (D:xu)(d:xE):Bool:=match d with|none=>true|some d=>Y4 D d
def QeW (D:xu)(l:xD):Bool:=l.all λo=>inD D o.dst
def wr (D:xu):Code->Bool
 | .region _ ops _=>QeW D ops.toList
 | .seq a b=>wr D a && wr D b
 | .cond _ a b=>wr D a && wr D b
 | .block _ a=>wr D a
 | .loop a=>wr D a
 | .skip| .exit _| .label _| .goto _| .ret=>true
 | _=>false
theorem jY {D:xu}{l:xD}(h:QeW D l=true)(G:Y4 D t=false):Ym l t=false:=by
 unfold QeW at h;unfold Ym;rw[NE];intro o H;have E:=Mh.1 h o H;cases hd:o.dst with
 | none=>simp
 | some d =>
  rw[hd]at E;simp only[inD]at E;intro e;have:=Nat.eq_of_beq_eq_true e;subst this;rw[E]at G;cases G
theorem Vr {D:xu}{t:Nat}(E:Y4 D t=false):∀c:Code,wr D c=true->wrs c t=false
 | .region _ ops _,h=>jY h E
 | .seq a b,h=>by simp only[wr,oM]at h;simp[wrs,Vr E a h.1,Vr E b h.2]
 | .cond _ a b,h=>by simp only[wr,oM]at h;simp[wrs,Vr E a h.1,Vr E b h.2]
 | .block _ a,h=>Vr E a (by simpa[wr]using h)
 | .loop a,h=>Vr E a (by simpa[wr]using h)
 | .skip,_=>rfl
 | .exit _,_=>rfl
 | .label _,_=>rfl
 | .goto _,_=>rfl
 | .ret,_=>rfl
 | .rangeFunc ..,h=>by simp[wr]at h
 | .scope _,h=>by simp[wr]at h
 | .refuse _,h=>by simp[wr]at h
def mix (D:xu)(f g:Fr):Fr:=λt=>bif Y4 D t then g t else f t
theorem Jd {D:xu}{f g:Fr}(h:∀t,Y4 D t=false->g t=f t):mix D f g=g:=by
 funext t;unfold mix;cases e:Y4 D t with
 | false=>exact(h t e).symm
 | true=>rfl
def UP (S:List (Nat×O2))(f:Fr):Fr:=match S with
 | []=>f
 | (t,v)::S=>upd (UP S f) t v
def Y1 (f:Fr):List (Nat×O2)->Prop
 | []=>True
 | (t,v)::S=>f t=v/\Y1 f S
theorem Xh {f:Fr}:∀{S:List (Nat×O2)},Y1 f S->UP S f=f
 | [],_=>rfl
 | (t,v)::S,h=>by
  funext s;simp only[UP,Xh h.2];by_cases e:s=t
  ·subst e;rw[Xb];exact h.1.symm
  exact Kr _ _ e
def W (P:O4)(n:Nat)(c:Code)(Q:Exit->Fr->O1->Prop)(f:Fr)(w:O1):Prop :=
 ∀a,Rel n a f->c.wp P (λe E w'=>∃f',Rel n E f'/\(∀t,wrs c t=false->f' t=f t)/\Q e f' w') a w
def thn (K:Fr->O1->Prop)(Q:Exit->Fr->O1->Prop):Exit->Fr->O1->Prop
 | .normal,f,w=>K f w
 | e,f,w=>Q e f w
def blk (id:Nat)(Q:Exit->Fr->O1->Prop):Exit->Fr->O1->Prop
 | .exit i,f,w=>bif OS i id then Q .normal f w else Q (.exit i) f w
 | e,f,w=>Q e f w
section
variable {Q:Exit->Fr->O1->Prop}{f:Fr}
theorem W.Y {c:Code}{Q':Exit->Fr->O1->Prop}(h:W P n c Q f w)(E:∀e f w,Q e f w->Q' e f w):W P n c Q' f w :=
 λa G=>wp_mono (h a G) λ_ _ _ ⟨H,I,J,O⟩=>⟨H,I,J,E _ _ _ O⟩
theorem W.keeps {c:Code}(h:W P n c Q f w):W P n c (λe E w'=>(∀t,wrs c t=false->E t=f t)/\Q e E w') f w :=
 λa H=>wp_mono (h a H) λ_ _ _ ⟨E,I,G,J⟩=>⟨E,I,G,G,J⟩
theorem Qf (h:Q .normal f w):W P n .skip Q f w:=λ_ E=>wp_skip ⟨f,E,λ_ _=>U,h⟩
theorem Qw (h:Q (.exit i) f w):W P n (.exit i) Q f w:=λ_ E=>wp_exit ⟨f,E,λ_ _=>U,h⟩
theorem Qh (h:Q .ret f w):W P n .ret Q f w:=λ_ E=>wp_ret ⟨f,E,λ_ _=>U,h⟩
theorem Qd {x y:Code}(h:W P n x (thn (λf w=>W P n y Q f w) Q) f w):W P n (.seq x y) Q f w:=by
 intro a J;refine wp_seq (wp_mono (h a J) ?_);rintro e O w' ⟨E,G,S,H⟩;have k1:∀t,wrs (.seq x y) t=false->E t=f t:=λt I=>S t (by simp only[wrs,Oi]at I;exact I.1);cases e with
 | normal =>
  refine wp_mono (H O G) λ_ _ _ ⟨T,g1,V,Y⟩=>⟨T,g1,λt I=>(V t ?_).D (k1 t I),Y⟩;simp only[wrs,Oi]at I;exact I.2
 | exit id=>exact⟨E,G,k1,H⟩
 | goto l=>exact⟨E,G,k1,H⟩
 | ret=>exact⟨E,G,k1,H⟩
 | panic ch=>exact⟨E,G,k1,H⟩
 | outgrown=>exact⟨E,G,k1,H⟩
theorem QX {x y:Code}(D:xu)(S:α->List (Nat×O2))(I:α->O1->Prop)(hD:wr D x=true)
  (J:W P n x (thn (λG w'=>∃z,Y1 G (S z)/\I z w') Q) f w)
  (O:∀z g w',I z w'->W P n y Q (UP (S z) (mix D f g)) w'):W P n (.seq x y) Q f w:=by
 refine Qd (J.keeps.Y ?_);rintro e G w' ⟨T,E⟩;cases e with
 | normal =>
  obtain⟨z,V,hi⟩:=E;have H:=O z G w' hi;rw[Jd (λt Y=>T t (Vr Y x hD)),Xh V]at H;exact H
 | exit id=>exact E
 | goto l=>exact E
 | ret=>exact E
 | panic ch=>exact E
 | outgrown=>exact E
theorem QU {c:O3}{x y:Code}{t:Bool}(H:ev f c=.bool t)(E:t=true->W P n x Q f w)(I:t=false->W P n y Q f w):
  W P n (.cond c x y) Q f w:=by
 intro a G;have J:a.eval c=.bool t:=by rw[G.eval];exact H
 refine wp_cond_split J (λe=>wp_mono (E e a G) ?_) (λe=>wp_mono (I e a G) ?_) <;>
  (rintro e Y w' ⟨O,S,T,V⟩
   refine⟨O,S,λt E=>T t ?_,V⟩;simp only[wrs,Oi]at E
   first|exact E.1|exact E.2)
theorem QO {c:O3}{x y:Code}{p:Prop}[Decidable p](E:ev f c=.bool (decide p))(G:p->W P n x Q f w)(H:¬p->W P n y Q f w):
  W P n (.cond c x y) Q f w :=
 QU E (λe=>G (OY e)) (λe=>H (O0 e))
theorem ZH {c:O3}{x y:Code}{p:Prop}[Decidable p](E:ev f c=.bool (decide p))(G:¬p->W P n y Q f w)(H:p->W P n x Q f w):
  W P n (.cond c x y) Q f w:=QO E H G
theorem jv {c:O3}{x y:Code}(E:ev f c=.bool true)(h:W P n x Q f w):W P n (.cond c x y) Q f w:=QU E (λ_=>h) (λe=>by cases e)
theorem ZO {c:O3}{x y:Code}(E:ev f c=.bool false)(h:W P n y Q f w):W P n (.cond c x y) Q f w:=QU E (λe=>by cases e) (λ_=>h)
theorem Qm {c:Code}(h:W P n c (blk id Q) f w):W P n (.block id c) Q f w:=by
 intro a I;refine wp_block (wp_mono (h a I) ?_);rintro e T w' ⟨G,H,J,E⟩;have k1:∀t,wrs (.block id c) t=false->G t=f t:=λt O=>J t (by simpa[wrs]using O);cases e with
 | exit i =>
  simp only[Exit.inBlock];simp only[blk]at E;by_cases hi:i=id
  ·subst hi;simp only[Nat.beq_refl,cond_true]at E;simp only[if_true];exact⟨G,H,k1,E⟩
  have S:OS i id=false:=by
   cases e:OS i id with
   | false=>rfl
   | true=>exact OW (Nat.eq_of_beq_eq_true e) hi
  rw[S]at E;rw[OT hi];exact⟨G,H,k1,E⟩
 | normal=>exact⟨G,H,k1,E⟩
 | goto l=>exact⟨G,H,k1,E⟩
 | ret=>exact⟨G,H,k1,E⟩
 | panic ch=>exact⟨G,H,k1,E⟩
 | outgrown=>exact⟨G,H,k1,E⟩
theorem QpT {c:Code}(D:xu)(S:α->List (Nat×O2))(I:α->O1->Prop)(m:α->Nat)(hD:wr D c=true)(z:α)
  (h0:Y1 f (S z)) (hI:I z w)
  (round:∀x g w',I x w'->W P n c (thn (λG V=>∃O,m O<m x/\Y1 G (S O)/\I O V) Q) (UP (S x) (mix D f g)) w'):W P n (.loop c) Q f w:=by
 intro a ha;refine wp_loop_ghost (λ(x:α) T w'=>∃G,Rel n T G/\(∀t,wrs c t=false->G t=f t)/\Y1 G (S x)/\I x w') m z ⟨f,ha,λ_ _=>U,h0,hI⟩ ?_;rintro x T w' ⟨G,h1,Y,h3,h4⟩;have h5:=round x G w' h4;rw[Jd (λt H=>Y t (Vr H c hD)),Xh h3]at h5;refine wp_mono (h5 T h1) ?_;rintro e hb V ⟨E,g1,g2,J⟩;have k1:∀t,wrs c t=false->E t=f t:=λt H=>(g2 t H).D (Y t H);have k2:∀t,wrs (.loop c) t=false->E t=f t:=λt H=>k1 t (by simpa[wrs]using H);cases e with
 | normal=>obtain⟨O,hm,hs,hi⟩:=J;exact⟨O,hm,E,g1,k1,hs,hi⟩
 | exit id=>exact⟨E,g1,k2,J⟩
 | goto l=>exact⟨E,g1,k2,J⟩
 | ret=>exact⟨E,g1,k2,J⟩
 | panic ch=>exact⟨E,g1,k2,J⟩
 | outgrown=>exact⟨E,g1,k2,J⟩
 where
 wp_loop_ghost {α:Type} {P:O4} {c:Code} {Q:Exit->Act->O1->Prop} {a:Act} {w:O1} (J:α->Act->O1->Prop) (m:α->Nat) (z:α) (h₀:J z a w)
   (round:∀x a w,J x a w->c.wp P (Exit.then (λa' w'=>∃x',m x'<m x/\J x' a' w') Q) a w):(Code.loop c).wp P Q a w:=by
  intro b k cs
  have key:∀i x a w,m x=i->J x a w ->
    ∃e a' w',Q e a' w'/\Arrives P (lone (b.at a (.code c::.inLoop c::k)) cs w) b k cs e a' w':=by
   intro i
   induction i using Nat.strongRecOn with
   | _ i ih =>
    intro x a w hx hJ
    obtain⟨e,a₁,w₁,hq,harr⟩:=round x a w hJ b (.inLoop c::k) cs
    cases e with
    | normal =>
     obtain⟨x',hlt,hJ'⟩:=hq
     obtain⟨e₂,a₂,w₂,hq₂,harr₂⟩:=ih (m x') (hx ▸ hlt) x' a₁ w₁ rfl hJ'
     exact⟨e₂,a₂,w₂,hq₂,.of_steps (Steps.trans harr (.one step_inLoop)) harr₂⟩
    | exit id=>exact⟨_,a₁,w₁,hq,.pass (x:=.inLoop c) rfl (λ_ _=>.inl od) harr⟩
    | goto l=>exact⟨_,a₁,w₁,hq,.pass (x:=.inLoop c) rfl (λ_ _=>.inl od) harr⟩
    | ret=>exact⟨_,a₁,w₁,hq,.pass (x:=.inLoop c) rfl (λ_ _=>.inl od) harr⟩
    | panic ch=>exact⟨_,a₁,w₁,hq,.pass (x:=.inLoop c) rfl (λ_ _=>.inl od) harr⟩
    | outgrown=>exact⟨_,a₁,w₁,hq,.pass (x:=.inLoop c) rfl (λ_ _=>.inl od) harr⟩
  obtain⟨e,a',w',hq,harr⟩:=key _ z a w rfl h₀
  exact⟨e,a',w',hq,.of_steps (.one step_loop) harr⟩
end
def upF (P:O4)(dst:xE)(f:Fr)(K:Fr->O1->Prop):Result Next->Prop
 | .ok (.value v) w'=>K (QN f dst v) w'
 | .ok .skip w'=>K (QN f dst undef) w'
 | .ok (.enter g args) w'=>Calls P g args w' λe E=>match e with| .returned v=>K (QN f dst v) E|_=>False
 | _=>False
def XO (P:O4)(o:Oper)(f:Fr)(w:O1)(K:Fr->O1->Prop):Prop:=upF P o.dst f K ((execOp (ev f) o).run P w)
def Z9 (ops:xD)(f:Fr)(o:Oper):Bool:=match o.guard with
 | none=>true
 | some (j,want)=>match (ops[j]?).bind (·.dst)with
  | some d=>(match f d with| .bool b=>bif want then b else !b|_=>false)
  | none=>false
def XL (P:O4)(ops:xD)(K:Fr->O1->Prop):xD->Fr->O1->Prop
 | [],f,w=>K f w
 | o::l,f,w=>bif Z9 ops f o then XO P o f w (XL P ops K l)else XL P ops K l (QN f o.dst undef) w
theorem qy {l:xD}{a:Act}{f:Fr}(h:Rel n a f)(H:∀o∈l,∀d,o.dst=some d->d<n)(o:Oper):Region.wanted o (yielded l.toArray a.tmps)=Z9 l f o:=by
 unfold Region.wanted Z9;cases o.guard with
 | none=>rfl
 | some p =>
  obtain⟨j,want⟩:=p;simp only[yielded,o0];cases I:(l[j]?)with
  | none=>simp
  | some o' =>
   cases hd:o'.dst with
   | none=>simp[hd]
   | some d =>
    have E:d<a.tmps.size:=by rw[h.size];exact H o' (Mt I) d hd
    have G:=h.get d;simp only[Option.bind_some,hd,Ol E];simp[E]at G;rw[G];cases f d <;> simp
    cases want <;> simp
theorem Qn9 {a:Act}{f:Fr}{K:Fr->O1->Prop}{K':Act->O1->Prop}{Q:Exit->Act->O1->Prop}(h:Rel n a f)
  (hK:∀v w',K (QN f o.dst v) w'->K' (a.put o.dst v) w') (hx:XO P o f w K):o.wp P a w K' Q:=by
 unfold XO at hx;unfold Oper.wp;rw[h.eval];generalize (execOp (ev f) o).run P w=r at hx;cases r with
 | ok nx w' =>
  cases nx <;> simp only[upF]at hx <;> simp only[Oper.upon]
  case value v=>exact hK v w' hx
  case skip=>exact hK _ w' hx
  case enter g args =>
   refine Calls.mono hx λe G E=>?_;cases e with
   | returned v=>exact hK v G E
   | panicked c=>exact E.elim
   | outgrown=>exact E.elim
 | halt x w'=>exact hx.elim
theorem XO.Y {P:O4}{o:Oper}{f:Fr}{w:O1}{K K':Fr->O1->Prop}(hK:∀v w',K (QN f o.dst v) w'->K' (QN f o.dst v) w')(hx:XO P o f w K):XO P o f w K':=by
 unfold XO at *;generalize (execOp (ev f) o).run P w=r at *;cases r with
 | ok nx w' =>
  cases nx <;> simp only[upF]at hx ⊢
  case value v=>exact hK v w' hx
  case skip=>exact hK _ w' hx
  case enter g args =>
   refine Calls.mono hx λe G E=>?_;cases e with
   | returned v=>exact hK v G E
   | panicked c=>exact E.elim
   | outgrown=>exact E.elim
 | halt x w'=>exact hx.elim
def XM (n:Nat)(l:xD):Bool:=l.all λo=>match o.dst with|some d=>Nat.blt d n|none=>true
theorem Xz {l:xD}(h:XM n l=true):∀o∈l,∀d,o.dst=some d->d<n:=by
 intro o E d hd;have:=Mh.1 h o E;simp only[hd,Nat.blt_eq]at this;exact this
theorem JU {l:xD}(E:o∈l)(h:Ym l t=false):o.dst≠some t:=by
 intro e;have:=NE.1 h o E;simp[e]at this
theorem Y2 {f:Fr}{dst:xE}(h:dst≠some t)(v:O2):QN f dst v t=f t:=by
 cases dst with
 | none=>rfl
 | some d=>exact Kr _ _ (λe=>h (by rw[e]))
section
variable {Q:Exit->Fr->O1->Prop}{f:Fr}
theorem Qoa {all:xD}(G:∀o∈all,∀d,o.dst=some d->d<n)(f0:Fr):
  ∀(l:xD) (k:Nat) (a:Act) (f:Fr) (w:O1),(∀j,l[j]?=all[k+j]?)->Rel n a f->(∀t,Ym all t=false->f t=f0 t) ->
   XL P all (λf w=>Q .normal f w) l f w ->
   wpOps P all.toArray (λe V w'=>∃f',Rel n V f'/\(∀t,Ym all t=false->f' t=f0 t)/\Q e f' w') (oS k l.length) a w
 | [],_,a,f,w,_,E,H,h=>⟨f,E,H,h⟩
 | o::l,k,a,f,w,J,E,H,h=>by
  have O:all[k]?=some o:=by simpa using(J 0).symm
  have I:o∈all:=Mt O;have ih:=λa f w=>Qoa G f0 l (k+1) a f w (λj=>by have:=J (j+1);simpa[ON,Nat.add_comm 1 j]using this);have next:∀v,(∀t,Ym all t=false->QN f o.dst v t=f0 t):=λv t S=>(Y2 (JU I S) v).D (H t S);simp only[oX,OC,wpOps,o0,O];rw[qy E G o];simp only[XL]at h;cases T:Z9 all f o with
  | false =>
   rw[T]at h;exact ih _ _ _ (E.put (G o I) _) (next _) h
  | true =>
   rw[T]at h;exact .inl (Qn9 E (λv w' hx=>ih _ _ _ (E.put (G o I) v) (next v) hx) h)
theorem QdC {l:xD}(E:XM n l=true)(h:XL P l (λf w=>Q .normal f w) l f w):W P n (.region id l.toArray false) Q f w:=by
 intro a G;refine wp_region ?_;have:=Qoa (Xz E) f l 0 a f w od G (λ_ _=>rfl) h;simpa[List.range_eq_range',wrs]using this
end
def zi (o:Oper):Bool:=match o.op with
 | .move _| .assign _| .pick .. | .alloc _| .box .. | .build .. | .buildSlice .. | .store .. | .nilCheck _| .binOp .. | .unOp .. | .makeFunc .. | .makeMap .. | .makeSlice .. | .fieldAddr .. | .field .. | .indexAddr .. | .index .. | .extract .. | .insert .. | .mapUpdate ..=>false
 | .slice ..=>false
 | .call ⟨.builtin .append,_,_⟩=>false
 | .call ⟨.builtin .min,_,_⟩=>false
 | .call ⟨.builtin .max,_,_⟩=>false
 | .call ⟨.builtin .len,_,_⟩=>false
 | .call ⟨.value _,_,_⟩=>false
 | _=>true
def Vk (all:xD)(j:Nat):Bool:=match all[j]? with
 | none=>false
 | some o=>(oV all.length).all λi=>match all[i]? with
  | none=>true
  | some oi=>!zi oi || i == j || o.after.any λe=>Region.binds .any e && e.on == i
def XA (P:O4)(all:xD)(C:xz)(K:Fr->O1->Prop):Nat->Array Bool->Fr->O1->Prop
 | 0,ls,f,w=>Region.ready .any all.toArray ls=[]/\K f w
 | k+1,ls,f,w=>(Region.ready .any all.toArray ls=[]->K f w) /\
  ∀i∈Region.ready .any all.toArray ls,∀o,all[i]?=some o ->
   bif Z9 all f o then XO P o f w (λE w'=>(Vk all i=true\/w'=w\/C w')/\XA P all C K k (ls.setIfInBounds i true) E w')else XA P all C K k (ls.setIfInBounds i true) (QN f o.dst undef) w
section
variable {f:Fr}{all:xD}{C:xz}{K:Fr->O1->Prop}
theorem Qgo {Q:Exit->Act->O1->Prop}(G:∀o∈all,∀d,o.dst=some d->d<n)(f0:Fr)
  (H:∀a f w,Rel n a f->(∀t,Ym all t=false->f t=f0 t)->K f w->Q .normal a w):
  ∀(k:Nat) (ls:Array Bool) (a:Act) (f:Fr) (w:O1),Rel n a f->(∀t,Ym all t=false->f t=f0 t)->XA P all C K k ls f w->wpAny P .any all.toArray Q k ls a w
 | 0,_,a,f,w,E,I,h=>⟨h.1,H a f w E I h.2⟩
 | k+1,ls,a,f,w,E,I,h=>by
  refine⟨λY=>H a f w E I (h.1 Y),λi hi=>?_⟩;unfold wpOp;simp only[o0];cases O:all[i]? with
  | none =>
   exfalso;obtain⟨_,o,ha,_⟩:=mem_ready.1 hi;simp[O]at ha
  | some o =>
   have S:o∈all:=Mt O;have J:=h.2 i hi o O;have next:∀v,(∀t,Ym all t=false->QN f o.dst v t=f0 t):=λv t T=>(Y2 (JU S T) v).D (I t T);simp only[];rw[qy E G o];cases V:Z9 all f o with
   | false =>
    rw[V]at J;exact Qgo G f0 H k _ _ _ _ (E.put (G o S) _) (next _) J
   | true =>
    rw[V]at J;exact .inl (Qn9 E (λv w' hx=>Qgo G f0 H k _ _ _ _ (E.put (G o S) v) (next v) hx.2) J)
theorem JN (f:Fr){x y:xE}(v u:O2)(h:∀d,x=some d->y≠some d):QN (QN f x v) y u=QN (QN f y u) x v:=by
 cases x with
 | none=>rfl
 | some d =>
  cases y with
  | none=>rfl
  | some e =>
   have H:d≠e:=λI=>h d U (I ▸ U);funext t;simp only[QN];by_cases E:t=d
   ·subst E;rw[Kr _ _ H,Xb,Xb]
   by_cases G:t=e
   ·subst G;rw[Xb,Kr _ _ E,Xb]
   rw[Kr _ _ G,Kr _ _ E,Kr _ _ E,Kr _ _ G]
theorem Qm3 {f:Fr}{dst:xE}{v:O2}{x:O3}(h:∀d,dst=some d->x≠.tmp d):ev (QN f dst v) x=ev f x:=by
 cases dst with
 | none=>rfl
 | some d =>
  cases x with
  | tmp t=>exact Kr _ _ (λe=>h d U (by rw[e]))
  | _=>rfl
theorem XK (E:∀cs b,o.op≠.select cs b)(f:Fr)(dst:xE)(v:O2)(h:∀d,dst=some d->d∉o.looksAt all.toArray):
  execOp (ev (QN f dst v)) o=execOp (ev f) o :=
 execOp_congr o E λx hx=>Qm3 λd hd G=>h d hd (by
  subst G;exact Mf _ (MZ.2 ⟨.tmp d,oA hx,rfl⟩))
theorem Jq (o:Oper)(f:Fr)(dst:xE)(v:O2)(h:∀d,dst=some d->d∉o.looksAt all.toArray):Z9 all (QN f dst v) o=Z9 all f o:=by
 unfold Z9;cases E:o.guard with
 | none=>rfl
 | some gw =>
  obtain⟨g,want⟩:=gw;simp only[];cases G:(all[g]?).bind (·.dst)with
  | none=>rfl
  | some t =>
   have H:dst≠some t:=λe=>h t e (by simp[Oper.looksAt,E,G]);simp only[];rw[Y2 H]
def Qgq (P:O4)(all:xD)(D:xz)(o:Oper)(v:O2)(f:Fr):Prop :=
 (Z9 all f o=true/\∀w,D w->(execOp (ev f) o).run P w=.ok (.value v) w)\/(Z9 all f o=false/\v=undef)
theorem Qmw {oi oj:Oper}(hi:all[i]?=some oi)(H:all[j]?=some oj)(I:zi oi=true)(J:j≠i)(G:Vk all j=true)(O:∀e∈oj.after,Region.binds .any e=true->e.on≠i):False:=by
 simp only[Vk,H,Ok,List.mem_range]at G;have S:i<all.length:=(L7.1 hi).1;have E:=G i S;simp only[hi,I,Bool.not_true,Bool.false_or,OG,beq_iff_eq,Array.any_eq_true',oM]at E;rcases E with E|⟨e,T,V,Y⟩
 ·exact J E.symm
 exact O e T V Y
theorem Xs {oi:Oper}{v:O2}{D:xz}(hi:all[i]?=some oi)(hD:∀w,(zi oi=true->C w)->D w)(ha:∀(j:Nat) (o:Oper) cs b,all[j]?=some o->o.op≠.select cs b):
  ∀(fuel:Nat) (ls:Array Bool) (f:Fr) (w:O1),(zi oi=true->C w) ->
   (∀j oj,all[j]?=some oj->j≠i->ls.getD j true=false->(∀e∈oj.after,Region.binds .any e=true->e.on≠i)->oi.apart all.toArray oj=true) ->
   i∈Region.ready .any all.toArray ls->Qgq P all D oi v f ->
   XA P all C K fuel (ls.setIfInBounds i true) (QN f oi.dst v) w->XA P all C K (fuel+1) ls f w:=by
 have hc:∀(fuel:Nat) (ls:Array Bool) (f:Fr) (w:O1),(zi oi=true->C w)->Qgq P all D oi v f->XA P all C K fuel (ls.setIfInBounds i true) (QN f oi.dst v) w->∀o,all[i]?=some o ->
   bif Z9 all f o then XO P o f w (λf' w'=>(Vk all i=true\/w'=w\/C w')/\XA P all C K fuel (ls.setIfInBounds i true) f' w')else XA P all C K fuel (ls.setIfInBounds i true) (QN f o.dst undef) w:=by
  intro fuel ls f w J T H o ho;rw[hi]at ho;cases ho
  rcases T with⟨V,hv⟩|⟨V,rfl⟩
  ·rw[V];simp only[cond_true,XO,hv w (hD w J),upF];exact⟨.inr (.inl Z),H⟩
  rw[V];exact H
 intro fuel;induction fuel with
 | zero =>
  intro ls f w J _ O T H;refine⟨λh=>(by rw[h]at O;cases O),λj hj=>?_⟩;by_cases I:j=i
  ·subst I;exact hc _ _ _ _ J T H
  have:=ready_mono hj I;rw[H.1]at this;cases this
 | succ fuel ih =>
  intro ls f w J hf O T H;refine⟨λh=>(by rw[h]at O;cases O),λj hj=>?_⟩;by_cases I:j=i
  ·subst I;exact hc _ _ _ _ J T H
  intro oj Y;have E:=H.2 j (ready_mono hj I) oj Y;obtain⟨hh,G,hm,ht⟩:=mem_ready.1 hj;have hu:G=oj:=by rw[Ml,Y]at hm;exact(Option.some.inj hm).symm
  subst hu;have hn:∀e∈G.after,Region.binds .any e=true->e.on≠i:=λe S hb hw=>by
   have E:=ht e S hb;have h0:=(mem_ready.1 O).1;rw[hw]at E;rcases Ns i ls.size with h'|h'
   ·simp[h']at h0 E;rw[h0]at E;cases E
   simp[Array.getElem?_eq_none h']at E
  obtain⟨a1,a2,a3⟩:=Oper.apart_spec (hf j G Y I hh hn);have hz:∀k ok,all[k]?=some ok->k≠i->(ls.setIfInBounds j true).getD k true=false ->
    (∀e∈ok.after,Region.binds .any e=true->e.on≠i)->oi.apart all.toArray ok=true:=λk ok hk h2 hp h3=>by
   refine hf k ok hk h2 ?_ h3;by_cases hq:j=k
   ·subst hq;exact hh
   rw[getD_set_ne true hq]at hp;exact hp
  have keep:∀u,Qgq P all D oi v (QN f G.dst u):=λu=>by
   unfold Qgq at *;rw[Jq oi f G.dst u a3,XK (all:=all) (ha i oi · · hi) f G.dst u a3];exact T
  have dOf:∀w',(Vk all j=true\/w'=w\/C w')->(zi oi=true->C w'):=λw' hl hs=>by
   rcases hl with hl|rfl|hl
   ·exact(Qmw hi Y hs I hl hn).elim
   ·exact J hs
   exact hl
  have go:∀u w',(zi oi=true->C w')->XA P all C K fuel ((ls.setIfInBounds i true).setIfInBounds j true) (QN (QN f oi.dst v) G.dst u) w' ->
    XA P all C K (fuel+1) (ls.setIfInBounds j true) (QN f G.dst u) w':=λu w' h4 hx=>by
   refine ih _ _ _ h4 hz (ready_mono O (Ne.symm I)) (keep u) ?_;rw[Array.setIfInBounds_comm _ _ I,<-JN f v u a2];exact hx
  rw[Jq G f oi.dst v a1]at E;cases V:Z9 all f G with
  | false=>rw[V]at E;exact go _ _ J E
  | true =>
   rw[V]at E;simp only[cond_true]at E ⊢;unfold XO at *;rw[XK (all:=all) (ha j G · · Y) f oi.dst v a1]at E;generalize (execOp (ev f) G).run P w=r at *;cases r with
   | ok nx w' =>
    cases nx <;> simp only[upF]at E ⊢
    case value u=>exact⟨E.1,go _ _ (dOf _ E.1) E.2⟩
    case skip=>exact⟨E.1,go _ _ (dOf _ E.1) E.2⟩
    case enter g args =>
     refine Calls.mono E λe h5 S=>?_;cases e with
     | returned u=>exact⟨S.1,go _ _ (dOf _ S.1) S.2⟩
     | panicked c=>exact S.elim
     | outgrown=>exact S.elim
   | halt x w'=>exact E.elim
def Xo (all:Array Oper):xt->Array Bool->Bool
 | [],ls=>(Region.ready .any all ls).isEmpty
 | (i,true)::pl,ls=>(Region.ready .any all ls).contains i && Region.free .any all ls i && Xo all pl (ls.setIfInBounds i true)
 | (i,false)::pl,ls=>Region.ready .any all ls == [i] && Xo all pl (ls.setIfInBounds i true)
def yH (all:xD)(pl:xt):Bool:=Region.noSelect all.toArray && pl.length == all.length && Xo all.toArray pl (oU all.length false)
def QS:xD->Nat->Oper
 | [],_=>default
 | o::_,0=>o
 | _::l,i+1=>QS l i
theorem Zr {l:xD}(h:l[i]?=some o):QS l i=o:=by
 induction l generalizing i with
 | nil=>simp at h
 | cons a l ih=>cases i with
  | zero=>simp at h;subst h;rfl
  | succ i=>exact ih (oA h)
def XP (P:O4)(all:xD)(C:xz)(K:Fr->O1->Prop):xt->Fr->O1->Prop
 | [],f,w=>K f w
 | (i,q)::pl,f,w=>bif Z9 all f (QS all i)then
    (bif q then ∃v,(∀w',(zi (QS all i)=true->C w')->(execOp (ev f) (QS all i)).run P w'=.ok (.value v) w')/\XP P all C K pl (QN f (QS all i).dst v) w
     else XO P (QS all i) f w λE w'=>(Vk all i=true\/w'=w\/C w')/\XP P all C K pl E w')
   else XP P all C K pl (QN f (QS all i).dst undef) w
def QdA (all:xD)(ls:Array Bool):Prop:=∀i o,all[i]?=some o->zi o=true->ls.getD i false=true
theorem QdA.set {ls:Array Bool}(h:QdA all ls)(i:Nat):QdA all (ls.setIfInBounds i true):=λj o E G=>getD_set_true (h j o E G)
theorem ZY (S:Region.noSelect all.toArray=true):∀(pl:xt) (ls:Array Bool) (f:Fr) (w:O1),ls.size=all.length->(C w\/QdA all ls)->Xo all.toArray pl ls=true->XP P all C K pl f w ->
  XA P all C K pl.length ls f w
 | [],ls,f,w,_,_,H,h=>⟨by simpa[Xo]using H,h⟩
 | (i,true)::pl,ls,f,w,T,V,H,h=>by
  simp only[Xo,oM]at H;obtain⟨⟨J,hf⟩,Y⟩:=H;simp only[XP]at h;have O:i∈Region.ready .any all.toArray ls:=by simpa using J
  cases E:all[i]? with
  | none =>
   exfalso;obtain⟨_,o,h2,_⟩:=mem_ready.1 O;simp[E]at h2
  | some o =>
   rw[Zr E]at h;have hn:∀(j:Nat) (o:Oper) cs b,all[j]?=some o->o.op≠.select cs b:=λj o cs b hj=>Region.noSelect_spec S j o cs b (oA hj);have hq:=λj oj hj=>Region.free_spec (ops:=all.toArray) (md:=.any) (i:=i) (oi:=o) (listed:=ls) (oA E) hf j oj (oA hj);have ht:=(mem_ready.1 O).1;have hu:zi o=true->C w:=λhh=>V.resolve_right (λhi=>by
    have G:=hi i o E hh;have hm:i<ls.size:=by rw[T];exact(L7.1 E).1
    simp[hm]at ht G;rw[ht]at G;cases G)
   have hw:C w\/QdA all (ls.setIfInBounds i true):=V.imp id (λh=>h.set i);have ha:(ls.setIfInBounds i true).size=all.length:=by simpa using T
   cases I:Z9 all f o with
   | false =>
    rw[I]at h;exact Xs (v:=undef) (D:=λw=>zi o=true->C w) E (λ_ h=>h) hn pl.length ls f w hu hq O (.inr ⟨I,U⟩) (ZY S pl _ _ _ ha hw Y h)
   | true =>
    rw[I]at h;simp only[cond_true]at h;obtain⟨v,hv,hx⟩:=h;exact Xs (v:=v) (D:=λw=>zi o=true->C w) E (λ_ h=>h) hn pl.length ls f w hu hq O (.inl ⟨I,hv⟩) (ZY S pl _ _ _ ha hw Y hx)
 | (i,false)::pl,ls,f,w,T,V,H,h=>by
  simp only[Xo,oM,beq_iff_eq]at H;obtain⟨J,Y⟩:=H;refine⟨λh0=>(by rw[h0]at J;cases J),?_⟩;have O:i∈Region.ready .any all.toArray ls:=by rw[J];simp
  rw[J];intro j hj o E;have:j=i:=by simpa using hj
  subst this;have ha:(ls.setIfInBounds j true).size=all.length:=by simpa using T
  simp only[XP,Zr E]at h;cases I:Z9 all f o with
  | false=>rw[I]at h;exact ZY S pl _ _ _ ha (V.imp id (λh=>h.set j)) Y h
  | true =>
   rw[I]at h;simp only[cond_true,cond_false]at h ⊢;refine h.Y λv w' hx=>⟨hx.1,ZY S pl _ _ _ ha ?_ Y hx.2⟩;rcases hx.1 with hl|rfl|hc
   ·right;intro k ok hk hh;by_cases hy:k=j
    ·subst hy;have hm:k<ls.size:=by rw[T];exact(L7.1 hk).1
     simp[hm]
    simp only[Vk,E,Ok,List.mem_range]at hl;have G:=hl k (L7.1 hk).1;simp only[hk,hh,Bool.not_true,Bool.false_or,OG,beq_iff_eq,Array.any_eq_true',oM]at G;rcases G with G|⟨e,he,hb,h3⟩
    ·exact OW G hy
    obtain⟨_,o',hz,hi⟩:=mem_ready.1 O;have:o'=o:=by rw[Ml,E]at hz;exact(Option.some.inj hz).symm
    subst this;have:=hi e he hb;rw[h3]at this;exact getD_set_true this
   ·exact V.imp id (λh=>h.set j)
   exact .inl hc
theorem qZ {Q:Exit->Fr->O1->Prop}(C:xz)(pl:xt)(I:P.follows .mixedOrders=true)(J:XM n all=true)(G:yH all pl=true)
  (O:C { w with drawn:=w.drawn+1 }) (h:XP P all C (λf w=>Q .normal f w) pl f { w with drawn:=w.drawn+1 }):W P n (.region id all.toArray true) Q f w:=by
 intro a S;simp only[yH,oM,beq_iff_eq]at G;obtain⟨⟨T,V⟩,G⟩:=G;refine wp_region_any I ?_;have H:=ZY T pl _ _ _ od (.inl O) G h;rw[V]at H;have Y:=Qgo (n:=n) (Q:=λe a' w'=>∃E,Rel n a' E/\(∀t,Ym all t=false->E t=f t)/\Q e E w') (Xz J) f
  (λa E w hr hk hq=>⟨E,hr,hk,hq⟩) _ _ a f _ S (λ_ _=>U) H
 simpa[wrs]using Y
theorem J4 {Q:Exit->Fr->O1->Prop}(C:xz)(G:P.follows .mixedOrders=true)(H:XM n all=true)
  (h:XA P all C (λf w=>Q .normal f w) all.length (oU all.length false) f { w with drawn:=w.drawn+1 }):W P n (.region id all.toArray true) Q f w:=by
 intro a I;refine wp_region_any G ?_;have J:=Qgo (n:=n) (Q:=λe O w'=>∃E,Rel n O E/\(∀t,Ym all t=false->E t=f t)/\Q e E w') (Xz H) f
  (λa E w S T V=>⟨E,S,T,V⟩) _ _ a f _ I (λ_ _=>U) h
 simpa[wrs]using J
end
theorem X3 {all:xD}{C:xz}{K:Fr->O1->Prop}{k:Nat}{ls:Array Bool}{f:Fr}(E:Region.ready .any all.toArray ls=[]->K f w)
  (h:∀i∈Region.ready .any all.toArray ls,∀o,all[i]?=some o ->
   bif Z9 all f o then XO P o f w (λG w'=>(Vk all i=true\/w'=w\/C w')/\XA P all C K k (ls.setIfInBounds i true) G w')else XA P all C K k (ls.setIfInBounds i true) (QN f o.dst undef) w):XA P all C K (k+1) ls f w:=⟨E,h⟩
attribute [irreducible] W XL XP XO XA
theorem sY {α:Type}{x:Option α}{f:α->Bool}(h:x.map f=some true):∃d,x=some d/\f d=true:=by cases x with |none=>cases h |some d=>exact⟨d,rfl,Option.some.inj h⟩
class Sl (P:O4)(t:Nat)(e sz bys:outParam Nat)(z:outParam O2):Prop where
 u:P.underlying t=some (.slice e):=by first|kernel_rfl|decide|rfl|exact sY (by kernel_rfl)
 i:(P.info? e).map (λi=>(i.zero,i.size,i.bytes))=some (some z,sz,bys):=by first|kernel_rfl|decide|rfl|exact sY (by kernel_rfl)
 zs:z.cells.size=sz:=by first|kernel_rfl|decide|rfl|exact sY (by kernel_rfl)
 pos:0<sz:=by first|kernel_rfl|decide|rfl|exact sY (by kernel_rfl)
def QqO (P:O4)(t j:Nat):xE:=match P.underlying t with
 | some (.struct fs)=>match fs[j]? with
  | some fd=>match P.info? fd.type with
   | some i=>if i.size=0 then none else some fd.offset
   | none=>none
  | none=>none
 | _=>none
class Zg (P:O4)(t j:Nat)(off:outParam Nat):Prop where
 h:QqO P t j=some off:=by first|kernel_rfl|decide|rfl|exact sY (by kernel_rfl)
class X8 (P:O4)(t:Nat):Prop where
 u:∃d,P.underlying t=some d/\(match d with| .struct _| .array ..=>false|_=>true)=true:=by first|kernel_rfl|decide|rfl|exact sY (by kernel_rfl)
 i:(P.info? t).map (·.size)=some 1:=by first|kernel_rfl|decide|rfl|exact sY (by kernel_rfl)
class Ag (P:O4)(t:Nat)(sz:outParam Nat):Prop where
 u:∃d,P.underlying t=some d/\(match d with| .struct _| .array ..=>true|_=>false)=true:=by first|kernel_rfl|decide|rfl|exact sY (by kernel_rfl)
 i:(P.info? t).map (·.size)=some sz:=by first|kernel_rfl|decide|rfl|exact sY (by kernel_rfl)
class Ze (P:O4)(t:Nat)(z:outParam O2):Prop where
 i:(P.info? t).map (·.zero)=some (some z):=by first|kernel_rfl|decide|rfl|exact sY (by kernel_rfl)
class Fu (P:O4)(g:Nat)(fn:outParam Func):Prop where
 f:P.funcs[g]?=some fn
 b:fn.body.isNone=false
 nm:(fn.name == "runtime.NumGoroutine")=false
section
variable {K:Fr->O1->Prop}{f:Fr}
theorem xe (h:K f w):XL P ops K [] f w:=by simp only[XL];exact h
theorem xl {l:xD}(E:Z9 ops f o=true)(h:XO P o f w (XL P ops K l)):XL P ops K (o::l) f w:=by
 simp only[XL,E,cond_true];exact h
theorem xs {l:xD}(E:Z9 ops f o=false)(h:XL P ops K l (QN f o.dst undef) w):XL P ops K (o::l) f w:=by
 simp only[XL,E,cond_false];exact h
theorem xv {v:O2}(E:(execOp (ev f) o).run P w=.ok (.value v) w')(h:K (QN f o.dst v) w'):XO P o f w K:=by
 simp only[XO,E,upF];exact h
theorem xk (E:(execOp (ev f) o).run P w=.ok .skip w')(h:K (QN f o.dst undef) w'):XO P o f w K:=by
 simp only[XO,E,upF];exact h
theorem x {l:xD}{v:O2}(E:(execOp (ev f) o).run P w=.ok (.value v) w)(h:XL P ops K l (QN f o.dst v) w)(G:Z9 ops f o=true:=by rfl):XL P ops K (o::l) f w :=
 xl G (xv E h)
theorem xb {l:xD}{q:Prop}[Decidable q](E:(execOp (ev f) o).run P w=.ok (.value (.bool (decide q))) w)(H:q->XL P ops K l (QN f o.dst (.bool true)) w)(I:¬q->XL P ops K l (QN f o.dst (.bool false)) w)
  (G:Z9 ops f o=true:=by rfl):XL P ops K (o::l) f w:=by
 by_cases h:q
 ·rw[OX h]at E;exact x E (H h) G
 rw[OZ h]at E;exact x E (I h) G
variable {C:xz}
theorem pe (h:K f w):XP P ops C K [] f w:=by simp only[XP];exact h
theorem pq {pl:xt}{v:O2}(E:∀w',C w'->(execOp (ev f) (QS ops i)).run P w'=.ok (.value v) w')(h:XP P ops C K pl (QN f (QS ops i).dst v) w)
  (hd:zi (QS ops i)=true:=by rfl) (G:Z9 ops f (QS ops i)=true:=by rfl):XP P ops C K ((i,true)::pl) f w:=by
 simp only[XP,G,cond_true];exact⟨v,λw' H=>E w' (H hd),h⟩
theorem p {pl:xt}{v:O2}(E:∀w',(execOp (ev f) (QS ops i)).run P w'=.ok (.value v) w')(h:XP P ops C K pl (QN f (QS ops i).dst v) w)
  (G:Z9 ops f (QS ops i)=true:=by rfl):XP P ops C K ((i,true)::pl) f w:=by
 simp only[XP,G,cond_true];exact⟨v,λw' _=>E w',h⟩
theorem ps {q:Bool}{pl:xt}(h:XP P ops C K pl (QN f (QS ops i).dst undef) w)
  (E:Z9 ops f (QS ops i)=false:=by rfl):XP P ops C K ((i,q)::pl) f w:=by
 simp only[XP,E,cond_false];exact h
theorem pb {pl:xt}{q:Prop}[Decidable q](E:∀w',(execOp (ev f) (QS ops i)).run P w'=.ok (.value (.bool (decide q))) w')(H:q->XP P ops C K pl (QN f (QS ops i).dst (.bool true)) w)(I:¬q->XP P ops C K pl (QN f (QS ops i).dst (.bool false)) w)
  (G:Z9 ops f (QS ops i)=true:=by rfl):XP P ops C K ((i,true)::pl) f w:=by
 by_cases h:q
 ·rw[OX h]at E;exact p E (H h) G
 rw[OZ h]at E;exact p E (I h) G
theorem pk {pl:xt}(h:XO P (QS ops i) f w λE w'=>C w'/\XP P ops C K pl E w')
  (G:Z9 ops f (QS ops i)=true:=by rfl):XP P ops C K ((i,false)::pl) f w:=by
 simp only[XP,G,cond_true,cond_false];exact h.Y λ_ _ hx=>⟨.inr (.inr hx.1),hx.2⟩
theorem pkl {pl:xt}(h:XO P (QS ops i) f w λE w'=>XP P ops C K pl E w')
  (G:Vk ops i=true:=by rfl) (H:Z9 ops f (QS ops i)=true:=by rfl):XP P ops C K ((i,false)::pl) f w:=by
 simp only[XP,H,cond_true,cond_false];exact h.Y λ_ _ hx=>⟨.inl G,hx⟩
end
section
variable {f:Fr}{pS:String}
theorem Ks {x:O3}:(execOp (ev f) ⟨d,.move x,ty,pS,af,gd⟩).run P w=.ok (.value (ev f x)) w:=by simp[execOp]
theorem Qi {x:O3}:(execOp (ev f) ⟨d,.assign x,ty,pS,af,gd⟩).run P w=.ok (.value (ev f x)) w:=by simp[execOp]
theorem qE {c a b:O3}{t:Bool}(h:ev f c=.bool t):(execOp (ev f) ⟨d,.pick c a b,ty,pS,af,gd⟩).run P w=.ok (.value (bif t then ev f a else ev f b)) w:=by
 cases t <;> simp[execOp,h,asBool]
theorem Zi {x:O3}{vs:LV}{v:O2}(h:ev f x=.tuple vs.toArray)(E:vs[j]?=some v):(execOp (ev f) ⟨d,.extract x j,ty,pS,af,gd⟩).run P w=.ok (.value v) w:=by
 simp[execOp,h,Instr.extract,E]
theorem Qc1 {op:BinOp}{t:TypeId}{x:O3}{k:IntKind}{a b:Int}:(eqGuard op t x y (.int k a) (.int k' b)).run P w=.ok () w:=by
 simp only[eqGuard];split <;> simp
theorem Jy {op:BinOp}{x:O3}{k:IntKind}{a b:Int}{v:O2}(hx:ev f x=.int k a)(G:ev f y=.int k' b)
  (h:(binOp op t (.int k a) (.int k' b)).run P w=.ok v w):(execOp (ev f) ⟨d,.binOp op t x y E,ty,pS,af,gd⟩).run P w=.ok (.value v) w:=by
 simp[execOp,hx,G,Qc1,h]
def inK (k:IntKind)(n:Int):Prop:=match k with
 | .i64=>-9223372036854775808<=n/\n<=9223372036854775807
 | .u8=>0<=n/\n<=255
 | .u16=>0<=n/\n<=65535
 | .u32=>0<=n/\n<=4294967295
 | .u64=>0<=n/\n<=18446744073709551615
 | .i32=>-2147483648<=n/\n<=2147483647
 | _=>False
theorem YR {k:IntKind}{n:Int}(h:inK k n):k.wrap n=n:=by
 cases k <;> simp only[inK]at h <;> simp only[IntKind.wrap,IntKind.bits,IntKind.signed] <;> first|exact h.elim|(simp;omega)
theorem XX {x:O3}{k:IntKind}{a b:Int}(hx:ev f x=.int k a)(G:ev f y=.int k b)(h:inK k (a+b)):
  (execOp (ev f) ⟨d,.binOp .add t x y E,ty,pS,af,gd⟩).run P w=.ok (.value (.int k (a+b))) w:=Jy hx G (by simp[binOp,Op.intArith,YR h])
theorem XR {x:O3}{k:IntKind}{a b:Int}(hx:ev f x=.int k a)(G:ev f y=.int k b)(h:inK k (a - b)):
  (execOp (ev f) ⟨d,.binOp .sub t x y E,ty,pS,af,gd⟩).run P w=.ok (.value (.int k (a - b))) w:=Jy hx G (by simp[binOp,Op.intArith,YR h])
theorem QiK {x:O3}{k:IntKind}{a b:Int}(hx:ev f x=.int k a)(G:ev f y=.int k b)(h:inK k (a*b)):
  (execOp (ev f) ⟨d,.binOp .mul t x y E,ty,pS,af,gd⟩).run P w=.ok (.value (.int k (a*b))) w:=Jy hx G (by simp[binOp,Op.intArith,YR h])
theorem YX {x:O3}{k:IntKind}{a b:Int}(hx:ev f x=.int k a)(G:ev f y=.int k b):
  (execOp (ev f) ⟨d,.binOp .lss t x y E,ty,pS,af,gd⟩).run P w=.ok (.value (.bool (decide (a<b)))) w:=Jy hx G (by simp[binOp,Op.intCmp])
theorem Vi {x:O3}{k:IntKind}{a b:Int}(hx:ev f x=.int k a)(G:ev f y=.int k b):
  (execOp (ev f) ⟨d,.binOp .leq t x y E,ty,pS,af,gd⟩).run P w=.ok (.value (.bool (decide (a<=b)))) w:=Jy hx G (by simp[binOp,Op.intCmp])
theorem Yc {x:O3}{k:IntKind}{a b:Int}(hx:ev f x=.int k a)(G:ev f y=.int k b):
  (execOp (ev f) ⟨d,.binOp .gtr t x y E,ty,pS,af,gd⟩).run P w=.ok (.value (.bool (decide (b<a)))) w:=Jy hx G (by simp[binOp,Op.intCmp])
theorem YC {x:O3}{k:IntKind}{a b:Int}(hx:ev f x=.int k a)(G:ev f y=.int k b):
  (execOp (ev f) ⟨d,.binOp .geq t x y E,ty,pS,af,gd⟩).run P w=.ok (.value (.bool (decide (b<=a)))) w:=Jy hx G (by simp[binOp,Op.intCmp])
theorem QR {x:O3}{k:IntKind}{a b:Int}(hx:ev f x=.int k a)(G:ev f y=.int k b):
  (execOp (ev f) ⟨d,.binOp .eql t x y E,ty,pS,af,gd⟩).run P w=.ok (.value (.bool (decide (a=b)))) w :=
 Jy hx G (by simp[binOp,Op.intCmp];by_cases h:a=b <;> simp[h])
theorem XH {x:O3}{k:IntKind}{a b:Int}(hx:ev f x=.int k a)(G:ev f y=.int k b):
  (execOp (ev f) ⟨d,.binOp .neq t x y E,ty,pS,af,gd⟩).run P w=.ok (.value (.bool (decide (¬a=b)))) w :=
 Jy hx G (by simp[binOp,Op.intCmp];by_cases h:a=b <;> simp[h])
theorem Zy {x:O3}{b:Bool}(hx:ev f x=.bool b):(execOp (ev f) ⟨d,.unOp .not t x,ty,pS,af,gd⟩).run P w=.ok (.value (.bool (!b))) w:=by
 simp[execOp,hx,Op.unary]
theorem Ui {x:O3}{e bys:Nat}[h:Sl P t e sz bys z]{a:Option Addr}{c:Nat}(hx:ev f x=.slice a n c):
  (execOp (ev f) ⟨d,.call ⟨.builtin .len,#[x],#[t]⟩,ty,pS,af,gd⟩).run P w=.ok (.value (sS n)) w:=by
 simp[execOp,resolve,invoke,builtin,Builtin.len_,hx,run_underlying h.u,goInt]
theorem Sl.info {e bys:Nat}(h:Sl P t e sz bys z):∃i,P.info? e=some i/\i.zero=some z/\i.size=sz/\i.bytes=bys:=by
 have:=h.i;cases hi:P.info? e with
 | none=>simp[hi]at this
 | some i=>simp[hi]at this;exact⟨i,U,this.1,this.2.1,this.2.2⟩
theorem Xv {x:O3}{e bys:Nat}[h:Sl P t e sz bys z]{a:Addr}{c:Nat}{k:IntKind}{i:Int}(hx:ev f x=.slice (some a) n c)(E:ev f y=.int k i)(G:0<=i)(H:i<n):
  (execOp (ev f) ⟨d,.indexAddr t x y,ty,pS,af,gd⟩).run P w=.ok (.value (.pointer (some (a.add (i.toNat*sz))))) w:=by
 obtain⟨ii,hi,_,I,_⟩:=Sl.info h;simp[execOp,hx,E,Instr.indexAt,asIntOf,run_underlying h.u,G,H,sizeOf,typeInfo,hi,I]
theorem Qax [h:X8 P t]:(isAgg t).run P w=.ok false w:=by
 obtain⟨d,E,hd⟩:=h.u;unfold isAgg;cases d <;> simp at hd <;> simp[run_underlying E]
theorem QcS [h:Ag P t sz]:(isAgg t).run P w=.ok true w:=by
 obtain⟨d,E,hd⟩:=h.u;unfold isAgg;cases d <;> simp at hd <;> simp[run_underlying E]
theorem Xu [h:X8 P t]{a:Addr}{v:O2}(E:w.cell? a=some v):(loadVar t a).run P w=.ok v w:=by
 simp[loadVar,Qax,E]
theorem Qd1 [h:X8 P t]:(sizeOf t).run P w=.ok 1 w:=by
 have:=h.i;cases hi:P.info? t with
 | none=>simp[hi]at this
 | some i=>simp[hi]at this;simp[sizeOf,typeInfo,hi,this]
theorem VT [h:Ag P t sz]:(sizeOf t).run P w=.ok sz w:=by
 have:=h.i;cases hi:P.info? t with
 | none=>simp[hi]at this
 | some i=>simp[hi]at this;simp[sizeOf,typeInfo,hi,this]
theorem Kh {a:Addr}:∀(vs:LV) (i:Nat) (acc:Array O2),(∀j v,vs[j]?=some v->w.cell? (a.add (i+j))=some v)->(loadCellsFrom a i vs.length acc).run P w=.ok (acc++vs.toArray) w
 | [],_,acc,_=>by simp[loadCellsFrom]
 | v::vs,i,acc,h=>by
  have E:=h 0 v U;simp only[OD]at E;simp[loadCellsFrom,E,(Kh vs (i+1) (acc.push v) (λj u G=>by have:=h (j+1) u (oA G);simpa[ON,Nat.add_comm 1 j]using this))]
theorem Yb [h:Ag P t sz]{a:Addr}{vs:LV}(E:vs.length=sz)(G:∀j v,vs[j]?=some v->w.cell? (a.add j)=some v):(loadVar t a).run P w=.ok (sT vs) w:=by
 have:=Kh (P:=P) (w:=w) (a:=a) vs 0 #[] (oA G);subst E;simp[loadVar,QcS,VT (sz:=vs.length),loadCells,this]
theorem QiL [h:X8 P t]{x:O3}{a:Addr}{v:O2}(hx:ev f x=.pointer (some a))(E:w.cell? a=some v):
  (execOp (ev f) ⟨d,.load t x,ty,pS,af,gd⟩).run P w=.ok (.value v) w:=by
 simp[execOp,hx,Instr.loadAt,Instr.sureAddr,Xu E]
theorem zU [h:Ag P t sz]{x:O3}{a:Addr}{vs:LV}(hx:ev f x=.pointer (some a))(E:vs.length=sz)(G:∀j v,vs[j]?=some v->w.cell? (a.add j)=some v):
  (execOp (ev f) ⟨d,.load t x,ty,pS,af,gd⟩).run P w=.ok (.value (sT vs)) w:=by
 simp[execOp,hx,Instr.loadAt,Instr.sureAddr,Yb E G]
theorem Zd {off:Nat}[h:Zg P t j off]{x:O3}{a:Addr}(hx:ev f x=.pointer (some a)):
  (execOp (ev f) ⟨d,.fieldAddr t x j,ty,pS,af,gd⟩).run P w=.ok (.value (.pointer (some (a.add off)))) w:=by
 have E:=h.h;unfold QqO at E;cases H:P.underlying t with
 | none=>simp[H]at E
 | some dd =>
  cases dd <;> simp[H]at E
  rename_i fs;cases G:fs[j]? with
  | none=>simp[G]at E
  | some fd =>
   cases hi:P.info? fd.type with
   | none=>simp[G,hi]at E
   | some i =>
    simp[G,hi]at E;simp[execOp,hx,Instr.fieldAt,run_underlying H,G,Instr.sureAddr,fieldPlace,sizeOf,typeInfo,hi,E]
theorem Uu {x:O3}{a:Addr}(hx:ev f x=.pointer (some a)):(execOp (ev f) ⟨d,.nilCheck x,ty,pS,af,gd⟩).run P w=.ok (.value (.pointer (some a))) w:=by
 simp[execOp,hx]
theorem ZD {fn:Fn}{l l':List O3}:(execOp (ev f) ⟨d,.makeFunc fn l.toArray l'.toArray,ty,pS,af,gd⟩).run P w=.ok (.value (.func fn (l.map (ev f)).toArray (l'.map (ev f)).toArray)) w:=by
 simp[execOp,Instr.makeFunc]
end
def QY (P:O4)(g:Nat)(args:LV)(w:O1)(R:O2->O1->Prop):Prop :=
 Calls P g args.toArray w λe w'=>match e with| .returned v=>R v w'|_=>False
theorem QY.Y {P:O4}{g:Nat}{args:LV}{w:O1}{R R':O2->O1->Prop}(h:QY P g args w R)(G:∀v w',R v w'->R' v w'):QY P g args w R' :=
 Calls.mono h λe w' E=>by cases e <;> first|exact G _ _ E|exact E
theorem xc {f:Fr}{K:Fr->O1->Prop}{pS:String}{x:O3}{l:List O3}
    {first capt:LV} [hF:Fu P g fn] (hx:ev f x=.func (.func g) first.toArray capt.toArray) (h:QY P g (first++l.map (ev f)++capt) w λv w'=>K (QN f d v) w'):
  XO P ⟨d,.call ⟨.value x,l.toArray,at_⟩,ty,pS,af,gd⟩ f w K:=by
 have E:(execOp (ev f) ⟨d,.call ⟨.value x,l.toArray,at_⟩,ty,pS,af,gd⟩).run P w=.ok (.enter g (first++l.map (ev f)++capt).toArray) w:=by
  have G:¬fn.name = "runtime.NumGoroutine" := by simpa using hF.nm
  have H:¬fn.body=none:=by have:=hF.b;intro e;rw[e]at this;cases this
  simp[execOp,resolve,hx,Deferred.ofValue,invoke,callFunc,hF.f,G,H]
 simp only[XO,E,upF];exact h
theorem xf {f:Fr}{K:Fr->O1->Prop}{pS:String}{l:List O3}
    [hF:Fu P g fn] (h:QY P g (l.map (ev f)) w λv w'=>K (QN f d v) w'):
  XO P ⟨d,.call ⟨.value (.func g),l.toArray,at_⟩,ty,pS,af,gd⟩ f w K :=
 xc (first:=[]) (capt:=[]) (g:=g) (fn:=fn) U (oA h)
def ent:LV->Fr
 | [],_=>undef
 | v::_,0=>v
 | _::l,t+1=>ent l t
def qq (P:O4)(f:Fr)(w:O1):List ResultVar->LV->Prop
 | [],[]=>True
 | .tmp t::rs,v::vs=>f t=v/\qq P f w rs vs
 | .cell a t::rs,v::vs=>(∃ad,f a=.pointer (some ad)/\(loadVar t ad).run P w=.ok v w)/\qq P f w rs vs
 | _,_=>False
def tup:LV->O2
 | [v]=>v
 | vs=>.tuple vs.toArray
def rq (P:O4)(rs:List ResultVar)(R:O2->O1->Prop):Exit->Fr->O1->Prop
 | .ret,f,w=>∃vs,qq P f w rs vs/\R (tup vs) w
 | .normal,f,w=>∃vs,qq P f w rs vs/\R (tup vs) w
 | _,_,_=>False
theorem Kg {P:O4}{n:Nat}{a:Act}{f:Fr}{w:O1}(G:Rel n a f)(g:ResultVar->Sem O2)(g1:∀t,g (.tmp t)=pure (a.tmps.getD t undef))
  (H:∀ad t,g (.cell ad t)=(do loadVar t (<-asAddr (a.tmps.getD ad undef)))):∀(rs:List ResultVar) (vs:LV),qq P f w rs vs->(rs.mapM g).run P w=.ok vs w
 | [],[],_=>od
 | [],_::_,h=>h.elim
 | .tmp t::rs,[],h=>h.elim
 | .cell _ _::rs,[],h=>h.elim
 | .tmp t::rs,v::vs,h=>by
  have ih:=Kg G g g1 H rs vs h.2;have E:=G.get t;rw[h.1]at E;simp only[List.mapM_cons,Sem.run_bind,Sem.run_pure,Result.andThen_ok,ih,E,g1]
 | .cell ad t::rs,v::vs,h=>by
  have ih:=Kg G g g1 H rs vs h.2;obtain⟨⟨I,J,O⟩,_⟩:=h;have E:=G.get ad;rw[J]at E;have S:(asAddr (.pointer (some I))).run P w=.ok I w:=rfl;simp only[List.mapM_cons,Sem.run_bind,H,E,S,Sem.run_pure,Result.andThen_ok,O,ih]
theorem QY.of_W {c:Code}{args:LV}{R:O2->O1->Prop}{rs:List ResultVar}
  (J:P.funcs[g]?=some fn) (O:fn.body=some c) (S:fn.ntmps=n) (T:fn.results=rs.toArray) (hl:args.length<=n)
  (h:W P n c (rq P rs R) (ent args) w):QY P g args w R:=by
 unfold W at h;refine calls_of_wp J O (wp_mono (h _ ?_) ?_)
 ·refine⟨by simp[S];omega,U,λt=>?_⟩;have key:∀(l:LV) (t:Nat),l[t]?.getD undef=ent l t:=by
   intro l;induction l with
   | nil=>intro t;rfl
   | cons v l ih=>intro t;cases t with|zero=>rfl|succ t=>simpa[ent]using ih t
  rw[<-key];simp only[Array.getD_eq_getD_getElem?,Array.getElem?_append,Od,o0];by_cases G:t<args.length
  ·simp[G]
  simp[G,Array.getElem?_replicate];split <;> rfl
 rintro e H w' ⟨V,I,_,E⟩;have fin:(∃vs,qq P V w' rs vs/\R (tup vs) w')->H.defers=[]/\∃v,(results fn H.tmps).run P w'=.ok v w'/\R v w':=by
  rintro⟨vs,Y,hR⟩;refine⟨I.defers,tup vs,?_,hR⟩;simp only[results,T,List.mapM_toArray,Sem.run_bind,Sem.run_map];rw[Kg I _ (λ_=>rfl) (λ_ _=>rfl) rs vs Y];cases vs with
  | nil=>rfl
  | cons v vs=>cases vs with|nil=>rfl|cons u us=>rfl
 cases e with
 | normal=>exact fin E
 | ret=>exact fin E
 | exit id=>exact E.elim
 | goto l=>exact E.elim
 | panic c=>exact E.elim
 | outgrown=>exact E.elim
attribute [irreducible] QY
theorem K7 (f:P.funcs[g]?=some fn)(b:fn.body.isNone=false:=by kernel_rfl)(nm:(fn.name == "runtime.NumGoroutine")=false:=by kernel_rfl):Fu P g fn:=⟨f,b,nm⟩
theorem Qc {f:Fr}{Q:Exit->Fr->O1->Prop}{l:xD}{y:Code}(h:XL P l (λf w=>thn (λf w=>W P n y Q f w) Q .normal f w) l f w)(E:XM n l=true:=by rfl):W P n (.seq (.region id l.toArray false) y) Q f w:=Qd (QdC E h)
theorem Qs {f:Fr}{Q:Exit->Fr->O1->Prop}{l:xD}(h:XL P l (λf w=>Q .normal f w) l f w)(E:XM n l=true:=by rfl):W P n (.region id l.toArray false) Q f w:=QdC E h
section
variable {K:Fr->O1->Prop}{f:Fr}{pS:String}{l:xD}
theorem Qa (h:XL P ops K l (QN f d (ev f y)) w)(E:Z9 ops f ⟨d,.move y,ty,pS,af,gd⟩=true:=by rfl):XL P ops K (⟨d,.move y,ty,pS,af,gd⟩::l) f w:=x Ks h E
theorem QH {H:Nat}{E:O3}{k:IntKind}{a b:Int}(hx:ev f E=.int k a)(I:ev f G=.int k b)(h:XL P ops K l (QN f d (.int k (a+b))) w)(J:inK k (a+b):=by exact⟨oa,oa⟩)
  (O:Z9 ops f ⟨d,.binOp .add t E G H,ty,pS,af,gd⟩=true:=by rfl):XL P ops K (⟨d,.binOp .add t E G H,ty,pS,af,gd⟩::l) f w:=x (XX hx I J) h O
theorem Qb (h:K (QN f d (ev f y)) w)(E:Z9 ops f ⟨d,.assign y,ty,pS,af,gd⟩=true:=by rfl):XL P ops K [⟨d,.assign y,ty,pS,af,gd⟩] f w:=x Qi (xe h) E
end
section
variable {C:xz}{K:Fr->O1->Prop}{f:Fr}{pS:String}{l:xD}
theorem Qn (h:XO P o f w (XL P ops K l))(E:Z9 ops f o=true:=by rfl):XL P ops K (o::l) f w:=xl E h
theorem KB (h:XL P ops K l (QN f o.dst undef) w)(E:Z9 ops f o=false:=by rfl):XL P ops K (o::l) f w:=xs E h
theorem QW {E:O3}{vs:LV}{v:O2}(G:ev f E=.tuple vs.toArray)(H:vs[j]?=some v)(h:XL P ops K l (QN f d v) w)(I:Z9 ops f ⟨d,.extract E j,ty,pS,af,gd⟩=true:=by rfl):XL P ops K (⟨d,.extract E j,ty,pS,af,gd⟩::l) f w:=x (Zi G H) h I
theorem QC {c a b:O3}{t:Bool}(E:ev f c=.bool t)(h:XL P ops K l (QN f d (bif t then ev f a else ev f b)) w)(G:Z9 ops f ⟨d,.pick c a b,ty,pS,af,gd⟩=true:=by rfl):XL P ops K (⟨d,.pick c a b,ty,pS,af,gd⟩::l) f w:=x (qE E) h G
theorem Zx {H:Nat}{E:O3}{k:IntKind}{a b:Int}(hx:ev f E=.int k a)(I:ev f G=.int k b)(h:XL P ops K l (QN f d (.bool (decide (¬a=b)))) w)(J:Z9 ops f ⟨d,.binOp .neq t E G H,ty,pS,af,gd⟩=true:=by rfl):XL P ops K (⟨d,.binOp .neq t E G H,ty,pS,af,gd⟩::l) f w:=x (XH hx I) h J
theorem Z5 {H:Nat}{E:O3}{k:IntKind}{a b:Int}(hx:ev f E=.int k a)(I:ev f G=.int k b)(h:XL P ops K l (QN f d (.bool (decide (a<b)))) w)(J:Z9 ops f ⟨d,.binOp .lss t E G H,ty,pS,af,gd⟩=true:=by rfl):XL P ops K (⟨d,.binOp .lss t E G H,ty,pS,af,gd⟩::l) f w:=x (YX hx I) h J
theorem Yd {E:O3}{a:Addr}(hx:ev f E=.pointer (some a))(h:XL P ops K l (QN f d (.pointer (some a))) w)(G:Z9 ops f ⟨d,.nilCheck E,ty,pS,af,gd⟩=true:=by rfl):XL P ops K (⟨d,.nilCheck E,ty,pS,af,gd⟩::l) f w:=x (Uu hx) h G
theorem Zq {c:Code}{args:LV}{R:O2->O1->Prop}{rs:List ResultVar}(E:P.funcs[g]?=some fn)(h:W P n c (rq P rs R) (ent args) w)(G:fn.body=some c:=by rfl)(H:fn.ntmps=n:=by rfl)(I:fn.results=rs.toArray:=by rfl)(J:Nat.ble args.length n=true:=by rfl):QY P g args w R:=QY.of_W E G H I (LZ J) h
def YW:Nat->Nat->LN->List (Nat×Bool)
 | _,0,_=>[]
 | i,n+1,fs=>(i,!fs.contains i)::YW (i+1) n fs
def fuB (P:O4)(g:Nat):Bool:=match P.funcs[g]? with|some fn=>!fn.body.isNone && !(fn.name == "runtime.NumGoroutine")|none=>false
theorem fuE (h:fuB P g=true):∃fn,Fu P g fn:=by
 unfold fuB at h;split at h
 ·next fn E=>simp only[oM,Oe]at h;exact⟨fn,E,h.1,h.2⟩
 cases h
theorem xg {f:Fr}{K:Fr->O1->Prop}{pS:String}{l:List O3}(h:QY P g (l.map (ev f)) w λv w'=>K (QN f d v) w')(E:fuB P g=true:=by kernel_rfl):XO P ⟨d,.call ⟨.value (.func g),l.toArray,at_⟩,ty,pS,af,gd⟩ f w K:=(fuE E).elim λ_ _=>xf h
theorem Qz {l':List O3}(h:QY P g (l'.map (ev f)) w λv w'=>XL P ops K l (QN f d v) w')(E:fuB P g=true:=by kernel_rfl)(G:Z9 ops f ⟨d,.call ⟨.value (.func g),l'.toArray,at_⟩,ty,pS,af,gd⟩=true:=by rfl):XL P ops K (⟨d,.call ⟨.value (.func g),l'.toArray,at_⟩,ty,pS,af,gd⟩::l) f w:=xl G (xg h E)
theorem jF {l':List O3}[Fu P g fn](h:QY P g (l'.map (ev f)) w λv w'=>XL P ops K l (QN f d v) w')(E:Z9 ops f ⟨d,.call ⟨.value (.func g),l'.toArray,at_⟩,ty,pS,af,gd⟩=true:=by rfl):XL P ops K (⟨d,.call ⟨.value (.func g),l'.toArray,at_⟩,ty,pS,af,gd⟩::l) f w:=xl E (xf h)
theorem Qv {E:O3}:∀w',(execOp (ev f) ⟨d,.move E,ty,pS,af,gd⟩).run P w'=.ok (.value (ev f E)) w':=λ_=>Ks
theorem ZG {E:O3}:∀w',(execOp (ev f) ⟨d,.assign E,ty,pS,af,gd⟩).run P w'=.ok (.value (ev f E)) w':=λ_=>Qi
theorem Y9 {c a b:O3}{t:Bool}(h:ev f c=.bool t):∀w',(execOp (ev f) ⟨d,.pick c a b,ty,pS,af,gd⟩).run P w'=.ok (.value (bif t then ev f a else ev f b)) w':=λ_=>qE h
theorem Yt {E:O3}{a:Addr}(hx:ev f E=.pointer (some a)):∀w',(execOp (ev f) ⟨d,.nilCheck E,ty,pS,af,gd⟩).run P w'=.ok (.value (.pointer (some a))) w':=λ_=>Uu hx
theorem Qj {Q:Exit->Fr->O1->Prop}{c:Code}(h:XL P (⟨d,.move y,ty,pS,af,gd⟩::l) (λf w=>thn (λf w=>W P n c Q f w) Q .normal f w) l (QN f d (ev f y)) w)(E:Z9 (⟨d,.move y,ty,pS,af,gd⟩::l) f ⟨d,.move y,ty,pS,af,gd⟩=true:=by rfl)(G:XM n (⟨d,.move y,ty,pS,af,gd⟩::l)=true:=by rfl):W P n (.seq (.region id (⟨d,.move y,ty,pS,af,gd⟩::l).toArray false) c) Q f w:=Qc (Qa h E) G
theorem Zo {Q:Exit->Fr->O1->Prop}{H:Nat}{E:O3}{k:IntKind}{a b:Int}{c1 c2 c3:Code}(hx:ev f E=.int k a)(I:ev f G=.int k b)(J:¬a<b->W P n c2 (thn (λf w=>W P n c3 Q f w) Q) (QN f (some j) (.bool (decide (a<b)))) w)(O:a<b->W P n c1 (thn (λf w=>W P n c3 Q f w) Q) (QN f (some j) (.bool (decide (a<b)))) w)(S:Z9 [⟨some j,.binOp .lss t E G H,ty,pS,af,gd⟩] f ⟨some j,.binOp .lss t E G H,ty,pS,af,gd⟩=true:=by rfl)(T:XM n [⟨some j,.binOp .lss t E G H,ty,pS,af,gd⟩]=true:=by rfl):W P n (.seq (.region id #[⟨some j,.binOp .lss t E G H,ty,pS,af,gd⟩] false) (.seq (.cond (.tmp j) c1 c2) c3)) Q f w:=Qc (Z5 hx I (xe (Qd (ZH (by simp[ev,QN,upd]) J O))) S) T
theorem Ys {o2:Oper}(h:XL P ops K l (QN (QN f o.dst undef) o2.dst undef) w)(E:Z9 ops (QN f o.dst undef) o2=false:=by rfl)(G:Z9 ops f o=false:=by rfl):XL P ops K (o::o2::l) f w:=KB (KB h E) G
theorem Zt {o2 o3:Oper}(h:XL P ops K l (QN (QN (QN f o.dst undef) o2.dst undef) o3.dst undef) w)(E:Z9 ops (QN (QN f o.dst undef) o2.dst undef) o3=false:=by rfl)(G:Z9 ops (QN f o.dst undef) o2=false:=by rfl)(H:Z9 ops f o=false:=by rfl):XL P ops K (o::o2::o3::l) f w:=KB (Ys h E G) H
theorem pkk {pl:xt}(h:XO P (QS ops i) f w λE w'=>XP P ops C K pl E w')(G:Vk ops i=true:=by kernel_rfl)(H:Z9 ops f (QS ops i)=true:=by rfl):XP P ops C K ((i,false)::pl) f w:=pkl h G H
theorem Q7 {Q:Exit->Fr->O1->Prop}{c:Code}(D:xu)(S:α->List (Nat×O2))(I:α->O1->Prop)(m:α->Nat)(z:α)(E:Y1 f (S z))(G:I z w)(round:∀x g w',I x w'->W P n c (thn (λH J=>∃x',m x'<m x/\Y1 H (S x')/\I x' J) (blk id Q)) (UP (S x) (mix D f g)) w')(hD:wr D c=true:=by rfl):W P n (.block id (.loop c)) Q f w:=Qm (QpT D S I m hD z E G round)
end
structure O5 (L:LN)(w w':O1):Prop where
 os:w'.os=w.os
 tape:w'.tape=w.tape
 output:w'.output=w.output
 size:w.heap.size<=↑w'
 block:∀k,k<↑w->k∉L->w'.heap[k]?=w.heap[k]?
abbrev sX (w w':World):Prop:=O5 [] w w'
theorem O5.Z (L:LN)(w:O1):O5 L w w:=⟨U,U,U,Lx _,λ_ _ _=>U⟩
theorem O5.C (L:LN)(w:O1):O5 L w { w with drawn:=w.drawn+1 }:=⟨U,U,U,Lx _,λ_ _ _=>U⟩
theorem O5.Y {L L':LN}(h:O5 L w w')(E:∀b∈L,b∈L'):O5 L' w w' :=
 ⟨h.os,h.tape,h.output,h.size,λk G H=>h.block k G (λI=>H (E k I))⟩
theorem O5.any {L:LN}(h:sX w w'):O5 L w w':=h.Y (λ_ E=>by cases E)
theorem O5.S {L L':LN}{E:O1}(h:O5 L E w)(k:O5 L' w w')(I:∀b∈L',b∈L\/↑E<=b):O5 L E w' :=
 ⟨k.os.D h.os,k.tape.D h.tape,k.output.D h.output,LH h.size k.size,λi hi G =>
  (k.block i (LQ hi h.size) (λJ=>by rcases I i J with H|H;exact G H;omega)).D (h.block i hi G)⟩
theorem O5.D {L:LN}{E:O1}(h:O5 L E w)(k:sX w w'):O5 L E w':=h.S k (λ_ G=>by cases G)
theorem O5.Q {L:LN}{E:O1}(h:O5 L E w)(k:O5 L w w'):O5 L E w':=h.S k (λ_ G=>.inl G)
theorem O5.below (h:sX w w'):Below ↑w w w':=⟨h.os,h.tape,h.output,h.size,λk E=>h.block k E od⟩
theorem O5.of_below (h:Below ↑w w w'):sX w w':=⟨h.os,h.tape,h.output,h.size,λk E _=>h.block k E⟩
theorem O5.of_grown {row:xE}(h:w.grownBy w' row):O5 row.toList w w' :=
 ⟨h.os,h.tape,h.output,h.size,λk E G=>h.block k E (λe=>G (by simp[<-e]))⟩
theorem qY (w:O1)(o:Obj)(k:Nat)(h:k<↑w):(w.alloc o).heap[k]?=w.heap[k]?:=by
 show(w.heap.push o)[k]?=_;rw[Array.getElem?_push,OT oa]
theorem Kx (w:O1)(o:Obj):(w.alloc o).heap[w.heap.size]?=some o:=by
 show(w.heap.push o)[w.heap.size]?=_;simp
theorem V3 (w:O1)(o:Obj):(w.alloc o).heap.size=w.heap.size+1:=by show(w.heap.push o).size=_;simp
theorem O5.alloc (w:O1)(o:Obj):sX w (w.alloc o):=⟨U,U,U,by rw[V3];omega,λk E _=>qY w o k E⟩
theorem O5.setRow (w:O1)(g:Nat)(cs:Array O2):O5 [g] w (w.setRow g cs):=
 ⟨U,U,U,by simp[World.setRow],λk _ E=>setRow_other w g k cs (λe=>E (by simp[e]))⟩
def cel (H:xA)(a:Addr):Option O2:=match H[a.block]? with
 | some (.cells c _ _)=>if a.spot.isSome then none else c[a.off]?
 | _=>none
theorem JS (w:O1)(a:Addr):w.cell? a=cel ↑w a:=rfl
structure At (L:LN)(H:xA)(a:Addr)(us:LV):Prop where
 out:∀u∈us,a.block∉L
 lt:∀u∈us,a.block<H.size
 cell:∀j u,us[j]?=some u->cel H (a.add j)=some u
theorem YB (a:Addr)(j:Nat):(a.add j).block=a.block:=by unfold Addr.add;split <;> rfl
theorem QkK {L:LN}(h:O5 L w w'){a:Addr}(E:a.block∉L)(G:a.block<↑w):cel ↑w' a=cel ↑w a:=by
 unfold cel;rw[h.block _ G E]
theorem At.J {L X:LN}{a:Addr}{us:LV}(h:At L ↑w a us)(G:O5 X w w')(I:∀b∈X,b∈L):At L ↑w' a us :=
 ⟨h.out,λu E=>LQ (h.lt u E) G.size,λj u E=>by
  have H:=Mt E;rw[QkK (L:=X) G (by rw[YB];exact λhx=>h.out u H (I _ hx)) (by rw[YB];exact h.lt u H)];exact h.cell j u E⟩
theorem At.I {L:LN}{a:Addr}{us:LV}(h:At L ↑w a us)(E:sX w w'):At L ↑w' a us:=h.J E (λ_ G=>by cases G)
theorem At.st {L:LN}{a:Addr}{us:LV}(h:At L ↑w a us)(E:O5 L w w'):At L ↑w' a us:=h.J E (λ_ G=>G)
theorem At.one {L:LN}{a:Addr}{u:O2}(h:At L ↑w a [u]):w.cell? a=some u:=by
 have:=h.cell 0 u U;simp only[Addr.add,if_true]at this;exact this
theorem At.cells {L:LN}{a:Addr}{us:LV}(h:At L ↑w a us):∀j v,us[j]?=some v->w.cell? (a.add j)=some v:=h.cell
theorem Addr.add_add (a:Addr)(i j:Nat):(a.add i).add j=a.add (i+j):=by
 unfold Addr.add;by_cases hi:i=0
 ·subst hi;simp
 by_cases E:j=0
 ·subst E;simp
 simp[hi,E,ON]
theorem At.fld {L:LN}{a:Addr}{us:LV}(h:At L H a us)(j:Nat)(u:O2)(E:us[j]?=some u):At L H (a.add j) [u]:=
 ⟨λ_ _=>by rw[YB];exact h.out u (Mt E),λ_ _=>by rw[YB];exact h.lt u (Mt E),λi v G=>by
  cases i with
  | zero=>simp at G;subst G;rw[Addr.add_add,Np];exact h.cell j u E
  | succ i=>simp at G⟩
theorem At.up {L L':LN}{a:Addr}{us:LV}(h:At L H a us)(I:∀b∈L',b∈L\/H.size<=b):At L' H a us :=
 ⟨λu E J=>by rcases I _ J with G|G;exact h.out u E G;have:=h.lt u E;omega,h.lt,h.cell⟩
def Zn (L:LN)(H:xA)(v:O2)(n sz:Nat)(cs:LV):Prop :=
 cs.length=n*sz/\n<=1099511627776/\((v=nS/\n=0)\/∃a cap,v=.slice (some a) n cap/\n<=cap/\At L H a cs)
theorem Zn.J {L X:LN}{w w':O1}{v:O2}{n sz:Nat}{cs:LV}(h:Zn L ↑w v n sz cs)(E:O5 X w w')(G:∀b∈X,b∈L):Zn L ↑w' v n sz cs :=
 ⟨h.1,h.2.1,h.2.2.imp id λ⟨a,cap,H,I,J⟩=>⟨a,cap,H,I,J.J E G⟩⟩
theorem Zn.I {L:LN}{v:O2}{cs:LV}(h:Zn L ↑w v n sz cs)(E:sX w w'):Zn L ↑w' v n sz cs:=h.J E (λ_ G=>by cases G)
theorem Zn.st {L:LN}{v:O2}{cs:LV}(h:Zn L ↑w v n sz cs)(E:O5 L w w'):Zn L ↑w' v n sz cs:=h.J E (λ_ G=>G)
theorem Zn.up {L L':LN}{H:xA}{v:O2}{n sz:Nat}{cs:LV}(h:Zn L H v n sz cs)(E:∀b∈L',b∈L\/H.size<=b):Zn L' H v n sz cs :=
 ⟨h.1,h.2.1,h.2.2.imp id λ⟨a,cap,G,I,J⟩=>⟨a,cap,G,I,J.up E⟩⟩
theorem Zn.nil (L:LN)(H:xA)(sz:Nat):Zn L H (nS) 0 sz []:=⟨od,oa,.inl ⟨rfl,rfl⟩⟩
theorem Zn.shape {L:LN}{v:O2}{cs:LV}(h:Zn L H v n sz cs):∃a cap,v=.slice a n cap:=by
 rcases h.2.2 with⟨E,G⟩|⟨a,cap,E,_⟩
 ·exact⟨none,0,by rw[E,G]⟩
 exact⟨some a,cap,E⟩
theorem Zn.one {L:LN}{v:O2}{cs:LV}(h:Zn L H v n sz cs):v.oneCell'=true:=by obtain⟨a,cap,rfl⟩:=h.shape;rfl
theorem Zn.cells {L:LN}{H:xA}{v:O2}{n sz:Nat}{cs:LV}(h:Zn L H v n sz cs):v.cells=#[v]:=by obtain⟨a,cap,rfl⟩:=h.shape;rfl
theorem Zn.le {L:LN}{v:O2}{cs:LV}(h:Zn L H v n sz cs):n<=1099511627776:=h.2.1
theorem Zn.at {L:LN}{H:xA}{v:O2}{n sz:Nat}{cs:LV}(h:Zn L H v n sz cs){i:Nat}(hi:i<n):
  ∃a cap,v=.slice (some a) n cap/\At L H (a.add (i*sz)) ((cs.drop (i*sz)).take sz):=by
 rcases h.2.2 with⟨_,J⟩|⟨a,cap,I,_,G⟩
 ·omega
 refine⟨a,cap,I,λu E=>by rw[YB];exact G.out u (Ma (LX E)),λu E=>by rw[YB];exact G.lt u (Ma (LX E)),λj u E=>?_⟩;rw[Addr.add_add];refine G.cell _ u ?_;rw[LW]at E;split at E
 ·simpa using E
 cases E
abbrev QL (L:LN)(H:xA)(v:O2)(l:LI):Prop:=Zn L H v l.length 1 (l.map (.int .i64))
theorem QL.at {L:LN}{H:xA}{v:O2}{l:LI}(h:QL L H v l){i:Nat}(hi:i<l.length):
  ∃a cap,v=.slice (some a) l.length cap/\At L H (a.add (i*1)) [sS l[i]]:=by
 obtain⟨a,cap,G,E⟩:=Zn.at h hi;refine⟨a,cap,G,?_⟩;have:((l.map (Value.int .i64)).drop (i*1)).take 1=[sS l[i]]:=by
  rw[Nat.mul_one,LF (oA hi)];simp
 rw[this]at E;exact E
def QZ (H:xA)(b T:Nat)(cs:LV):Prop:=H[b]?=some (.cells cs.toArray T (0,0))
theorem QZ.lt {cs:LV}(h:QZ H b T cs):b<H.size:=(LK.1 h).1
theorem QZ.J {X:LN}{cs:LV}(h:QZ ↑w b T cs)(E:O5 X w w')(G:b∉X):QZ ↑w' b T cs:=by
 unfold QZ;rw[E.block b h.lt G];exact h
theorem QZ.I {cs:LV}(h:QZ ↑w b T cs)(E:sX w w'):QZ ↑w' b T cs:=h.J E od
theorem QZ.cell {cs:LV}(h:QZ H b T cs)(j:Nat):cel H ⟨b,j,none⟩=cs[j]?:=by
 unfold QZ at h;simp[cel,h]
theorem Qfv (b j:Nat):(⟨b,0,none⟩:Addr).add j=⟨b,j,none⟩:=by unfold Addr.add;split <;> simp_all
theorem KG (b i j:Nat):(⟨b,i,none⟩:Addr).add j=⟨b,i+j,none⟩:=by unfold Addr.add;split <;> simp_all
theorem QZ.at {L:LN}{cs:LV}(h:QZ H b T cs)(E:b∉L):At L H ⟨b,0,none⟩ cs :=
 ⟨λ_ _=>E,λ_ _=>h.lt,λj u G=>by rw[Qfv,h.cell];exact G⟩
theorem QZ.arr {L:LN}{cs:LV}(h:QZ H b T cs)(E:b∉L)(G:cs.length=n*sz)(I:n<=1099511627776)(J:n<=cap):
  Zn L H (sL b n cap) n sz cs:=⟨G,I,.inr ⟨_,_,U,J,h.at E⟩⟩
def ob:O2->LN
 | .slice (some a) _ _=>[a.block]
 | _=>[]
theorem yL (v:O2):ob v=v.ownBlock.toList:=by
 cases v <;> try rfl
 rename_i a _ _;cases a <;> rfl
theorem Qe {X:LN}{base e:Nat}{v:O2}{cs:LV}(h:w.ownsRow base e sz v n cs)(H:O5 X w w')(I:∀b∈ob v,b∉X):w'.ownsRow base e sz v n cs:=by
 refine⟨h.1,h.2.imp id λ⟨g,cap,cur,E,J,G,O⟩=>⟨g,cap,cur,E,J,?_,O⟩⟩;rw[H.block g (LK.1 G).1 (I g (by rw[E];simp[ob]))];exact G
theorem Ql {base e:Nat}{v:O2}{cs:LV}(h:w.ownsRow base e sz v n cs)(E:sX w w'):w'.ownsRow base e sz v n cs:=Qe h E (λ_ _=>od)
theorem Qg {base e:Nat}{v:O2}{cs:LV}(h:w.ownsRow base e sz v n cs):∀b∈ob v,base<=b/\b<w.heap.size:=by
 intro b E;rcases h.2 with⟨G,_⟩|⟨g,cap,cur,G,H,I,_⟩
 ·subst G;simp[ob]at E
 subst G;simp[ob]at E;subst E;exact⟨H,(LK.1 I).1⟩
theorem ZB {base base' e:Nat}{v:O2}{cs:LV}(h:w.ownsRow base e sz v n cs)(E:base'<=base):w.ownsRow base' e sz v n cs :=
 ⟨h.1,h.2.imp id λ⟨g,cap,cur,G,H,I⟩=>⟨g,cap,cur,G,LH E H,I⟩⟩
theorem QB {L:LN}{base e:Nat}{v:O2}{cs:LV}(h:w.ownsRow base e sz v n cs)(I:n<=1099511627776)(J:∀b∈ob v,b∉L):Zn L ↑w v n sz cs:=by
 refine⟨h.1,I,?_⟩;rcases h.2 with E|⟨g,cap,cur,E,T,H,O,V,Y,S⟩
 ·exact .inl E
 refine .inr ⟨_,_,E,O,λ_ _=>J g (by rw[E];simp[ob]),λ_ _=>(LK.1 H).1,λj u G=>?_⟩;rw[Qfv];unfold cel;simp only[H];rw[<-S,LW]at G;split at G
 ·simpa using G
 cases G
theorem QE (w:O1)(base e sz:Nat):w.ownsRow base e sz (nS) 0 []:=World.ownsRow_nil w base e sz
theorem QZ.own {cs:LV}(h:QZ ↑w b T cs)(E:cs.length=n*sz)(H:n<=1099511627776){base:Nat}(G:base<=b):w.ownsRow base T sz (sL b n n) n cs :=
 ⟨E,.inr ⟨b,n,cs.toArray,U,G,h,Lx _,by simp only[maxLen];omega,by simp[E],by simp[<-E]⟩⟩
section
variable {K:Fr->O1->Prop}{f:Fr}{pS:String}{l:xD}
theorem Yo {x:O3}{e bys:Nat}[Sl P t e E bys z]{L:LN}{cs:LV}{v:O2}(h:Zn L H v n sz cs)(G:ev f x=v):
  (execOp (ev f) ⟨d,.call ⟨.builtin .len,#[x],#[t]⟩,ty,pS,af,gd⟩).run P w=.ok (.value (sS n)) w:=by
 obtain⟨a,cap,I⟩:=h.shape;exact Ui (G.D I)
theorem xi {x:O3}{e bys:Nat}[Sl P t e sz bys z]{L:LN}{cs:LV}{v:O2}{k:IntKind}
  (h:Zn L ↑w v n sz cs) (E:ev f x=v) (G:ev f y=.int k i) (hi:i<n)
  (hK:∀a,At L ↑w a ((cs.drop (i*sz)).take sz)->XL P ops K l (QN f d (.pointer (some a))) w) (H:Z9 ops f ⟨d,.indexAddr t x y,ty,pS,af,gd⟩=true:=by rfl):
  XL P ops K (⟨d,.indexAddr t x y,ty,pS,af,gd⟩::l) f w:=by
 obtain⟨a,cap,I,J⟩:=h.at hi;refine xl H (xv (Xv (E.D I) G oa oa) (hK _ ?_));simpa using J
theorem xii {x:O3}{e bys:Nat}[Sl P t e 1 bys z]{L:LN}{li:LI}{v:O2}{k:IntKind}
  (h:QL L ↑w v li) (E:ev f x=v) (G:ev f y=.int k i) (hi:i<li.length)
  (hK:∀a,At L ↑w a [sS li[i]]->XL P ops K l (QN f d (.pointer (some a))) w) (H:Z9 ops f ⟨d,.indexAddr t x y,ty,pS,af,gd⟩=true:=by rfl):
  XL P ops K (⟨d,.indexAddr t x y,ty,pS,af,gd⟩::l) f w:=by
 obtain⟨a,cap,I,J⟩:=QL.at h hi;refine xl H (xv (Xv (E.D I) G oa oa) (hK _ ?_));simpa using J
theorem Qy [X8 P t]{x:O3}{a:Addr}{L:LN}{u:O2}(h:At L ↑w a [u])(hx:ev f x=.pointer (some a)):
  (execOp (ev f) ⟨d,.load t x,ty,pS,af,gd⟩).run P w=.ok (.value u) w:=QiL hx h.one
theorem Qr [Ag P t sz]{x:O3}{a:Addr}{L:LN}{us:LV}(h:At L ↑w a us)(hx:ev f x=.pointer (some a))(E:us.length=sz):
  (execOp (ev f) ⟨d,.load t x,ty,pS,af,gd⟩).run P w=.ok (.value (sT us)) w:=zU hx E h.cells
theorem Qk [X8 P t]{x:O3}{cs:LV}{u:O2}(h:QZ ↑w b T cs)(hx:ev f x=.pointer (some ⟨b,j,none⟩))(E:cs[j]?=some u):
  (execOp (ev f) ⟨d,.load t x,ty,pS,af,gd⟩).run P w=.ok (.value u) w:=QiL hx (by rw[JS,h.cell];exact E)
theorem Zu [Ag P t sz]{x:O3}{cs:LV}(h:QZ ↑w b T cs)(hx:ev f x=sP b)(E:cs.length=sz):
  (execOp (ev f) ⟨d,.load t x,ty,pS,af,gd⟩).run P w=.ok (.value (sT cs)) w:=zU hx E (h.at (L:=[]) od).cells
theorem KC {off:Nat}[Zg P t j off]{x:O3}{o:Nat}(hx:ev f x=.pointer (some ⟨b,o,none⟩)):
  (execOp (ev f) ⟨d,.fieldAddr t x j,ty,pS,af,gd⟩).run P w=.ok (.value (.pointer (some ⟨b,o+off,none⟩))) w:=by
 rw[<-KG];exact Zd hx
end
section
variable {K:Fr->O1->Prop}{f:Fr}{pS:String}
theorem yN {x:O3}{us:LV}(hx:(ev f x).cells=us.toArray)
  (hK:∀b w',sX w w'->↑w<=b->QZ ↑w' b t us->K (QN f d (sP b)) w'):XO P ⟨d,.box t x,ty,pS,af,gd⟩ f w K:=by
 have E:(execOp (ev f) ⟨d,.box t x,ty,pS,af,gd⟩).run P w=.ok (.value (.pointer (some ⟨↑w,0,none⟩))) (w.alloc (.cells us.toArray t)):=by
  simp[execOp,Instr.box,newVar,newRow,hx]
 exact xv E (hK _ _ (O5.alloc w _) (Lx _) (Kx w _))
theorem K3 [h:Ze P t z]{us:LV}(G:z.cells=us.toArray)
  (hK:∀b w',sX w w'->↑w<=b->QZ ↑w' b t us->K (QN f d (sP b)) w'):XO P ⟨d,.alloc t,ty,pS,af,gd⟩ f w K:=by
 have H:(execOp (ev f) ⟨d,.alloc t,ty,pS,af,gd⟩).run P w=.ok (.value (.pointer (some ⟨↑w,0,none⟩))) (w.alloc (.cells us.toArray t)):=by
  have hi:=h.i;cases E:P.info? t with
  | none=>simp[E]at hi
  | some i =>
   simp[E]at hi;simp[execOp,Instr.alloc,newVar,newRow,zeroValue,typeInfo,E,hi,G]
 exact xv H (hK _ _ (O5.alloc w _) (Lx _) (Kx w _))
def yl (sz:Nat):LV->List (LV)->Prop
 | [],[]=>True
 | v::vs,u::us=>v.cells=u.toArray/\u.length=sz/\yl sz vs us
 | _,_=>False
theorem jf {sz:Nat}:∀(vs:LV) (us:List (LV)) (E:Nat) (pre rest:LV),yl sz vs us->pre.length=E*sz->rest.length=vs.length*sz ->
  Instr.fill (λi=>some (i*sz,sz)) (pre++rest).toArray ((vs.zipIdx E).map λx=>(x.2,x.1))=some (pre++us.flatten).toArray
 | [],[],E,pre,rest,_,_,G=>by
  have:rest=[]:=Ls (oA G);subst this;simp[Instr.fill]
 | [],_::_,_,_,_,h,_,_=>h.elim
 | _::_,[],_,_,_,h,_,_=>h.elim
 | v::vs,u::us,E,pre,rest,h,H,G=>by
  obtain⟨I,J,T⟩:=h;have ha:sz<=rest.length:=by rw[G];simp[Oq]
  have ih:=jf vs us (E+1) (pre++u) (rest.drop sz) T (by simp[H,J,Oq]) (by simp only[Oa,G,oX,Oq,Nat.one_mul];omega);simp only[List.zipIdx_cons,oY];unfold Instr.fill;have V:v.cells.size=sz:=by rw[I];simp[J]
  simp only[V];rw[OT (by simp;omega)];have key:v.cells.zipIdx.foldl (λcs (x:O2×Nat)=>cs.setIfInBounds (E*sz+x.2) x.1) (pre++rest).toArray=(pre++u++rest.drop sz).toArray:=by
   rw[<-Array.foldl_toList,Array.toList_zipIdx,I];obtain⟨g1,Y⟩:=Great.foldl_set (E*sz) u 0 (pre++rest).toArray;apply Array.ext';apply M5;intro k;simp only[Array.getElem?_toList];rw[(Y k)];simp only[OD,Od,oN,o0];split
   ·rename_i O;rw[LC,MM oa,Mo oa,<-H]
   rename_i O;by_cases S:k<pre.length
   ·rw[LC,Mo S,Mo S]
   rw[LC,MM oa,MM oa];by_cases hb:k<pre.length+sz
   ·exfalso;apply O;omega
   rw[MM oa,My];congr 1;omega
  have he:=ih;rw[LC pre u]at key;rw[show(v.cells.zipIdx.foldl (λcs (x:O2×Nat)=>cs.setIfInBounds (E*sz+x.2) x.1) (pre++rest).toArray)=(pre++u++rest.drop sz).toArray by rw[key,LC]];rw[ih];simp
theorem jX (f:Fr):∀(ps:List (Nat×O3)) (i:Nat),ps.map (·.1)=oS i ps.length->(ps.map λx=>(x.1,ev f x.2))=((ps.map λx=>ev f x.2).zipIdx i).map λx=>(x.2,x.1)
 | [],_,_=>rfl
 | p::ps,i,h=>by
  simp only[oY,oX,OC,List.cons.injEq]at h;simp only[oY,List.zipIdx_cons];rw[jX f ps (i+1) h.2,h.1]
theorem Xy {e bys:Nat}[h:Sl P t e sz bys z]{parts:List (Nat×O3)}{us:List (LV)}(G:parts.map (·.1)=oS 0 n)(H:parts.length=n)(I:0<n)(Y:n*sz<=1000000)
  (J:yl sz (parts.map λx=>ev f x.2) us)
  (hK:∀b w',sX w w'->↑w<=b->QZ ↑w' b e us.flatten->K (QN f d (sL b n n)) w'):XO P ⟨d,.buildSlice t n parts.toArray,ty,pS,af,gd⟩ f w K:=by
 obtain⟨ie,O,S,E,_⟩:=Sl.info h;subst H;have hm:0<parts.length*sz:=Nat.mul_pos I h.pos;have T:Instr.fill (λi=>some (i*ie.size,ie.size)) ((Array.range (parts.length*ie.size)).map (z.cells[· % z.cells.size]!)) (parts.toArray.map λ(i,x)=>(i,ev f x)).toList=some us.flatten.toArray:=by
  rw[E];have:=jf (parts.map λx=>ev f x.2) us 0 [] ((Array.range (parts.length*sz)).map (z.cells[· % z.cells.size]!)).toList J od od;simp only[Om,Array.toArray_toList]at this;rw[<-this,<-jX f parts 0 G];simp
 have V:(execOp (ev f) ⟨d,.buildSlice t parts.length parts.toArray,ty,pS,af,gd⟩).run P w=.ok (.value (.slice (some ⟨↑w,0,none⟩) parts.length parts.length)) (w.alloc (.cells us.flatten.toArray e)):=by
  have:=run_buildSlice (P:=P) w t e parts.length (parts.toArray.map λ(i,x)=>(i,ev f x)) us.flatten.toArray ie z h.u O S (by rw[E];omega) (by rw[E];omega) T;simp only[execOp,Sem.run_bind,this,Result.andThen_ok,Sem.run_pure]
 exact xv V (hK _ _ (O5.alloc w _) (Lx _) (Kx w _))
theorem jH {base e:Nat}{bys:Nat}[h:Sl P t e sz bys z]{v:O2}{cs:LV}(G:w.ownsRow base e sz v n cs)
  {a:Addr} {m c:Nat} {news:LV} (H:news.length=m*sz) (T:∀j u,news[j]?=some u->w.cell? (a.add j)=some u) (h1:∀u∈news,u.oneCell'=true)
  (hb:n+m<=1099511627776) (hs:bys<=128) (he:base<=↑w):
  ∃v' w',(Builtin.append_ #[t,t] ty #[v,.slice (some a) m c]).run P w=.ok v' w'/\w'.ownsRow base e sz v' (n+m) (cs++news)/\O5 (ob v) w w'/\(∀b∈ob v',b∈ob v\/↑w<=b):=by
 obtain⟨i,hi,Y,J,ha⟩:=Sl.info h;have hc:(n+m)*bys<=140737488355328:=LH (Nat.mul_le_mul hb hs) oa;have hf:n+m<=maxLen:=by simp only[maxLen];omega
 by_cases hg:∃g cap cur,v=sL g n cap/\w.heap[g]?=some (.cells cur e (0,0))/\n+m<=cap
 ·obtain⟨v',w',S,ho,ht,_⟩:=run_append_own (P:=P) w base t ty e i z sz bys h.u hi Y J ha h.zs h.pos v n cs G a m c news H T h1 hf hc he;refine⟨v',w',S,ho,by rw[yL];exact O5.of_grown ht,?_⟩;obtain⟨g,cap,cur,rfl,hh,O⟩:=hg;rcases G.2 with⟨h2,_⟩|⟨g2,cap2,hj,h2,h3,h4,h5,h6,h7,h8⟩
  ·cases h2
  cases h2
  have hu:n*i.size+news.length<=hj.size:=by rw[H,h7,J,<-Mu];exact L3 _ O
  rw[(run_append_room (P:=P) w t ty e i h.u hi g n cap hj h4 a m c news (by rw[J];exact H) T h1 O hu)]at S;cases S
  intro b E;exact .inl E
 have new:∀(old:Nat),old<n+m->∀I,I=(Obj.cells (cs.toArray++news.toArray++Builtin.zeroCells z.cells (grownCap w (n+m) old e - (n+m))) e) ->
   (w.drew.alloc I).ownsRow base e sz (.slice (some ⟨↑w,0,none⟩) (n+m) (grownCap w (n+m) old e)) (n+m) (cs++news):=by
  intro old ho I hv;subst hv;have hge:=grownCap_ge w (n+m) old e;have hp:grownCap w (n+m) old e<=maxLen:=grownCap_le_maxLen w (n+m) old e hf;have hq:(cs++news).length=(n+m)*sz:=by rw[Ll,G.1,H,Mu]
  refine⟨hq,.inr ⟨↑w,_,_,U,he,Kx w.drew _,hge,hp,?_,?_⟩⟩
  ·simp only[Array.size_append,Od,size_zeroCells,h.zs,G.1,H,<-Oq];congr 1;omega
  simp only[Array.toList_append,o6];rw[<-LC,<-hq];exact List.take_left
 have stp:∀I,O5 (ob v) w (w.drew.alloc I):=λI=>⟨U,U,U,by rw[V3];exact NP _,λk hk _=>qY w.drew I k hk⟩;have fin:∀(b:Nat),b∈ob (.slice (some ⟨↑w,0,none⟩) (n+m) 0)->b∈ob v\/↑w<=b:=λb E=>by simp[ob]at E;omega
 rcases G.2 with⟨rfl,rfl⟩|⟨g,cap,cur,rfl,h9,hh,hA,hp,hB,hC⟩
 ·have hx:cs=[]:=Ls (oA G.1);subst hx;by_cases hm:m=0
  ·subst hm;have V:news=[]:=Ls (oA H);subst V;refine⟨nS,w,?_,QE _ _ _ _,O5.Z _ _,λb E=>by simp[ob]at E⟩;simp[Builtin.append_,run_underlying h.u,sizeOf,typeInfo,hi,Builtin.lenOf,Builtin.firstCells,loadCells,loadCellsFrom]
  have S:=run_append_nil (P:=P) w t ty e i z h.u hi Y a m c news (by rw[J];exact H) T oa oa (by rw[ha];have hw:=hc;simp only[oZ]at hw;omega);have V:=new 0 oa _ U;simp only[oZ,Om,Array.empty_append]at V ⊢;exact⟨_,_,S,V,stp _,λb E=>fin b E⟩
 have O:cap<n+m:=by
  rcases Ns cap (n+m)with hy|hge
  ·exact hy
  exact OW ⟨g,cap,cur,U,hh,hge⟩ hg
 have h0:∀j u,cs[j]?=some u->w.cell? ((⟨g,0,none⟩:Addr).add j)=some u:=G.cells (g:=g) U;exact⟨_,_,(run_append_grow (P:=P) w t ty e i z h.u hi Y ⟨g,0,none⟩ n cap cs (by rw[J];exact G.1) h0 a m c news (by rw[J];exact H) T O oa (growslice_fits O (by rw[ha];exact hc))),new cap O _ U,stp _,λb E=>fin b E⟩
theorem Q2 {e bys:Nat}[h:Sl P t e sz bys z]{s:O3}{base:Nat}{v:O2}{cs:LV}(E:w.ownsRow base e sz v n cs)(G:ev f s=v)
  {a:Addr} {m c:Nat} {news:LV} (H:ev f y=.slice (some a) m c) (I:news.length=m*sz) {L:LN} (J:At L ↑w a news) (O:∀u∈news,u.oneCell'=true)
  (S:n+m<=1099511627776) (T:base<=↑w)
  (hK:∀v' w',w'.ownsRow base e sz v' (n+m) (cs++news)->O5 (ob v) w w'->(∀b∈ob v',b∈ob v\/↑w<=b)->K (QN f d v') w') (V:bys<=128:=by decide):
  XO P ⟨d,.call ⟨.builtin .append,#[s,y],#[t,t]⟩,ty,pS,af,gd⟩ f w K:=by
 obtain⟨v',w',Y,h2,h3,h4⟩:=jH (P:=P) (t:=t) (ty:=ty) E I J.cells O S V T (c:=c);have ha:(execOp (ev f) ⟨d,.call ⟨.builtin .append,#[s,y],#[t,t]⟩,ty,pS,af,gd⟩).run P w=.ok (.value v') w':=by
  simp[execOp,resolve,invoke,builtin,G,H,Y]
 exact xv ha (hK v' w' h2 h3 h4)
end
def QpN (P:O4)(t:Nat):Option (LV×LN):=match P.info? t,P.underlying t with
 | some it,some (.struct fs)=>match it.zero,fs.toList.mapM (λf=>(P.info? f.type).bind λi=>if i.size=1 then some f.offset else none)with
  | some (.agg zs),some offs=>some (zs.toList,offs)
  | _,_=>none
 | some it,some (.array n e)=>match it.zero,P.info? e with
  | some (.agg zs),some ie=>if ie.size=1 then some (zs.toList,oV n)else none
  | _,_=>none
 | _,_=>none
class Bs (P:O4)(t:Nat)(zs:outParam (LV))(offs:outParam (LN)):Prop where
 h:QpN P t=some (zs,offs):=by first|kernel_rfl|decide|rfl|exact sY (by kernel_rfl)
 b:offs.all (·<zs.length)=true:=by first|kernel_rfl|decide|rfl|exact sY (by kernel_rfl)
def bld (offs:LN)(zs:LV):List (Nat×O2)->LV
 | []=>zs
 | (j,v)::ps=>bld offs (zs.set (offs.getD j 0) v) ps
def QnI:LV->Prop
 | []=>True
 | v::vs=>v.cells=#[v]/\QnI vs
theorem je {place:Nat->Option (Nat×Nat)}{offs:LN}(G:∀j,j<offs.length->place j=some (offs.getD j 0,1)):∀(ps:List (Nat×O2)) (zs:LV),QnI (ps.map (·.2))->ps.all (λp=>p.1<offs.length)=true ->
  (∀o∈offs,o<zs.length)->Instr.fill place zs.toArray ps=some (bld offs zs ps).toArray
 | [],zs,_,_,_=>rfl
 | (j,v)::ps,zs,H,E,I=>by
  simp only[oT,oM,decide_eq_true_eq]at E;have S:offs.getD j 0<zs.length:=I _ (by simp[oR,Og E.1]);unfold Instr.fill;simp only[(G j E.1)];have J:v.cells=#[v]:=H.1;simp only[J];rw[OT (by rw[show(#[v]:Array O2).size=1 from rfl,LR];simp only[ne_eq,not_true,decide_false,Bool.false_or,decide_eq_true_eq];omega)];have:(#[v]:Array O2).zipIdx.foldl (λcs (x:O2×Nat)=>cs.setIfInBounds (offs.getD j 0+x.2) x.1) zs.toArray=(zs.set (offs.getD j 0) v).toArray:=by
   simp[Array.zipIdx]
  rw[this];exact je G ps _ H.2 E.2 (λo O=>by rw[Mb];exact I o O)
theorem QeH {zs:LV}{offs:LN}(h:QpN P t=some (zs,offs))(hb:offs.all (·<zs.length)=true)(ps:List (Nat×O2))(T:QnI (ps.map (·.2)))(V:ps.all (λp=>p.1<offs.length)=true):
  P.built t ps=some (bld offs zs ps).toArray:=by
 have Y:∀o∈offs,o<zs.length:=λo ho=>oA (Mh.1 hb o ho)
 unfold QpN at h;unfold Program.built;cases hi:P.info? t with
 | none=>simp[hi]at h
 | some it =>
  cases hu:P.underlying t with
  | none=>simp[hi,hu]at h
  | some dd =>
   simp only[hi,hu]at h;cases dd <;> simp only[]at h <;> try (cases h)
   case struct fs =>
    cases E:it.zero with
    | none=>simp[E]at h
    | some z =>
     cases z <;> simp only[E]at h <;> try (cases h)
     rename_i za;cases I:fs.toList.mapM (λf=>(P.info? f.type).bind λi=>if i.size=1 then some f.offset else none)with
     | none=>simp[I]at h
     | some offs' =>
      simp only[I,Option.some.injEq,Prod.mk.injEq]at h;obtain⟨rfl,rfl⟩:=h;have key:∀(l:List Field) (offs:LN),l.mapM (λf=>(P.info? f.type).bind λi=>if i.size=1 then some f.offset else none)=some offs ->
        l.mapM (λf=>(P.info? f.type).map λi=>(f.offset,i.size))=some (offs.map λo=>(o,1)):=by
       intro l;induction l with
       | nil=>intro offs h;simp at h;subst h;rfl
       | cons f l ih =>
        intro offs h;simp only[List.mapM_cons]at h ⊢;cases J:P.info? f.type with
        | none=>simp[J]at h
        | some i =>
         by_cases G:i.size=1
         ·simp only[J,Option.bind_some,G,if_true,Option.bind_eq_bind]at h;cases O:l.mapM (λf=>(P.info? f.type).bind λi=>if i.size=1 then some f.offset else none)with
          | none=>simp[O]at h
          | some os =>
           simp[O]at h;subst h;simp[ih os O,G]
         simp[J,G]at h
      simp only[E,(key _ _ I),Value.cells];rw[<-je (place:=λj=>((offs'.map λo=>(o,1)).toArray)[j]?) (λj H=>by simp[Og H,oR]) ps za.toList T V Y]
   case array n e =>
    cases E:it.zero with
    | none=>simp[E]at h
    | some z =>
     cases z <;> simp only[E]at h <;> try (cases h)
     rename_i za;cases S:P.info? e with
     | none=>simp[S]at h
     | some ie =>
      simp only[S]at h;split at h
      ·rename_i G;simp only[Option.some.injEq,Prod.mk.injEq]at h;obtain⟨rfl,rfl⟩:=h;simp only[E,S,Value.cells];rw[<-je (place:=λi=>some (i*ie.size,ie.size)) (λj H=>by simp at H;simp[G,oR,H]) ps za.toList T V Y]
      cases h
theorem Qx {f:Fr}{pS:String}{zs:LV}{offs:LN}[h:Bs P t zs offs]{parts:List (Nat×O3)}
  (E:QnI (parts.map λx=>ev f x.2)) (G:parts.all (λp=>p.1<offs.length)=true:=by rfl):
  (execOp (ev f) ⟨d,.build t parts.toArray,ty,pS,af,gd⟩).run P w=.ok (.value (.agg (bld offs zs (parts.map λx=>(x.1,ev f x.2))).toArray)) w:=by
 simp only[execOp,Sem.run_bind,(run_build (P:=P) w t (parts.toArray.map λ(i,x)=>(i,ev f x)) _ (by simpa using(QeH h.h h.b (parts.map λx=>(x.1,ev f x.2)) (by rw[List.map_map];exact E) (by rw[List.all_map];exact G)))),Result.andThen_ok,Sem.run_pure]
section
variable {K:Fr->O1->Prop}{f:Fr}{pS:String}{l:xD}
theorem QQ {off:Nat}[Zg P t j off]{E:O3}{o:Nat}(hx:ev f E=.pointer (some ⟨b,o,none⟩))(h:XL P ops K l (QN f d (.pointer (some ⟨b,o+off,none⟩))) w)(G:Z9 ops f ⟨d,.fieldAddr t E j,ty,pS,af,gd⟩=true:=by rfl):XL P ops K (⟨d,.fieldAddr t E j,ty,pS,af,gd⟩::l) f w:=x (KC hx) h G
theorem Xn [X8 P t]{E:O3}{cs:LV}{u:O2}(G:QZ ↑w b T cs)(hx:ev f E=.pointer (some ⟨b,j,none⟩))(H:cs[j]?=some u)(h:XL P ops K l (QN f d u) w)(I:Z9 ops f ⟨d,.load t E,ty,pS,af,gd⟩=true:=by rfl):XL P ops K (⟨d,.load t E,ty,pS,af,gd⟩::l) f w:=x (Qk G hx H) h I
theorem QT [Ag P t sz]{E:O3}{cs:LV}(G:QZ ↑w b T cs)(hx:ev f E=sP b)(H:cs.length=sz)(h:XL P ops K l (QN f d (sT cs)) w)(I:Z9 ops f ⟨d,.load t E,ty,pS,af,gd⟩=true:=by rfl):XL P ops K (⟨d,.load t E,ty,pS,af,gd⟩::l) f w:=x (Zu G hx H) h I
theorem QF {E:O3}{e G bys:Nat}[Sl P t e G bys z]{L:LN}{cs:LV}{v:O2}(I:Zn L H v n sz cs)(J:ev f E=v)(h:XL P ops K l (QN f d (sS n)) w)(O:Z9 ops f ⟨d,.call ⟨.builtin .len,#[E],#[t]⟩,ty,pS,af,gd⟩=true:=by rfl):XL P ops K (⟨d,.call ⟨.builtin .len,#[E],#[t]⟩,ty,pS,af,gd⟩::l) f w:=x (Yo I J) h O
theorem QG {off:Nat}[Zg P t j off]{E:O3}{o:Nat}(hx:ev f E=.pointer (some ⟨b,o,none⟩)):∀w',(execOp (ev f) ⟨d,.fieldAddr t E j,ty,pS,af,gd⟩).run P w'=.ok (.value (.pointer (some ⟨b,o+off,none⟩))) w':=λ_=>KC hx
theorem Qo {off:Nat}[Zg P t j off]{E:O3}{o:Nat}{G:Nat}[X8 P G]{d2:xE}{I:Nat}{pS2:String}{J:xC}{O:xq}{H:O3}{cs:LV}{u:O2}(hx:ev f E=.pointer (some ⟨b,o,none⟩))(S:QZ ↑w b T cs)(V:ev (QN f d (.pointer (some ⟨b,o+off,none⟩))) H=.pointer (some ⟨b,i,none⟩))(Y:cs[i]?=some u)(h:XL P ops K l (QN (QN f d (.pointer (some ⟨b,o+off,none⟩))) d2 u) w)
  (hg:Z9 ops f ⟨d,.fieldAddr t E j,ty,pS,af,gd⟩=true:=by rfl) (ha:Z9 ops (QN f d (.pointer (some ⟨b,o+off,none⟩))) ⟨d2,.load G H,I,pS2,J,O⟩=true:=by rfl):XL P ops K (⟨d,.fieldAddr t E j,ty,pS,af,gd⟩::⟨d2,.load G H,I,pS2,J,O⟩::l) f w:=QQ hx (Xn S V Y h ha) hg
theorem Za {e bys:Nat}[Sl P t e sz bys z]{parts:List (Nat×O3)}{K:Fr->O1->Prop}(us:List (LV))(hK:∀b w',sX w w'->↑w<=b->QZ ↑w' b e us.flatten->K (QN f d (sL b n n)) w')(E:parts.map (·.1)=oS 0 n:=by rfl)(G:parts.length=n:=by rfl)(H:0<n:=by decide)(I:n*sz<=1000000:=by decide)(J:yl sz (parts.map λx=>ev f x.2) us:=by first|exact(oB)|exact(oD)):XO P ⟨d,.buildSlice t n parts.toArray,ty,pS,af,gd⟩ f w K:=Xy E G H I J hK
theorem Zl {E:O3}(us:LV)(hK:∀b w',sX w w'->↑w<=b->QZ ↑w' b t us->XL P ops K l (QN f d (sP b)) w')(hx:(ev f E).cells=us.toArray:=by rfl)(G:Z9 ops f ⟨d,.box t E,ty,pS,af,gd⟩=true:=by rfl):XL P ops K (⟨d,.box t E,ty,pS,af,gd⟩::l) f w:=xl G (yN hx hK)
end
section
variable {κ:Type}[DecidableEq κ]
def O9:List (κ×O2)->κ->Option O2
 | [],_=>none
 | (k',v)::m,k=>if k'=k then some v else O9 m k
def xd:List (κ×O2)->κ->O2->List (κ×O2)
 | [],k,v=>[(k,v)]
 | (k',v')::m,k,v=>if k'=k then(k',v)::m else(k',v')::xd m k v
theorem XJ (m:List (κ×O2))(k k':κ)(v:O2):O9 (xd m k v) k'=if k=k' then some v else O9 m k':=by
 induction m with
 | nil=>simp[O9,xd]
 | cons p m ih =>
  obtain⟨q,u⟩:=p;simp only[xd];by_cases h:q=k
  ·subst h;simp[O9];by_cases E:q=k' <;> simp[E]
  simp only[h,if_false,O9,ih];by_cases E:q=k'
  ·subst E;simp[Ne.symm h]
  simp[E]
def fnd (k:κ):List κ->List MapEntry->Nat->Option (Nat×O2)
 | q::ks,e::es,i=>if k=q then some (i,e.val)else fnd k ks es (i+1)
 | _,_,_=>none
end
class Key (P:O4)(kt:Nat){κ:Type}[DecidableEq κ](enc:κ->O2):Prop where
 check:∀(w:O1) (em:Bool) (k:κ),(Instr.checkKey em 10000 kt (enc k)).run P w=.ok () w
 find:∀(w:O1) (k:κ) (ks:List κ) (es:List MapEntry),es.map (·.key)=ks.map enc->(Instr.findKey kt (enc k) es).run P w=.ok (fnd k ks es 0) w
 same:∀k,Instr.sameBits 10000 (enc k) (enc k)=true
abbrev Ux (n:Int):O2:=sS n
abbrev Jz (p:Int×Int):O2:=.agg #[sS p.1,sS p.2]
abbrev J0 (s:ByteArray):O2:=.string s
theorem Qmz (G:P.underlying kt=some (.int .i64)):Key P kt Ux:=by
 refine⟨λw em k=>?_,λw k ks es h=>?_,λk=>by simp[Instr.sameBits]⟩
 ·have H:∀n,(Instr.checkKey em (n+1) kt (Ux k)).run P w=.ok () w:=λn=>by simp[Instr.checkKey,run_underlying G]
  exact H 9999
 have key:∀(ks:LI) (es:List MapEntry) (i:Nat),es.map (·.key)=ks.map Ux->Instr.findNow (.int .i64) (Ux k) es i=some (fnd k ks es i):=by
  intro ks;induction ks with
  | nil=>intro es i h;simp at h;subst h;rfl
  | cons q ks ih =>
   intro es i h;cases es with
   | nil=>simp at h
   | cons e es =>
    simp only[oY,List.cons.injEq]at h;simp only[Instr.findNow,h.1,Instr.sameNow,Ux,if_true,fnd];by_cases E:k=q
    ·subst E;simp
    have:(k == q)=false:=by simpa using E
    simp[E,this,(ih es (i+1) h.2)]
 simp[Instr.findKey,run_underlying G,key ks es 0 h]
theorem Qmy (G:P.underlying kt=some .string):Key P kt J0:=by
 refine⟨λw em k=>?_,λw k ks es h=>?_,λk=>by simp[Instr.sameBits,(MapKept.bytes_beq k k).2 rfl]⟩
 ·have H:∀n,(Instr.checkKey em (n+1) kt (J0 k)).run P w=.ok () w:=λn=>by simp[Instr.checkKey,run_underlying G]
  exact H 9999
 have key:∀(ks:List ByteArray) (es:List MapEntry) (i:Nat),es.map (·.key)=ks.map J0->Instr.findNow .string (J0 k) es i=some (fnd k ks es i):=by
  intro ks;induction ks with
  | nil=>intro es i h;simp at h;subst h;rfl
  | cons q ks ih =>
   intro es i h;cases es with
   | nil=>simp at h
   | cons e es =>
    simp only[oY,List.cons.injEq]at h;simp only[Instr.findNow,h.1,Instr.sameNow,J0,fnd];by_cases E:k=q
    ·subst E;simp[(MapKept.bytes_beq k k).2 rfl]
    have:(k == q)=false:=by
     cases I:(k == q)with
     | false=>rfl
     | true=>exact OW ((MapKept.bytes_beq k q).1 I) E
    simp[E,this,(ih es (i+1) h.2)]
 simp[Instr.findKey,run_underlying G,key ks es 0 h]
theorem yz {e:Nat}(V:P.underlying kt=some (.array 2 e))(I:P.underlying e=some (.int .i64))(E:(P.info? e).map (·.size)=some 1)(w:O1)(p q:Int×Int):
  (Op.equal kt (Jz p) (Jz q)).run P w=.ok (decide (p=q)) w:=by
 obtain⟨a,b⟩:=p;obtain⟨c,d⟩:=q;cases hi:P.info? e with
 | none=>simp[hi]at E
 | some ie =>
  simp[hi]at E;have J:∀w,(isAgg e).run P w=.ok false w:=λw=>by simp[isAgg,run_underlying I]
  have G:∀(x y:Int) (w:O1),(part e #[sS x,sS y] 0).run P w=.ok (sS x) w:=λx y w=>by simp[part,J]
  have O:∀(x y:Int) (w:O1),(part e #[sS x,sS y] 1).run P w=.ok (sS y) w:=λx y w=>by simp[part,J]
  have H:∀(m:Nat) (x y:Int) (w:O1),(Op.equalIn (m+1) e (sS x) (sS y)).run P w=.ok (x == y) w:=λm x y w=>by simp[Op.equalIn,run_underlying I]
  simp only[Op.equal,Op.maxDepth,Jz];unfold Op.equalIn;simp only[Sem.run_bind,run_underlying V,Result.andThen_ok,sizeOf,typeInfo,run_program,hi,Sem.run_pure,E];simp only[Std.Legacy.Range.forIn_eq_forIn_range',Std.Legacy.Range.size,OJ,Nat.add_sub_cancel,Nat.div_one,OC,List.range'_zero,List.forIn_cons,List.forIn_nil,OP,Nat.one_mul,oZ];by_cases S:a=c
  ·subst S;by_cases T:b=d
   ·subst T;simp[G,O,H]
   simp[G,O,H,T]
  simp[G,H,S]
theorem Qjq {e:Nat}(E:P.underlying kt=some (.array 2 e))(H:P.underlying e=some (.int .i64))(G:(P.info? e).map (·.size)=some 1):Key P kt Jz:=by
 refine⟨λw em k=>?_,λw k ks es h=>?_,λk=>?_⟩
 ·obtain⟨a,b⟩:=k;cases hi:P.info? e with
  | none=>simp[hi]at G
  | some ie =>
   simp[hi]at G;have J:∀w,(isAgg e).run P w=.ok false w:=λw=>by simp[isAgg,run_underlying H]
   have S:∀(x y:Int) (w:O1),(part e #[sS x,sS y] 0).run P w=.ok (sS x) w:=λx y w=>by simp[part,J]
   have T:∀(x y:Int) (w:O1),(part e #[sS x,sS y] 1).run P w=.ok (sS y) w:=λx y w=>by simp[part,J]
   have V:∀(m:Nat) (x:Int) (w:O1),(Instr.checkKey em (m+1) e (sS x)).run P w=.ok () w:=λm x w=>by simp[Instr.checkKey,run_underlying H]
   simp only[Jz];unfold Instr.checkKey;simp only[Sem.run_bind,run_underlying E,Result.andThen_ok,sizeOf,typeInfo];simp[Std.Legacy.Range.forIn_eq_forIn_range',Std.Legacy.Range.size,OC,hi,G,S,T,V]
 ·have Y:∀es i,es.map (·.key)=ks.map Jz->Instr.findNow (.array 2 e) (Jz k) es i=none\/es=[]:=by
   intro es i h;cases es with
   | nil=>exact .inr U
   | cons e es=>left;simp[Instr.findNow,Instr.sameNow]
  have ask:∀(ks:xw) (es:List MapEntry) (i:Nat),es.map (·.key)=ks.map Jz->(Instr.findAsking kt (Jz k) es i).run P w=.ok (fnd k ks es i) w:=by
   intro ks;induction ks with
   | nil=>intro es i h;simp at h;subst h;simp[Instr.findAsking,fnd]
   | cons q ks ih =>
    intro es i h;cases es with
    | nil=>simp at h
    | cons e es =>
     simp only[oY,List.cons.injEq]at h;simp only[Instr.findAsking,h.1,Sem.run_bind,yz E H G,Result.andThen_ok,fnd];by_cases O:k=q
     ·subst O;simp
     simp[O,(ih es (i+1) h.2)]
  rcases Y es 0 h with I|I
  ·simp[Instr.findKey,run_underlying E,I,ask ks es 0 h]
  subst I;have:ks=[]:=by simpa using h.symm
  subst this;simp[Instr.findKey,run_underlying E,Instr.findNow,fnd]
 simp[Instr.sameBits]
class Mp (P:O4)(t:Nat)(kt et:outParam Nat)(z:outParam O2):Prop where
 u:P.underlying t=some (.map kt et):=by first|kernel_rfl|decide|rfl|exact sY (by kernel_rfl)
 z:(P.info? et).map (·.zero)=some (some z):=by first|kernel_rfl|decide|rfl|exact sY (by kernel_rfl)
def Yu {κ:Type}(enc:κ->O2)(H:xA)(b:Nat)(m:List (κ×O2)):Prop :=
 ∃es clock,H[b]?=some (.map es clock)/\es.toList.map (λe=>(e.key,e.val))=m.map (λp=>(enc p.1,p.2))
section
variable {κ:Type}{enc:κ->O2}
theorem Yu.lt {m:List (κ×O2)}(h:Yu enc H b m):b<H.size:=by
 obtain⟨es,c,E,_⟩:=h;exact(LK.1 E).1
theorem Yu.J {X:LN}{m:List (κ×O2)}(h:Yu enc ↑w b m)(E:O5 X w w')(G:b∉X):Yu enc ↑w' b m:=by
 have H:=h.lt;obtain⟨es,c,I,J⟩:=h;exact⟨es,c,by rw[E.block b H G];exact I,J⟩
theorem Yu.I {m:List (κ×O2)}(h:Yu enc ↑w b m)(E:sX w w'):Yu enc ↑w' b m:=h.J E od
theorem QbE {m:List (κ×O2)}{es:List MapEntry}(h:es.map (λe=>(e.key,e.val))=m.map (λp=>(enc p.1,p.2))):es.map (·.key)=(m.map (·.1)).map enc:=by
 have:=OV (List.map Prod.fst) h;simp only[List.map_map]at this ⊢;exact this
variable [DecidableEq κ]
theorem U7 {k:κ}:∀{m:List (κ×O2)}{es:List MapEntry}{i:Nat},es.map (λe=>(e.key,e.val))=m.map (λp=>(enc p.1,p.2))->O9 m k=none->fnd k (m.map (·.1)) es i=none
 | [],es,i,h,_=>by simp[fnd]
 | (q,u)::m,[],i,h,_=>by simp at h
 | (q,u)::m,e::es,i,h,E=>by
  simp only[oY,List.cons.injEq]at h;simp only[O9]at E;by_cases G:q=k
  ·simp[G]at E
  simp only[G,if_false]at E;simp only[oY,fnd,Ne.symm G,if_false];exact U7 h.2 E
theorem U6 {k:κ}{u:O2}:∀{m:List (κ×O2)}{es:List MapEntry}{i:Nat},es.map (λe=>(e.key,e.val))=m.map (λp=>(enc p.1,p.2))->O9 m k=some u ->
  ∃j,fnd k (m.map (·.1)) es i=some (i+j,u)/\j<es.length/\(∃e,es[j]?=some e/\e.key=enc k) /\
   ∀v,(es.modify j λe=>{ e with key:=enc k,val:=v }).map (λe=>(e.key,e.val))=(xd m k v).map (λp=>(enc p.1,p.2))
 | [],es,i,_,h=>by simp[O9]at h
 | (q,x)::m,[],i,h,_=>by simp at h
 | (q,x)::m,e::es,i,h,E=>by
  simp only[oY,List.cons.injEq,Prod.mk.injEq]at h;simp only[O9]at E;by_cases G:q=k
  ·subst G;simp at E;subst E;refine⟨0,by simp[fnd,h.1.2],od,⟨e,rfl,h.1.1⟩,λv=>?_⟩;simp[xd,h.2]
  simp only[G,if_false]at E;obtain⟨j,H,T,⟨I,J,O⟩,S⟩:=U6 (i:=i+1) h.2 E;refine⟨j+1,?_,by simp;omega,⟨I,oA J,O⟩,λv=>?_⟩
  ·simp only[oY,fnd,Ne.symm G,if_false,H];congr 2;omega
  simp only[xd,G,if_false,List.modify_succ_cons,oY,S v,h.1]
end
section
variable {K:Fr->O1->Prop}{f:Fr}{pS:String}{κ:Type}[DecidableEq κ]
omit [DecidableEq κ] in
theorem YM (enc:κ->O2)
  (hK:∀b w',sX w w'->↑w<=b->Yu enc ↑w' b []->K (QN f d (.map (some b))) w'):XO P ⟨d,.makeMap t none,ty,pS,af,gd⟩ f w K:=by
 have E:(execOp (ev f) ⟨d,.makeMap t none,ty,pS,af,gd⟩).run P w=.ok (.value (.map (some ↑w))) (w.alloc (.map #[] 0)):=by
  simp[execOp,Instr.makeMap]
 exact xv E (hK _ _ (O5.alloc w _) (Lx _) ⟨#[],0,Kx w _,U⟩)
theorem Ji {es:Array MapEntry}{c:Nat}(h:w.heap[b]?=some (.map es c)):(getObj b).run P w=.ok (.map es c) w:=by
 simp[getObj,Sem.run,h]
theorem Uh {es E:Array MapEntry}{c G:Nat}(h:w.heap[b]?=some (.map es c)):(setObj b (.map E G)).run P w=.ok () { w with heap:=w.heap.setIfInBounds b (.map E G) }:=by
 simp[setObj,Sem.run,h]
theorem Vy [hm:Mp P t kt et z]{enc:κ->O2}[G:Key P kt enc]{x:O3}{m:List (κ×O2)}{k:κ}(h:Yu enc ↑w b m)(hx:ev f x=.map (some b))(I:ev f y=enc k):
  (execOp (ev f) ⟨d,.lookup t x y true,ty,pS,af,gd⟩).run P w=.ok (.value (match O9 m k with|some u=>.tuple #[u,.bool true]|none=>.tuple #[z,.bool false])) w:=by
 obtain⟨es,c,J,E⟩:=h;have O:(zeroValue et).run P w=.ok z w:=by
  have:=hm.z;cases hi:P.info? et with
  | none=>simp[hi]at this
  | some i=>simp[hi]at this;simp[zeroValue,typeInfo,hi,this]
 simp only[execOp,Sem.run_bind,Instr.lookup,run_underlying hm.u,Result.andThen_ok,hx,I,Ji J,Sem.run_pure,G.check,(G.find w k (m.map (·.1)) es.toList (QbE E))];cases H:O9 m k with
 | none=>rw[U7 E H];simp[O]
 | some u =>
  obtain⟨j,S,_⟩:=U6 (i:=0) E H;rw[S];simp
theorem JM [hm:Mp P t kt et z]{enc:κ->O2}[G:Key P kt enc]{x:O3}{m:List (κ×O2)}{k:κ}(h:Yu enc ↑w b m)(hx:ev f x=.map (some b))(I:ev f y=enc k):
  (execOp (ev f) ⟨d,.lookup t x y false,ty,pS,af,gd⟩).run P w=.ok (.value (match O9 m k with|some u=>u|none=>z)) w:=by
 obtain⟨es,c,J,E⟩:=h;have O:(zeroValue et).run P w=.ok z w:=by
  have:=hm.z;cases hi:P.info? et with
  | none=>simp[hi]at this
  | some i=>simp[hi]at this;simp[zeroValue,typeInfo,hi,this]
 simp only[execOp,Sem.run_bind,Instr.lookup,run_underlying hm.u,Result.andThen_ok,hx,I,Ji J,Sem.run_pure,G.check,(G.find w k (m.map (·.1)) es.toList (QbE E))];cases H:O9 m k with
 | none=>rw[U7 E H];simp[O]
 | some u =>
  obtain⟨j,S,_⟩:=U6 (i:=0) E H;rw[S];simp
theorem yy [hm:Mp P t kt et z]{enc:κ->O2}[I:Key P kt enc]{m:List (κ×O2)}{k:κ}{u:O2}(h:Yu enc ↑w b m):
  ∃w',(Instr.mapUpdate t (.map (some b)) (enc k) u).run P w=.ok () w'/\O5 [b] w w'/\Yu enc ↑w' b (xd m k u):=by
 have S:=h.lt;obtain⟨es,c,J,G⟩:=h;have E:=I.find w k (m.map (·.1)) es.toList (QbE G);have stp:∀T V,O5 [b] w { w with heap:=w.heap.setIfInBounds b (.map T V) }:=λT V =>
  ⟨rfl,rfl,rfl,od,λi hi Y=>by
   have:b≠i:=λe=>Y (by simp[e]);simp[Array.getElem?_setIfInBounds_ne this]⟩
 cases H:O9 m k with
 | none =>
  rw[U7 G H]at E;refine⟨_,?_,stp (es.push { key:=enc k,val:=u,born:=c }) (c+1),es.push { key:=enc k,val:=u,born:=c },c+1,?_,?_⟩
  ·simp only[Instr.mapUpdate,Sem.run_bind,run_underlying hm.u,Result.andThen_ok,Ji J,I.check,E,Uh J]
  ·simp[S]
  have ha:xd m k u=m++[(k,u)]:=by
   clear G E;induction m with
   | nil=>rfl
   | cons p m ih =>
    obtain⟨q,x⟩:=p;by_cases O:q=k
    ·simp[O9,O]at H
    simp only[O9,O,if_false]at H;simp[xd,O,ih H]
  simp[ha,G]
 | some u0 =>
  obtain⟨j,hj,hp,⟨e,he,hb⟩,hc⟩:=U6 (i:=0) G H;rw[hj]at E;simp only[oZ]at E;have hh:∀w,(Instr.keyThatStays (enc k) (enc k)).run P w=.ok (enc k) w:=λw=>by simp[Instr.keyThatStays,I.same]
  have ho:((es[j]?).map (·.key)).getD (enc k)=enc k:=by
   have:es[j]?=some e:=by simpa using he
   simp[this,hb]
  refine⟨_,?_,stp (es.modify j λe=>{ e with key:=enc k,val:=u }) c,es.modify j λe=>{ e with key:=enc k,val:=u },c,?_,?_⟩
  ·simp only[Instr.mapUpdate,Sem.run_bind,run_underlying hm.u,Result.andThen_ok,Ji J,I.check,E,ho,hh,Uh J]
  ·simp[S]
  rw[Array.toList_modify];exact hc u
theorem XY [hm:Mp P t kt et z]{enc:κ->O2}[hk:Key P kt enc]{x v:O3}{m:List (κ×O2)}{k:κ}(h:Yu enc ↑w b m)(hx:ev f x=.map (some b))(E:ev f y=enc k)
  (hK:∀w',O5 [b] w w'->Yu enc ↑w' b (xd m k (ev f v))->K (QN f d undef) w'):XO P ⟨d,.mapUpdate t x y v,ty,pS,af,gd⟩ f w K:=by
 obtain⟨w',G,H,I⟩:=yy (P:=P) (t:=t) (k:=k) (u:=ev f v) h;exact xk (w':=w') (by simp[execOp,hx,E,G]) (hK w' H I)
theorem Jn [hm:Mp P t kt et z]{enc:κ->O2}[hk:Key P kt enc]{x v:O3}{m:List (κ×O2)}{k:κ}(h:Yu enc ↑w b m)(hx:ev f x=.map (some b))(E:ev f y=enc k)
  (hK:∀w',O5 [b] w w'->Yu enc ↑w' b (xd m k (ev f v))->K (QN f d undef) w'):XO P ⟨d,.insert t x y v,ty,pS,af,gd⟩ f w K:=by
 obtain⟨w',G,H,I⟩:=yy (P:=P) (t:=t) (k:=k) (u:=ev f v) h;exact xk (w':=w') (by simp[execOp,hx,E,G]) (hK w' H I)
end
section
variable {K:Fr->O1->Prop}{f:Fr}{pS:String}{l:xD}
theorem X9 {cs cs':LV}(h:QZ ↑w b T cs):QZ (w.setRow b cs'.toArray).heap b T cs':=setRow_heap w b cs.toArray cs'.toArray T (0,0) h
theorem jG (cs:LV)(j:Nat)(u:O2)(h:j<cs.length):cs.take j++[u]++cs.drop (j+1)=cs.set j u:=by
 rw[List.set_eq_take_append_cons_drop,OU h];simp
theorem Qu [h1:X8 P t]{x:O3}{cs:LV}{u:O2}(E:QZ ↑w b T cs)(hx:ev f x=.pointer (some ⟨b,j,none⟩))(J:ev f y=u)(O:j<cs.length)(G:u.oneCell'=true)
  (hK:∀w',O5 [b] w w'->QZ ↑w' b T (cs.set j u)->K (QN f d undef) w'):XO P ⟨d,.store t x y,ty,pS,af,gd⟩ f w K:=by
 have S:u.cells=#[u]:=by cases u <;> first|rfl|cases G
 have I:=run_storeCells_at P b j T [u] 0 cs.toArray w E (by simp;omega) (by simp[G]);simp only[OD,oP,jG cs j u O]at I;refine xk (w':=w.setRow b (cs.set j u).toArray) ?_ (hK _ (O5.setRow _ _ _) (X9 E));simp[execOp,hx,J,Instr.storeAt,Instr.sureAddr,storeVar,Qd1,S,I]
def Zb:LV->Prop
 | []=>True
 | u::us=>u.oneCell'=true/\Zb us
theorem Zb.all:∀{us:LV},Zb us->∀u∈us,u.oneCell'=true
 | [],_,u,E=>by cases E
 | v::us,h,u,E=>by
  rcases Lj.1 E with rfl|E
  ·exact h.1
  exact Zb.all h.2 u E
theorem Zv [h1:Ag P t sz]{x:O3}{cs us:LV}(E:QZ ↑w b T cs)(hx:ev f x=sP b)(J:ev f y=sT us)(G:us.length=sz)(O:cs.length=sz)(S:Zb us)
  (hK:∀w',O5 [b] w w'->QZ ↑w' b T us->K (QN f d undef) w'):XO P ⟨d,.store t x y,ty,pS,af,gd⟩ f w K:=by
 have I:=run_storeCells_at P b 0 T us 0 cs.toArray w E (by simp;omega) S.all;have e:(cs.take 0++us++cs.drop us.length)=us:=by rw[G,<-O];simp
 simp only[OD,oZ,e]at I;refine xk (w':=w.setRow b us.toArray) ?_ (hK _ (O5.setRow _ _ _) (X9 E));subst G;simp[execOp,hx,J,Instr.storeAt,Instr.sureAddr,storeVar,VT (sz:=us.length),Value.cells,I]
theorem ZA {x:O3}{e bys:Nat}[h:Sl P t e sz bys z]{o c:Nat}{k:IntKind}(hx:ev f x=.slice (some ⟨b,o,none⟩) n c)(E:ev f y=.int k i)(G:i<n):
  (execOp (ev f) ⟨d,.indexAddr t x y,ty,pS,af,gd⟩).run P w=.ok (.value (.pointer (some ⟨b,o+i*sz,none⟩))) w:=by
 have:=Xv (P:=P) (w:=w) (d:=d) (ty:=ty) (pS:=pS) (af:=af) (gd:=gd) (t:=t) hx E oa oa;rw[KG]at this;simpa using this
theorem Qmi {e bys:Nat}[h:Sl P t e sz bys z]{x:O3}{k:IntKind}(hx:ev f x=.int k n)(J:ev f y=.int k' n)(O:bys*n<=281474976710656)(hn:n<=1099511627776)
  (hK:∀b w',sX w w'->↑w<=b->QZ ↑w' b e (oO n z.cells.toList).flatten->K (QN f d (sL b n n)) w'):
  XO P ⟨d,.makeSlice t x y,ty,pS,af,gd⟩ f w K:=by
 obtain⟨i,hi,S,T,V⟩:=Sl.info h;have hb:i.bytes*n<=281474976710656:=by rw[V];exact O
 have Y:(i.bytes:Int)*(n:Int)<=281474976710656:=by
  have h:((i.bytes*n:Nat):Int)<=281474976710656:=oa
  rwa [Int.natCast_mul]at h
 have G:=run_make (P:=P) w t e i z h.u hi S k k' n n oa (NQ _) Y oa;simp only[Ou]at G;have ha:madeCells z.cells (n*i.size)=(oO n z.cells.toList).flatten.toArray:=by
  have hc:z.cells.size=i.size:=by rw[h.zs,T]
  apply Array.ext';apply M5;intro j;simp only[madeCells,<-hc,Array.toList_map,Array.toList_range,List.getElem?_map];have he:∀n,(oO n z.cells.toList).flatten.length=n*z.cells.size:=λn=>od
  have key:∀n j,j<n*z.cells.size->(oO n z.cells.toList).flatten[j]?=some z.cells[j % z.cells.size]!:=by
   intro n;induction n with
   | zero=>intro j E;omega
   | succ n ih =>
    intro j E;rw[List.replicate_succ,List.flatten_cons];by_cases I:j<z.cells.size
    ·rw[Mo (oA I),Nb I];simp[I]
    rw[MM (by simp;omega)];have:=ih (j - z.cells.size) (by rw[Mu]at E;omega);rw[Array.length_toList,this];rw[<-Nat.mod_eq_sub_mod oa]
  by_cases E:j<n*z.cells.size
  ·rw[key n j E];simp[E]
  rw[MX (oA (Nat.le_of_not_lt E)),List.getElem?_eq_none (by rw[he];omega)];rfl
 rw[ha]at G;refine xv (w':=w.alloc (.cells (oO n z.cells.toList).flatten.toArray e)) (v:=.slice (some ⟨↑w,0,none⟩) n n) ?_ (hK _ _ (O5.alloc w _) (Lx _) (Kx w _));simp[execOp,hx,J,G]
theorem qH {e bys:Nat}[h:Sl P t e sz bys z]{x:O3}{k:IntKind}(hx:ev f x=.int k n)(G:ev f y=.int k' n)(E:n<=1099511627776)
  (hK:∀b w',sX w w'->↑w<=b->QZ ↑w' b e (oO n z.cells.toList).flatten->K (QN f d (sL b n n)) w') (I:bys<=128:=by decide):
  XO P ⟨d,.makeSlice t x y,ty,pS,af,gd⟩ f w K:=Qmi hx G (LH (Nat.mul_le_mul I E) oa) E hK
theorem ZP {k:IntKind}{y:Nat}{c:BoundsCode}(h:i<=y):(Instr.sliceBound (.int k i) y c).run P w=.ok i w:=by
 simp[Instr.sliceBound,asIntOf,h]
theorem Zn.cut {L:LN}{a:Addr}{cs:LV}(h:Zn L H (.slice (some a) n cap) n sz cs)(S:lo<=hi)(T:hi<=n):
  Zn L H (.slice (if cap=lo then some a else some (a.add (lo*sz))) (hi - lo) (cap - lo)) (hi - lo) sz ((cs.drop (lo*sz)).take ((hi - lo)*sz)):=by
 obtain⟨J,V,O⟩:=h;rcases O with⟨G,_⟩|⟨a',cap',G,Y,I⟩
 ·cases G
 cases G
 refine⟨?_,oa,.inr ?_⟩
 ·simp only[Ob,Oa,J,<-Nat.sub_mul];rw[Mk];exact L3 _ oa
 split
 ·rename_i hc;have:hi - lo=0:=oa
  refine⟨a,cap - lo,by rw[this],oa,λu E=>?_,λu E=>?_,λj u E=>?_⟩
  ·simp[this]at E
  ·simp[this]at E
  simp[this]at E
 refine⟨a.add (lo*sz),cap - lo,U,oa,λu E=>by rw[YB];exact I.out u (Ma (LX E)),λu E=>by rw[YB];exact I.lt u (Ma (LX E)),λj u E=>?_⟩;rw[Addr.add_add];rw[LW]at E;split at E
 ·exact I.cell _ u (oA E)
 cases E
theorem Ql6 {e bys:Nat}[h:Sl P t e sz bys z]{x y1 y2:O3}{L:LN}{v:O2}{cs:LV}{k:IntKind}(G:Zn L H v n sz cs)(hx:ev f x=v)(I:ev f y1=.int k lo)(J:ev f y2=.int k' hi)
  (S:lo<=hi) (T:hi<=n):∃v',Zn L H v' (hi - lo) sz ((cs.drop (lo*sz)).take ((hi - lo)*sz))/\∀w,(execOp (ev f) ⟨d,.slice t x (some y1) (some y2) none,ty,pS,af,gd⟩).run P w=.ok (.value v') w:=by
 obtain⟨i,O,_,V,_⟩:=Sl.info h;rcases G.2.2 with⟨E,Y⟩|⟨a,cap,E,hc,ha⟩
 ·have e1:hi=0:=oa
  have e2:lo=0:=oa
  subst e1 e2;refine⟨nS,⟨od,oa,.inl ⟨rfl,rfl⟩⟩,λw=>?_⟩;simp[execOp,hx,E,I,J,Instr.sliceAt,Instr.slice,run_underlying h.u,Instr.sliceBounds,Instr.sliceBound,asIntOf,sizeOf,typeInfo,O]
 subst E;refine⟨_,G.cut S T,λw=>?_⟩;have e1:(Instr.sliceBound (.int k' hi) cap .sliceAcap).run P w=.ok hi w:=ZP oa;have e2:(Instr.sliceBound (.int k lo) hi .sliceB).run P w=.ok lo w:=ZP oa;simp[execOp,hx,I,J,Instr.sliceAt,Instr.slice,run_underlying h.u,Instr.sliceBounds,e1,e2,sizeOf,typeInfo,O,V]
theorem Qcv {e bys:Nat}[h:Sl P t e sz bys z]{x y1:O3}{L:LN}{v:O2}{cs:LV}{k:IntKind}(E:Zn L H v n sz cs)(hx:ev f x=v)(I:ev f y1=.int k lo)
  (J:lo<=n):∃v',Zn L H v' (n - lo) sz (cs.drop (lo*sz))/\∀w,(execOp (ev f) ⟨d,.slice t x (some y1) none none,ty,pS,af,gd⟩).run P w=.ok (.value v') w:=by
 obtain⟨i,O,_,T,_⟩:=Sl.info h;rcases E.2.2 with⟨G,V⟩|⟨a,cap,G,Y,ha⟩
 ·have e2:lo=0:=oa
  subst e2 V;have:cs=[]:=Ls (oA E.1);subst this;refine⟨nS,⟨od,oa,.inl ⟨rfl,rfl⟩⟩,λw=>?_⟩;simp[execOp,hx,G,I,Instr.sliceAt,Instr.slice,run_underlying h.u,Instr.sliceBounds,Instr.sliceBound,asIntOf,sizeOf,typeInfo,O]
 subst G;have S:=E.cut J (Lx n);have e:(cs.drop (lo*sz)).take ((n - lo)*sz)=cs.drop (lo*sz):=Lu (by rw[LY,E.1,<-Nat.sub_mul];exact Lx _);rw[e]at S;refine⟨_,S,λw=>?_⟩;have e2:(Instr.sliceBound (.int k lo) n .sliceB).run P w=.ok lo w:=ZP J;simp[execOp,hx,I,Instr.sliceAt,Instr.slice,run_underlying h.u,Instr.sliceBounds,e2,sizeOf,typeInfo,O,T]
theorem Qcw {e bys:Nat}[h:Sl P t e sz bys z]{x y2:O3}{L:LN}{v:O2}{cs:LV}{k:IntKind}(G:Zn L H v n sz cs)(hx:ev f x=v)(I:ev f y2=.int k hi)
  (S:hi<=n):∃v',Zn L H v' hi sz (cs.take (hi*sz))/\∀w,(execOp (ev f) ⟨d,.slice t x none (some y2) none,ty,pS,af,gd⟩).run P w=.ok (.value v') w:=by
 obtain⟨i,J,_,T,_⟩:=Sl.info h;rcases G.2.2 with⟨E,V⟩|⟨a,cap,E,Y,ha⟩
 ·have e2:hi=0:=oa
  subst e2;refine⟨nS,⟨od,oa,.inl ⟨rfl,rfl⟩⟩,λw=>?_⟩;simp[execOp,hx,E,I,Instr.sliceAt,Instr.slice,run_underlying h.u,Instr.sliceBounds,Instr.sliceBound,asIntOf,sizeOf,typeInfo,J]
 subst E;have O:=G.cut (Lo hi) S;simp only[OP,List.drop_zero,OJ]at O;refine⟨_,O,λw=>?_⟩;have e2:(Instr.sliceBound (.int k hi) cap .sliceAcap).run P w=.ok hi w:=ZP oa;simp[execOp,hx,I,Instr.sliceAt,Instr.slice,run_underlying h.u,Instr.sliceBounds,e2,sizeOf,typeInfo,J]
end
section
variable {K:Fr->O1->Prop}{C:xz}{f:Fr}{w0:O1}{pS:String}{pl:xt}{i0:Nat}
theorem pi {x:O3}{e bys:Nat}[Sl P t e sz bys z]{L:LN}{cs:LV}{v:O2}{k:IntKind}
  (E:QS ops i0=⟨d,.indexAddr t x y,ty,pS,af,gd⟩) (h:Zn L H v n sz cs) (G:ev f x=v) (I:ev f y=.int k i) (hi:i<n)
  (hK:∀a,At L H a ((cs.drop (i*sz)).take sz)->XP P ops C K pl (QN f d (.pointer (some a))) w) (J:Z9 ops f (QS ops i0)=true:=by rfl):
  XP P ops C K ((i0,true)::pl) f w:=by
 obtain⟨a,cap,O,S⟩:=h.at hi;refine Lg.p (λw'=>by rw[E];exact Xv (G.D O) I oa oa) ?_ J;rw[E];refine hK _ ?_;simpa using S
theorem pii {x:O3}{e bys:Nat}[Sl P t e 1 bys z]{L:LN}{li:LI}{v:O2}{k:IntKind}
  (E:QS ops i0=⟨d,.indexAddr t x y,ty,pS,af,gd⟩) (h:QL L H v li) (G:ev f x=v) (I:ev f y=.int k i) (hi:i<li.length)
  (hK:∀a,At L H a [sS li[i]]->XP P ops C K pl (QN f d (.pointer (some a))) w) (J:Z9 ops f (QS ops i0)=true:=by rfl):
  XP P ops C K ((i0,true)::pl) f w:=by
 obtain⟨a,cap,O,S⟩:=QL.at h hi;refine Lg.p (λw'=>by rw[E];exact Xv (G.D O) I oa oa) ?_ J;rw[E];refine hK _ ?_;simpa using S
end
abbrev Ed:=Int×Int×Int
def QA (e:Ed):LV:=[sS e.1,sS e.2.1,sS e.2.2]
abbrev zP (L:LN)(H:xA)(v:O2)(es:List Ed):Prop:=Zn L H v es.length 3 (es.flatMap QA)
theorem Xw {α:Type}(g:α->LV)(sz:Nat)(E:∀x,(g x).length=sz):∀(l:List α) (i:Nat) (h:i<l.length),((l.flatMap g).drop (i*sz)).take sz=g l[i]
 | x::l,0,_=>by simp[E]
 | x::l,i+1,h=>by
  have:=Xw g sz E l i (oA h);simp only[Of,List.getElem_cons_succ];rw[<-this,Mu,NY,Nd,List.drop_append,E];simp[Nat.add_sub_cancel_left,List.drop_eq_nil_of_le,E]
theorem YY (g:α->LV)(sz:Nat)(E:∀x,(g x).length=sz)(l:List α):(l.flatMap g).length=l.length*sz:=by
 induction l with
 | nil=>simp
 | cons x l ih=>simp[ih,E,Oq,Nat.add_comm]
theorem Kl (e:Ed):(QA e).length=3:=rfl
structure Q6 where
 al:LI
 st:Int
 mr:LI
 ed:List Ed
structure ZM (L:LN)(H:xA)(va vm ve:O2)(a:Q6):Prop where
 al:QL L H va a.al
 mr:QL L H vm a.mr
 ed:zP L H ve a.ed
def Qsd (L:LN)(H:xA)(v:O2)(a:Q6):Prop:=∃va vm ve,v=.agg #[va,sS a.st,vm,ve]/\ZM L H va vm ve a
theorem ZM.I {L:LN}{w w':O1}{va vm ve:O2}{a:Q6}(h:ZM L ↑w va vm ve a)(E:sX w w'):ZM L ↑w' va vm ve a:=⟨h.al.I E,h.mr.I E,h.ed.I E⟩
theorem ZM.st {L:LN}{w w':O1}{va vm ve:O2}{a:Q6}(h:ZM L ↑w va vm ve a)(E:O5 L w w'):ZM L ↑w' va vm ve a:=⟨h.al.st E,h.mr.st E,h.ed.st E⟩
theorem ZM.up {L L':LN}{H:xA}{va vm ve:O2}{a:Q6}(h:ZM L H va vm ve a)(E:∀b∈L',b∈L\/H.size<=b):ZM L' H va vm ve a:=⟨h.al.up E,h.mr.up E,h.ed.up E⟩
section
variable {f:Fr}{pS:String}
class Ik (P:O4)(t:Nat)(k:outParam IntKind):Prop where
 u:P.underlying t=some (.int k):=by first|kernel_rfl|decide|rfl|exact sY (by kernel_rfl)
theorem Z6 {k:IntKind}[h:Ik P t k][h':Ik P E k']{x:O3}{n:Int}{G:IntKind}(hx:ev f x=.int G n)(I:inK k' n):
  (execOp (ev f) ⟨d,.convert t E x,ty,pS,af,gd⟩).run P w=.ok (.value (.int k' n)) w:=by
 simp[execOp,hx,convert,run_underlying h.u,run_underlying h'.u,Conv.intToInt,YR I]
class St (P:O4)(t:Nat):Prop where
 u:P.underlying t=some .string
end
theorem Zc {l:List α}{k:Nat}(h:k<l.length):l.drop k=l[k]::l.drop (k+1):=LF h
theorem zP.at {L:LN}{H:xA}{v:O2}{es:List Ed}(h:zP L H v es){i:Nat}(hi:i<es.length):
  ∃a cap,v=.slice (some a) es.length cap/\At L H (a.add (i*3)) (QA es[i]):=by
 obtain⟨a,cap,G,E⟩:=Zn.at h hi;rw[Xw QA 3 Kl es i hi]at E;exact⟨a,cap,G,E⟩
section
variable {K:Fr->O1->Prop}{f:Fr}{pS:String}{l:xD}{C:xz}{pl:xt}{i0:Nat}
theorem xie {x:O3}{e bys:Nat}[Sl P t e 3 bys z]{L:LN}{es:List Ed}{v:O2}{k:IntKind}
  (h:zP L ↑w v es) (E:ev f x=v) (G:ev f y=.int k i) (hi:i<es.length)
  (hK:∀a,At L ↑w a (QA es[i])->XL P ops K l (QN f d (.pointer (some a))) w) (I:Z9 ops f ⟨d,.indexAddr t x y,ty,pS,af,gd⟩=true:=by rfl):
  XL P ops K (⟨d,.indexAddr t x y,ty,pS,af,gd⟩::l) f w:=by
 obtain⟨a,cap,J,O⟩:=zP.at h hi;refine xl I (xv (Xv (E.D J) G oa oa) (hK _ ?_));simpa using O
theorem pie {x:O3}{e bys:Nat}[Sl P t e 3 bys z]{L:LN}{es:List Ed}{v:O2}{k:IntKind}
  (E:QS ops i0=⟨d,.indexAddr t x y,ty,pS,af,gd⟩) (h:zP L H v es) (G:ev f x=v) (I:ev f y=.int k i) (hi:i<es.length)
  (hK:∀a,At L H a (QA es[i])->XP P ops C K pl (QN f d (.pointer (some a))) w) (J:Z9 ops f (QS ops i0)=true:=by rfl):
  XP P ops C K ((i0,true)::pl) f w:=by
 obtain⟨a,cap,O,S⟩:=zP.at h hi;refine Lg.p (λw'=>by rw[E];exact Xv (G.D O) I oa oa) ?_ J;rw[E];refine hK _ ?_;simpa using S
end
section
variable {f:Fr}{pS:String}
theorem Qaf {x:O3}{k:IntKind}{a:Int}(hx:ev f x=.int k a)(G:ev f y=.int k' n)(I:n<=k.bits):
  (execOp (ev f) ⟨d,.binOp .shr t x y E,ty,pS,af,gd⟩).run P w=.ok (.value (.int k (a / 2 ^ n))) w:=by
 refine Jy hx G ?_;have J:¬((n:Int)<0):=oa
 simp only[binOp,Op.shift,J,if_false,Ou,Nat.min_eq_left I,Sem.run_pure];rw[Int.fdiv_eq_ediv_of_nonneg _ (Int.le_of_lt (Int.pow_pos ol))]
class S3 (P:O4)(t:Nat):Prop where
 u:∃f0 f1 f2,P.underlying t=some (.struct #[f0,f1,f2])/\f0.name ≠ "_" /\ f1.name ≠ "_" /\ f2.name ≠ "_" /\ f0.offset=0/\f1.offset=1/\f2.offset=2 /\
  P.underlying f0.type=some (.int .i64)/\P.underlying f1.type=some (.int .i64)/\P.underlying f2.type=some (.int .i64)
 s:P.stoodInHeld t=false
 g:P.eqGuardType P.depth t=false
theorem UT [h:S3 P t](w:O1)(p q:Ed):(Op.equal t (sT (QA p)) (sT (QA q))).run P w=.ok (decide (p=q)) w:=by
 obtain⟨a,b,c⟩:=p;obtain⟨V,Y,c'⟩:=q;obtain⟨f0,f1,f2,hu,O,n1,n2,S,o1,o2,I,J,u2⟩:=h.u;have ha:∀e w,P.underlying e=some (.int .i64)->(isAgg e).run P w=.ok false w:=λe w E=>by simp[isAgg,run_underlying E]
 have T:∀e (x y z:Int) (w:O1),P.underlying e=some (.int .i64)->(part e #[sS x,sS y,sS z] 0).run P w=.ok (sS x) w:=λe x y z w E=>by simp[part,ha e w E]
 have hb:∀e (x y z:Int) (w:O1),P.underlying e=some (.int .i64)->(part e #[sS x,sS y,sS z] 1).run P w=.ok (sS y) w:=λe x y z w E=>by simp[part,ha e w E]
 have hc:∀e (x y z:Int) (w:O1),P.underlying e=some (.int .i64)->(part e #[sS x,sS y,sS z] 2).run P w=.ok (sS z) w:=λe x y z w E=>by simp[part,ha e w E]
 have G:∀e (m:Nat) (x y:Int) (w:O1),P.underlying e=some (.int .i64)->(Op.equalIn (m+1) e (sS x) (sS y)).run P w=.ok (x == y) w:=λe m x y w E=>by simp[Op.equalIn,run_underlying E]
 have key:∀m,(Op.equalIn (m+2) t (.agg (QA (a,b,c)).toArray) (.agg (QA (V,Y,c')).toArray)).run P w=.ok (decide ((a,b,c)=(V,Y,c'))) w:=by
  intro m;simp only[QA];unfold Op.equalIn;simp only[Sem.run_bind,run_underlying hu,Result.andThen_ok];by_cases e1:a=V
  ·subst e1;by_cases e2:b=Y
   ·subst e2;by_cases e3:c=c'
    ·subst e3;simp[h.s,O,n1,n2,S,o1,o2,T _ _ _ _ _ I,hb _ _ _ _ _ J,hc _ _ _ _ _ u2,G _ _ _ _ _ I,G _ _ _ _ _ J,G _ _ _ _ _ u2]
    simp[h.s,O,n1,n2,S,o1,o2,T _ _ _ _ _ I,hb _ _ _ _ _ J,hc _ _ _ _ _ u2,G _ _ _ _ _ I,G _ _ _ _ _ J,G _ _ _ _ _ u2,e3]
   simp[h.s,O,n1,S,o1,T _ _ _ _ _ I,hb _ _ _ _ _ J,G _ _ _ _ _ I,G _ _ _ _ _ J,e2]
  simp[h.s,O,S,T _ _ _ _ _ I,G _ _ _ _ _ I,e1]
 exact key 9998
theorem UV [h:S3 P t]{x:O3}{p q:Ed}(hx:ev f x=sT (QA p))(G:ev f y=sT (QA q)):
  (execOp (ev f) ⟨d,.binOp .neq t x y E,ty,pS,af,gd⟩).run P w=.ok (.value (.bool (decide (¬p=q)))) w:=by
 have I:(eqGuard .neq t x y (sT (QA p)) (sT (QA q))).run P w=.ok () w:=by simp[eqGuard,h.g]
 simp only[execOp,hx,G,Sem.run_bind,I,Result.andThen_ok,binOp,UT,Sem.run_pure];by_cases e:p=q <;> simp[e]
end
theorem O5.O {L:LN}{w0:O1}(h:O5 L w0 w)(k:O5 [b] w w')(G:↑w0<=b):O5 L w0 w':=h.S k (λc E=>.inr (by simp at E;omega))
section
variable {K:Fr->O1->Prop}{f:Fr}{pS:String}
theorem XS {e bys:Nat}[h:Sl P t e sz bys z]{x:O3}{a:Option Addr}{c:Nat}(hx:ev f x=.slice a n c)(G:ev f y=nS):
  (execOp (ev f) ⟨d,.binOp .eql t x y E,ty,pS,af,gd⟩).run P w=.ok (.value (.bool a.isNone)) w:=by
 have I:(eqGuard .eql t x y (.slice a n c) (nS)).run P w=.ok () w:=by simp[eqGuard]
 have key:∀m,(Op.equalIn (m+1) t (.slice a n c) (nS)).run P w=.ok a.isNone w:=by
  intro m;unfold Op.equalIn;cases a <;> simp[run_underlying h.u]
 have J:(Op.equal t (.slice a n c) (nS)).run P w=.ok a.isNone w:=key 9999;simp only[execOp,hx,G,Sem.run_bind,I,Result.andThen_ok,binOp,J,Sem.run_pure]
theorem XZ {e bys:Nat}[h:Sl P t e sz bys z]
  (hK:∀b w',sX w w'->↑w<=b->QZ ↑w' b e []->K (QN f d (sL b 0 0)) w'):XO P ⟨d,.buildSlice t 0 #[],ty,pS,af,gd⟩ f w K:=by
 obtain⟨ie,E,I,J,_⟩:=Sl.info h;have G:(execOp (ev f) ⟨d,.buildSlice t 0 #[],ty,pS,af,gd⟩).run P w=.ok (.value (.slice (some ⟨↑w,0,none⟩) 0 0)) (w.alloc (.cells #[] e)):=by
  simp[execOp,Instr.buildSlice,run_underlying h.u,sizeOf,typeInfo,E,Instr.fill,newRow];have e0:Array.map (λ_=>(default:O2)) (Array.range 0)=#[]:=by apply Array.ext';simp
  rw[e0]
 exact xv G (hK _ _ (O5.alloc w _) (Lx _) (Kx w _))
end
abbrev Qq (e base:Nat)(w:O1)(v:O2)(l:LI):Prop:=w.ownsRow base e 1 v l.length (l.map (.int .i64))
theorem Qq.ints {e base:Nat}{v:O2}{l:LI}{L:LN}(h:Qq e base w v l)(E:l.length<=1099511627776)(G:∀b∈L,b<base):QL L ↑w v l :=
 QB h E (λb I hbL=>oy (Qg h b I).1 (G b hbL))
theorem UX (l:LI):∀u∈l.map (Value.int .i64),u.oneCell'=true:=by
 intro u E;obtain⟨n,_,rfl⟩:=LD.1 E;rfl
section
variable {P:O4}{ops:xD}{K:Fr->O1->Prop}{f:Fr}{w:O1}{d:xE}{ty:Nat}{pS:String}{af:xC}{gd:xq}{l:xD}{C:xz}{pl:xt}{i0:Nat}
 {t e sz bys:Nat} {z:O2} {x y1 y2:O3} {L:LN} {v:O2} {n:Nat} {cs:LV} {H:xA} {k k':IntKind} {lo hi:Nat}
theorem QoF [h:Sl P t e sz bys z](E:QS ops i0=⟨d,.slice t x (some y1) none none,ty,pS,af,gd⟩)(G:Zn L H v n sz cs)(hx:ev f x=v)(I:ev f y1=.int k lo)(J:lo<=n)(hK:∀v',Zn L H v' (n - lo) sz (cs.drop (lo*sz))->XP P ops C K pl (QN f d v') w)
  (O:Z9 ops f (QS ops i0)=true:=by rfl):XP P ops C K ((i0,true)::pl) f w:=by
 obtain⟨v',S,T⟩:=Qcv (P:=P) (d:=d) (ty:=ty) (pS:=pS) (af:=af) (gd:=gd) (t:=t) G hx I J;exact Lg.p (λw'=>by rw[E];exact T w') (by rw[E];exact hK v' S) O
theorem Qrv [h:Sl P t e sz bys z](E:Zn L H v n sz cs)(hx:ev f x=v)(G:ev f y1=.int k lo)(I:lo<=n)(hK:∀v',Zn L H v' (n - lo) sz (cs.drop (lo*sz))->XL P ops K l (QN f d v') w)
  (J:Z9 ops f ⟨d,.slice t x (some y1) none none,ty,pS,af,gd⟩=true:=by rfl):XL P ops K (⟨d,.slice t x (some y1) none none,ty,pS,af,gd⟩::l) f w:=by
 obtain⟨v',O,S⟩:=Qcv (P:=P) (d:=d) (ty:=ty) (pS:=pS) (af:=af) (gd:=gd) (t:=t) E hx G I;exact xl J (xv (S w) (hK v' O))
theorem Qrw [h:Sl P t e sz bys z](E:Zn L H v n sz cs)(hx:ev f x=v)(G:ev f y1=.int k lo)(I:ev f y2=.int k' hi)(J:lo<=hi)(O:hi<=n)(hK:∀v',Zn L H v' (hi - lo) sz ((cs.drop (lo*sz)).take ((hi - lo)*sz))->XL P ops K l (QN f d v') w)
  (S:Z9 ops f ⟨d,.slice t x (some y1) (some y2) none,ty,pS,af,gd⟩=true:=by rfl):XL P ops K (⟨d,.slice t x (some y1) (some y2) none,ty,pS,af,gd⟩::l) f w:=by
 obtain⟨v',T,V⟩:=Ql6 (P:=P) (d:=d) (ty:=ty) (pS:=pS) (af:=af) (gd:=gd) (t:=t) E hx G I J O;exact xl S (xv (V w) (hK v' T))
theorem Qoi [h:Sl P t e sz bys z](E:Zn L H v n sz cs)(hx:ev f x=v)(G:ev f y2=.int k hi)(I:hi<=n)(hK:∀v',Zn L H v' hi sz (cs.take (hi*sz))->XL P ops K l (QN f d v') w)
  (J:Z9 ops f ⟨d,.slice t x none (some y2) none,ty,pS,af,gd⟩=true:=by rfl):XL P ops K (⟨d,.slice t x none (some y2) none,ty,pS,af,gd⟩::l) f w:=by
 obtain⟨v',O,S⟩:=Qcw (P:=P) (d:=d) (ty:=ty) (pS:=pS) (af:=af) (gd:=gd) (t:=t) E hx G I;exact xl J (xv (S w) (hK v' O))
end
theorem QL.drop {L:LN}{H:xA}{v:O2}{l:LI}{lo:Nat}(h:Zn L H v (l.length - lo) 1 ((l.map (Value.int .i64)).drop (lo*1))):QL L H v (l.drop lo):=by
 rw[Nat.mul_one,<-List.map_drop]at h;have e:(l.drop lo).length=l.length - lo:=LY;unfold QL;rw[e];exact h
theorem Qq.snoc {e base:Nat}{v:O2}{l:LI}{n:Int}(h:w.ownsRow base e 1 v (l.length+1) (l.map (Value.int .i64)++[sS n])):Qq e base w v (l++[n]):=by
 unfold Qq;rw[Ll,Lr];exact h
def Dj (u v:O2):Prop:=∀b∈ob u,b∉ob v
theorem Dj.symm {u v:O2}(h:Dj u v):Dj v u:=λb E G=>h b G E
theorem Dj.nil (v:O2):Dj (nS) v:=λb E=>by simp[ob]at E
theorem Dj.nil' (v:O2):Dj v (nS):=(Dj.nil v).symm
theorem Dj.grow {u v:O2}(h:Dj u v)(I:∀b∈ob v',b∈ob v\/N<=b)(J:∀b∈ob u,b<N):Dj u v' :=
 λb E O=>by rcases I b O with G|G;exact h b E G;have:=J b E;omega
theorem Q8 {base e:Nat}{v:O2}{cs:LV}(h:w.ownsRow base e sz v n cs):∀b∈ob v,b<w.heap.size:=λb E=>(Qg h b E).2
theorem QP {base e:Nat}{v:O2}{cs:LV}(h:w.ownsRow base e sz v n cs)(G:b<base):b∉ob v:=λE=>ov (Qg h b E).1
abbrev YP (e base:Nat)(w:O1)(v:O2)(l:List Ed):Prop:=w.ownsRow base e 3 v l.length (l.flatMap QA)
theorem YP.snoc {e base:Nat}{v:O2}{l:List Ed}{n:Ed}(h:w.ownsRow base e 3 v (l.length+1) (l.flatMap QA++QA n)):YP e base w v (l++[n]):=by
 unfold YP;rw[Ll,LA];simpa using h
theorem YP.eds {e base:Nat}{v:O2}{l:List Ed}{L:LN}(h:YP e base w v l)(E:l.length<=1099511627776)(G:∀b∈L,b<base):zP L ↑w v l :=
 QB h E (λb I hbL=>oy (Qg h b I).1 (G b hbL))
def JK (N:Nat)(H:xA)(v:O2)(a:Q6):Prop:=∃va vm ve,v=.agg #[va,sS a.st,vm,ve]/\∀L:LN,(∀b∈L,b<N)->ZM L H va vm ve a
theorem JK.v {N:Nat}{H:xA}{v:O2}{a:Q6}(h:JK N H v a){L:LN}(E:∀b∈L,b<N):Qsd L H v a:=let⟨va,vm,ve,G,I⟩:=h;⟨va,vm,ve,G,I L E⟩
theorem JK.Y {v:O2}{a:Q6}(h:JK N H v a)(hM:M<=N):JK M H v a:=let⟨va,vm,ve,E,G⟩:=h;⟨va,vm,ve,E,λL I=>G L (λb J=>LQ (I b J) hM)⟩
section
variable {K:Fr->O1->Prop}{f:Fr}{pS:String}
theorem zV [X8 P t]{x:O3}{l:LI}(h:QZ ↑w b T (l.map (.int .i64)))(hx:ev f x=.pointer (some ⟨b,0+i*1,none⟩))(hi:i<l.length):
  (execOp (ev f) ⟨d,.load t x,ty,pS,af,gd⟩).run P w=.ok (.value (sS l[i])) w:=Qk h hx (by simp[hi])
theorem KD [h1:X8 P t]{x:O3}{l:LI}{u:Int}(E:QZ ↑w b T (l.map (.int .i64)))(hx:ev f x=.pointer (some ⟨b,0+i*1,none⟩))(G:ev f y=sS u)(hi:i<l.length)
  (hK:∀w',O5 [b] w w'->QZ ↑w' b T ((l.set i u).map (.int .i64))->K (QN f d undef) w'):XO P ⟨d,.store t x y,ty,pS,af,gd⟩ f w K:=by
 refine Qu E hx G (oA hi) rfl λw' I J=>hK w' I ?_;rw[OQ];simpa using J
end
theorem Qcu (n:Nat)(u:O2):(oO n [u]).flatten=oO n u:=by
 induction n with
 | zero=>rfl
 | succ n ih=>simp[List.replicate_succ,ih]
section
variable {K:Fr->O1->Prop}{f:Fr}{pS:String}{l:xD}
theorem QK [Ag P t sz]{E:O3}{cs:LV}(us:LV)(I:QZ ↑w b T cs)(J:Zb us)(hK:∀w',O5 [b] w w'->QZ ↑w' b T us->XL P ops K l (QN f d undef) w')(hx:ev f E=sP b:=by rfl)(O:ev f G=sT us:=by rfl)(S:us.length=sz:=by rfl)(V:cs.length=sz:=by rfl)(Y:Z9 ops f ⟨d,.store t E G,ty,pS,af,gd⟩=true:=by rfl):XL P ops K (⟨d,.store t E G,ty,pS,af,gd⟩::l) f w:=xl Y (Zv I hx O S V J hK)
theorem QM [Ze P t z](us:LV)(hK:∀b w',sX w w'->↑w<=b->QZ ↑w' b t us->XL P ops K l (QN f d (sP b)) w')(E:z.cells=us.toArray:=by rfl)(G:Z9 ops f ⟨d,.alloc t,ty,pS,af,gd⟩=true:=by rfl):XL P ops K (⟨d,.alloc t,ty,pS,af,gd⟩::l) f w:=xl G (K3 E hK)
theorem Yl {ad:Nat}{us:LV}[Ag P t sz](E:QZ ↑w b T us)(G:f ad=sP b:=by rfl)(I:us.length=sz:=by rfl):∃a,f ad=.pointer (some a)/\(loadVar t a).run P w=.ok (sT us) w:=⟨_,G,Yb I (E.at (L:=[]) od).cells⟩
theorem JY {K:Fr->O1->Prop}[Ag P t sz]{E:O3}{cs:LV}(us:LV)(I:QZ ↑w b T cs)(J:Zb us)(hK:∀w',O5 [b] w w'->QZ ↑w' b T us->K (QN f d undef) w')(hx:ev f E=sP b:=by rfl)(O:ev f G=sT us:=by rfl)(S:us.length=sz:=by rfl)(V:cs.length=sz:=by rfl):XO P ⟨d,.store t E G,ty,pS,af,gd⟩ f w K:=Zv I hx O S V J hK
end
section
variable {K:Fr->O1->Prop}{f:Fr}{pS:String}{l:xD}{C:xz}{pl:xt}{i0:Nat}
theorem xig {g:α->LV}{x:O3}{e bys:Nat}[Sl P t e sz bys z](G:∀x,(g x).length=sz){L:LN}{es:List α}{v:O2}{k:IntKind}
  (h:Zn L ↑w v es.length sz (es.flatMap g)) (H:ev f x=v) (I:ev f y=.int k i) (hi:i<es.length)
  (hK:∀a,At L ↑w a (g es[i])->XL P ops K l (QN f d (.pointer (some a))) w) (J:Z9 ops f ⟨d,.indexAddr t x y,ty,pS,af,gd⟩=true:=by rfl):
  XL P ops K (⟨d,.indexAddr t x y,ty,pS,af,gd⟩::l) f w:=by
 obtain⟨a,cap,O,E⟩:=Zn.at h hi;rw[Xw g sz G es i hi]at E;refine xl J (xv (Xv (H.D O) I oa oa) (hK _ ?_));simpa using E
theorem pig {g:α->LV}{x:O3}{e bys:Nat}[Sl P t e sz bys z](E:QS ops i0=⟨d,.indexAddr t x y,ty,pS,af,gd⟩)(I:∀x,(g x).length=sz){L:LN}{es:List α}{v:O2}{k:IntKind}
  (h:Zn L H v es.length sz (es.flatMap g)) (J:ev f x=v) (O:ev f y=.int k i) (hi:i<es.length)
  (hK:∀a,At L H a (g es[i])->XP P ops C K pl (QN f d (.pointer (some a))) w) (S:Z9 ops f (QS ops i0)=true:=by rfl):
  XP P ops C K ((i0,true)::pl) f w:=by
 obtain⟨a,cap,T,G⟩:=Zn.at h hi;rw[Xw g sz I es i hi]at G;refine Lg.p (λw'=>by rw[E];exact Xv (J.D T) O oa oa) ?_ S;rw[E];refine hK _ ?_;simpa using G
end
theorem Zn.grow {X X' Y:LN}{v:O2}{cs:LV}(h:Zn X ↑w v n sz cs)(H:O5 Y w w')(I:∀b∈Y,b∈X)(J:∀b∈X',b∈X\/↑w<=b):Zn X' ↑w' v n sz cs:=by
 have E:Zn (X++X') ↑w v n sz cs:=h.up (λb G=>by
  rcases Lc.1 G with E|E
  ·exact .inl E
  exact J b E)
 exact(E.J H (λb G=>Lc.2 (.inl (I b G)))).up (λb G=>.inl (Lc.2 (.inr G)))
structure AV where
 va:O2
 vm:O2
 ve:O2
 a:Q6
abbrev ZX (p:AV):LV:=[p.va,sS p.a.st,p.vm,p.ve]
structure KU (L:LN)(H:xA)(v:O2)(ps:List AV):Prop where
 arr:Zn L H v ps.length 4 (ps.flatMap ZX)
 each:∀p∈ps,ZM L H p.va p.vm p.ve p.a
theorem KU.I {L:LN}{w w':O1}{v:O2}{ps:List AV}(h:KU L ↑w v ps)(E:sX w w'):KU L ↑w' v ps:=⟨h.arr.I E,λp G=>(h.each p G).I E⟩
theorem KU.st {L:LN}{w w':O1}{v:O2}{ps:List AV}(h:KU L ↑w v ps)(E:O5 L w w'):KU L ↑w' v ps:=⟨h.arr.st E,λp G=>(h.each p G).st E⟩
theorem KU.up {L L':LN}{H:xA}{v:O2}{ps:List AV}(h:KU L H v ps)(E:∀b∈L',b∈L\/H.size<=b):KU L' H v ps:=⟨h.arr.up E,λp G=>(h.each p G).up E⟩
abbrev TV:=O2×LI
abbrev YS (p:TV):LV:=[p.1]
structure Ka (L:LN)(H:xA)(v:O2)(ps:List TV):Prop where
 arr:Zn L H v ps.length 1 (ps.flatMap YS)
 each:∀p∈ps,QL L H p.1 p.2
theorem Ka.I {L:LN}{w w':O1}{v:O2}{ps:List TV}(h:Ka L ↑w v ps)(E:sX w w'):Ka L ↑w' v ps:=⟨h.arr.I E,λp G=>(h.each p G).I E⟩
theorem Ka.st {L:LN}{w w':O1}{v:O2}{ps:List TV}(h:Ka L ↑w v ps)(E:O5 L w w'):Ka L ↑w' v ps:=⟨h.arr.st E,λp G=>(h.each p G).st E⟩
theorem Ka.up {L L':LN}{H:xA}{v:O2}{ps:List TV}(h:Ka L H v ps)(E:∀b∈L',b∈L\/H.size<=b):Ka L' H v ps:=⟨h.arr.up E,λp G=>(h.each p G).up E⟩
def QeK (N:Nat)(H:xA)(v:O2)(l:List (LI)):Prop:=∃ps:List TV,ps.map (·.2)=l/\∀L:LN,(∀b∈L,b<N)->Ka L H v ps
theorem QeK.Y {v:O2}{l:List (LI)}(h:QeK N H v l)(hM:M<=N):QeK M H v l:=let⟨ps,E,G⟩:=h;⟨ps,E,λL I=>G L (λb J=>LQ (I b J) hM)⟩
abbrev jP (e base:Nat)(w:O1)(v:O2)(ps:List TV):Prop:=w.ownsRow base e 1 v ps.length (ps.flatMap YS)
theorem jP.snoc {e base:Nat}{v:O2}{ps:List TV}{p:TV}(h:w.ownsRow base e 1 v (ps.length+1) (ps.flatMap YS++[p.1])):jP e base w v (ps++[p]):=by
 unfold jP;rw[Ll,LA];simpa using h
theorem Jb {base e:Nat}{v:O2}{cs:LV}(h:w.ownsRow base e sz v n cs)(G:0<n):∃g cap,v=sL g n cap:=by
 rcases h.2 with⟨_,H⟩|⟨g,cap,cur,E,_⟩
 ·omega
 exact⟨g,cap,E⟩
section
variable {K:Fr->O1->Prop}{f:Fr}{pS:String}{l:xD}
theorem QiZ [h1:X8 P t]{x:O3}{base e:Nat}{cs:LV}{u:O2}(h:w.ownsRow base e 1 (sL g n cap) n cs)(hx:ev f x=.pointer (some ⟨g,0+i*1,none⟩))(G:ev f y=u)(hi:i<n)(H:u.oneCell'=true)
  (hK:∀w',O5 [g] w w'->w'.ownsRow base e 1 (sL g n cap) n (cs.set i u)->K (QN f d undef) w'):XO P ⟨d,.store t x y,ty,pS,af,gd⟩ f w K:=by
 obtain⟨I,h⟩:=h;rcases h with⟨J,_⟩|⟨g',cap',cur,e1,O,S,T,V,E,Y⟩
 ·cases J
 cases e1
 have hB:QZ ↑w g e cur.toList:=by unfold QZ;simpa using S
 refine Qu (j:=i) hB (by rw[hx];simp) G (by simp[E];omega) H λw' hs ha=>hK w' hs ⟨oA I,.inr ⟨g,cap,(cur.toList.set i u).toArray,rfl,O,ha,T,V,oA E,?_⟩⟩;rw[<-Y];simp[List.take_set]
end
section
variable {f:Fr}{pS:String}{κ:Type}[DecidableEq κ]
theorem Qag [hm:Mp P t kt et z]{enc:κ->O2}[hk:Key P kt enc]{x:O3}{m:List (κ×O2)}{k:κ}{u:O2}(h:Yu enc ↑w b m)(hx:ev f x=.map (some b))(E:ev f y=enc k)(G:O9 m k=some u):
  (execOp (ev f) ⟨d,.lookup t x y true,ty,pS,af,gd⟩).run P w=.ok (.value (.tuple #[u,.bool true])) w:=by
 have:=Vy (P:=P) (t:=t) (d:=d) (ty:=ty) (pS:=pS) (af:=af) (gd:=gd) h hx E;rw[G]at this;exact this
theorem QgQ [hm:Mp P t kt et z]{enc:κ->O2}[hk:Key P kt enc]{x:O3}{m:List (κ×O2)}{k:κ}(h:Yu enc ↑w b m)(hx:ev f x=.map (some b))(E:ev f y=enc k)(G:O9 m k=none):
  (execOp (ev f) ⟨d,.lookup t x y true,ty,pS,af,gd⟩).run P w=.ok (.value (.tuple #[z,.bool false])) w:=by
 have:=Vy (P:=P) (t:=t) (d:=d) (ty:=ty) (pS:=pS) (af:=af) (gd:=gd) h hx E;rw[G]at this;exact this
end
abbrev Xa (l:LI):Prop:=l.Pairwise (·<·)
def jL:Option Int->Int->Bool
 | none,_=>false
 | some b,a=>decide (a<=b)
def KM (n:Int):Option Int->LI->Int
 | _,[]=>0
 | pr,a::l=>if a<0\/n<=a then 2 else if jL pr a=true then 5 else KM n (some a) l
def pv {α:Type}(l:List α)(k:Nat):Option α:=if k=0 then none else l[k - 1]?
theorem VU {l:List α}{k:Nat}(h:k<l.length):pv l (k+1)=some l[k]:=by simp[pv,h]
def edO:Option Ed->Ed->Bool
 | none,_=>false
 | some y,a=>decide (a.1<y.1\/(a.1=y.1/\a.2.1<=y.2.1))
def ckE (al:LI)(st:Int):Option Ed->List Ed->Int
 | _,[]=>0
 | pr,a::l=>if a.1<0\/st<=a.1\/a.2.2<0\/st<=a.2.2 then 2 else if a.2.1∉al then 9 else if edO pr a=true then 5 else ckE al st (some a) l
def JB (a:Q6):Int :=
 if KM 32 none a.al≠0 then KM 32 none a.al else if a.st<0 then 2 else if 4096<a.st then 3 else if KM a.st none a.mr≠0 then KM a.st none a.mr else ckE a.al a.st none a.ed
def JG:LI->LI->Bool
 | [],_=>false
 | _::_,[]=>true
 | a::_,b::_=>decide (a<=b)
def tl (c:Bool)(l:LI):LI:=bif c then l.tail else l
def hx (a b:LI):Int:=bif JG b a then b.headD 0 else a.headD 0
def jK (keep:Bool->Bool->Bool):Nat->LI->LI->LI
 | 0,_,_=>[]
 | n+1,a,b=>if a=[]/\b=[]then[]else(bif keep (JG a b) (JG b a)then[hx a b]else[])++jK keep n (tl (JG a b) a) (tl (JG b a) b)
def mrg (keep:Bool->Bool->Bool)(a b:LI):LI:=jK keep (a.length+b.length) a b
theorem yZ {a b:LI}(h:¬(a=[]/\b=[])):(tl (JG a b) a).length+(tl (JG b a) b).length<a.length+b.length:=by
 cases a with
 | nil=>cases b with
  | nil=>simp at h
  | cons y b=>simp[JG,tl]
 | cons x a=>cases b with
  | nil=>simp[JG,tl]
  | cons y b =>
   simp only[JG,tl];by_cases E:x<=y <;> by_cases G:y<=x <;> simp[E,G] <;> omega
theorem Qaq (keep:Bool->Bool->Bool):∀(n:Nat) (a b:LI),a.length+b.length<=n->jK keep n a b=mrg keep a b:=by
 have key:∀(n m:Nat) (a b:LI),a.length+b.length<=n->a.length+b.length<=m->jK keep n a b=jK keep m a b:=by
  intro n;induction n with
  | zero =>
   intro m a b E _;have G:a=[]:=Ls oa;have H:b=[]:=Ls oa;subst G H;cases m <;> simp[jK]
  | succ n ih =>
   intro m a b E I;by_cases h:a=[]/\b=[]
   ·obtain⟨rfl,rfl⟩:=h;cases m <;> simp[jK]
   have J:=yZ h;cases m with
   | zero=>omega
   | succ m=>rw[jK,jK,OT h,OT h,ih m _ _ oa oa]
 intro n a b h;exact key n _ a b h (Lx _)
theorem K6 (keep:Bool->Bool->Bool):mrg keep [] []=[]:=rfl
theorem KE (keep:Bool->Bool->Bool){a b:LI}(h:¬(a=[]/\b=[])):
  mrg keep a b=(bif keep (JG a b) (JG b a)then[hx a b]else[])++mrg keep (tl (JG a b) a) (tl (JG b a) b):=by
 have E:=yZ h;rw[<-Qaq keep (a.length+b.length - 1+1) a b oa,jK,OT h,Qaq keep _ _ _ oa]
theorem Qec (keep:Bool->Bool->Bool):∀(n:Nat) (a b:LI),a.length+b.length<=n->(mrg keep a b).length<=a.length+b.length:=by
 intro n;induction n with
 | zero =>
  intro a b h;have E:a=[]:=Ls oa;have G:b=[]:=Ls oa;subst E G;simp[K6]
 | succ n ih =>
  intro a b H;by_cases h:a=[]/\b=[]
  ·obtain⟨rfl,rfl⟩:=h;simp[K6]
  have I:=yZ h;rw[KE keep h];have:=ih (tl (JG a b) a) (tl (JG b a) b) oa;cases keep (JG a b) (JG b a) <;> simp <;> omega
theorem Qbz (keep:Bool->Bool->Bool)(a b:LI):(mrg keep a b).length<=a.length+b.length:=Qec keep _ a b (Lx _)
theorem Qew (q:α->Bool)(es:List α)(lo hi:Nat)(O:lo<=hi)(S:hi<=es.length)(H:∀m (E:m<es.length),m<lo->q es[m]=false)(I:∀m (E:m<es.length),lo<=m->m<hi->q es[m]=true)
  (J:∀m (E:m<es.length),hi<=m->q es[m]=false):(es.drop lo).take (hi - lo)=es.filter q:=by
 have e1:es=es.take lo++((es.drop lo).take (hi - lo)++es.drop hi):=by
  conv=>lhs;rw[<-MG lo es]
  congr 1;conv=>lhs;rw[<-MG (hi - lo) (es.drop lo)]
  rw[List.drop_drop];congr 2;omega
 have f1:(es.take lo).filter q=[]:=by
  rw[Nq];intro a G;obtain⟨m,E,rfl⟩:=LO G;rw[LB]at E;rw[Nh,H m oa oa];simp
 have f3:(es.drop hi).filter q=[]:=by
  rw[Nq];intro a G;obtain⟨m,E,rfl⟩:=LO G;rw[LY]at E;rw[List.getElem_drop,J (hi+m) oa oa];simp
 have f2:((es.drop lo).take (hi - lo)).filter q=(es.drop lo).take (hi - lo):=by
  rw[NL];intro a G;obtain⟨m,E,rfl⟩:=LO G;rw[LB,LY]at E;rw[Nh,List.getElem_drop];exact I (lo+m) oa oa oa
 conv=>rhs;rw[e1]
 rw[L4,L4,f1,f2,f3];simp
def Z7 (es:List Ed)(s:Int):List Ed:=es.filter λe=>decide (e.1=s)
structure ZK (a:Q6):Prop where
 al:∀e∈a.al,0<=e/\e<32
 ali:Xa a.al
 st0:0<=a.st
 st1:a.st<=4096
 mr:∀s∈a.mr,0<=s/\s<a.st
 mri:Xa a.mr
 ed:∀e∈a.ed,0<=e.1/\e.1<a.st/\e.2.1∈a.al/\0<=e.2.2/\e.2.2<a.st
 edi:a.ed.Pairwise λx y=>x.1<y.1\/(x.1=y.1/\x.2.1<y.2.1)
theorem X1 (n:Int):∀(l:LI) (pr:Option Int),KM n pr l=0↔(∀x∈l,0<=x/\x<n)/\Xa l/\∀y,pr=some y->∀x∈l,y<x
 | [],pr=>by simp[KM]
 | a::l,pr=>by
  rw[KM];by_cases O:a<0\/n<=a
  ·rw[OU O];simp only[Ot];constructor
   ·intro h;cases h
   rintro⟨⟨h,_⟩,_⟩;omega
  rw[OT O];by_cases E:jL pr a=true
  ·rw[OU E];constructor
   ·intro h;cases h
   rintro⟨_,_,h⟩;cases pr with
   | none=>simp[jL]at E
   | some y=>simp[jL]at E;have:=h y U a Lq;omega
  rw[OT E,(X1 n l (some a))];simp only[Ot,List.pairwise_cons];constructor
  ·rintro⟨H,I,G⟩;refine⟨⟨oa,H⟩,⟨λb S=>G a U b S,I⟩,?_⟩;rintro y rfl;simp[jL]at E;exact⟨E,λz J=>ov (G a U z J)⟩
  rintro⟨⟨_,H⟩,⟨I,G⟩,_⟩;exact⟨H,G,λy T z J=>by cases T;exact I z J⟩
theorem Qdn (al:LI)(st:Int):∀(l:List Ed) (pr:Option Ed),ckE al st pr l=0↔(∀e∈l,0<=e.1/\e.1<st/\e.2.1∈al/\0<=e.2.2/\e.2.2<st)/\(l.Pairwise λx y=>x.1<y.1\/(x.1=y.1/\x.2.1<y.2.1)) /\
  ∀y,pr=some y->∀e∈l,y.1<e.1\/(y.1=e.1/\y.2.1<e.2.1)
 | [],pr=>by simp[ckE]
 | a::l,pr=>by
  rw[ckE];by_cases S:a.1<0\/st<=a.1\/a.2.2<0\/st<=a.2.2
  ·rw[OU S];simp only[Ot];constructor
   ·intro h;cases h
   rintro⟨⟨h,_⟩,_⟩;omega
  rw[OT S];by_cases G:a.2.1∉al
  ·rw[OU G];constructor
   ·intro h;cases h
   rintro⟨h,_⟩;exact OW (h a Lq).2.2.1 G
  rw[OT G];by_cases E:edO pr a=true
  ·rw[OU E];constructor
   ·intro h;cases h
   rintro⟨_,_,h⟩;cases pr with
   | none=>simp[edO]at E
   | some y=>simp[edO]at E;have:=h y U a Lq;omega
  rw[OT E,(Qdn al st l (some a))];simp only[Ot,List.pairwise_cons];have T:a.2.1∈al:=Lp.1 G;constructor
  ·rintro⟨I,J,H⟩;refine⟨⟨⟨oa,oa,T,oa,oa⟩,I⟩,⟨λb V=>H a U b V,J⟩,?_⟩;rintro y rfl;simp[edO]at E;have Y:y.1<a.1\/y.1=a.1/\y.2.1<a.2.1:=oa
   exact⟨Y,λz O=>ov (H a U z O)⟩
  rintro⟨⟨_,I⟩,⟨J,H⟩,_⟩;exact⟨I,H,λy hy z O=>by cases hy;exact J z O⟩
theorem Z4 (a:Q6):JB a=0↔ZK a:=by
 unfold JB;by_cases E:KM 32 none a.al≠0
 ·rw[OU E];exact⟨λh=>OW h E,λh=>OW ((X1 32 a.al none).2 ⟨h.al,h.ali,λ_ h=>by cases h⟩) E⟩
 rw[OT E];have H:=(X1 32 a.al none).1 (Lp.1 E);by_cases I:a.st<0
 ·rw[OU I];exact⟨λh=>(by cases h),λh=>(ov h.st0)⟩
 rw[OT I];by_cases J:4096<a.st
 ·rw[OU J];exact⟨λh=>(by cases h),λh=>(ov h.st1)⟩
 rw[OT J];by_cases G:KM a.st none a.mr≠0
 ·rw[OU G];exact⟨λh=>OW h G,λh=>OW ((X1 a.st a.mr none).2 ⟨h.mr,h.mri,λ_ h=>by cases h⟩) G⟩
 rw[OT G,Qdn];have O:=(X1 a.st a.mr none).1 (Lp.1 G);exact⟨λh=>⟨H.1,H.2.1,oa,oa,O.1,O.2.1,h.1,h.2.1⟩,λh=>⟨h.ed,h.edi,λ_ h=>by cases h⟩⟩
theorem Je:∀(l:LI) (a n:Int),Xa l->(∀x∈l,a<=x/\x<n)->(l.length:Int)<=max 0 (n - a)
 | [],a,n,_,_=>by simp;omega
 | x::l,a,n,E,G=>by
  simp only[List.pairwise_cons,Ot]at E G;have:=Je l (x+1) n E.2 (λy H=>⟨ov (E.1 y H),(G.2 y H).2⟩);simp only[oX];omega
theorem ZK.al_le {a:Q6}(h:ZK a):a.al.length<=32:=by have:=Je a.al 0 32 h.ali h.al;omega
theorem ZK.mr_le {a:Q6}(h:ZK a):a.mr.length<=4096:=by have:=Je a.mr 0 a.st h.mri h.mr;have:=h.st1;omega
theorem ZK.eds {a:Q6}(h:ZK a):a.ed.Pairwise λx y=>x.1<=y.1:=h.edi.imp λh=>oa
structure Cs where
 ord:LI
 num:LI
 mk':LI
 ed:List Ed
def Yg (l:LI)(k:Int):Int:=l.getD k.toNat 0
def ZC (i:Nat)(c:Cs)(e:Ed):Cs :=
 if Yg c.num e.2.2<0 then⟨c.ord++[e.2.2],c.num.set e.2.2.toNat c.ord.length,c.mk',c.ed++[((i:Int),e.2.1,(c.ord.length:Int))]⟩
 else⟨c.ord,c.num,c.mk',c.ed++[((i:Int),e.2.1,Yg c.num e.2.2)]⟩
def Yq (a:Q6)(i:Nat)(c:Cs):Cs:=if Yg c.ord i∈a.mr then⟨c.ord,c.num,c.mk'++[(i:Int)],c.ed⟩else c
def zx (a:Q6)(i:Nat)(c:Cs):Cs:=(Z7 a.ed (Yg c.ord i)).foldl (ZC i) (Yq a i c)
def Jf (a:Q6):Nat->Nat->Cs->Cs
 | 0,_,c=>c
 | f+1,i,c=>if i<c.ord.length then Jf a f (i+1) (zx a i c)else c
def YZ (a:Q6):Cs:=⟨[0],(oO a.st.toNat (-1)).set 0 0,[],[]⟩
def Yk (a:Q6):Q6:=if a.st=0 then⟨a.al,0,[],[]⟩else
 let c:=Jf a a.st.toNat 0 (YZ a);⟨a.al,c.ord.length,c.mk',c.ed⟩
def neg (l:LI):Nat:=(l.filter (·<0)).length
theorem U0:∀(l:LI) (k:Nat) (v:Int) (h:k<l.length),l[k]<0->0<=v->neg (l.set k v)+1=neg l
 | a::l,0,v,_,E,G=>by
  have H:a<0:=E;simp[neg,H,show ¬v<0 by omega]
 | a::l,k+1,v,h,E,G=>by
  have ih:=U0 l k v (oA h) E G;unfold neg at *;simp only[List.set_cons_succ,List.filter_cons];split
  ·simp only[oX];omega
  exact ih
structure UL (st:Int)(c:Cs):Prop where
 nl:c.num.length=st.toNat
 sum:c.ord.length+neg c.num=st.toNat
 ord:∀s∈c.ord,0<=s/\s<st
 num:∀v∈c.num,v<c.ord.length
 el:c.ed.length<=1000000000
theorem UL.le {st:Int}{c:Cs}(h:UL st c):c.ord.length<=st.toNat:=by have:=h.sum;omega
theorem U5 {l:LI}{k:Int}(h:k.toNat<l.length):Yg l k=l[k.toNat]:=by unfold Yg;simp[oR,h]
theorem Qcg {st:Int}{c:Cs}{e:Ed}(h:UL st c)(O:0<=e.2.2)(S:e.2.2<st)(H:c.ed.length+1<=1000000000):UL st (ZC i c e):=by
 have I:e.2.2.toNat<c.num.length:=by rw[h.nl];omega
 unfold ZC;split
 ·rename_i J;rw[U5 I]at J;refine⟨by simp[h.nl],?_,?_,?_,oA H⟩
  ·have:=U0 c.num e.2.2.toNat c.ord.length I J oa;have:=h.sum;simp only[oN,oP];omega
  ·intro s E;simp only[oW,oJ]at E;rcases E with E|rfl
   ·exact h.ord s E
   exact⟨O,S⟩
  intro v G;simp only[oN,oP];rcases MU G with G|rfl
  ·have:=h.num v G;omega
  omega
 exact⟨h.nl,h.sum,h.ord,h.num,oA H⟩
theorem Qci (i:Nat)(c:Cs)(e:Ed):(ZC i c e).ed.length=c.ed.length+1:=by unfold ZC;split <;> simp
theorem Qjg {a:Q6}{st:Int}{c:Cs}(h:UL st c):UL st (Yq a i c):=by
 unfold Yq;split
 ·exact⟨h.nl,h.sum,h.ord,h.num,h.el⟩
 exact h
theorem ZV {es:List Ed}{s:Int}{e:Ed}(h:e∈Z7 es s):e∈es/\e.1=s:=by unfold Z7 at h;simpa using h
theorem Qgc {a:Q6}(O:0<a.st):UL a.st (YZ a):=by
 have H:0<a.st.toNat:=oa
 refine⟨by simp[YZ],?_,?_,?_,by simp[YZ]⟩
 ·have I:0<(oO a.st.toNat (-1:Int)).length:=by simpa using H
  have S:=U0 (oO a.st.toNat (-1)) 0 0 I od (NQ _);have T:neg (oO a.st.toNat (-1))=a.st.toNat:=by
   unfold neg;rw[NL.2 (by intro b J;have:=NJ J;subst this;rfl)];simp
  simp only[YZ,oP];omega
 ·intro s G;simp[YZ]at G;subst G;omega
 intro v E;simp only[YZ,oP]at *;rcases MU E with E|rfl
 ·have:=NJ E;omega
 omega
theorem QaT {a:Q6}{f:Nat}{c:Cs}(h:¬i<c.ord.length):Jf a f i c=c:=by
 cases f with
 | zero=>rfl
 | succ f=>rw[Jf,OT h]
theorem ZK.ed_le {a:Q6}(h:ZK a):a.ed.length<=131072:=by
 have H:Xa (a.ed.map λe=>e.1*32+e.2.1):=by
  refine MQ.2 (List.Pairwise.imp_of_mem ?_ h.edi);intro x y hx I S;have E:=h.al _ (h.ed x hx).2.2.1;have G:=h.al _ (h.ed y I).2.2.1;omega
 have E:=Je _ 0 131072 H (by
  intro v J;obtain⟨e,O,rfl⟩:=LD.1 J;have G:=h.ed e O;have T:=h.al _ G.2.2.1;have:=h.st1;omega)
 simp only[Oc]at E;omega
theorem Vz (es:List Ed)(s:Int):(Z7 es s).length<=es.length:=Mg _ _
def ckL:List Q6->Int
 | []=>0
 | a::l=>if JB a≠0 then JB a else ckL l
def qt (l:List Q6):Int:=if 12<l.length then 3 else ckL l
theorem Qdl:∀(l:List Q6),ckL l=0↔∀a∈l,ZK a
 | []=>by simp[ckL]
 | a::l=>by
  rw[ckL];by_cases h:JB a=0
  ·rw[OT (oA h),Qdl l];simp[(Z4 a).1 h]
  rw[OU h];simp only[Ot];exact⟨λe=>OW e h,λe=>OW ((Z4 a).2 e.1) h⟩
def evs (l:List Q6):LI:=l.foldl (λacc a=>mrg (· || ·) acc a.al) []
def zm (m:List ((Int×Int)×O2))(es:List Ed):List ((Int×Int)×O2):=es.foldl (λm e=>xd m (e.1,e.2.1) (sS e.2.2)) m
def xj:List Ed->Int->Int->Option Int
 | [],_,_=>none
 | e::l,s,v=>if e.1=s/\e.2.1=v then some e.2.2 else xj l s v
theorem QaH {l:List Ed}{s v:Int}(h:∀e∈l,¬(e.1=s/\e.2.1=v)):xj l s v=none:=by
 induction l with
 | nil=>rfl
 | cons e l ih =>
  rw[xj,OT (h e Lq)];exact ih λe E=>h e (Lk _ E)
theorem QaI:∀(es:List Ed) (m:List ((Int×Int)×O2)) (s v:Int),(es.Pairwise λx y=>x.1<y.1\/(x.1=y.1/\x.2.1<y.2.1)) ->
  O9 (zm m es) (s,v)=match xj es s v with|some t=>some (sS t)|none=>O9 m (s,v)
 | [],m,s,v,_=>rfl
 | e::es,m,s,v,h=>by
  simp only[List.pairwise_cons]at h;have ih:=QaI es (xd m (e.1,e.2.1) (sS e.2.2)) s v h.2;unfold zm at *;rw[L5,ih,xj];by_cases E:e.1=s/\e.2.1=v
  ·rw[OU E,QaH (λx hx H=>ov (h.1 x hx))];simp only[XJ];rw[OU (by rw[E.1,E.2])]
  rw[OT E];cases xj es s v with
  | some t=>rfl
  | none =>
   simp only[XJ];rw[OT (λG=>E (oA G))]
def Y6 (ev:Int):List Q6->LI->Option (LI)
 | a::bs,t::ts=>if ev∉a.al then(Y6 ev bs ts).map (t::·)else match xj a.ed t ev with|none=>none|some u=>(Y6 ev bs ts).map (u::·)
 | _,_=>some []
def JZ:List Q6->LI->Bool
 | a::bs,t::ts=>decide (t∈a.mr) && JZ bs ts
 | _,_=>true
structure Sy where
 tup:List (LI)
 mk':LI
 ed:List Ed
def syE (aa:List Q6)(i:Nat)(t:LI)(s:Sy)(v:Int):Option Sy :=
 match Y6 v aa t with
 | none=>some s
 | some u=>if u∈s.tup then some ⟨s.tup,s.mk',s.ed++[((i:Int),v,(s.tup.idxOf u:Int))]⟩
  else if s.tup.length=4096 then none else some ⟨s.tup++[u],s.mk',s.ed++[((i:Int),v,(s.tup.length:Int))]⟩
def yo (aa:List Q6)(i:Nat)(t:LI):LI->Sy->Option Sy
 | [],s=>some s
 | v::vs,s=>(syE aa i t s v).bind (yo aa i t vs)
def Yn (aa:List Q6)(i:Nat)(t:LI)(s:Sy):Sy:=if JZ aa t=true then⟨s.tup,s.mk'++[(i:Int)],s.ed⟩else s
def jZ (s:Sy)(i:Nat):LI:=s.tup.getD i []
def syL (aa:List Q6):Nat->Nat->Sy->Option Sy
 | 0,_,s=>some s
 | f+1,i,s=>if i<s.tup.length then(yo aa i (jZ s i) (evs aa) (Yn aa i (jZ s i) s)).bind (syL aa f (i+1))else some s
def j5 (aa:List Q6):Sy:=⟨[oO aa.length 0],[],[]⟩
def xo (aa:List Q6):Option (Q6×List (LI)):=
 if ∃a∈aa,a.st=0 then some (⟨evs aa,0,[],[]⟩,[])else(syL aa 4096 0 (j5 aa)).map λs=>(⟨evs aa,s.tup.length,s.mk',s.ed⟩,s.tup)
theorem Qih {aa:List Q6}{f:Nat}{s:Sy}(h:¬i<s.tup.length):syL aa f i s=some s:=by
 cases f with
 | zero=>rfl
 | succ f=>rw[syL,OT h]
def Vt (aa:List Q6)(t:LI):Prop:=t.length=aa.length/\∀i (h:i<t.length) (E:i<aa.length),0<=t[i]/\t[i]<aa[i].st
theorem Vt.cons {a:Q6}{aa:List Q6}{u:Int}{t:LI}(E:0<=u)(G:u<a.st)(h:Vt aa t):Vt (a::aa) (u::t):=by
 refine⟨by simp[h.1],λi H I=>?_⟩;cases i with
 | zero=>exact⟨E,G⟩
 | succ i=>exact h.2 i (oA H) (oA I)
theorem Qc4 {l:List Ed}{s v u:Int}(h:xj l s v=some u):(s,v,u)∈l:=by
 induction l with
 | nil=>cases h
 | cons e l ih =>
  rw[xj]at h;split at h
  ·rename_i E;obtain⟨e1,e2⟩:=E;cases h
   obtain⟨a,b,c⟩:=e;subst e1 e2;exact Lq
  exact Lk _ (ih h)
theorem Kf {v:Int}:∀{aa:List Q6}{t u:LI},(∀a∈aa,ZK a)->Vt aa t->Y6 v aa t=some u->Vt aa u
 | [],t,u,_,h,E=>by
  cases t with
  | nil=>simp[Y6]at E;subst E;exact h
  | cons x t=>have:=h.1;simp at this
 | a::aa,[],u,_,h,E=>by have:=h.1;simp at this
 | a::aa,x::t,u,H,h,E=>by
  have hx:=h.2 0 od od;have I:Vt aa t:=⟨by have:=h.1;simpa using this,λi O S=>h.2 (i+1) (oA O) (oA S)⟩;have J:∀a∈aa,ZK a:=λa T=>H a (Lk _ T);rw[Y6]at E;split at E
  ·obtain⟨V,G,rfl⟩:=Ms.1 E;exact Vt.cons hx.1 hx.2 (Kf J I G)
  split at E
  ·cases E
  rename_i q Y;obtain⟨V,G,rfl⟩:=Ms.1 E;have:=(H a Lq).ed _ (Qc4 Y);exact Vt.cons this.2.2.2.1 this.2.2.2.2 (Kf J I G)
structure q8 (aa:List Q6)(s:Sy):Prop where
 v:∀t∈s.tup,Vt aa t
 le:s.tup.length<=4096
theorem j0 {aa:List Q6}{t:LI}{s:Sy}(h:q8 aa s):q8 aa (Yn aa i t s):=by
 unfold Yn;split
 ·exact⟨h.v,h.le⟩
 exact h
theorem Qik {aa:List Q6}{t:LI}{s H:Sy}{v:Int}(I:∀a∈aa,ZK a)(h:q8 aa s)(G:Vt aa t)(E:syE aa i t s v=some H):q8 aa H:=by
 unfold syE at E;split at E
 ·cases E;exact h
 rename_i u J;split at E
 ·cases E;exact⟨h.v,h.le⟩
 split at E
 ·cases E
 cases E
 have:=h.le;refine⟨λt G=>?_,by simp;omega⟩;simp only[oW,oJ]at G;rcases G with G|rfl
 ·exact h.v t G
 exact(Kf I G J)
structure UN where
 en:LI
 dis:LI
 mk':Bool
 ps:Bool
def Qpz:UN:=⟨[],[],false,false⟩
def Qok (l:LI)(v:Int):LI:=mrg (· || ·) l [v]
def Qr1 (p s:Q6)(x y:Int)(c:UN)(v:Int):UN :=
 match xj p.ed x v with
 | none=>c
 | some _=>match xj s.ed y v with
  | some _=>⟨Qok c.en v,c.dis,c.mk',c.ps⟩
  | none=>⟨c.en,Qok c.dis v,c.mk',c.ps⟩
def Qr2 (p s:Q6)(x y:Int)(c:UN):UN:=⟨c.en,c.dis,decide (y∈s.mr),c.ps || decide (x∈p.mr)⟩
def Qr0 (p s:Q6)(x y:Int)(c:UN):UN:=s.al.foldl (Qr1 p s x y) (Qr2 p s x y c)
def px (q:LI):Int:=q.getD 0 0
def py (q:LI):Int:=q.getD 1 0
def QrZ (p s:Q6)(l:List UN)(q:LI):List UN:=l.set (py q).toNat (Qr0 p s (px q) (py q) (l.getD (py q).toNat Qpz))
def ctls (p s:Q6)(pairs:List (LI)):List UN:=pairs.foldl (QrZ p s) (oO s.st.toNat Qpz)
def occs (n:Nat)(pairs:List (LI)):List Bool:=pairs.foldl (λo q=>o.set (py q).toNat true) (oO n false)
def meets (a b:LI):LI:=mrg (· && ·) a b
def QqX (a b:UN):Bool:=decide ((meets a.en b.dis).length+(meets b.en a.dis).length=0) && (!a.ps || !b.ps || a.mk' == b.mk')
def O6 (l:LI)(i:Nat):Int:=l.getD i 0
def Qjf (cl:LI)(x y:Nat):LI:=cl.map λc=>if c=O6 cl y then O6 cl x else c
def lget (l:List UN)(i:Nat):UN:=l.getD i Qpz
def to0 (s:Q6)(x:Nat)(v:Int):Int:=match xj s.ed x v with|some u=>u|none=>0
def clE (s:Q6)(x y:Nat)(z:LI×Bool)(v:Int):LI×Bool :=
 if O6 z.1 (to0 s x v).toNat≠O6 z.1 (to0 s y v).toNat then(Qjf z.1 (to0 s x v).toNat (to0 s y v).toNat,true)else z
def clY (s:Q6)(l:List UN)(x:Nat)(z:LI×Bool)(y:Nat):LI×Bool :=
 if O6 z.1 x<0\/O6 z.1 x≠O6 z.1 y then z else(meets (lget l x).en (lget l y).en).foldl (clE s x y) z
def clX (s:Q6)(l:List UN)(n:Nat)(z:LI×Bool)(x:Nat):LI×Bool:=(oS (x+1) (n - (x+1))).foldl (clY s l x) z
def pass (s:Q6)(l:List UN)(cl:LI):LI×Bool:=(oS 0 cl.length).foldl (clX s l cl.length) (cl,false)
def Qkz (s:Q6)(l:List UN):Nat->LI->LI
 | 0,cl=>cl
 | f+1,cl=>if(pass s l cl).2=true then Qkz s l f (pass s l cl).1 else(pass s l cl).1
def Qnm (l:List UN)(cl:LI):Bool :=
 (oS 0 cl.length).all λx=>(oS 0 x).all λy=>!(decide (0<=O6 cl x/\O6 cl x=O6 cl y) && !QqX (lget l x) (lget l y))
def Qrz (s:Q6)(l:List UN)(cl:LI)(x y:Nat):LI :=
 if O6 cl x<0\/O6 cl y<0\/O6 cl x=O6 cl y then cl else
  let d:=Qkz s l (cl.length*cl.length+1) (Qjf cl x y)
  if Qnm l d=true then d else cl
def Qry (s:Q6)(l:List UN)(n:Nat)(cl:LI)(x:Nat):LI:=(oS (x+1) (n - (x+1))).foldl (λc y=>Qrz s l c x y) cl
def Qr4 (o:List Bool):LI:=(oS 0 o.length).map λi=>if o.getD i false=true then(i:Int)else -1
def Qr3 (s:Q6)(l:List UN)(cl:LI):LI:=(oS 0 cl.length).foldl (Qry s l cl.length) cl
def QrQ (z:LI×LI)(c:Int):LI×LI :=
 if c∈z.1 then(z.1,z.2++[(z.1.idxOf c:Int) - 1])else(z.1++[c],z.2++[(z.1.length:Int) - 1])
def nums (cl:LI):LI:=(cl.foldl QrQ ([-1],[])).2
def Qq4 (p s:Q6)(pairs:List (LI)):LI:=nums (Qr3 s (ctls p s pairs) (Qr4 (occs s.st.toNat pairs)))
theorem xH {α:Type}(g:α->LV)(sz:Nat)(G:∀x,(g x).length=sz):∀(l:List α) (i j:Nat) (h:i<l.length) (y:α) (u:O2),j<sz->g y=(g l[i]).set j u ->
  (l.flatMap g).set (i*sz+j) u=(l.set i y).flatMap g
 | x::l,0,j,h,y,u,H,E=>by
  simp only[List.getElem_cons_zero]at E;simp only[OP,oZ,Of,List.set_cons_zero];rw[List.set_append_left _ _ (by rw[G];exact H),E]
 | x::l,i+1,j,h,y,u,H,E=>by
  simp only[List.getElem_cons_succ]at E;simp only[Of,List.set_cons_succ];rw[List.set_append_right _ _ (by rw[G,Mu];omega),G,show(i+1)*sz+j - sz=i*sz+j by rw[Mu];omega,xH g sz G l i j (oA h) y u H E]
theorem ZL {l:LI}(h:i<l.length):l[i]=O6 l i:=by simp[O6,oR,h]
section
variable {l:xD}{K:Fr->O1->Prop}{f:Fr}{pS:String}{C:xz}{pl:xt}{i0:Nat}
theorem xic {x:O3}{e bys:Nat}[Sl P t e 1 bys z]{L:LN}{li:LI}{v:O2}{k:IntKind}
  (h:QL L ↑w v li) (E:ev f x=v) (G:ev f y=.int k i) (hi:i<li.length)
  (hK:∀a,At L ↑w a [sS (O6 li i)]->XL P ops K l (QN f d (.pointer (some a))) w) (H:Z9 ops f ⟨d,.indexAddr t x y,ty,pS,af,gd⟩=true:=by rfl):
  XL P ops K (⟨d,.indexAddr t x y,ty,pS,af,gd⟩::l) f w :=
 xii h E G hi (λa I=>hK a (by rw[<-ZL hi];exact I)) H
theorem pic {x:O3}{e bys:Nat}[Sl P t e 1 bys z]{L:LN}{li:LI}{v:O2}{k:IntKind}
  (E:QS ops i0=⟨d,.indexAddr t x y,ty,pS,af,gd⟩) (h:QL L H v li) (G:ev f x=v) (I:ev f y=.int k i) (hi:i<li.length)
  (hK:∀a,At L H a [sS (O6 li i)]->XP P ops C K pl (QN f d (.pointer (some a))) w) (J:Z9 ops f (QS ops i0)=true:=by rfl):XP P ops C K ((i0,true)::pl) f w :=
 pii E h G I hi (λa O=>hK a (by rw[<-ZL hi];exact O)) J
end
theorem QiD {a:Nat}(h:a<n):oS a (n - a)=a::oS (a+1) (n - (a+1)):=by
 rw[show n - a=(n - (a+1))+1 by omega,Na]
theorem Ql3 {a:Nat}(h:n<=a):oS a (n - a)=[]:=by rw[show n - a=0 by omega];rfl
section
variable {f:Fr}{all:xD}{C:xz}{K:Fr->O1->Prop}
def ja (all:Array Oper)(i j:Nat)(E G:xt):xt->Array Bool->Bool
 | [],ls=>Region.ready .any all ls == [i,j] && Xo all E (ls.setIfInBounds i true) && Xo all G (ls.setIfInBounds j true)
 | (k,q)::pl,ls=>q && (Region.ready .any all ls).contains k && Region.free .any all ls k && ja all i j E G pl (ls.setIfInBounds k true)
def QjQ (all:xD)(pl:xt)(i j:Nat)(E G:xt):Bool :=
 Region.noSelect all.toArray && pl.length+1+E.length == all.length && E.length == G.length && ja all.toArray i j E G pl (oU all.length false)
def Fk (P:O4)(all:xD)(C:xz)(K:Fr->O1->Prop)(i j:Nat)(G H:xt)(f:Fr)(w:O1):Prop :=
 (Z9 all f (QS all i)=true/\XO P (QS all i) f w λE w'=>C w'/\XP P all C K G E w') /\
 (Z9 all f (QS all j)=true/\XO P (QS all j) f w λE w'=>C w'/\XP P all C K H E w')
theorem UI {i j:Nat}{G V:xt}(hl:G.length=V.length)(H:Region.noSelect all.toArray=true):∀(pl:xt) (ls:Array Bool) (f:Fr) (w:O1),ls.size=all.length->C w->ja all.toArray i j G V pl ls=true ->
  XP P all C (Fk P all C K i j G V) pl f w->XA P all C K (pl.length+(1+G.length)) ls f w
 | [],ls,f,w,ha,I,J,h=>by
  simp only[ja,oM,beq_iff_eq]at J;obtain⟨⟨O,h1⟩,h2⟩:=J;simp only[XP]at h;rw[Nl,LT,Nd];refine X3 (λh0=>(by rw[h0]at O;cases O)) ?_;rw[O];intro k hk o E;have S:(ls.setIfInBounds k true).size=all.length:=by simpa using ha
  simp only[oL,oK,or_false]at hk;rcases hk with rfl|rfl
  ·have:=h.1;rw[Zr E]at this;rw[this.1,cond_true];exact this.2.Y λv w' hx=>⟨.inr (.inr hx.1),ZY H G _ _ _ S (.inl hx.1) h1 hx.2⟩
  have:=h.2;rw[Zr E]at this;rw[this.1,cond_true,hl];exact this.2.Y λv w' hx=>⟨.inr (.inr hx.1),ZY H V _ _ _ S (.inl hx.1) h2 hx.2⟩
 | (T,q)::pl,ls,f,w,ha,I,J,h=>by
  simp only[ja,oM]at J;obtain⟨⟨⟨rfl,O⟩,hf⟩,hc⟩:=J;simp only[XP]at h;have hb:T∈Region.ready .any all.toArray ls:=by simpa using O
  have e:(oQ ((T,true)::pl))+(1+G.length)=(pl.length+(1+G.length))+1:=by simp;omega
  rw[e];cases E:all[T]? with
  | none =>
   exfalso;obtain⟨_,o,hi,_⟩:=mem_ready.1 hb;simp[E]at hi
  | some o =>
   rw[Zr E]at h;have he:∀(j:Nat) (o:Oper) cs b,all[j]?=some o->o.op≠.select cs b:=λj o cs b hj=>Region.noSelect_spec H j o cs b (oA hj);have hh:=λj oj hj=>Region.free_spec (ops:=all.toArray) (md:=.any) (i:=T) (oi:=o) (listed:=ls) (oA E) hf j oj (oA hj);have S:(ls.setIfInBounds T true).size=all.length:=by simpa using ha
   cases Y:Z9 all f o with
   | false =>
    rw[Y]at h;exact Xs (v:=undef) (D:=λw=>zi o=true->C w) E (λ_ h=>h) he _ ls f w (λ_=>I) hh hb (.inr ⟨Y,U⟩) (UI hl H pl _ _ _ S I hc h)
   | true =>
    rw[Y]at h;simp only[cond_true]at h;obtain⟨v,hv,hx⟩:=h;exact Xs (v:=v) (D:=λw=>zi o=true->C w) E (λ_ h=>h) he _ ls f w (λ_=>I) hh hb (.inl ⟨Y,hv⟩) (UI hl H pl _ _ _ S I hc hx)
theorem QnF {Q:Exit->Fr->O1->Prop}(C:xz)(pl:xt)(i j:Nat)(G H:xt)(J:P.follows .mixedOrders=true)(O:XM n all=true)(E:QjQ all pl i j G H=true)
  (S:C { w with drawn:=w.drawn+1 }) (h:XP P all C (Fk P all C (λf w=>Q .normal f w) i j G H) pl f { w with drawn:=w.drawn+1 }):W P n (.region id all.toArray true) Q f w:=by
 simp only[QjQ,oM,beq_iff_eq]at E;obtain⟨⟨⟨T,V⟩,Y⟩,E⟩:=E;refine J4 C J O ?_;have I:=UI Y T pl _ _ _ od S E h;rw[<-ON,V]at I;exact I
end
section
variable {f:Fr}{pS:String}
class Ay (P:O4)(t:Nat)(m e sz:outParam Nat):Prop where
 u:P.underlying t=some (.array m e)
 i:(P.info? e).map (·.size)=some sz
theorem Yj {x:O3}{m e:Nat}[h:Ay P t m e sz]{o:Nat}{k:IntKind}(hx:ev f x=.pointer (some ⟨b,o,none⟩))(G:ev f y=.int k i)(H:i<m):
  (execOp (ev f) ⟨d,.indexAddr t x y,ty,pS,af,gd⟩).run P w=.ok (.value (.pointer (some ⟨b,o+i*sz,none⟩))) w:=by
 have hi:=h.i;cases E:P.info? e with
 | none=>simp[E]at hi
 | some ii =>
  simp[E]at hi;simp[execOp,hx,G,Instr.indexAt,asIntOf,run_underlying h.u,Instr.sureAddr,sizeOf,typeInfo,E,hi,KG];intro I;omega
theorem QnB {a:Nat}(E:a<256):inK .u8 ((a &&& b:Nat):Int):=by
 have:a &&& b<=a:=Nat.and_le_left;exact⟨oa,oa⟩
theorem yG {G:Nat}{x:O3}{a:Nat}(hx:ev f x=.int .u8 a)(H:ev f y=.int .u8 b)(E:a<256)(I:b<256):
  (execOp (ev f) ⟨d,.binOp .and t x y G,ty,pS,af,gd⟩).run P w=.ok (.value (.int .u8 ((a &&& b:Nat):Int))) w:=by
 refine Jy hx H ?_;simp only[binOp,Op.intBits,BitVec.ofInt_natCast,ne_eq,not_true_eq_false,if_false,Sem.run_pure];rw[BitVec.toNat_and,BitVec.toNat_ofNat,BitVec.toNat_ofNat,Nb (show a<2 ^ IntKind.u8.bits from E),Nb (show b<2 ^ IntKind.u8.bits from I),YR (QnB E)]
theorem Qbg (m i:Nat):((m:Int) / 2 ^ i)=((m / 2 ^ i:Nat):Int):=by rw[Int.natCast_ediv,Int.natCast_pow];rfl
end
inductive Pt where
 | pl (l:xt)
 | fk (pre:xt) (i j:Nat) (t1 t2:Pt)
def Pt.len:Pt->Nat
 | .pl l=>l.length
 | .fk pre _ _ t1 _=>pre.length+(1+t1.len)
def Kj (all:Array Oper):xt->Array Bool->Bool
 | [],_=>true
 | (k,q)::pl,ls=>q && (Region.ready .any all ls).contains k && Region.free .any all ls k && Kj all pl (ls.setIfInBounds k true)
def Ya:xt->Array Bool->Array Bool
 | [],ls=>ls
 | (k,_)::pl,ls=>Ya pl (ls.setIfInBounds k true)
def XT (P:O4)(all:xD)(C:xz)(K:Fr->O1->Prop):Pt->Fr->O1->Prop
 | .pl l=>XP P all C K l
 | .fk pre i j t1 t2=>XP P all C (λf w=>(Z9 all f (QS all i)=true/\XO P (QS all i) f w λE w'=>C w'/\XT P all C K t1 E w') /\
   (Z9 all f (QS all j)=true/\XO P (QS all j) f w λE w'=>C w'/\XT P all C K t2 E w')) pre
section
variable {f:Fr}{all:xD}{C:xz}{K B:Fr->O1->Prop}
theorem YU:∀(pl:xt) (ls:Array Bool),(Ya pl ls).size=ls.size
 | [],_=>rfl
 | (k,q)::pl,ls=>by rw[Ya,YU];simp
theorem YQ {m:Nat}(O:Region.noSelect all.toArray=true):∀(pl:xt) (ls:Array Bool) (f:Fr) (w:O1),C w->Kj all.toArray pl ls=true ->
  (∀f,B f w->XA P all C K m (Ya pl ls) f w)->XP P all C B pl f w->XA P all C K (pl.length+m) ls f w
 | [],ls,f,w,E,S,H,h=>by
  simp only[XP]at h;rw[Nl,LT];exact H f h
 | (I,q)::pl,ls,f,w,E,S,H,h=>by
  simp only[Kj,oM]at S;obtain⟨⟨⟨rfl,hr⟩,hf⟩,Y⟩:=S;simp only[XP]at h;have T:I∈Region.ready .any all.toArray ls:=by simpa using hr
  have e:(oQ ((I,true)::pl))+m=(pl.length+m)+1:=by simp;omega
  rw[e];cases G:all[I]? with
  | none =>
   exfalso;obtain⟨_,o,hc,_⟩:=mem_ready.1 T;simp[G]at hc
  | some o =>
   rw[Zr G]at h;have ha:∀(j:Nat) (o:Oper) cs b,all[j]?=some o->o.op≠.select cs b:=λj o cs b V=>Region.noSelect_spec O j o cs b (oA V);have hb:=λj oj V=>Region.free_spec (ops:=all.toArray) (md:=.any) (i:=I) (oi:=o) (listed:=ls) (oA G) hf j oj (oA V);cases J:Z9 all f o with
   | false =>
    rw[J]at h;exact Xs (v:=undef) (D:=λw=>zi o=true->C w) G (λ_ h=>h) ha _ ls f w (λ_=>E) hb T (.inr ⟨J,U⟩) (YQ O pl _ _ _ E Y H h)
   | true =>
    rw[J]at h;simp only[cond_true]at h;obtain⟨v,hv,hx⟩:=h;exact Xs (v:=v) (D:=λw=>zi o=true->C w) G (λ_ h=>h) ha _ ls f w (λ_=>E) hb T (.inl ⟨J,hv⟩) (YQ O pl _ _ _ E Y H hx)
end
end Go.Lg
namespace Go.Proofs
open Go.Proofs.Tryz
open Go.Lg
instance:Sl sV 32 102 4 4 (.agg #[.int .u8 0,.int .u8 0,.int .u8 0,.int .u8 0]):={}
instance:Sl sV 37 75 3 3 (.agg #[.int .u8 0,.int .u8 0,.int .u8 0]):={}
instance:Sl sV 40 169 5 32 (.agg #[.string ByteArray.empty,.bool false,.bool false,.bool false,sS 0]):={}
instance:Sl sV 41 98 5 96 (.agg #[.string ByteArray.empty,nS,sS 0,nS,nS]):={}
instance:Sl sV 42 105 2 40 (.agg #[.string ByteArray.empty,nS]):={}
instance:Sl sV 43 110 3 48 (.agg #[.string ByteArray.empty,nS,sS 0]):={}
instance:Sl sV 58 87 2 24 (.agg #[sS 0,.string ByteArray.empty]):={}
instance:Sl sV 63 3 1 8 (sS 0):={}
instance:Sl sV 64 159 3 24 (.agg #[sS 0,sS 0,sS 0]):={}
instance:Sl sV 67 145 2 24 (.agg #[.string ByteArray.empty,sS 0]):={}
instance:Sl sV 68 147 2 24 (.agg #[.string ByteArray.empty,sS 0]):={}
instance:Sl sV 76 72 10 168 (.agg #[.bool false,sS 0,.string ByteArray.empty,nS,sS 0,nS,nS,nS,nS,sS 0]):={}
instance:Sl sV 82 92 10 184 (.agg #[sS 0,.string ByteArray.empty,sS 0,nS,sS 0,nS,nS,nS,nS,nS]):={}
instance:Sl sV 88 261 4 32 (.agg #[sS 0,sS 0,sS 0,sS 0]):={}
instance:Sl sV 103 107 2 16 (.agg #[sS 0,sS 0]):={}
instance:Sl sV 108 112 2 16 (.agg #[sS 0,sS 0]):={}
instance:Sl sV 115 70 9 160 (.agg #[sS 0,.string ByteArray.empty,nS,sS 0,nS,nS,nS,nS,sS 0]):={}
instance:Sl sV 120 150 15 304 (.agg #[sS 0,.string ByteArray.empty,sS 0,nS,sS 0,nS,nS,nS,nS,nS,nS,nS,nS,nS,nS]):={}
instance:Sl sV 123 60 3 72 (.agg #[nS,nS,nS]):={}
instance:Sl sV 124 140 1 8 (.nilFunc):={}
instance:Sl sV 127 220 15 304 (.agg #[sS 0,.string ByteArray.empty,sS 0,nS,sS 0,nS,nS,nS,nS,nS,nS,nS,nS,nS,nS]):={}
instance:Sl sV 132 129 6 144 (.agg #[nS,nS,nS,nS,nS,nS]):={}
instance:Sl sV 148 66 4 80 (.agg #[nS,sS 0,nS,nS]):={}
instance:Sl sV 160 63 1 24 (nS):={}
instance:Sl sV 161 171 4 32 (.agg #[sS 0,sS 0,sS 0,sS 0]):={}
instance:Sl sV 178 5 1 1 (.int .u8 0):={}
instance:Sl sV 187 98 5 96 (.agg #[.string ByteArray.empty,nS,sS 0,nS,nS]):={}
instance:Sl sV 204 210 3 40 (.agg #[sS 0,sS 0,nS]):={}
instance:Sl sV 255 4 1 1 (.bool false):={}
instance:Sl sV 286 290 3 24 (.agg #[sS 0,sS 0,.nilFunc]):={}
instance:Sl sV 320 395 1 8 (.map none):={}
instance:Sl sV 341 400 1 8 (.nilFunc):={}
instance:Sl sV 371 370 2 32 (.agg #[nS,sS 0]):={}
instance:Sl sV 412 411 2 32 (.agg #[nS,sS 0]):={}
instance:Sl sV 426 64 1 24 (nS):={}
instance:Zg sV 28 0 0:={}
instance:Zg sV 28 1 1:={}
instance:Zg sV 28 2 2:={}
instance:Zg sV 36 0 0:={}
instance:Zg sV 36 1 5:={}
instance:Zg sV 36 2 6:={}
instance:Zg sV 36 3 9:={}
instance:Zg sV 36 4 90:={}
instance:Zg sV 36 5 91:={}
instance:Zg sV 36 6 93:={}
instance:Zg sV 36 7 147:={}
instance:Zg sV 36 8 148:={}
instance:Zg sV 36 9 151:={}
instance:Zg sV 45 0 0:={}
instance:Zg sV 45 1 1:={}
instance:Zg sV 45 2 2:={}
instance:Zg sV 45 3 3:={}
instance:Zg sV 45 4 4:={}
instance:Zg sV 60 0 0:={}
instance:Zg sV 60 1 1:={}
instance:Zg sV 60 2 2:={}
instance:Zg sV 66 0 0:={}
instance:Zg sV 66 1 1:={}
instance:Zg sV 66 2 2:={}
instance:Zg sV 66 3 3:={}
instance:Zg sV 70 0 0:={}
instance:Zg sV 70 1 1:={}
instance:Zg sV 70 2 2:={}
instance:Zg sV 70 3 6:={}
instance:Zg sV 70 4 7:={}
instance:Zg sV 70 5 8:={}
instance:Zg sV 72 0 0:={}
instance:Zg sV 72 1 1:={}
instance:Zg sV 75 0 0:={}
instance:Zg sV 75 1 1:={}
instance:Zg sV 75 2 2:={}
instance:Zg sV 87 1 1:={}
instance:Zg sV 90 0 0:={}
instance:Zg sV 90 1 1:={}
instance:Zg sV 90 2 2:={}
instance:Zg sV 92 0 0:={}
instance:Zg sV 92 1 2:={}
instance:Zg sV 92 2 3:={}
instance:Zg sV 92 3 7:={}
instance:Zg sV 98 0 0:={}
instance:Zg sV 98 1 1:={}
instance:Zg sV 105 0 0:={}
instance:Zg sV 105 1 1:={}
instance:Zg sV 107 0 0:={}
instance:Zg sV 107 1 1:={}
instance:Zg sV 110 0 0:={}
instance:Zg sV 110 1 1:={}
instance:Zg sV 110 2 2:={}
instance:Zg sV 112 0 0:={}
instance:Zg sV 112 1 1:={}
instance:Zg sV 126 0 0:={}
instance:Zg sV 126 1 5:={}
instance:Zg sV 126 2 6:={}
instance:Zg sV 126 3 7:={}
instance:Zg sV 126 4 8:={}
instance:Zg sV 129 1 5:={}
instance:Zg sV 134 0 0:={}
instance:Zg sV 134 1 1:={}
instance:Zg sV 134 2 2:={}
instance:Zg sV 145 0 0:={}
instance:Zg sV 145 1 1:={}
instance:Zg sV 147 0 0:={}
instance:Zg sV 147 1 1:={}
instance:Zg sV 150 0 0:={}
instance:Zg sV 150 1 10:={}
instance:Zg sV 159 0 0:={}
instance:Zg sV 159 1 1:={}
instance:Zg sV 159 2 2:={}
instance:Zg sV 163 0 0:={}
instance:Zg sV 163 1 4:={}
instance:Zg sV 163 2 5:={}
instance:Zg sV 163 3 6:={}
instance:Zg sV 163 4 7:={}
instance:Zg sV 169 0 0:={}
instance:Zg sV 169 1 1:={}
instance:Zg sV 169 2 2:={}
instance:Zg sV 169 3 3:={}
instance:Zg sV 169 4 4:={}
instance:Zg sV 171 0 0:={}
instance:Zg sV 196 0 0:={}
instance:Zg sV 196 1 1:={}
instance:Zg sV 196 2 2:={}
instance:Zg sV 210 0 0:={}
instance:Zg sV 210 1 1:={}
instance:Zg sV 210 2 2:={}
instance:Zg sV 216 0 0:={}
instance:Zg sV 216 1 3:={}
instance:Zg sV 216 2 4:={}
instance:Zg sV 216 3 8:={}
instance:Zg sV 220 0 0:={}
instance:Zg sV 220 1 10:={}
instance:Zg sV 246 0 0:={}
instance:Zg sV 246 1 5:={}
instance:Zg sV 246 2 9:={}
instance:Zg sV 246 3 10:={}
instance:Zg sV 246 4 14:={}
instance:Zg sV 246 5 15:={}
instance:Zg sV 246 6 18:={}
instance:Zg sV 261 0 0:={}
instance:Zg sV 290 0 0:={}
instance:Zg sV 290 1 1:={}
instance:Zg sV 290 2 2:={}
instance:Zg sV 293 0 0:={}
instance:Zg sV 293 1 1:={}
instance:Zg sV 293 2 2:={}
instance:Zg sV 293 3 3:={}
instance:Zg sV 322 0 0:={}
instance:Zg sV 322 1 1:={}
instance:Zg sV 322 2 2:={}
instance:Zg sV 332 0 0:={}
instance:Zg sV 332 1 1:={}
instance:Zg sV 370 0 0:={}
instance:Zg sV 370 1 1:={}
instance:Zg sV 383 0 0:={}
instance:Zg sV 383 1 4:={}
instance:Zg sV 383 2 5:={}
instance:Zg sV 383 3 6:={}
instance:Zg sV 411 0 0:={}
instance:Zg sV 411 1 1:={}
instance:X8 sV 3:={}
instance:X8 sV 4:={}
instance:X8 sV 5:={}
instance:X8 sV 9:={}
instance:X8 sV 24:={}
instance:X8 sV 32:={}
instance:X8 sV 33:={}
instance:X8 sV 40:={}
instance:X8 sV 41:={}
instance:X8 sV 42:={}
instance:X8 sV 43:={}
instance:X8 sV 48:={}
instance:X8 sV 58:={}
instance:X8 sV 63:={}
instance:X8 sV 64:={}
instance:X8 sV 67:={}
instance:X8 sV 68:={}
instance:X8 sV 88:={}
instance:X8 sV 103:={}
instance:X8 sV 108:={}
instance:X8 sV 120:={}
instance:X8 sV 123:={}
instance:X8 sV 124:={}
instance:X8 sV 127:={}
instance:X8 sV 132:={}
instance:X8 sV 140:={}
instance:X8 sV 148:={}
instance:X8 sV 160:={}
instance:X8 sV 161:={}
instance:X8 sV 178:={}
instance:X8 sV 241:={}
instance:X8 sV 244:={}
instance:X8 sV 255:={}
instance:X8 sV 288:={}
instance:X8 sV 320:={}
instance:X8 sV 330:={}
instance:X8 sV 381:={}
instance:X8 sV 395:={}
instance:X8 sV 400:={}
instance:Ag sV 23 5:={}
instance:Ag sV 28 27:={}
instance:Ag sV 36 152:={}
instance:Ag sV 45 5:={}
instance:Ag sV 60 3:={}
instance:Ag sV 66 4:={}
instance:Ag sV 70 9:={}
instance:Ag sV 72 10:={}
instance:Ag sV 75 3:={}
instance:Ag sV 87 2:={}
instance:Ag sV 90 3:={}
instance:Ag sV 92 10:={}
instance:Ag sV 98 5:={}
instance:Ag sV 102 4:={}
instance:Ag sV 105 2:={}
instance:Ag sV 107 2:={}
instance:Ag sV 110 3:={}
instance:Ag sV 112 2:={}
instance:Ag sV 129 6:={}
instance:Ag sV 145 2:={}
instance:Ag sV 147 2:={}
instance:Ag sV 150 15:={}
instance:Ag sV 159 3:={}
instance:Ag sV 163 8:={}
instance:Ag sV 169 5:={}
instance:Ag sV 171 4:={}
instance:Ag sV 196 3:={}
instance:Ag sV 210 3:={}
instance:Ag sV 216 9:={}
instance:Ag sV 220 15:={}
instance:Ag sV 261 4:={}
instance:Ag sV 290 3:={}
instance:Ag sV 293 4:={}
instance:Ag sV 322 3:={}
instance:Ag sV 370 2:={}
instance:Ag sV 411 2:={}
instance:Ze sV 3 (sS 0):={}
instance:Ze sV 4 (.bool false):={}
instance:Ze sV 45 (.agg #[nS,nS,nS,nS,nS]):={}
instance:Ze sV 48 (sS 0):={}
instance:Ze sV 60 (.agg #[nS,nS,nS]):={}
instance:Ze sV 63 (nS):={}
instance:Ze sV 66 (.agg #[nS,sS 0,nS,nS]):={}
instance:Ze sV 70 (.agg #[sS 0,.string ByteArray.empty,nS,sS 0,nS,nS,nS,nS,sS 0]):={}
instance:Ze sV 72 (.agg #[.bool false,sS 0,.string ByteArray.empty,nS,sS 0,nS,nS,nS,nS,sS 0]):={}
instance:Ze sV 87 (.agg #[sS 0,.string ByteArray.empty]):={}
instance:Ze sV 90 (.agg #[nS,nS,nS]):={}
instance:Ze sV 92 (.agg #[sS 0,.string ByteArray.empty,sS 0,nS,sS 0,nS,nS,nS,nS,nS]):={}
instance:Ze sV 98 (.agg #[.string ByteArray.empty,nS,sS 0,nS,nS]):={}
instance:Ze sV 102 (.agg #[.int .u8 0,.int .u8 0,.int .u8 0,.int .u8 0]):={}
instance:Ze sV 105 (.agg #[.string ByteArray.empty,nS]):={}
instance:Ze sV 107 (.agg #[sS 0,sS 0]):={}
instance:Ze sV 110 (.agg #[.string ByteArray.empty,nS,sS 0]):={}
instance:Ze sV 112 (.agg #[sS 0,sS 0]):={}
instance:Ze sV 120 (nS):={}
instance:Ze sV 129 (.agg #[nS,nS,nS,nS,nS,nS]):={}
instance:Ze sV 145 (.agg #[.string ByteArray.empty,sS 0]):={}
instance:Ze sV 147 (.agg #[.string ByteArray.empty,sS 0]):={}
instance:Ze sV 150 (.agg #[sS 0,.string ByteArray.empty,sS 0,nS,sS 0,nS,nS,nS,nS,nS,nS,nS,nS,nS,nS]):={}
instance:Ze sV 159 (.agg #[sS 0,sS 0,sS 0]):={}
instance:Ze sV 163 (.agg #[nS,sS 0,nS,nS,nS,nS,nS,nS]):={}
instance:Ze sV 169 (.agg #[.string ByteArray.empty,.bool false,.bool false,.bool false,sS 0]):={}
instance:Ze sV 171 (.agg #[sS 0,sS 0,sS 0,sS 0]):={}
instance:Ze sV 196 (.agg #[nS,nS,nS]):={}
instance:Ze sV 210 (.agg #[sS 0,sS 0,nS]):={}
instance:Ze sV 216 (.agg #[nS,nS,nS,sS 0,nS,sS 0,nS,nS,nS]):={}
instance:Ze sV 220 (.agg #[sS 0,.string ByteArray.empty,sS 0,nS,sS 0,nS,nS,nS,nS,nS,nS,nS,nS,nS,nS]):={}
instance:Ze sV 261 (.agg #[sS 0,sS 0,sS 0,sS 0]):={}
instance:Ze sV 290 (.agg #[sS 0,sS 0,.nilFunc]):={}
instance:Ze sV 293 (.agg #[nS,nS,nS,nS]):={}
instance:Ze sV 322 (.agg #[nS,nS,nS]):={}
instance:Ze sV 332 (.agg #[.pointer none,nS]):={}
instance:Ze sV 370 (.agg #[nS,sS 0]):={}
instance:Ze sV 411 (.agg #[nS,sS 0]):={}
instance:Bs sV 45 [nS,nS,nS,nS,nS] [0,1,2,3,4]:={}
instance:Bs sV 60 [nS,nS,nS] [0,1,2]:={}
instance:Bs sV 66 [nS,sS 0,nS,nS] [0,1,2,3]:={}
instance:Bs sV 87 [sS 0,.string ByteArray.empty] [0,1]:={}
instance:Bs sV 90 [nS,nS,nS] [0,1,2]:={}
instance:Bs sV 105 [.string ByteArray.empty,nS] [0,1]:={}
instance:Bs sV 107 [sS 0,sS 0] [0,1]:={}
instance:Bs sV 110 [.string ByteArray.empty,nS,sS 0] [0,1,2]:={}
instance:Bs sV 112 [sS 0,sS 0] [0,1]:={}
instance:Bs sV 134 [nS,nS,sS 0] [0,1,2]:={}
instance:Bs sV 145 [.string ByteArray.empty,sS 0] [0,1]:={}
instance:Bs sV 147 [.string ByteArray.empty,sS 0] [0,1]:={}
instance:Bs sV 159 [sS 0,sS 0,sS 0] [0,1,2]:={}
instance:Bs sV 169 [.string ByteArray.empty,.bool false,.bool false,.bool false,sS 0] [0,1,2,3,4]:={}
instance:Bs sV 171 [sS 0,sS 0,sS 0,sS 0] [0,1,2,3]:={}
instance:Bs sV 196 [nS,nS,nS] [0,1,2]:={}
instance:Bs sV 210 [sS 0,sS 0,nS] [0,1,2]:={}
instance:Bs sV 261 [sS 0,sS 0,sS 0,sS 0] [0,1,2,3]:={}
instance:Bs sV 290 [sS 0,sS 0,.nilFunc] [0,1,2]:={}
instance:Bs sV 293 [nS,nS,nS,nS] [0,1,2,3]:={}
instance:Bs sV 322 [nS,nS,nS] [0,1,2]:={}
instance:Bs sV 370 [nS,sS 0] [0,1]:={}
instance:Bs sV 396 [sS 0,sS 0] [0,1]:={}
instance:Bs sV 411 [nS,sS 0] [0,1]:={}
instance:Ik sV 3 .i64:={}
instance:Ik sV 5 .u8:={}
instance:St sV 9:=⟨underlying9⟩
instance:Ik sV 21 .i32:={}
instance:Ik sV 33 .i8:={}
instance:Ik sV 269 .u64:={}
instance:S3 sV 159:=⟨⟨_,_,_,underlying159,ol,ol,ol,U,U,U,underlying3,underlying3,underlying3⟩,oe,oe⟩
instance:Mp sV 192 9 4 (.bool false):={}
instance:Key sV 9 J0:=Qmy underlying9
instance:Mp sV 207 87 150 (.agg #[sS 0,.string ByteArray.empty,sS 0,nS,sS 0,nS,nS,nS,nS,nS,nS,nS,nS,nS,nS]):={}
instance:Mp sV 208 87 4 (.bool false):={}
instance:Mp sV 244 9 3 (sS 0):={}
instance:Mp sV 375 3 374 (.nilFunc):={}
instance:Key sV 3 Ux:=Qmz underlying3
instance:Mp sV 381 3 63 (nS):={}
instance:Mp sV 395 396 3 (sS 0):={}
instance:Key sV 396 Jz:=Qjq underlying396 underlying3 oe
instance:Mp sV 427 3 3 (sS 0):={}
instance:Fu sV 16 f16:=K7 func16
instance:Fu sV 27 f27:=K7 func27
instance:Fu sV 30 f30:=K7 func30
instance:Fu sV 44 f44:=K7 func44
instance:Fu sV 56 f56:=K7 func56
instance:Fu sV 66 f66:=K7 func66
instance:Fu sV 130 f130:=K7 func130
instance:Fu sV 134 f134:=K7 func134
instance:Fu sV 137 f137:=K7 func137
instance:Fu sV 138 f138:=K7 func138
instance:Fu sV 141 f141:=K7 func141
instance:Fu sV 146 f146:=K7 func146
instance:Fu sV 150 f150:=K7 func150
instance:Fu sV 153 f153:=K7 func153
instance:Fu sV 159 f159:=K7 func159
instance:Fu sV 179 f179:=K7 func179
instance:Fu sV 180 f180:=K7 func180
instance:Fu sV 181 f181:=K7 func181
instance:Fu sV 185 f185:=K7 func185
instance:Fu sV 214 f214:=K7 func214
instance:Fu sV 217 f217:=K7 func217
instance:Fu sV 218 f218:=K7 func218
instance:Fu sV 219 f219:=K7 func219
instance:Fu sV 220 f220:=K7 func220
instance:Fu sV 222 f222:=K7 func222
instance:Fu sV 224 f224:=K7 func224
instance:Fu sV 226 f226:=K7 func226
instance:Fu sV 244 f244:=K7 func244
instance:Fu sV 245 f245:=K7 func245
instance:Fu sV 247 f247:=K7 func247
instance:Fu sV 253 f253:=K7 func253
instance:Fu sV 259 f259:=K7 func259
instance:Fu sV 270 f270:=K7 func270
instance:Fu sV 293 f293:=K7 func293
instance:Fu sV 295 f295:=K7 func295
instance:Fu sV 296 f296:=K7 func296
instance:Fu sV 308 f308:=K7 func308
instance:Fu sV 330 f330:=K7 func330
instance:Fu sV 332 f332:=K7 func332
theorem mixed:sV.follows .mixedOrders=true:=oe
theorem Zz {all:xD}{f:Fr}{Q:Exit->Fr->O1->Prop}(L:LN)(pl:xt)(h:XP sV all (O5 L w) (λf w=>Q .normal f w) pl f { w with drawn:=w.drawn+1 })(E:XM n all=true:=by rfl)(G:yH all pl=true:=by kernel_rfl):W sV n (.region id all.toArray true) Q f w:=qZ (O5 L w) pl mixed E G (O5.C _ _) h
theorem brG {B:Func}(E:((((P.funcs[g]?).map Func.name).getD "") == "runtime.NumGoroutine")=false) (G:P.funcs[g]?=some { B with name:=((P.funcs[g]?).map Func.name).getD "" }):∃nm:String,(nm == "runtime.NumGoroutine")=false/\P.funcs[g]?=some { B with name:=nm }:=⟨_,E,G⟩
theorem lyS {p:Prop}(h:p:=by constructor <;> first|kernel_rfl|decide|(intro _;kernel_rfl)|(apply brG <;> kernel_rfl)|(constructor <;> first|kernel_rfl|decide|(intro _;kernel_rfl)|(apply brG <;> kernel_rfl))):p:=h
end Go.Proofs
namespace Go.Lg
def xh (es:List Ed)(s e:Int):Int:=match es with
 | []=>-1
 | x::es=>if x.1=s/\x.2.1=e then x.2.2 else xh es s e
theorem QjL {L:LN}{v:O2}{l:LI}(h:QL L ↑w v l)(n:Int):
  QY sV 67 [v,sS n] w λr w'=>w'=w/\∃i:Int,r=sS i/\(0<=i↔n∈l):=by
 have O:=h.le;refine Zq func67 ?_;refine Qc<|Qb<|Qd<|Qj<|QF h U<|Qa<|xe<|Q7 (α:=Nat) [(4,5),(8,18)] (λk=>[(8,sS k)]) (λk w'=>w'=w/\k<=l.length/\(n∈l↔n∈l.drop k)) (λk=>l.length - k) 0 La ⟨U,Lo _,od⟩ ?_;rintro k g S ⟨rfl,T,E⟩;refine Zo rfl U (λI=>?_) (λI=>?_)
 ·refine Qw<|Qc<|Qb<|Qh ⟨[sS (-1)],La,U,-1,U,?_⟩;rw[Lt oa]at E;simp[E]
 have H:k<l.length:=oa
 have hd:=Zc H;refine Qf<|Qd<|Qm<|Qj<|Qb<|Qj<|Qa<|Qa<|xii h U U H λV J=>x (Qy J U)<|x (QR U U)<|xe<|QO rfl (λG=>?_) (λG=>?_)
 ·refine Qj<|Qb<|Qh ⟨[sS k],La,U,k,U,?_⟩;have:n∈l:=by rw[E,hd,G];exact Lq
  simp[this]
 refine Qf<|Qs<|QH U U<|Qa<|xe<|⟨k+1,oa,La,U,oa,?_⟩;rw[E,hd,Lj];exact⟨λh=>h.resolve_left G,.inr⟩
theorem Yr {L:LN}{v:O2}{l:LI}(h:QL L ↑w v l)(n:Int):
  QY sV 28 [v,sS n] w λr w'=>r=.bool (decide (n∈l))/\w'=w:=by
 refine Zq func28 ?_;refine Qc<|Qb<|Qj<|Qa<|Qz<|(QjL h n).Y ?_;rintro E G ⟨rfl,i,rfl,hi⟩;refine x (YC U U)<|Qb<|Qh ⟨[.bool (decide (0<=i))],La,?_,U⟩;simp[tup,hi]
theorem JQ {L L':LN}{v:O2}{l l':LI}(h:QL L ↑w v l)(E:QL L' ↑w v' l'):
  QY sV 51 [v,v'] w λr w'=>r=.bool (decide (l=l'))/\sX w w':=by
 have hf:=h.le;refine Zq func51 ?_;refine Qc<|Qb<|Qd<|Qj<|QF h U<|Qa<|QF E U<|Zx U U<|xe<|QO rfl (λO=>?_) (λO=>?_)
 ·refine Qc<|Qb<|Qh ⟨[.bool false],La,?_,O5.Z _ _⟩;have:l≠l':=λe=>O (by rw[e]);simp[tup,this]
 refine Qf<|Qd<|Qj<|QF h U<|Qa<|xe<|Q7 (α:=Nat) [(4,5),(13,25)] (λk=>[(13,sS k)]) (λk w'=>sX w w'/\k<=l.length/\(l=l'↔l.drop k=l'.drop k)) (λk=>l.length - k) 0 La ⟨O5.Z _ _,Lo _,od⟩ ?_;rintro k g Y ⟨G,hk,H⟩
 replace h:=h.I G
 replace E:=E.I G;refine Zo rfl U (λha=>?_) (λha=>?_)
 ·refine Qw<|Qc<|Qb<|Qh ⟨[.bool true],La,?_,G⟩;rw[Lt oa,Lt oa]at H;simp[tup,H]
 have S:k<l.length:=oa
 have T:k<l'.length:=oa
 refine Qf<|Qd<|Qm<|Qj<|Qb<|Qd<|Zz [] (YW 0 9 [])<|p Qv<|p Qv<|pii U h U U S λhg hb=>pq (λ_ I=>Qy (hb.I I) U) <|
  p Qv<|p Qv<|pii U E U U T λhh he=>pq (λ_ I=>Qy (he.I I) U)<|p (λ_=>XH U U)<|pe ?_
 have V:=G.D (O5.C [] Y);refine QO rfl (λJ=>?_) (λJ=>?_)
 ·refine Qc<|Qb<|Qh ⟨[.bool false],La,?_,V⟩;have:l≠l':=λe=>J (by simp[e]);simp[tup,this]
 refine Qf<|Qs<|QH U U<|Qa<|xe<|⟨k+1,oa,La,V,oa,?_⟩;have e:l[k]=l'[k]:=Lp.1 J;rw[H,Zc S,Zc T,e];exact⟨λh=>(List.cons.inj h).2,λh=>by rw[h]⟩
theorem QaG {L L':LN}{v:O2}{l l':List Ed}(h:zP L ↑w v l)(E:zP L' ↑w v' l'):
  QY sV 52 [v,v'] w λr w'=>r=.bool (decide (l=l'))/\sX w w':=by
 have hf:=h.le;refine Zq func52 ?_;refine Qc<|Qb<|Qd<|Qj<|QF h U<|Qa<|QF E U<|Zx U U<|xe<|QO rfl (λO=>?_) (λO=>?_)
 ·refine Qc<|Qb<|Qh ⟨[.bool false],La,?_,O5.Z _ _⟩;have:l≠l':=λe=>O (by rw[e]);simp[tup,this]
 refine Qf<|Qd<|Qj<|QF h U<|Qa<|xe<|Q7 (α:=Nat) [(4,5),(13,25)] (λk=>[(13,sS k)]) (λk w'=>sX w w'/\k<=l.length/\(l=l'↔l.drop k=l'.drop k)) (λk=>l.length - k) 0 La ⟨O5.Z _ _,Lo _,od⟩ ?_;rintro k g Y ⟨G,hk,H⟩
 replace h:=h.I G
 replace E:=E.I G;refine Zo rfl U (λha=>?_) (λha=>?_)
 ·refine Qw<|Qc<|Qb<|Qh ⟨[.bool true],La,?_,G⟩;rw[Lt oa,Lt oa]at H;simp[tup,H]
 have S:k<l.length:=oa
 have T:k<l'.length:=oa
 refine Qf<|Qd<|Qm<|Qj<|Qb<|Qd<|Zz [] (YW 0 9 [])<|p Qv<|p Qv<|pie U h U U S λhg hb=>pq (λ_ I=>Qr (hb.I I) U U) <|
  p Qv<|p Qv<|pie U E U U T λhh he=>pq (λ_ I=>Qr (he.I I) U U)<|p (λ_=>UV U U)<|pe ?_
 have V:=G.D (O5.C [] Y);refine QO rfl (λJ=>?_) (λJ=>?_)
 ·refine Qc<|Qb<|Qh ⟨[.bool false],La,?_,V⟩;have:l≠l':=λe=>J (by simp[e]);simp[tup,this]
 refine Qf<|Qs<|QH U U<|Qa<|xe<|⟨k+1,oa,La,V,oa,?_⟩;have e:l[k]=l'[k]:=Lp.1 J;rw[H,Zc S,Zc T,e];exact⟨λh=>(List.cons.inj h).2,λh=>by rw[h]⟩
theorem QcR (n:Int):QY sV 242 [sS n] w λr w'=>r=.bool false/\w'=w:=by
 refine Zq func242 ?_;refine Qc<|Qb<|Qj<|Qa<|Zx U U<|Qb<|Qh ⟨[.bool (decide (¬n=n))],La,by simp[tup],rfl⟩
theorem Qha (n:Int):QY sV 269 [sS n] w λr w'=>r=.bool false/\w'=w:=by
 refine Zq func269 ?_;refine Qc<|Qb<|Qj<|Qa<|Zx U U<|Qb<|Qh ⟨[.bool (decide (¬n=n))],La,by simp[tup],rfl⟩
theorem Qfx (m n:Int):QY sV 205 [sS m,sS n] w λr w'=>r=.bool (decide (m<n))/\w'=w:=by
 refine Zq func205 ?_;refine Qc<|Qb<|Qj<|Qz<|(Qha m).Y ?_;rintro E G ⟨rfl,rfl⟩;refine Qa<|Zt<|QC U<|Qa<|Qa<|Qa<|Z5 U U<|QC U<|Qb<|Qh ⟨[.bool (decide (m<n))],La,U,U⟩
theorem Xa.get {l:LI}(h:Xa l)(E:j<l.length)(G:i<j):l[i]<l[j]:=MT.1 h i j oa E G
theorem jt {L:LN}{v:O2}{l:LI}(h:QL L ↑w v l)(hi:Xa l)(n:Int):
  QY sV 168 [v,sS n] w λr w'=>w'=w/\∃i:Int,r=.tuple #[sS i,.bool (decide (n∈l))]:=by
 have hr:=h.le;refine Zq func168 ?_;refine Qc<|x Qi<|Qb<|Qj<|QF h U<|Qb<|Qj<|x Qi<|Qb<|Qd<|Q7 (α:=Nat×Nat) [(7,9),(13,30)] (λz=>[(7,sS z.1),(8,sS z.2)])
  (λz w'=>w'=w/\z.1<=z.2/\z.2<=l.length/\(∀m (E:m<l.length),m<z.1->l[m]<n)/\(∀m (E:m<l.length),z.2<=m->n<=l[m])) (λz=>z.2 - z.1) (0,l.length) oB
  ⟨U,Lo _,Lx _,λm _ I=>OW I (Nk m),λm h1 I=>OW h1 (by simp only[]at I;omega)⟩ ?_
 rintro⟨i,j⟩ g w1 ⟨rfl,hs,hj,J,S⟩;refine Qd<|Qj<|Qa<|Z5 U U<|xe<|ZH rfl (λha=>?_) (λha=>?_)
 ·have e:i=j:=oa
  subst e;refine Qw<|QX (α:=Bool) [(4,5),(31,53)] (λz=>[(4,sS i),(5,.bool z)]) (λz w'=>w'=w1/\z=decide (n∈l)) om ?_ ?_
  ·refine Qs<|Qa<|Qa<|Qa<|xb (YX U U) (λhb=>?_) (λhb=>?_)
   ·have G:i<l.length:=oa
    refine Qa<|Qa<|Qa<|xii h U U G λht hc=>x (Qy hc U)<|Qa<|xb (QR U U) (λO=>?_) (λO=>?_)
    ·refine Qa<|Zt<|Zt<|Zt<|QC U<|QC U<|x Qi<|Qb ?_;have:n∈l:=by rw[<-O];exact Lm G
     exact⟨true,oB,U,by simp[this]⟩
    refine Qa<|Qa<|Qa<|xii h U U G λhu he=>x (Qy he U)<|Qz<|(QcR _).Y ?_;rintro r3 w3 ⟨rfl,rfl⟩;refine Qa<|Ys<|QC U<|QC U<|QC U<|x Qi<|Qb<|⟨false,oB,U,?_⟩;have:n∉l:=by
     intro E;obtain⟨m,H,T⟩:=LO E;by_cases hf:m<i
     ·have:=J m H hf;omega
     by_cases hg:m=i
     ·subst hg;exact O T
     have:=Xa.get hi H (show i<m by omega);have:=S i G (Lx _);omega
    simp[this]
   refine Qa<|Zt<|Zt<|Zt<|Zt<|Zt<|KB<|xs U <|
    QC rfl<|x Qi<|Qb<|⟨false,oB,U,?_⟩
   have:n∉l:=by
    intro E;obtain⟨m,H,T⟩:=LO E;have:=J m H oa;omega
   simp[this]
  rintro z g w7 ⟨rfl,rfl⟩;exact Qh ⟨[sS i,.bool (decide (n∈l))],oB,U,i,U⟩
 refine Qf<|Qm<|Qj<|Qa<|QH U U<|x (Z6 U (by exact⟨oa,oa⟩))<|x (Qaf (n:=1) U U ol)<|x (Z6 U (by exact⟨oa,oa⟩))<|Qb ?_;have hh:(((i:Int)+(j:Int)) / 2 ^ 1)=(((i+j) / 2:Nat):Int):=oa
 rw[hh];generalize hq:(i+j) / 2=q;have hk:i<=q:=oa
 have hl:q<j:=oa
 have V:q<l.length:=oa
 refine Qj<|Qa<|xii h U U V λhv hn=>x (Qy hn U)<|Qa<|Qz<|(Qfx _ _).Y ?_;rintro r8 w8 ⟨rfl,rfl⟩;refine xe<|ZH rfl (λY=>?_) (λY=>?_)
 ·refine Qs<|Qa<|Qb<|⟨(i,q),og,oB,U,hk,oa,J,λm E ho=>?_⟩;by_cases e:q=m
  ·subst e;omega
  have:=Xa.get hi E (show q<m by simp only[]at ho;omega);omega
 refine Qs<|Qa<|QH U U<|Qb<|⟨(q+1,j),og,oB,U,hl,hj,λm E hp=>?_,S⟩;by_cases e:m=q
 ·subst e;exact Y
 have:=Xa.get hi V (show m<q by simp only[]at hp;omega);omega
theorem Kz {L:LN}{v:O2}{l:LI}(h:QL L ↑w v l)(hi:Xa l)(n:Int):
  QY sV 248 [v,sS n] w λr w'=>r=.bool (decide (n∈l))/\w'=w:=by
 refine Zq func248 ?_;refine Qc<|Qb<|Qj<|Qa<|Qz<|(jt h hi n).Y ?_;rintro E G ⟨rfl,i,rfl⟩;refine Qa<|QW U U<|QW U U<|x Qi<|Qb<|Qj<|Qb<|Qh ⟨[.bool (decide (n∈l))],La,U,U⟩
theorem zo {L:LN}{v:O2}{l:LI}(h:QL L ↑w v l)(n:Int):
  QY sV 166 [v,sS n] w λr w'=>r=sS (KM n none l)/\w'=w:=by
 have hc:=h.le;refine Zq func166 ?_;refine Qc<|Qb<|Qd<|Qj<|QF h U<|Qa<|xe<|Q7 (α:=Nat) [(4,6),(9,34)] (λk=>[(9,sS k)]) (λk w'=>w'=w/\k<=l.length/\KM n (pv l k) (l.drop k)=KM n none l) (λk=>l.length - k) 0 La ⟨U,Lo _,U⟩ ?_;rintro k g S ⟨rfl,hk,E⟩;refine Zo rfl U (λT=>?_) (λT=>?_)
 ·refine Qw<|Qc<|Qb<|Qh ⟨[sS 0],La,?_,U⟩;rw[<-E,Lt oa];rfl
 have G:k<l.length:=oa
 rw[(Zc G),KM]at E;refine Qf<|Qd<|Qm<|Qj<|xii h U U G λhe V=>x (Qy V U)<|x Qi<|Qb<|Qm<|QX (α:=Bool) [(14,21)] (λz=>[(14,.bool z)]) (λz w'=>w'=S/\z=decide (l[k]<0\/n<=l[k])) om ?_ ?_
 ·refine Qs<|Qa<|xb (YX U U) (λH=>?_) (λH=>?_)
  ·refine Qa<|Zt<|QC U<|Qb<|⟨true,La,U,by simp[H]⟩
  refine Qa<|Qa<|Qa<|x (YC U U)<|QC U<|Qb<|⟨_,La,U,by simp[H]⟩
 rintro z g Y ⟨rfl,rfl⟩;refine QO rfl (λI=>?_) (λI=>?_)
 ·refine Qc<|Qb<|Qh ⟨[sS 2],La,?_,U⟩;rw[<-E,OU I];rfl
 rw[OT I]at E;refine QX (α:=Bool) [(22,33)] (λz=>[(22,.bool z)]) (λz w'=>w'=Y/\z=jL (pv l k) l[k]) om ?_ ?_
 ·refine Qs<|Qa<|xb (Yc U U) (λha=>?_) (λha=>?_)
  ·have hk1:((k:Int) - 1)=((k - 1:Nat):Int):=oa
   refine Qa<|Qa<|Qa<|Qa<|x (XR U U ⟨oa,oa⟩)<|xii (i:=k - 1) h U (by show Value.int _ ((k:Int) - 1)=_;rw[hk1]) oa λhf hb=>x (Qy hb rfl)<|x (Vi rfl rfl)<|QC rfl<|Qb<|⟨_,⟨rfl,Z⟩,rfl,?_⟩;have:pv l k=some l[k - 1]:=by
    have J:k≠0:=oa
    simp[pv,J,show k - 1<l.length by omega]
   rw[this];rfl
  refine Qa<|Zt<|Zt<|KB<|QC U<|Qb ?_;have J:k=0:=oa
  exact⟨false,La,U,by simp[pv,J,jL]⟩
 rintro z g w3 ⟨rfl,rfl⟩;refine QU rfl (λO=>?_) (λO=>?_)
 ·refine Qc<|Qb<|Qh ⟨[sS 5],La,?_,U⟩;rw[<-E,OU O];rfl
 rw[OT (by simp[O])]at E;refine Qf<|Qs<|QH U U<|Qa<|xe ?_;exact⟨k+1,oa,La,U,oa,by rw[VU G];exact E⟩
theorem jN {L:LN}{a:Q6}(h:ZM L ↑w va vm ve a):
  QY sV 167 [.agg #[va,sS a.st,vm,ve]] w λr w'=>r=sS (ckE a.al a.st none a.ed)/\sX w w':=by
 obtain⟨J,_,H⟩:=h;have h2:=H.le;refine Zq func167 ?_;refine Qc<|Zl [va,sS a.st,vm,ve] λb1 w1 Y h3 I=>Qb ?_
 replace J:=J.I Y
 replace H:=H.I Y;refine Qd<|Qc<|Qo U I U U<|QF H U<|Qa<|xe<|Q7 (α:=Nat) [(2,5),(9,71)] (λk=>[(9,sS k)]) (λk w'=>sX w1 w'/\k<=a.ed.length/\ckE a.al a.st (pv a.ed k) (a.ed.drop k)=ckE a.al a.st none a.ed) (λk=>a.ed.length - k) 0 La
  ⟨O5.Z _ _,Lo _,U⟩ ?_
 rintro k g w2 ⟨O,hk,E⟩
 replace J:=J.I O
 replace H:=H.I O
 replace I:=I.I O;refine Zo rfl U (λhq=>?_) (λhq=>?_)
 ·refine Qw<|Qc<|Qb<|Qh ⟨[sS 0],La,?_,Y.D O⟩;rw[<-E,Lt oa];rfl
 have ha:k<a.ed.length:=oa
 rw[(Zc ha),ckE]at E;refine Qf<|Qd<|Qm<|Qj<|xie H U U ha λh4 hr=>x (Qr hr U U)<|QM [sS 0,sS 0,sS 0] λb4 w3 hs ht G=>x Qi <|
  Qn<|Zv G U U U U oC λw4 hu G=>xe ?_
 have S:=hs.O hu ht
 replace J:=J.I S
 replace H:=H.I S
 replace I:=I.I S;have T:=(Y.D O).D S;refine Qd<|Qm<|QX (α:=Bool) [(14,36)] (λz=>[(14,.bool z)]) (λz w'=>w'=w4/\z=decide (a.ed[k].1<0\/a.st<=a.ed[k].1\/a.ed[k].2.2<0\/a.st<=a.ed[k].2.2)) om ?_ ?_
 ·refine Qs<|Qo U G U U<|xb (YX U U) (λhb=>?_) (λhb=>?_)
  ·refine Qa<|Zt<|Ys<|QC U<|Qa<|Zt<|QC U<|Qa<|Zt<|Ys<|QC U<|Qb<|⟨true,La,U,by simp[hb]⟩
  refine Qa<|Qo U G U U<|Qo U I U U<|xb (YC U U) (λhc=>?_) (λhc=>?_)
  ·refine QC U<|Qa<|Zt<|QC U<|Qa<|Zt<|Ys<|QC U<|Qb<|⟨true,La,U,by simp[hc]⟩
  refine QC U<|Qa<|Qo U G U U<|xb (YX U U) (λhe=>?_) (λhe=>?_)
  ·refine QC U<|Qa<|Zt<|Ys<|QC U<|Qb<|⟨true,La,U,by simp[he]⟩
  refine QC U<|Qa<|Qo U G U U<|Qo U I U U<|x (YC U U)<|QC U<|Qb<|⟨_,La,U,by simp[hb,hc,he]⟩
 rintro z g w5 ⟨rfl,rfl⟩;refine QO rfl (λhf=>?_) (λhf=>?_)
 ·refine Qc<|Qb<|Qh ⟨[sS 2],La,?_,T⟩;rw[<-E,OU hf];rfl
 rw[OT hf]at E;refine Qc<|Qo U I U U<|Qo U G U U<|Qz<|(Yr J _).Y ?_;rintro r4 w6 ⟨rfl,rfl⟩;refine x (Zy U)<|Qb<|QU U (λhg=>?_) (λhg=>?_)
 ·have hn:a.ed[k].2.1∉a.al:=by simpa using hg
  refine Qc<|Qb<|Qh ⟨[sS 9],La,?_,T⟩;rw[<-E,OU hn];rfl
 have hn:¬(a.ed[k].2.1∉a.al):=by simpa using hg
 rw[OT hn]at E;refine Qf<|Qd<|Qj<|x (QR U U)<|xe<|QO rfl (λhv=>?_) (λhv=>?_)
 ·have h0:k=0:=oa
  rw[OT (by simp[pv,h0,edO])]at E;refine Qw<|Qs<|QH U U<|Qa<|xe ?_;exact⟨k+1,oa,La,O.D S,oa,by rw[VU ha];exact E⟩
 have h0:k≠0:=oa
 have hk1:((k:Int) - 1)=((k - 1:Nat):Int):=oa
 have ho:k - 1<a.ed.length:=oa
 refine Qf<|Qc<|Qo U I U U<|Qa<|x (XR U U ⟨oa,oa⟩)<|xie (i:=k - 1) H U (by show Value.int _ ((k:Int) - 1)=_;rw[hk1]) ho λh5 hw =>
  x (Qr hw U U)<|QM [sS 0,sS 0,sS 0] λb5 w7 hy hz V=>Qn<|Zv V U U U U oC λw8 h1 V=>xe ?_
 have hh:=hy.O h1 hz
 replace G:=G.I hh
 replace T:=T.D hh;have hp:pv a.ed k=some a.ed[k - 1]:=by simp[pv,h0,ho]
 rw[hp]at E;refine QX (α:=Bool) [(52,70)] (λz=>[(70,.bool z)]) (λz w'=>w'=w8/\z=edO (some a.ed[k - 1]) a.ed[k]) om ?_ ?_
 ·refine Qs<|Qo U G U U<|Qo U V U U<|xb (YX U U) (λhi=>?_) (λhi=>?_)
  ·refine Qa<|Zt<|Zt<|Zt<|Zt<|QC U<|xe ?_;exact⟨true,La,U,by simp[edO,hi]⟩
  refine Qa<|Qo U G U U<|Qo U V U U<|xb (QR U U) (λhj=>?_) (λhj=>?_)
  ·refine Qa<|Qo U G U U<|Qo U V U U<|x (Vi U U)<|QC U<|QC U<|xe ?_;exact⟨_,La,U,by simp[edO,hj]⟩
  refine Qa<|Zt<|Ys<|QC U<|QC U<|xe ?_;exact⟨false,La,U,by simp[edO,hj,hi]⟩
 rintro z g w9 ⟨rfl,rfl⟩;refine QU rfl (λhl=>?_) (λhl=>?_)
 ·refine Qc<|Qb<|Qh ⟨[sS 5],La,?_,T⟩;rw[<-E,OU hl];rfl
 rw[OT (by simp[hl])]at E;refine Qf<|Qs<|QH U U<|Qa<|xe ?_;exact⟨k+1,oa,La,(O.D S).D hh,oa,by rw[VU ha];exact E⟩
theorem Js {L:LN}{a:Q6}(h:ZM L ↑w va vm ve a):
  QY sV 98 [.agg #[va,sS a.st,vm,ve]] w λr w'=>r=sS (JB a)/\sX w w':=by
 refine Zq func98 ?_;refine Qc<|Zl [va,sS a.st,vm,ve] λb1 T E V G=>Qb ?_
 replace h:=h.I E;refine Qd<|Qc<|Qo U G U U<|Qz<|(zo h.al 32).Y ?_;rintro r2 Y ⟨rfl,rfl⟩;refine Qb<|Qj<|Zx U U<|xe<|QO rfl (λH=>?_) (λH=>?_)
 ·refine Qj<|Qb<|Qh ⟨[sS (KM 32 none a.al)],La,?_,E⟩;rw[JB,OU H];rfl
 refine Qf<|Qd<|Qm<|Qc<|Qo U G U U<|Z5 U U<|Qb<|QO U (λI=>?_) (λI=>?_)
 ·refine Qc<|Qb<|Qh ⟨[sS 2],La,?_,E⟩;rw[JB,OT H,OU I];rfl
 refine Qc<|Qo U G U U<|x (Yc U U)<|Qb<|QO U (λJ=>?_) (λJ=>?_)
 ·refine Qc<|Qb<|Qh ⟨[sS 3],La,?_,E⟩;rw[JB,OT H,OT I,OU J];rfl
 refine Qf<|Qd<|Qc<|Qo U G U U<|Qo U G U U<|Qz<|(zo h.mr a.st).Y ?_;rintro r3 w3 ⟨rfl,rfl⟩;refine Qb<|Qj<|Zx U U<|xe<|QO rfl (λO=>?_) (λO=>?_)
 ·refine Qj<|Qb<|Qh ⟨[sS (KM a.st none a.mr)],La,?_,E⟩;rw[JB,OT H,OT I,OT J,OU O];rfl
 refine Qf<|Qc<|QT G U U<|Qz<|(jN h).Y ?_;rintro r4 w4 ⟨rfl,S⟩;refine Qb<|Qh ⟨[sS (ckE a.al a.st none a.ed)],La,?_,E.D S⟩;rw[JB,OT H,OT I,OT J,OT O];rfl
theorem Z3 {L:LN}{v:O2}{l:LI}(h:QL L ↑w v l):
  QY sV 62 [v] w λr w'=>sX w w'/\Qq 3 ↑w w' r l:=by
 have ha:=h.le;refine Zq func62 ?_;refine Qc<|Qb ?_;obtain⟨ao,cap,G⟩:=h.shape;refine Qd<|Qj<|x (XS (show ev _ _=_ from G) U)<|xe<|QU rfl (λH=>?_) (λH=>?_)
 ·refine Qc<|Qb<|Qh ⟨[nS],La,O5.Z _ _,?_⟩;rcases h.2.2 with⟨E,I⟩|⟨a,c,E,_⟩
  ·have:l=[]:=Ls I;subst this;exact QE _ _ _ _
  rw[E]at G;cases G;cases H
 rcases h.2.2 with⟨E,I⟩|⟨a,c,E,I,T⟩
 ·rw[E]at G;injection G with e1;subst e1;cases H
 refine Qf<|Qc<|Qn<|XZ λb5 w1 J O S=>Qa<|Qn<|Q2 (base:=↑w) (S.own (n:=0) (sz:=1) U oa O) U (show ev _ _=_ from E) od (T.I J) (UX l) oa (ov S.lt) λv2 w2 V Y hb=>Qb<|Qh ⟨[v2],La,J.O Y O,?_⟩;simpa[tup]using V
theorem QcJ [Fu sV g fn]{keep:Bool->Bool->Bool}(hk:∀(p q:Bool) (w:O1),QY sV g [.bool p,.bool q] w λr w'=>r=.bool (keep p q)/\w'=w)
  {L L':LN}   {a b:LI} (H:QL L ↑w va a) (G:QL L' ↑w vb b) (hH:a.length+b.length<=1099511627776):
  QY sV 136 [va,vb,.func (.func g) #[] #[]] w λr w'=>sX w w'/\Qq 3 ↑w w' r (mrg keep a b):=by
 refine Zq func136 ?_;refine Qc<|Qb<|Qc<|Qb<|Qd<|Q7 (α:=(LI×O2)×(LI×O2)×(LI×O2)) [(0,1),(7,72)] (λz=>[(0,z.1.2),(1,z.2.1.2),(7,z.2.2.2)])
  (λz w'=>QL L ↑w z.1.2 z.1.1/\QL L' ↑w z.2.1.2 z.2.1.1/\Qq 3 ↑w w' z.2.2.2 z.2.2.1/\sX w w'/\z.2.2.1++mrg keep z.1.1 z.2.1.1=mrg keep a b/\z.2.2.1.length+z.1.1.length+z.2.1.1.length<=1099511627776)
  (λz=>z.1.1.length+z.2.1.1.length) ((a,va),(b,vb),([],nS)) oC ⟨H,G,QE _ _ _ _,O5.Z _ _,U,by simp;omega⟩ ?_
 clear H G;rintro⟨⟨a1,h2⟩,⟨b1,h3⟩,⟨o,vo⟩⟩ g1 w1 ⟨H,G,I,E,T,hl⟩;simp only[]at H G I E T hl;refine Qd<|QX (α:=Bool) [(11,18)] (λz=>[(18,.bool z)]) (λz w'=>w'=w1/\z=decide (¬(a1=[]/\b1=[]))) om ?_ ?_
 ·refine Qs<|Qa<|QF H U<|xb (Yc U U) (λhn=>?_) (λhn=>?_)
  ·refine Qa<|Zt<|QC U<|xe ?_;have:a1≠[]:=by intro e;subst e;simp at hn
   exact⟨true,La,U,by simp[this]⟩
  refine Qa<|Qa<|QF G U<|x (Yc U U)<|QC U<|xe ?_;have:a1=[]:=Ls oa;refine⟨_,La,U,?_⟩;cases b1 <;> simp[this]
 rintro z g2 w2 ⟨rfl,rfl⟩;refine ZH rfl (λhe=>?_) (λhe=>?_)
 ·refine Qw<|Qj<|Qb<|Qh ⟨[vo],La,E,?_⟩;obtain⟨rfl,rfl⟩:=Lp.1 he;rw[K6,LS]at T;rw[<-T];exact I
 refine Qf ?_;rw[KE keep he]at T;have hp:=yZ he;have hI:=H.le;have hJ:=G.le;refine Qm<|QX (α:=Bool) [(8,8),(19,35)] (λz=>[(8,.bool z)]) (λz w'=>sX w2 w'/\z=JG a1 b1) om ?_ ?_
 ·refine Zz [] (YW 0 18 [])<|p Qv<|p (λ_=>Yo H U)<|pb (λ_=>Yc U U) (λhq=>?_) (λhq=>?_)
  ·refine p Qv<|p Qv<|p (λ_=>Yo G U)<|pb (λ_=>QR U U) (λh4=>?_) (λh4=>?_)
   ·refine p Qv<|ps<|ps<|ps<|ps<|ps<|ps<|ps<|p (Y9 U)<|p (Y9 U)<|p ZG<|pe ?_;refine⟨true,La,O5.C _ _,?_⟩;have:b1=[]:=Ls oa;subst this;cases a1 with
    | nil=>simp at hq
    | cons y a1=>rfl
   have O:0<a1.length:=oa
   have S:0<b1.length:=oa
   refine p Qv<|p Qv<|pii U (i:=0) (H.I E) U U O λhK h5=>pq (λ_ J=>Qy (h5.I J) U) <|
    p Qv<|pii U (i:=0) (G.I E) U U S λhL h6=>pq (λ_ J=>Qy (h6.I J) U)<|p (λ_=>Vi U U) <|
    p (Y9 rfl)<|p (Y9 U)<|p ZG<|pe ?_
   refine⟨_,La,O5.C _ _,?_⟩;cases a1 with
   | nil=>simp at O
   | cons y a1=>cases b1 with
    | nil=>simp at S
    | cons z b1=>rfl
  refine p Qv<|ps<|ps<|ps<|ps<|ps<|ps<|ps<|ps<|ps<|ps<|ps<|ps<|p (Y9 U)<|p ZG<|pe ?_;refine⟨false,La,O5.C _ _,?_⟩;have:a1=[]:=Ls oa;subst this;rfl
 rintro z g3 w3 ⟨hr,rfl⟩
 replace I:=Ql I hr
 replace E:=E.D hr;refine QX (α:=Bool) [(9,9),(36,52)] (λz=>[(9,.bool z)]) (λz w'=>sX w3 w'/\z=JG b1 a1) om ?_ ?_
 ·refine Zz [] (YW 0 18 [])<|p Qv<|p (λ_=>Yo G U)<|pb (λ_=>Yc U U) (λht=>?_) (λht=>?_)
  ·refine p Qv<|p Qv<|p (λ_=>Yo H U)<|pb (λ_=>QR U U) (λh7=>?_) (λh7=>?_)
   ·refine p Qv<|ps<|ps<|ps<|ps<|ps<|ps<|ps<|p (Y9 U)<|p (Y9 U)<|p ZG<|pe ?_;refine⟨true,La,O5.C _ _,?_⟩;have:a1=[]:=Ls oa;subst this;cases b1 with
    | nil=>simp at ht
    | cons y b1=>rfl
   have O:0<a1.length:=oa
   have S:0<b1.length:=oa
   refine p Qv<|p Qv<|pii U (i:=0) (G.I E) U U S λhM h8=>pq (λ_ J=>Qy (h8.I J) U) <|
    p Qv<|pii U (i:=0) (H.I E) U U O λhN h9=>pq (λ_ J=>Qy (h9.I J) U)<|p (λ_=>Vi U U) <|
    p (Y9 rfl)<|p (Y9 U)<|p ZG<|pe ?_
   refine⟨_,La,O5.C _ _,?_⟩;cases a1 with
   | nil=>simp at O
   | cons y a1=>cases b1 with
    | nil=>simp at S
    | cons z b1=>rfl
  refine p Qv<|ps<|ps<|ps<|ps<|ps<|ps<|ps<|ps<|ps<|ps<|ps<|ps<|p (Y9 U)<|p ZG<|pe ?_;refine⟨false,La,O5.C _ _,?_⟩;have:b1=[]:=Ls oa;subst this;rfl
 rintro z g4 w4 ⟨hu,rfl⟩
 replace I:=Ql I hu
 replace E:=E.D hu;refine Qc<|Qb<|QX (α:=O2) [(0,0),(10,10),(53,58)] (λz=>[(0,z),(10,sS (bif JG a1 b1 then a1.headD 0 else 0))]) (λz w'=>sX w4 w'/\QL L ↑w z (tl (JG a1 b1) a1)) om ?_ ?_
 ·refine Qj<|xe<|QU U (λV=>?_) (λV=>?_)
  ·have O:0<a1.length:=by cases a1 with|nil=>simp[JG]at V|cons y a1=>simp
   refine Zz [] (YW 0 7 [])<|p Qv<|pii U (i:=0) (H.I E) U U O λhC hf=>pq (λ_ J=>Qy (hf.I J) U)<|p Qv <|
    QoF rfl (lo:=1) H U U O λv' hg=>p ZG<|p ZG<|pe ?_
   have hh:=QL.drop hg;refine⟨v',⟨U,?_,Z⟩,O5.C _ _,?_⟩
   ·show sS a1[0]=_;rw[V];cases a1 with|nil=>simp at O|cons y a1=>rfl
   rw[V];simpa[tl]using hh
  refine Qf<|⟨h2,⟨U,by show _=_;rw[V];rfl,Z⟩,O5.Z _ _,?_⟩;rw[V];exact H
 rintro hv g5 w5 ⟨hw,hy⟩
 replace I:=Ql I hw
 replace E:=E.D hw;refine QX (α:=O2) [(1,1),(10,10),(59,64)] (λz=>[(1,z),(10,sS (bif JG b1 a1 then b1.headD 0 else bif JG a1 b1 then a1.headD 0 else 0))]) (λz w'=>sX w5 w'/\QL L' ↑w z (tl (JG b1 a1) b1)) om ?_ ?_
 ·refine Qj<|xe<|QU U (λY=>?_) (λY=>?_)
  ·have S:0<b1.length:=by cases b1 with|nil=>simp[JG]at Y|cons y b1=>simp
   refine Zz [] (YW 0 7 [])<|p Qv<|pii U (i:=0) (G.I E) U U S λhC hf=>pq (λ_ J=>Qy (hf.I J) U)<|p Qv <|
    QoF rfl (lo:=1) G U U S λv' hg=>p ZG<|p ZG<|pe ?_
   have hh:=QL.drop hg;refine⟨v',⟨U,?_,Z⟩,O5.C _ _,?_⟩
   ·show sS b1[0]=_;rw[Y];cases b1 with|nil=>simp at S|cons y b1=>rfl
   rw[Y];simpa[tl]using hh
  refine Qf<|⟨h3,⟨U,by show _=_;rw[Y];rfl,Z⟩,O5.Z _ _,?_⟩;rw[Y];exact G
 rintro hz g6 w6 ⟨h0,h1⟩
 replace I:=Ql I h0
 replace E:=E.D h0;have hD:(bif JG b1 a1 then b1.headD 0 else bif JG a1 b1 then a1.headD 0 else 0)=hx a1 b1:=by
  unfold hx;cases e:JG b1 a1 with
  | true=>rfl
  | false =>
   cases e2:JG a1 b1 with
   | true=>rfl
   | false=>rw[e,e2]at hp;simp[tl]at hp
 refine Qj<|Qa<|Qa<|Qn<|xc (first:=[]) (capt:=[]) U<|(hk _ _ _).Y ?_;rintro r7 w7 ⟨rfl,rfl⟩;refine xe<|QU rfl (λhi=>?_) (λhi=>?_)
 ·refine Qs ?_;rw[hi,cond_true]at T;refine Qa<|Qa<|Qn<|Xy (us:=[[sS (hx a1 b1)]]) U U ol od ⟨by rw[<-hD];rfl,U,Z⟩ λhO w8 hj hP hE =>
   Qn<|Q2 (news:=[sS (hx a1 b1)]) (L:=[]) (Ql I hj) U U U (hE.at od) oq oa (oy E.size hj.size) λv9 w9 hF hG hQ=>Qb ?_
  have hge:=Qg I;refine⟨((tl (JG a1 b1) a1,hv),(tl (JG b1 a1) b1,hz),(o++[hx a1 b1],v9)),og,oC,hy,h1,?_,(E.D hj).S hG (λb G=>.inr (hge b G).1),by rw[LC];exact T,by simp only[oN,oP];omega⟩;exact Qq.snoc hF
 rw[hi,cond_false,Mc]at T;refine Qf ?_;exact⟨((tl (JG a1 b1) a1,hv),(tl (JG b1 a1) b1,hz),(o,vo)),og,oC,hy,h1,I,E,T,og⟩
theorem Qqw (p q:Bool)(w:O1):QY sV 137 [.bool p,.bool q] w λr w'=>r=.bool (p || q)/\w'=w:=by
 refine Zq func137 ?_;refine Qc<|Qb<|Qc ?_;cases p
 ·refine Qa<|Qa<|Qa<|QC U<|Qb<|Qh ⟨[.bool q],La,U,U⟩
 refine Qa<|Qa<|KB<|QC U<|Qb<|Qh ⟨[.bool true],La,U,U⟩
theorem Qje (p q:Bool)(w:O1):QY sV 270 [.bool p,.bool q] w λr w'=>r=.bool (p && !q)/\w'=w:=by
 refine Zq func270 ?_;refine Qc<|Qb<|Qc ?_;cases p
 ·refine Qa<|Qa<|Ys<|QC U<|Qb<|Qh ⟨[.bool false],La,U,U⟩
 refine Qa<|Qa<|Qa<|x (Zy U)<|QC U<|Qb<|Qh ⟨[.bool (!q)],La,U,U⟩
theorem QdD {L L':LN}{a b:LI}(E:QL L ↑w va a)(G:QL L' ↑w vb b)(H:a.length+b.length<=1099511627776):
  QY sV 75 [va,vb] w λr w'=>sX w w'/\Qq 3 ↑w w' r (mrg (· || ·) a b):=by
 refine Zq func75 ?_;refine Qc<|Qb<|Qj<|Qa<|Qz<|(QcJ Qqw E G H).Y ?_;rintro I S ⟨J,O⟩;refine Qb<|Qh ⟨[I],La,J,O⟩
theorem Qlf {L L':LN}{a b:LI}(E:QL L ↑w va a)(G:QL L' ↑w vb b)(H:a.length+b.length<=1099511627776):
  QY sV 215 [va,vb] w λr w'=>sX w w'/\Qq 3 ↑w w' r (mrg (λp q=>p && !q) a b):=by
 refine Zq func215 ?_;refine Qc<|Qb<|Qj<|Qa<|Qz<|(QcJ Qje E G H).Y ?_;rintro I S ⟨J,O⟩;refine Qb<|Qh ⟨[I],La,J,O⟩
theorem QhM {L L':LN}{a b:LI}(E:QL L ↑w va a)(G:QL L' ↑w vb b)(H:a.length+b.length<=1099511627776):
  QY sV 135 [va,vb] w λr w'=>sX w w'/\r=.bool (decide (mrg (λp q=>p && !q) a b=[])):=by
 refine Zq func135 ?_;refine Qc<|Qb<|Qj<|Qa<|Qz<|(Qlf E G H).Y ?_;rintro O S ⟨I,J⟩;have T:=Qbz (λp q=>p && !q) a b;refine QF (Qq.ints (L:=[]) J oa od) rfl<|x (QR rfl rfl)<|Qb<|Qh ⟨[.bool (decide (((mrg (λp q=>p && !q) a b).length:Int)=0))],⟨rfl,Z⟩,I,?_⟩;simp[tup]
theorem QkT [Fu sV g fn](T:∀(e:Ed) (s:Int) (w:O1),0<=e.1->e.1<=1099511627776->0<=s->s<=1099511627776->QY sV g [sT (QA e),sS s] w λr w'=>r=sS (e.1 - s)/\sX w w')
  {L:LN}  {v:O2} {es:List Ed} (h:zP L ↑w v es) (hi:es.Pairwise (λa b=>a.1<=b.1)) (hb:∀e∈es,0<=e.1/\e.1<=1099511627776) (s:Int) (V:0<=s) (Y:s<=1099511627776):
  QY sV 243 [v,sS s,.func (.func g) #[] #[]] w λr w'=>sX w w'/\∃(i:Nat) (b:Bool),r=.tuple #[sS i,.bool b]/\i<=es.length /\
   (∀m (E:m<es.length),m<i->es[m].1<s)/\(∀m (E:m<es.length),i<=m->s<=es[m].1):=by
 have h3:=h.le;have ha:∀{i j:Nat} (G:j<es.length) (I:i<j),es[i].1<=es[j].1:=λ{i j} G I=>MT.1 hi i j oa G I;have hc:∀m (E:m<es.length),0<=es[m].1/\es[m].1<=1099511627776:=λm E=>hb _ (Lm E);refine Zq func243 ?_;refine Qc<|x Qi<|Qb<|Qj<|QF h U<|Qb<|Qj<|x Qi<|Qb<|Qd<|Q7 (α:=Nat×Nat) [(9,11),(15,34)] (λz=>[(9,sS z.1),(10,sS z.2)])
  (λz w'=>sX w w'/\z.1<=z.2/\z.2<=es.length/\(∀m (E:m<es.length),m<z.1->es[m].1<s)/\(∀m (E:m<es.length),z.2<=m->s<=es[m].1)) (λz=>z.2 - z.1) (0,es.length) oB
  ⟨O5.Z _ _,Lo _,Lx _,λm _ J=>OW J (Nk m),λm h1 J=>OW h1 (by simp only[]at J;omega)⟩ ?_
 rintro⟨i,j⟩ g1 w1 ⟨H,I,G,he,hf⟩;refine Qd<|Qj<|Qa<|Z5 U U<|xe<|ZH rfl (λho=>?_) (λho=>?_)
 ·have e:i=j:=oa
  subst e;refine Qw<|QX (α:=Bool) [(6,7),(35,48)] (λz=>[(6,sS i),(7,.bool z)]) (λz w'=>sX w1 w') om ?_ ?_
  ·refine Qs<|Qa<|Qa<|Qa<|xb (YX U U) (λhp=>?_) (λhp=>?_)
   ·have hg:i<es.length:=oa
    have O:=hc i hg;refine Qa<|Qa<|Qa<|Qa<|xie (h.I H) U U hg λh4 hr=>x (Qr hr U U)<|Qa<|Qn<|xc (first:=[]) (capt:=[]) U<|(T es[i] s _ O.1 O.2 V Y).Y ?_;rintro r2 w2 ⟨rfl,hs⟩;refine x (QR U U)<|QC U<|x Qi<|Qb<|⟨_,oB,hs⟩
   refine Qa<|Zt<|Zt<|Ys<|QC U<|x Qi<|Qb<|⟨false,oB,O5.Z _ _⟩
  rintro z g3 w3 ht;exact Qh ⟨[sS i,.bool z],oB,H.D ht,i,z,U,G,he,hf⟩
 refine Qf<|Qm<|Qj<|Qa<|QH U U<|x (Z6 U (by exact⟨oa,oa⟩))<|x (Qaf (n:=1) U U ol)<|x (Z6 U (by exact⟨oa,oa⟩))<|Qb ?_;have hh:(((i:Int)+(j:Int)) / 2 ^ 1)=(((i+j) / 2:Nat):Int):=oa
 rw[hh];generalize O:(i+j) / 2=q;have hu:i<=q:=oa
 have hv:q<j:=oa
 have S:q<es.length:=oa
 have hl:=hc q S;refine Qj<|Qa<|Qa<|xie (h.I H) U U S λh5 hw=>x (Qr hw U U)<|Qa<|Qn<|xc (first:=[]) (capt:=[]) U<|(T es[q] s _ hl.1 hl.2 V Y).Y ?_;rintro r4 w4 ⟨rfl,hn⟩;refine Z5 rfl U<|xe<|ZH rfl (λhy=>?_) (λhy=>?_)
 ·refine Qs<|Qa<|Qb<|⟨(i,q),og,oB,H.D hn,hu,oa,he,λm E hz=>?_⟩;by_cases e:q=m
  ·subst e;omega
  have:=ha E (show q<m by simp only[]at hz;omega);omega
 refine Qs<|Qa<|QH U U<|Qb<|⟨(q+1,j),og,oB,H.D hn,hv,G,λm E h2=>?_,hf⟩;by_cases e:m=q
 ·subst e;omega
 have:=ha S (show m<q by simp only[]at h2;omega);omega
theorem Qme (e:Ed)(s:Int)(w:O1)(H:0<=e.1)(I:e.1<=1099511627776)(J:0<=s)(O:s<=1099511627776):
  QY sV 244 [sT (QA e),sS s] w λr w'=>r=sS (e.1 - s)/\sX w w':=by
 refine Zq func244 ?_;refine Qc<|Zl (QA e) λb2 S E T G=>Qb<|Qc<|Qo U G U U<|Qa<|x (XR U U ⟨oa,oa⟩)<|Qb<|Qh ⟨[sS (e.1 - s)],La,U,E⟩
theorem Qmd (e:Ed)(s:Int)(w:O1)(H:0<=e.1)(I:e.1<=1099511627776)(J:0<=s)(O:s<=1099511627776):
  QY sV 245 [sT (QA e),sS s] w λr w'=>r=sS (e.1 - s)/\sX w w':=by
 refine Zq func245 ?_;refine Qc<|Zl (QA e) λb2 S E T G=>Qb<|Qc<|Qo U G U U<|Qa<|x (XR U U ⟨oa,oa⟩)<|Qb<|Qh ⟨[sS (e.1 - s)],La,U,E⟩
theorem Qbs {L:LN}{st:Int}{es:List Ed}(h:zP L ↑w ve es)(hi:es.Pairwise (λa b=>a.1<=b.1))(S:∀e∈es,0<=e.1/\e.1<=1099511627776)(s:Int)(hf:0<=s)(hp:s<1099511627776):
  QY sV 169 [.agg #[va,sS st,vm,ve],sS s] w λr w'=>sX w w'/\zP L ↑w' r (Z7 es s):=by
 refine Zq func169 ?_;refine Qc<|Zl [va,sS st,vm,ve] λb2 w1 T hq E=>Qb ?_
 replace h:=h.I T;refine Qc<|Qo U E U U<|Qa<|Qz<|(QkT Qme h hi S s hf oa).Y ?_;rintro r2 w2 ⟨J,lo,b,rfl,hr,V,hg⟩
 replace h:=h.I J
 replace E:=E.I J;refine Qa<|QW U U<|QW U U<|x Qi<|Qb<|Qc<|Qo U E U U<|Qa<|QH U U<|Qz<|(QkT Qmd h hi S (s+1) oa oa).Y ?_;rintro r3 w3 ⟨O,G,b',rfl,Y,hh,ha⟩
 replace h:=h.I O
 replace E:=E.I O;refine Qa<|QW U U<|QW U U<|x Qi<|Qb ?_;have he:lo<=G:=by
  rcases Ns G lo with hj|hge
  ·have I:=V G oa hj;have h2:=ha G oa (Lx _);omega
  exact hge
 refine Qc<|Qo U E U U<|Qa<|Qa<|Qrw h U U U he Y λv' hk=>Qb<|Qh ⟨[v'],La,(T.D J).D O,?_⟩;have hc:=Qew (λe:Ed=>decide (e.1=s)) es lo G he Y (λm H hl=>by have:=V m H hl;simp;omega) (λm H I h2=>by have:=hg m H I;have:=hh m H h2;simp;omega) (λm H I=>by have:=ha m H I;simp;omega);have hn:(Z7 es s).length=G - lo:=by unfold Z7;rw[<-hc,LB,LY];omega
 show Zn L ↑w3 v' (Z7 es s).length 3 _;rw[hn];have e1:(Z7 es s).flatMap QA=((es.flatMap QA).drop (lo*3)).take ((G - lo)*3):=by
  unfold Z7;rw[<-hc];have key:∀(l:List Ed) (k:Nat),(l.flatMap QA).drop (k*3)=(l.drop k).flatMap QA:=by
   intro l;induction l with
   | nil=>intro k;simp
   | cons a l ih=>intro k;cases k with
    | zero=>simp
    | succ k=>simp only[Of,List.drop_succ_cons,Oq,Nat.one_mul];rw[Nd,<-List.drop_drop,show(QA a++l.flatMap QA).drop 3=l.flatMap QA from rfl,ih]
  have ho:∀(l:List Ed) (k:Nat),(l.flatMap QA).take (k*3)=(l.take k).flatMap QA:=by
   intro l;induction l with
   | nil=>intro k;simp
   | cons a l ih=>intro k;cases k with
    | zero=>simp
    | succ k =>
     simp only[Of,List.take_succ_cons,Oq,Nat.one_mul];rw[OK,Kl,<-ih,Lu (by simp[Kl])];simp
  rw[key,ho]
 rw[e1];exact hk
structure Vh (b3 b22:Nat)(r3:O2)(wS:O1)(c:Cs)(vo vk ve:O2)(w:O1):Prop where
 st:O5 [b3,b22] wS w
 B3:QZ ↑w b3 66 [r3,sS 0,vk,ve]
 B22:QZ ↑w b22 3 (c.num.map (Value.int .i64))
 o:Qq 3 ↑wS w vo c.ord
 k:Qq 3 ↑wS w vk c.mk'
 e:YP 159 ↑wS w ve c.ed
 d1:Dj vo vk
 d2:Dj vo ve
 d3:Dj vk ve
theorem Vh.I {b3 b22:Nat}{r3:O2}{wS:O1}{c:Cs}{vo vk ve:O2}{w w':O1}(h:Vh b3 b22 r3 wS c vo vk ve w)(E:sX w w'):Vh b3 b22 r3 wS c vo vk ve w' :=
 ⟨h.st.D E,h.B3.I E,h.B22.I E,Ql h.o E,Ql h.k E,Ql h.e E,h.d1,h.d2,h.d3⟩
section
variable {b3 b22:Nat}{r3:O2}{wS:O1}{c:Cs}{vo:O2}{w'':O1}
theorem Vh.setK (h:Vh b3 b22 r3 wS c vo vk ve w)(V:b3<wS.heap.size)(S:b22<wS.heap.size)(ne:b3≠b22){H:O2}{m:LI}(I:O5 (ob vk) w w')(J:Qq 3 ↑wS w' H m)
  (O:∀b∈ob H,b∈ob vk\/↑w<=b) (G:O5 [b3] w' w'') (T:QZ ↑w'' b3 66 [r3,sS 0,H,ve]):Vh b3 b22 r3 wS ⟨c.ord,c.num,m,c.ed⟩ vo H ve w'':=by
 refine⟨(h.st.S I (λb E=>.inr ((Qg h.k) b E).1)).S G (λb E=>.inl (by simp at E;simp[E])),T,(h.B22.J I (QP h.k S)).J G (by simp;omega),
  Qe (Qe h.o I h.d1) G (λb E=>by have:=(Qg h.o b E).1;simp;omega),Qe J G (λb E=>by have:=(Qg J b E).1;simp;omega),
  Qe (Qe h.e I h.d3.symm) G (λb E=>by have:=(Qg h.e b E).1;simp;omega),h.d1.grow O (Q8 h.o),h.d2,(h.d3.symm.grow O (Q8 h.e)).symm⟩
theorem Vh.setE (h:Vh b3 b22 r3 wS c vo vk ve w)(V:b3<wS.heap.size)(S:b22<wS.heap.size)(ne:b3≠b22){H:O2}{m:List Ed}(I:O5 (ob ve) w w')(J:YP 159 ↑wS w' H m)
  (O:∀b∈ob H,b∈ob ve\/↑w<=b) (G:O5 [b3] w' w'') (T:QZ ↑w'' b3 66 [r3,sS 0,vk,H]):Vh b3 b22 r3 wS ⟨c.ord,c.num,c.mk',m⟩ vo vk H w'':=by
 refine⟨(h.st.S I (λb E=>.inr ((Qg h.e) b E).1)).S G (λb E=>.inl (by simp at E;simp[E])),T,(h.B22.J I (QP h.e S)).J G (by simp;omega),
  Qe (Qe h.o I h.d2) G (λb E=>by have:=(Qg h.o b E).1;simp;omega),Qe (Qe h.k I h.d3) G (λb E=>by have:=(Qg h.k b E).1;simp;omega),
  Qe J G (λb E=>by have:=(Qg J b E).1;simp;omega),h.d1,h.d2.grow O (Q8 h.o),h.d3.grow O (Q8 h.k)⟩
theorem Vh.setN (h:Vh b3 b22 r3 wS c vo vk ve w)(I:b22<wS.heap.size)(ne:b3≠b22){m:LI}(G:O5 [b22] w w')(H:QZ ↑w' b22 3 (m.map (Value.int .i64))):Vh b3 b22 r3 wS ⟨c.ord,m,c.mk',c.ed⟩ vo vk ve w' :=
 ⟨h.st.S G (λb E=>.inl (by simp at E;simp[E])),h.B3.J G (by simp;omega),H,Qe h.o G (λb E=>by have:=(Qg h.o b E).1;simp;omega),
  Qe h.k G (λb E=>by have:=(Qg h.k b E).1;simp;omega),Qe h.e G (λb E=>by have:=(Qg h.e b E).1;simp;omega),h.d1,h.d2,h.d3⟩
theorem Vh.setO (h:Vh b3 b22 r3 wS c vo vk ve w)(I:b3<wS.heap.size)(J:b22<wS.heap.size){G:O2}{m:LI}(E:O5 (ob vo) w w')(O:Qq 3 ↑wS w' G m)
  (H:∀b∈ob G,b∈ob vo\/↑w<=b):Vh b3 b22 r3 wS ⟨m,c.num,c.mk',c.ed⟩ G vk ve w' :=
 ⟨h.st.S E (λb S=>.inr (Qg h.o b S).1),h.B3.J E (QP h.o I),h.B22.J E (QP h.o J),O,Qe h.k E h.d1.symm,Qe h.e E h.d2.symm,
  (h.d1.symm.grow H (Q8 h.k)).symm,(h.d2.symm.grow H (Q8 h.e)).symm,h.d3⟩
end
def YD (c:Cs)(e:Ed):Cs:=if Yg c.num e.2.2<0 then⟨c.ord++[e.2.2],c.num.set e.2.2.toNat c.ord.length,c.mk',c.ed⟩else c
theorem Qmk (c:Cs)(e:Ed):(YD c e).num.length=c.num.length:=by unfold YD;split <;> simp
theorem yp {c:Cs}{e:Ed}(h:e.2.2.toNat<c.num.length):ZC i c e=⟨(YD c e).ord,(YD c e).num,(YD c e).mk',(YD c e).ed++[((i:Int),e.2.1,Yg (YD c e).num e.2.2)]⟩:=by
 unfold ZC YD;split
 ·simp[Yg,oR,h]
 rfl
theorem JJ {L:LN}{a:Q6}(h:ZM L ↑w va vm ve a)(Y:ZK a):
  QY sV 99 [.agg #[va,sS a.st,vm,ve]] w λr w'=>sX w w'/\JK ↑w ↑w' r (Yk a):=by
 have hst0:=Y.st0;have hst1:=Y.st1;refine Zq func99 ?_;refine Qc<|Zl [va,sS a.st,vm,ve] λb1 w1 gm hb1 ho=>QM [nS,sS 0,nS,nS] λb2 w2 hh hb2 hp=>xe ?_;have hl1:=ho.lt;have hl2:=hp.lt;refine Qc<|Qo U (ho.I hh) U U<|Qz<|(Z3 ((h.al.I gm).I hh)).Y ?_;rintro r3 w3 ⟨ha,O⟩;have hz3:=ha.size;refine x (Qx ⟨(Qq.ints (L:=[]) O h.al.le od).cells,Z⟩)<|QM [nS,sS 0,nS,nS] λb3 w4 ko kq hr =>
  QK [r3,sS 0,nS,nS] hr ⟨(Qq.ints (L:=[]) O h.al.le od).one,rfl,rfl,rfl,Z⟩ λw5 kr hr=>xe ?_
 have J:sX w3 w5:=ko.O kr kq;have hl3:=hr.lt;have gn:sX w w5:=((gm.D hh).D ha).D J;refine Qd<|Qc<|QQ U<|x (Qk (((ho.I hh).I ha).I J) U U)<|x (QR U U)<|xe<|QO rfl (λhK=>?_) (λhK=>?_)
 ·refine Qc<|QT hr U U<|QK [r3,sS 0,nS,nS] ((hp.I ha).I J) ⟨(Qq.ints (L:=[]) O h.al.le od).one,rfl,rfl,rfl,Z⟩ λw6 go hp=>xe ?_;refine Qh ⟨[.agg #[r3,sS 0,nS,nS]],⟨Yl hp,Z⟩,gn.O go oa,?_⟩;have kt:=Qe (Ql O J) go (λb E=>by have:=(Qg O b E).1;simp;omega);unfold Yk;rw[OU hK];exact⟨r3,_,_,U,λL' ht=>⟨Qq.ints kt h.al.le (λb E=>ov (ht b E)),Zn.nil _ _ _,Zn.nil _ _ _⟩⟩
 have ku:0<a.st:=oa
 obtain⟨n,hn⟩:∃n:Nat,a.st=n:=⟨a.st.toNat,oa⟩;have kv:a.st.toNat=n:=oa
 refine Qf<|Qc<|QQ U<|x (Qk (((ho.I hh).I ha).I J) U U)<|Qn<|qH (n:=n) (OV sS hn) (OV sS hn) oa λb22 w7 hv hb22 hL=>Qb ?_;have hl22:=hL.lt;have kw:=gn.D hv;rw[show(oO n (sS 0).cells.toList).flatten=((oO n 0).map (Value.int .i64)) by rw[show(sS 0).cells.toList=[sS 0] from rfl,Qcu,List.map_replicate]]at hL;have kx:sX w3 w7:=J.D hv;refine Qd<|Qj<|x (Ui U)<|Qa<|xe<|Q7 (α:=Nat) [(5,5),(25,31)] (λk=>[(25,sS k)]) (λk w'=>O5 [b22] w7 w'/\k<=n/\QZ ↑w' b22 3 ((oO k (-1)++oO (n - k) 0).map (Value.int .i64))) (λk=>n - k) 0 La
  ⟨O5.Z _ _,Lo _,oA hL⟩ ?_
 rintro k g w8 ⟨hM,hk,hN⟩;refine Zo rfl U (λkz=>?_) (λkz=>?_)
 rotate_left
 ·have T:k<n:=oa
  refine Qf<|Qd<|Qm<|Qj<|Qb<|Qs<|Qa<|Qa<|x (ZA U U T)<|Qn<|KD hN U U (by simp;omega) λw9 h6 gp=>xe ?_;refine Qs<|QH U U<|Qa<|xe<|⟨k+1,oa,La,hM.Q h6,oa,?_⟩;have e:(oO k (-1:Int)++oO (n - k) 0).set k (-1)=oO (k+1) (-1)++oO (n - (k+1)) 0:=by
   rw[List.set_append_right _ _ od];obtain⟨m,hm⟩:∃m,n - k=m+1:=⟨n - k - 1,oa⟩;rw[hm,show n - (k+1)=m by omega,List.replicate_succ,List.replicate_succ' (n:=k)];simp
  rw[e]at gp;exact gp
 have k0:n=k:=oa
 subst k0;simp only[Nat.sub_self,List.replicate_zero,Oy]at hN;refine Qw<|Qj<|x (ZA (i:=0) U U oa)<|Qn<|KD (i:=0) hN U U (by simp;omega) λwS h6 k4=>xe ?_;have hzS:w8.heap.size<=wS.heap.size:=h6.size;have hz8:=hM.size;have hw:O5 [b22] w7 wS:=hM.Q h6;have hO:sX w wS:=kw.O hw oa;have hA:ZM [b3,b22] ↑wS va vm ve a:=(h.up (λb E=>.inr (by simp at E;omega))).I hO;have gq:QZ ↑wS b1 66 [va,sS a.st,vm,ve]:=((((ho.I hh).I ha).I J).I hv).J hw (by simp;omega);have k5:QZ ↑wS b2 66 [nS,sS 0,nS,nS]:=(((hp.I ha).I J).I hv).J hw (by simp;omega);have k6:QZ ↑wS b3 66 [r3,sS 0,nS,nS]:=(hr.I hv).J hw (by simp;omega);have k7:Qq 3 ↑w2 wS r3 a.al:=Qe (Ql O kx) hw (λb E=>by have:=Q8 O b E;simp;omega);have k8:∀b∈ob r3,b<w3.heap.size:=Q8 O;have hy:b3<wS.heap.size:=oa
 have hz:b22<wS.heap.size:=oa
 have hP:b3≠b22:=oa
 refine Qc<|Qn<|Za [[sS 0]] λgr k9 hQ hb34 ma=>Qb ?_;have mf:Qq 3 ↑wS k9 (sL gr 1 1) [0]:=ma.own (n:=1) (sz:=1) U oa oa;refine Qd<|Qc<|Qb ?_;have hedle:=Y.ed_le;have mg:∀e∈a.ed,0<=e.1/\e.1<=1099511627776:=λe he=>ov (Y.ed e he)
 refine Q7 (α:=Nat×Cs×O2×O2×O2) [(6,9),(11,11),(35,100)] (λz=>[(6,z.2.2.1),(7,sS z.1)])
  (λz w'=>Vh b3 b22 r3 wS z.2.1 z.2.2.1 z.2.2.2.1 z.2.2.2.2 w'/\z.1<=z.2.1.ord.length/\UL a.st z.2.1/\z.2.1.mk'.length<=z.1/\z.2.1.ed.length<=z.1*131072/\Jf a (a.st.toNat - z.1) z.1 z.2.1=Jf a a.st.toNat 0 (YZ a))
  (λz=>a.st.toNat - z.1) (0,YZ a,sL gr 1 1,nS,nS) oB
  ⟨⟨hQ.any,k6.I hQ,by show QZ _ _ _ (List.map _ ((oO a.st.toNat (-1)).set 0 0));rw[kv];exact k4.I hQ,mf,QE _ _ _ _,QE _ _ _ _,Dj.nil' _,Dj.nil' _,Dj.nil' _⟩,Lo _,Qgc ku,Lo _,Lo _,U⟩ ?_
 rintro⟨i,c,vo,vk,S⟩ g2 mh ⟨H,hi,G,mj,mo,hR⟩;simp only[]at H hi G mj mo hR;have hcle:=G.le;have hS:=Qq.ints (L:=[]) H.o oa od;have mq:=hA.st H.st;have ms:=gq.J H.st (by simp;omega);refine Qd<|Qj<|Qa<|QF hS U<|Z5 U U<|xe<|ZH rfl (λmt=>?_) (λmt=>?_)
 ·have mu:c=Jf a a.st.toNat 0 (YZ a):=by rw[<-hR,QaT oa]
  refine Qw<|Qj<|QF hS U<|QQ U<|Qn<|Qu H.B3 U U od rfl λmv h7 mw=>xe ?_;refine Qc ?_;have my:=Qq.ints (L:=[]) H.k oa od;have mz:=YP.eds (L:=[]) H.e (ov G.el) od;have m2:=Qq.ints (L:=[]) O h.al.le od;refine QT mw U U<|QK [r3,sS c.ord.length,vk,S] (((k5.J H.st (by simp;omega))).J h7 (by simp;omega)) ⟨m2.one,U,my.one,mz.one,Z⟩ λm3 h8 m4=>xe ?_;have gs:O5 [b3,b22] wS mv:=H.st.S h7 (λb E=>.inl (by simp at E;simp[E]));have m5:sX w m3:=(hO.S gs (λb E=>.inr (by simp at E;omega))).O h8 oa;refine Qh ⟨[.agg #[r3,sS c.ord.length,vk,S]],⟨Yl m4,Z⟩,m5,?_⟩;unfold Yk;rw[OT hK];simp only[];rw[<-mu];have k1:=Qe (Qe H.k h7 (λb E=>by have:=(Qg H.k b E).1;simp;omega)) h8 (λb E=>by have:=(Qg H.k b E).1;simp;omega);have k2:=Qe (Qe H.e h7 (λb E=>by have:=(Qg H.e b E).1;simp;omega)) h8 (λb E=>by have:=(Qg H.e b E).1;simp;omega);have k3:=Qe (Qe k7 gs (λb E=>by have:=k8 b E;simp;omega)) h8 (λb E=>by have:=(Qg O b E).1;simp;omega);exact⟨r3,vk,S,U,λL' ht=>⟨Qq.ints k3 h.al.le (λb E=>ov (ht b E)),Qq.ints k1 (by show c.mk'.length<=_;omega) (λb E=>ov (ht b E)),YP.eds k2 (by show c.ed.length<=_;have:=G.el;omega) (λb E=>ov (ht b E))⟩⟩
 have T:i<c.ord.length:=oa
 refine Qf<|Qd<|Qm<|QX (α:=O2) [(8,9),(41,57)] (λz=>[]) (λz w'=>Vh b3 b22 r3 wS (Yq a i c) vo z S w') om ?_ ?_
 ·refine Qd<|Zz [] (YW 0 12 [6])<|p (QG U)<|pq (λ_ G=>Qk (ms.I G) U U)<|p Qv<|p Qv<|pii U hS U U T λa46 m6 =>
   pq (λ_ G=>Qy (m6.I G) U)<|pk<|xg<|(jt (mq.mr.I (O5.C _ _)) Y.mri _).Y ?_
  rintro r14 w14 ⟨rfl,j14,rfl⟩;refine⟨O5.C _ _,?_⟩;refine p Qv<|p (λ_=>Zi U U)<|p (λ_=>Zi U U)<|p ZG<|p ZG<|pe ?_;have hT:=H.I (O5.C [] mh);refine Qj<|xe ?_;have h9:Yg c.ord i=c.ord[i]:=U5 (oA T);refine ZH U (λhU=>?_) (λhU=>?_)
  ·refine Qf<|⟨vk,Z,?_⟩;unfold Yq;rw[h9,OT hU];exact hT
  refine Qs<|Qo U hT.B3 U U<|Qa<|Qn<|Za [[sS i]] λb55 w15 m7 hb55 m8=>?_;have h0:=hT.I m7;refine Qn<|Q2 (news:=[sS i]) (L:=[]) h0.k U U U (m8.at od) oq oa h0.st.size λv16 m9 pa gt pc=>?_;have gu:Qq 3 ↑wS m9 v16 (c.mk'++[(i:Int)]):=Qq.snoc pa;refine QQ U<|Qn<|Qu (h0.B3.J gt (QP h0.k hy)) U U od (Qq.ints (L:=[]) gu (by simp;omega) od).one λw17 pd pf=>xe ?_;refine⟨v16,Z,?_⟩;unfold Yq;rw[h9,OU hU];exact h0.setK hy hz hP gt gu pc pd pf
 rintro hV g3 h2 hj;have pg:UL a.st (Yq a i c):=Qjg G;have hW:(Yq a i c).ord=c.ord:=by unfold Yq;split <;> rfl
 have ph:(Yq a i c).ed=c.ed:=by unfold Yq;split <;> rfl
 have pj:(Yq a i c).mk'.length<=i+1:=by
  unfold Yq;split
  ·simp only[oN,oP];omega
  omega
 have gv:QL [] ↑h2 vo (Yq a i c).ord:=Qq.ints (L:=[]) hj.o (by rw[hW];omega) od;rw[hW]at gv;have pm:sX w h2:=hO.S hj.st (λb E=>.inr (by simp at E;omega));have pn:ZM (b3::b22::(ob vo++ob S)) ↑h2 va vm ve a:=(h.up (λb E=>.inr (by
  simp only[oL,oW]at E;rcases E with rfl|rfl|E|E
  ·omega
  ·omega
  ·have:=(Qg hj.o b E).1;omega
  have:=(Qg hj.e b E).1;omega))).I pm
 have po:=gq.J hj.st (by simp;omega);have hs:=G.ord c.ord[i] (Lm T);refine Qd<|Zz [] [oE 0,oE 1,oE 2,oE 3,oE 4,oE 7,oF 5,oE 6]<|pq (λ_ G=>Zu (po.I G) U U)<|p Qv<|p Qv<|pii U gv U U T λa61 pp =>
  pq (λ_ G=>Qy (pp.I G) U)<|p Qv<|pk<|xg<|(Qbs (pn.ed.I (O5.C _ _)) Y.eds mg c.ord[i] hs.1 oa).Y ?_
 rintro r19 hl ⟨pu,gw⟩;have gx:sX h2 hl:=(O5.C [] h2).D pu;refine⟨gx,?_⟩;refine p (λ_=>Yo gw U)<|pe ?_;have pw:=hj.I gx;have h9:Yg c.ord i=c.ord[i]:=U5 (oA T);have hol:=Vz a.ed c.ord[i];have pz:zx a i c=(Z7 a.ed c.ord[i]).foldl (ZC i) (Yq a i c):=by unfold zx;rw[h9]
 generalize p0:Z7 a.ed c.ord[i]=os at *;have p1:∀e∈os,0<=e.2.2/\e.2.2<a.st:=λe he=>by rw[<-p0]at he;have:=Y.ed e (ZV he).1;omega
 refine Q7 (α:=Nat×Cs×O2×O2) [(6,6),(11,11),(65,100)] (λz=>[(6,z.2.2.1),(65,sS z.1)])
  (λz w'=>Vh b3 b22 r3 wS z.2.1 z.2.2.1 hV z.2.2.2 w'/\O5 (b3::b22::(ob vo++ob S)) hl w'/\(∀b∈ob z.2.2.1,b∈ob vo\/↑hl<=b)/\(∀b∈ob z.2.2.2,b∈ob S\/↑hl<=b)/\z.1<=os.length/\UL a.st z.2.1/\z.2.1.mk'=(Yq a i c).mk'/\z.2.1.ed.length=c.ed.length+z.1/\c.ord.length<=z.2.1.ord.length/\(os.drop z.1).foldl (ZC i) z.2.1=zx a i c)
  (λz=>os.length - z.1) (0,Yq a i c,vo,S) oB
  ⟨pw,O5.Z _ _,λ_ E=>.inl E,λ_ E=>.inl E,Lo _,pg,U,by simp[ph],by simp[hW],by rw[pz];rfl⟩ ?_
 rintro⟨k,d,gy,hB⟩ g4 p2 ⟨hf,hC,hD,hX,p3,V,hY,hZ,p4,h3⟩;simp only[]at hf hC hD hX p3 V hY hZ p4 h3;refine Zo rfl U (λp5=>?_) (λp5=>?_)
 ·rw[Lt oa,NO]at h3;subst h3;refine Qw<|Qs<|Qa<|QH U U<|Qb ?_;have p6:=V.le;refine⟨(i+1,zx a i c,gy,hV,hB),og,oB,hf,og,V,by simp only[];rw[hY];exact pj,og,?_⟩;simp only[];rw[<-hR];obtain⟨m,hm⟩:∃m,a.st.toNat - i=m+1:=⟨a.st.toNat - i - 1,oa⟩;rw[hm,Jf,OU T,show a.st.toNat - (i+1)=m by omega]
 have ga:k<os.length:=oa
 have p7:=Zc ga;rw[p7,L5]at h3;have gz:=p1 os[k] (Lm ga);have p8:=gw.st hC;have p6:=V.le;have hzS4:=hC.size;have hI4z:=hf.st.size;have p9:=Qq.ints (L:=[]) hf.o oa od;obtain⟨q,hq⟩:∃q:Nat,os[k].2.2=q:=⟨os[k].2.2.toNat,oa⟩;have gb:os[k].2.2.toNat=q:=oa
 have gc:q<n:=oa
 have gg:q<d.num.length:=by rw[V.nl];omega
 have g0:Yg d.num os[k].2.2=d.num[q]:=by rw[U5 oa];simp only[gb]
 have qc:=Q8 hf.e;have qf:=Q8 hf.o;refine Qf<|Qd<|Qm<|Qc<|xie p8 U U ga λa67 ql=>x (Qr ql U U)<|QM [sS 0,sS 0,sS 0] λg6 w21 qm qo hg=>QK (QA os[k]) hg oC λqr q0 hg=>xe ?_;have g7:sX p2 qr:=qm.O q0 qo;have hE:=hf.I g7;have hl11:=hg.lt;have J:=hC.D g7;refine QX (α:=O2) [(6,6),(69,85)] (λz=>[(6,z)]) (λz w'=>Vh b3 b22 r3 wS (YD d os[k]) z hV hB w'/\O5 (b3::b22::(ob vo++ob S)) hl w'/\(∀b∈ob z,b∈ob vo\/↑hl<=b)/\QZ ↑w' g6 159 (QA os[k])) om ?_ ?_
 ·refine Qj<|Qo U hg U U<|x (ZA U (OV sS hq) gc)<|x (zV hE.B22 U gg)<|Z5 U U<|xe<|ZH U (λgh=>?_) (λgh=>?_)
  ·refine Qf<|⟨gy,La,?_,J,hD,hg⟩;unfold YD;rw[g0,OT gh];exact hE
  refine Qj<|Qo U hg U U<|Qa<|QF p9 U<|x (ZA U (OV sS hq) gc)<|Qn<|KD hE.B22 U U gg λw23 hF q1=>xe ?_;have q2:=hE.setN hz hP hF q1;have g8:=hg.J hF (by simp;omega);refine Qs<|Qa<|Qo U g8 U U<|Qn<|Xy (us:=[[sS os[k].2.2]]) U U ol od ⟨rfl,rfl,Z⟩ λb84 w24 hG hb84 q3=>?_;have gi:=q2.I hG;refine Qn<|Q2 (news:=[sS os[k].2.2]) (L:=[]) gi.o U U U (q3.at od) oq (by show d.ord.length+1<=_;omega) gi.st.size λg9 q4 q5 gj ka=>Qb ?_;have q6:Qq 3 ↑wS q4 g9 (d.ord++[os[k].2.2]):=Qq.snoc q5;have hz23:=hF.size;have hz24:=hG.size;refine⟨g9,La,?_,?_,?_,(g8.I hG).J gj (λE=>ov (qf _ E))⟩
  ·unfold YD;rw[g0,OU gh,gb];exact gi.setO hy hz gj q6 ka
  ·refine((J.S hF (λb E=>.inl ?_)).D hG).S gj (λb E=>?_)
   ·simp at E;simp[E]
   rcases hD b E with I|I
   ·exact .inl (by simp[I])
   exact .inr I
  intro b E;rcases ka b E with I|I
  ·exact hD b I
  exact .inr oa
 rintro j1 g5 kb ⟨h4,kc,j2,ke⟩;have gk:ZC i d os[k]=⟨(YD d os[k]).ord,(YD d os[k]).num,(YD d os[k]).mk',(YD d os[k]).ed++[((i:Int),os[k].2.1,Yg (YD d os[k]).num os[k].2.2)]⟩:=yp oa;have j3:q<(YD d os[k]).num.length:=by rw[Qmk];exact gg
 have za:Yg (YD d os[k]).num os[k].2.2=(YD d os[k]).num[q]:=by rw[U5 oa];simp only[gb]
 have kf:=QP h4.e hy;have zb:=QP h4.e hz;have kg:g6∉ob hB:=λE=>ov (qc _ E)
 have kh:(YD d os[k]).ed=d.ed:=by unfold YD;split <;> rfl
 have zv:UL a.st (ZC i d os[k]):=Qcg V gz.1 gz.2 (by rw[hZ];omega);refine Zz (ob hB) (YW 0 15 [11,12,14])<|p (QG U)<|pq (λ_ G=>Qk (h4.B3.J G kf) U U)<|p Qv<|p (QG U)<|pq (λ_ G=>Qk (ke.J G kg) U U) <|
  p Qv<|p (QG U)<|pq (λ_ G=>Qk (ke.J G kg) U U)<|p (λ_=>ZA U (OV sS hq) gc) <|
  pq (λ_ G=>zV (h4.B22.J G zb) U j3)<|p (λ_=>Qx ⟨U,U,U,Z⟩)<|pk<|Za [QA ((i:Int),os[k].2.1,(YD d os[k]).num[q])] λb97 z1 z2 hb97 z3=>?_
 have h5:sX kb z1:=(O5.C [] kb).D z2;refine⟨h5.any,?_⟩;have hH:=h4.I h5;refine pk<|Q2 (news:=QA ((i:Int),os[k].2.1,(YD d os[k]).num[q])) (L:=[]) hH.e U U U (z3.at od) (λu hu=>by simp only[QA,oL,oK,or_false]at hu;rcases hu with rfl|rfl|rfl <;> rfl) (by rw[kh];have:=V.el;omega) hH.st.size λki z4 z5 hJ kj=>?_
 refine⟨h5.any.Q hJ,?_⟩;have kk:YP 159 ↑wS z4 ki ((YD d os[k]).ed++[((i:Int),os[k].2.1,(YD d os[k]).num[q])]):=YP.snoc z5;refine p (QG U)<|pkk<|Qu (hH.B3.J hJ kf) U U od (YP.eds (L:=[]) kk (by simp[kh];have:=V.el;omega) od).one λw29 kn hB29=>pe ?_;have gl:=hH.setE hy hz hP hJ kk kj kn hB29;rw[<-za]at gl;rw[<-gk]at gl;refine Qs<|QH U U<|Qa<|xe ?_;have hz26:=kc.size;have hz27:=h5.size;refine⟨(k+1,ZC i d os[k],j1,ki),og,oB,gl,?_,j2,?_,og,zv,?_,?_,?_,h3⟩
 ·refine(((kc.D h5)).S hJ (λb E=>?_)).S kn (λb E=>.inl (by simp at E;simp[E]));rcases hX b E with I|I
  ·exact .inl (by simp[I])
  exact .inr I
 ·intro b E;rcases kj b E with I|I
  ·exact hX b I
  exact .inr oa
 ·simp only[];rw[<-hY,gk];simp only[];unfold YD;split <;> rfl
 ·simp only[];rw[Qci,hZ];omega
 simp only[];rw[gk];simp only[];unfold YD;split
 ·simp only[oN];omega
 omega
end Go.Lg
namespace Go.Proofs
open Go.Proofs.Tryz
open Go.Shelf
def Tryz.lays169_ren:Go.Shelf.Ren:=⟨λ|169=>181|n=>n,λ|70=>330|9=>9|0=>0|72=>332|37=>178|127=>398|3=>3|5=>5|n=>n,λ|n=>n⟩
theorem Tryz.lays169:Go.Proofs.Lays.n169 sV Tryz.lays169_ren:=lyS
theorem Tryz.Builder_Extra_169:Builder.Extra sV Tryz.lays169_ren:=lyS
open Go.RowKit in
open Go.RowKit in
open Go.RowKit in
theorem Tryz.Builder_String_any (B b:Nat)(l:List UInt8)(w:O1)(h:Lib.IsBuilder 332 5 B b (Lib.byteCells l) w)(E:B<=↑w):
  Calls sV 181 #[sP b] w λe w'=>e=.returned (.string ⟨l.toArray⟩)/\Below B w w':=Any.Builder_String_any Tryz.lays169 Tryz.Builder_Extra_169 B b l w h E
def Tryz.laysM171_ren:Go.Shelf.Ren:=⟨λ|171=>180|243=>250|246=>292|283=>326|284=>327|285=>328|286=>329|129=>209|317=>342|318=>343|319=>344|320=>345|337=>348|338=>349|n=>n,λ|3=>3|9=>9|2=>2|4=>4|171=>461|0=>0|53=>364|37=>178|5=>5|173=>463|212=>476|51=>362|20=>20|213=>477|46=>269|232=>480|233=>481|n=>n,λ|17=>0|18=>1|19=>2|n=>n⟩
theorem Tryz.laysM171:Go.Proofs.LaysM.n171 sV Tryz.laysM171_ren:=lyS
open Go.RowKit Go.Sort Go.Lib in
theorem Tryz.strconv_Itoa (n:Int)(E:-9223372036854775808<=n)(G:n<=9223372036854775807)(w:O1)(H:Lib.TabIs sV w "internal/strconv.uint64pow10" .u64 Lib.pow10Tab):
  Calls sV 180 #[sS n] w λe w'=>e=.returned (.string ⟨(Lib.itoa n).toArray⟩)/\∃k os,w'=grow (w.drewN k) os:=Any.strconv_Itoa Tryz.laysM171 n E G w H
def Tryz.lays171_ren:Go.Shelf.Ren:=⟨λ|171=>180|243=>250|246=>292|283=>326|284=>327|285=>328|286=>329|129=>209|317=>342|318=>343|319=>344|320=>345|337=>348|338=>349|n=>n,λ|3=>3|9=>9|2=>2|4=>4|171=>461|0=>0|53=>364|37=>178|5=>5|173=>463|212=>476|51=>362|20=>20|213=>477|46=>269|232=>480|233=>481|n=>n,λ|17=>0|18=>1|19=>2|n=>n⟩
theorem Tryz.lays171:Go.Proofs.Lays.n171 sV Tryz.lays171_ren:=lyS
open Go.RowKit Go.Sort Go.Lib in
theorem Tryz.strconv_Itoa_small (i:Nat)(hi:i<100)(w:O1):
  Calls sV 180 #[sS i] w λe w'=>e=.returned (.string ⟨(Lib.decDigits i).toArray⟩)/\w'=w:=Any.strconv_Itoa_small Tryz.lays171 i hi w
end Go.Proofs
namespace Go.Lg
open Go.RowKit
section
variable {K:Fr->O1->Prop}{f:Fr}{pS:String}
theorem Jj {te:Nat}(G:P.underlying t=some (.pointer te)){x:O3}{a:Option Addr}(hx:ev f x=.pointer a)(H:ev f y=.pointer none):
  (execOp (ev f) ⟨d,.binOp .eql t x y E,ty,pS,af,gd⟩).run P w=.ok (.value (.bool a.isNone)) w:=by
 have I:(eqGuard .eql t x y (.pointer a) (.pointer none)).run P w=.ok () w:=by simp[eqGuard]
 have key:∀m,(Op.equalIn (m+1) t (.pointer a) (.pointer none)).run P w=.ok a.isNone w:=by
  intro m;unfold Op.equalIn;cases a <;> simp[run_underlying G]
 have J:(Op.equal t (.pointer a) (.pointer none)).run P w=.ok a.isNone w:=key 9999;simp only[execOp,hx,H,Sem.run_bind,I,Result.andThen_ok,binOp,J,Sem.run_pure]
theorem QgP {te:Nat}{j:TypeInfo}(G:P.underlying t=some (.pointer te))(H:P.info? te=some j){x:O3}{a:Addr}(hx:ev f x=.pointer (some a))(I:ev f y=.pointer (some a)):
  (execOp (ev f) ⟨d,.binOp .neq t x y E,ty,pS,af,gd⟩).run P w=.ok (.value (.bool false)) w:=by
 have J:(eqGuard .neq t x y (.pointer (some a)) (.pointer (some a))).run P w=.ok () w:=by simp[eqGuard]
 simp only[execOp,hx,I,Sem.run_bind,J,Result.andThen_ok,Lib.run_neq_ptr_same w a G H,Sem.run_pure]
theorem zW {x:O3}{v:O2}(hx:ev f x=v)(h:(convert t E v).run P w=.ok v' w):
  (execOp (ev f) ⟨d,.convert t E x,ty,pS,af,gd⟩).run P w=.ok (.value v') w:=by
 simp[execOp,hx,h]
theorem QiO {e:Array O2->Sem O2}{x:O3}{v:O2}{ts:Array Nat}(G:P.funcs[g]?=some fn)(H:(fn.name == "runtime.NumGoroutine")=false)
  (I:fn.body.isNone=true) (J:Extern.findNext fn=none) (O:Extern.find fn=some e) (h:(e #[ev f x]).run P w=.ok v w):
  (execOp (ev f) ⟨d,.call ⟨.value (.func g),#[x],ts⟩,ty,pS,af,gd⟩).run P w=.ok (.value v) w:=by
 have E:=run_callFunc_extern G H I J O #[ev f x] w;rw[h]at E;have S:ev f (.func g)=.func (.func g) #[] #[]:=rfl;simp[execOp,resolve,S,Deferred.ofValue,invoke,E,Result.andThen]
theorem QoJ {e u:Nat}[h:Sl P t e 1 1 (.int .u8 0)](E:P.underlying u=some .string){s:O3}{base:Nat}{v:O2}{cs:LV}(G:w.ownsRow base e 1 v n cs)(H:ev f s=v)
  {b:ByteArray} (I:ev f y=.string b) (hb:n+b.size<=1099511627776) (J:base<=↑w)
  (hK:∀v' w',w'.ownsRow base e 1 v' (n+b.size) (cs++Lib.strCells b)->O5 (ob v) w w'->K (QN f d v') w'):
  XO P ⟨d,.call ⟨.builtin .append,#[s,y],#[t,u]⟩,ty,pS,af,gd⟩ f w K:=by
 obtain⟨i,hi,O,S,T⟩:=Sl.info h;obtain⟨v',w',V,Y,h3,_⟩:=Lib.run_append_own_string (P:=P) w base t u ty e i h.u E hi O S T v n cs G b (by simp only[maxLen];omega) oa J;have ha:(execOp (ev f) ⟨d,.call ⟨.builtin .append,#[s,y],#[t,u]⟩,ty,pS,af,gd⟩).run P w=.ok (.value v') w':=by
  simp[execOp,resolve,invoke,builtin,H,I,V]
 exact xv ha (hK v' w' Y (by rw[yL];exact O5.of_grown h3))
theorem QiM {x:O3}{u:Nat}(E:P.underlying u=some .string){b:ByteArray}(hx:ev f x=.string b):
  (execOp (ev f) ⟨d,.call ⟨.builtin .len,#[x],#[u]⟩,ty,pS,af,gd⟩).run P w=.ok (.value (sS b.size)) w:=by
 simp[execOp,resolve,invoke,builtin,Builtin.len_,hx,run_underlying E,goInt]
end
def Bl (p:O2)(b:Nat)(E:List UInt8)(w:O1):Prop:=∃v,QZ ↑w b 332 [p,v]/\w.ownsRow (b+1) 5 1 v E.length (Lib.byteCells E)
def me (b:Nat):O2:=sP b
theorem QmP (h:(P.info? t).map (·.size)=some n):∃j,P.info? t=some j/\j.size=n:=by
 simpa using h
theorem QaV {cs:LV}(h:QZ ↑w b T cs):w.shape? b=some (T,cs.length):=by
 unfold QZ at h;simp[World.shape?,h]
theorem qg {G:O1}{J:List UInt8}{p:O2}(O:sX G w)(T:↑G<=b)(V:p=.pointer none\/p=me b)(h:Bl p b J w):
  QY sV 249 [me b] w λr w'=>r=.tuple #[]/\sX G w'/\Bl (me b) b J w':=by
 obtain⟨v,E,H⟩:=h;obtain⟨j,I,Y⟩:=QmP (P:=sV) (t:=332) (n:=2) oe;refine Zq func249 ?_;refine Qc ?_;rcases V with rfl|rfl
 ·refine Qa<|Yd U<|Qo U E U U<|x (Jj underlying330 U U)<|xe<|jv U ?_;refine Qs<|Qa<|Qa<|x (zW (v':=me b) U (Lib.run_to_unsafe w ⟨b,0,none⟩ underlying330 underlying438 I (by rw[Y];decide) (QaV E) od)) <|
   x (QiO (v:=me b) func291 oe oe oe (e:=Extern.AbiNoEscape.same) oe U) <|
   x (zW (v':=me b) U (Lib.run_from_unsafe w ⟨b,0,none⟩ underlying438 underlying330 I (QaV E) oe))<|x (Uu U) <|
   QQ rfl<|Qn<|Qu E U U od rfl λw2 S ha=>xe ?_
  exact⟨[],Z,U,O.O S T,v,ha,Qe H S (λc hc=>by have:=(Qg H c hc).1;simp;omega)⟩
 refine Qa<|Yd U<|Qo U E U U<|x (Jj underlying330 U U)<|xe<|ZO U<|Qj<|Yd U<|Qo U E U U<|Qa<|x (QgP underlying330 I U U)<|xe<|ZO U<|Qf ?_;exact⟨[],Z,U,O,v,E,H⟩
theorem Qa9 {I:O1}{E:List UInt8}{p:O2}(h0:sX I w)(T:↑I<=b)(hp:p=.pointer none\/p=me b)(h:Bl p b E w)(c:UInt8)(hl:E.length+1<=1000000000):
  QY sV 247 [me b,.int .u8 c.toNat] w λ_ w'=>sX I w'/\Bl (me b) b (E++[c]) w':=by
 refine Zq func247 ?_;refine Qc<|Qb<|Qj<|Qz<|(qg h0 T hp h).Y ?_;rintro r1 w1 ⟨rfl,ha,v,J,O⟩;refine xe ?_;have hh:=J.lt;refine Qj<|Qa<|Yd U<|Qo U J U U<|Qa<|Qn<|Za [[.int .u8 c.toNat]] λb13 w2 H hi he=>?_;have hj:=H.size;refine Qn<|Q2 (news:=[.int .u8 c.toNat]) (L:=[]) (Ql O H) U U U (he.at od) oq oa oa λv3 w3 hf V hk=>?_;have S:w3.ownsRow (b+1) 5 1 v3 (E++[c]).length (Lib.byteCells (E++[c])):=by simpa[Lib.byteCells]using hf
 refine Yd rfl<|QQ U<|Qn<|Qu ((J.I H).J V (λG=>ov (Qg O b G).1)) U U od (QB (L:=[]) S (by simp;omega) od).one λw4 Y hg=>xe ?_;refine Qc<|Qb<|Qh ⟨[.nilIface],La,(((ha.D H).S V (λc G=>.inr ?_)).O Y T),v3,hg,Qe S Y (λc G=>by have:=(Qg S c G).1;simp;omega)⟩;have:=(Qg O c G).1;omega
theorem Vs {H:O1}{E:List UInt8}{p:O2}(h0:sX H w)(S:↑H<=b)(hp:p=.pointer none\/p=me b)(h:Bl p b E w)(s:ByteArray)(hl:E.length+s.size<=1000000000):
  QY sV 179 [me b,.string s] w λ_ w'=>sX H w'/\Bl (me b) b (E++s.data.toList) w':=by
 refine Zq func179 ?_;refine Qc<|x Qi<|Qb<|Qj<|Qz<|(qg h0 S hp h).Y ?_;rintro r1 w1 ⟨rfl,ha,v,I,J⟩;refine xe ?_;have hg:=I.lt;refine Qj<|Qa<|Yd U<|Qo U I U U<|Qa<|Qn<|QoJ underlying9 J U U oa oa λv3 w3 he T=>?_;have V:s.size=s.data.toList.length:=rfl;have O:w3.ownsRow (b+1) 5 1 v3 (E++s.data.toList).length (Lib.byteCells (E++s.data.toList)):=by
  rw[Ll,<-V,show Lib.byteCells (E++s.data.toList)=Lib.byteCells E++Lib.strCells s by simp[Lib.byteCells,Lib.strCells_eq]];exact he
 refine Yd rfl<|QQ U<|Qn<|Qu (I.J T (λG=>ov (Qg J b G).1)) U U od (QB (L:=[]) O (by rw[Ll,<-V];omega) od).one λw4 Y hf=>xe ?_;refine Qj<|x (QiM underlying9 U)<|x Qi<|Qb<|Qh ⟨[sS s.size,.nilIface],oB,((ha.S T (λc G=>.inr ?_)).O Y S),v3,hf,Qe O Y (λc G=>by have:=(Qg O c G).1;simp;omega)⟩;have:=(Qg J c G).1;omega
theorem j6 {I:O1}{H:List UInt8}{p:O2}(E:sX I w)(hb:↑I<=b)(T:p=.pointer none\/p=me b)(h:Bl p b H w):
  QY sV 181 [me b] w λr w'=>r=.string ⟨H.toArray⟩/\sX I w':=by
 obtain⟨v,J,O⟩:=h;have ha:=J.lt;have S:Lib.BuilderAt 332 5 b b p (Lib.byteCells H) w:=⟨Lx _,v,J,by rw[Lib.byteCells_length];exact ZB O oa,λe=>by
  have:b∈ob v:=by rw[yL,e];simp
  have:=(Qg O b this).1;omega⟩
 unfold QY;refine Calls.mono (Tryz.Builder_String_any b b H w (by rcases T with rfl|rfl;exact .inl S;exact .inr S) oa) ?_
 rintro e w' ⟨rfl,G⟩;exact⟨U,⟨G.os.D E.os,G.tape.D E.tape,G.output.D E.output,LH E.size G.size,λk V Y=>(G.block k oa).D (E.block k V Y)⟩⟩
def Tb (w:O1):Prop:=Lib.TabIs sV w "internal/strconv.uint64pow10" .u64 Lib.pow10Tab
theorem Qia {name:String}{v:Array O2}(h:w.var? P name=some v)(H:sX w w'):w'.var? P name=some v:=by
 unfold World.var? at *;rw[MO]at *;obtain⟨g,I,E⟩:=h;refine⟨g,I,?_⟩;cases G:w.heap[g]? with
 | none=>rw[G]at E;cases E
 | some o =>
  have J:g<w.heap.size:=(LK.1 G).1;rw[H.block g J od];exact E
theorem Tb.I (h:Tb w)(E:sX w w'):Tb w':=Qia h E
def Kb (w:O1)(m:Int):Prop:=m<=100\/(m<=1000000/\Tb w)
theorem Kb.I {w w':O1}{m:Int}(h:Kb w m)(E:sX w w'):Kb w' m:=h.imp id λh=>⟨h.1,h.2.I E⟩
theorem Kb.le {m:Int}(h:Kb w m):m<=1000000:=by rcases h with h|h <;> omega
theorem QdT {k:Nat}{os:xA}:sX w (Sort.grow (w.drewN k) os):=by
 refine⟨U,U,U,?_,λi hi _=>?_⟩
 ·show ↑w<=(w.heap++os).size;simp
 show(w.heap++os)[i]?=w.heap[i]?;rw[Array.getElem?_append_left hi]
theorem QfD {m:Int}(i:Nat)(hi:(i:Int)<m)(w:O1)(E:Kb w m):QY sV 180 [sS i] w λr w'=>r=.string ⟨(Lib.decDigits i).toArray⟩/\sX w w':=by
 unfold QY;rcases E with E|E
 ·refine Calls.mono (Tryz.strconv_Itoa_small i oa w) ?_;rintro e w' ⟨rfl,rfl⟩;exact⟨U,O5.Z _ _⟩
 refine Calls.mono (Tryz.strconv_Itoa i oa oa w E.2) ?_;rintro e w' ⟨rfl,k,os,rfl⟩;refine⟨?_,QdT⟩;unfold Lib.itoa;rw[OT oa,MP]
def J6 (l:LI):List UInt8:=l.flatMap λn=>Lib.decDigits n.toNat++[32]
theorem qV:∀(k u:Nat),u<10 ^ k->(Lib.decDigits u).length<=max 1 k
 | 0,u,h=>by
  unfold Lib.decDigits;rw[dif_pos (by simp at h;omega)];simp
 | k+1,u,h=>by
  unfold Lib.decDigits;split
  ·simp
  rename_i E;have ih:=qV k (u / 10) (by rw[Nat.pow_succ]at h;omega);rw[Ll];simp only[oP];have G:k≠0:=λe=>by subst e;simp at h;omega
  omega
theorem Bl.I {w w':O1}{p:O2}{b:Nat}{E:List UInt8}(h:Bl p b E w)(G:sX w w'):Bl p b E w':=by
 obtain⟨v,H,I⟩:=h;exact⟨v,H.I G,Ql I G⟩
theorem QbF {L:LN}{v:O2}{l:LI}{m:Int}(h:QL L ↑w v l)(S:Kb w m)(Y:∀n∈l,0<=n/\n<m)(hl:l.length<=1000000):
  QY sV 173 [v] w λr w'=>r=.string ⟨(J6 l).toArray⟩/\sX w w':=by
 refine Zq func173 ?_;refine Qc<|Qb<|Qc<|QM [.pointer none,nS] λH w1 ha I hc=>xe ?_;refine Qd<|Qj<|QF h U<|Qa<|xe<|Q7 (α:=Nat×O2) [(5,5),(8,16)] (λz=>[(8,sS z.1)]) (λz w'=>z.1<=l.length/\sX w w'/\(z.2=.pointer none\/z.2=me H)/\Bl z.2 H (J6 (l.take z.1)) w'/\(J6 (l.take z.1)).length<=8*z.1) (λz=>l.length - z.1) (0,.pointer none) La
  ⟨Lo _,ha,.inl U,⟨_,hc,QE _ _ _ _⟩,Lx _⟩ ?_
 rintro⟨k,p⟩ g w2 ⟨hk,E,J,G,he⟩;simp only[]at hk J G he;refine Zo rfl U (λh9=>?_) (λh9=>?_)
 ·refine Qw<|Qc ?_;rw[Lu oa]at G;refine jF<|(j6 E I J G).Y ?_;rintro r3 w3 ⟨rfl,hf⟩;refine Qb<|Qh ⟨[.string ⟨(J6 l).toArray⟩],La,U,hf⟩
 have O:k<l.length:=oa
 have ho:=Y l[k] (Lm O);obtain⟨q,hq⟩:∃q:Nat,l[k]=q:=⟨l[k].toNat,oa⟩;have hg:l[k].toNat=q:=oa
 have hr:=qV 7 q (ov S.le);have T:J6 (l.take (k+1))=J6 (l.take k)++Lib.decDigits q++[32]:=by
  rw[Ln O];unfold J6;rw[LA,List.flatMap_singleton,hg,LC]
 refine Qf<|Qd<|Qm<|Qc<|xii (h.I E) U U O λhs hh=>x (Qy hh U)<|Qb<|Qj<|Qn<|xf ?_;refine(show QY _ _ [sS l[k]] _ _ by rw[hq];exact(QfD q oa w2 (S.I E))).Y ?_;rintro r4 w4 ⟨rfl,V⟩;refine jF<|(Vs (E.D V) I J (G.I V) ⟨(Lib.decDigits q).toArray⟩ (by show _+(Lib.decDigits q).toArray.size<=_;simp;omega)).Y ?_;rintro r5 w5 ⟨hi,hj⟩;refine xe<|Qs<|jF<|(Qa9 hi I (.inr U) hj 32 (by simp;omega)).Y ?_;rintro r6 w6 ⟨hm,hn⟩;refine xe<|Qs<|QH U U<|Qa<|xe<|⟨(k+1,me H),og,La,og,hm,.inr U,?_,?_⟩
 ·simp only[];rw[T];simpa using hn
 simp only[];rw[T];simp;omega
theorem qX (p:AV):(ZX p).length=4:=rfl
theorem Us (p:TV):(YS p).length=1:=rfl
theorem KU.le {L:LN}{H:xA}{v:O2}{ps:List AV}(h:KU L H v ps):ps.length<=1099511627776:=h.arr.le
theorem QkG {l:List Q6}{k:Nat}(h:k<l.length):ckL (l.drop k)=if JB l[k]≠0 then JB l[k]else ckL (l.drop (k+1)):=by
 rw[LF h,ckL]
theorem QgV {L:LN}{v:O2}{ps:List AV}(h:KU L ↑w v ps):
  QY sV 170 [v] w λr w'=>r=sS (qt (ps.map (·.a)))/\sX w w':=by
 have hi:=KU.le h;refine Zq func170 ?_;refine Qc<|Qb<|Qd<|Qj<|QF h.arr U<|x (Yc U U)<|xe<|QO rfl (λV=>?_) (λV=>?_)
 ·refine Qc<|Qb<|Qh ⟨[sS 3],La,?_,O5.Z _ _⟩;unfold qt;rw[OU (by simp;omega)];rfl
 refine Qf ?_;have Y:qt (ps.map (·.a))=ckL (ps.map (·.a)):=by unfold qt;rw[OT (by simp;omega)]
 rw[Y];refine Qd<|Qj<|QF h.arr U<|Qa<|xe<|Q7 (α:=Nat) [(2,2),(4,5),(11,20)] (λz=>[(11,sS z)]) (λz w'=>z<=ps.length/\sX w w'/\ckL (ps.map (·.a))=ckL ((ps.map (·.a)).drop z)) (λz=>ps.length - z) 0 La
  ⟨Lo _,O5.Z _ _,U⟩ ?_
 rintro k g w1 ⟨hk,E,G⟩;refine Zo rfl U (λha=>?_) (λha=>?_)
 ·refine Qw<|Qc<|Qb<|Qh ⟨[sS 0],La,?_,E⟩;rw[G,Lt (by simp;omega)];rfl
 have H:k<ps.length:=oa
 have hb:k<(ps.map (·.a)).length:=by simpa using H
 rw[QkG hb,Mr]at G;refine Qf<|Qd<|Qm<|Qc<|xig qX (h.I E).arr U U H λhj hc=>x (Qr hc U U)<|QM [nS,sS 0,nS,nS] λb4 w2 he hf J=>?_;have I:=h.each ps[k] (Lm H);refine QK (ZX ps[k]) J ⟨I.al.one,U,I.mr.one,I.ed.one,Z⟩ λw3 hg J=>xe ?_;have S:sX w1 w3:=he.O hg hf;refine Qc<|QT J U U<|Qz<|(Js ((I.I E).I S)).Y ?_;rintro r4 w4 ⟨rfl,hh⟩;refine Qb ?_;have T:=(E.D S).D hh;refine Qj<|Zx U U<|xe<|QO rfl (λO=>?_) (λO=>?_)
 ·refine Qj<|Qb<|Qh ⟨[sS (JB ps[k].a)],La,?_,T⟩;rw[G,OU O];rfl
 refine Qf<|Qs<|QH U U<|Qa<|xe<|⟨k+1,oa,La,H,T,?_⟩;rw[G,OT O]
theorem Qj9 {l:List Q6}{k:Nat}(h:k<l.length):evs (l.take (k+1))=mrg (· || ·) (evs (l.take k)) l[k].al:=by
 unfold evs;rw[Ln h,MF];rfl
theorem QbQ (l:List Q6)(h:∀a∈l,a.al.length<=32):(evs l).length<=32*l.length:=by
 have key:∀(l:List Q6) (acc:LI),(∀a∈l,a.al.length<=32)->(l.foldl (λacc a=>mrg (· || ·) acc a.al) acc).length<=acc.length+32*l.length:=by
  intro l;induction l with
  | nil=>intro acc _;simp
  | cons a l ih =>
   intro acc h;have G:=ih (mrg (· || ·) acc a.al) (λa E=>h a (Lk _ E));have H:=Qbz (· || ·) acc a.al;have I:=h a Lq;simp only[List.foldl_cons,oX];omega
 have:=key l [] h;unfold evs;simpa using this
theorem Qhk {L:LN}{v:O2}{ps:List AV}(h:KU L ↑w v ps)(hn:ps.length<=12)(S:∀p∈ps,p.a.al.length<=32):
  QY sV 246 [v] w λr w'=>sX w w'/\Qq 3 ↑w w' r (evs (ps.map (·.a))):=by
 refine Zq func246 ?_;refine Qc<|Qb<|Qc<|Qb<|Qd<|Qj<|QF h.arr U<|Qa<|xe<|Q7 (α:=Nat×O2) [(3,3),(5,5),(8,16)] (λz=>[(3,z.2),(8,sS z.1)]) (λz w'=>z.1<=ps.length/\sX w w'/\Qq 3 ↑w w' z.2 (evs ((ps.map (·.a)).take z.1))) (λz=>ps.length - z.1) (0,nS) oB
  ⟨Lo _,O5.Z _ _,QE _ _ _ _⟩ ?_
 rintro⟨k,vo⟩ g V ⟨Y,I,G⟩;simp only[]at Y G;have hi:=QbQ ((ps.map (·.a)).take k) (λa ha=>by obtain⟨p,hp,rfl⟩:=LD.1 (LX ha);exact S p hp);have hj:((ps.map (·.a)).take k).length<=12:=by simp;omega
 refine Zo rfl U (λh9=>?_) (λh9=>?_)
 ·refine Qw<|Qj<|Qb<|Qh ⟨[vo],La,I,?_⟩;rw[Lu (by simp;omega)]at G;exact G
 have E:k<ps.length:=oa
 refine Qf<|Qd<|Qm<|Qc<|xig qX (h.I I).arr U U E λhl hb=>x (Qr hb U U)<|QM [nS,sS 0,nS,nS] λb5 w2 hc he J=>?_;have H:=h.each ps[k] (Lm E);have hm:=S ps[k] (Lm E);refine QK (ZX ps[k]) J ⟨H.al.one,U,H.mr.one,H.ed.one,Z⟩ λw3 hf J=>xe ?_;have T:sX V w3:=hc.O hf he;have O:=I.D T;refine Qs<|Qa<|Qo U J U U<|Qz<|(QdD (Qq.ints (L:=[]) (Ql G T) oa od) (H.al.I O) oa).Y ?_;rintro r4 w4 ⟨hg,hh⟩;refine Qb<|Qs<|QH U U<|Qa<|xe<|⟨(k+1,r4),og,oB,E,O.D hg,?_⟩;simp only[];rw[Qj9 (oA E),Mr];exact ZB hh O.size
abbrev Qfr (b:Nat):LV:=[.map (some b)]
structure VQ (L:LN)(H:xA)(vl ve vs:O2)(ps:List AV)(ms:LN):Prop where
 al:KU L H vl ps
 ev:QL L H ve (evs (ps.map (·.a)))
 ml:ms.length=ps.length
 sl:Zn L H vs ms.length 1 (ms.flatMap Qfr)
 mp:∀i (h:i<ms.length) (h':i<ps.length),Yu Jz H ms[i] (zm [] ps[i].a.ed)/\ms[i]∉L
theorem VQ.I {L:LN}{w w':O1}{vl ve vs:O2}{ps:List AV}{G:LN}(h:VQ L ↑w vl ve vs ps G)(E:sX w w'):VQ L ↑w' vl ve vs ps G :=
 ⟨h.al.I E,h.ev.I E,h.ml,h.sl.I E,λi H I=>⟨(h.mp i H I).1.I E,(h.mp i H I).2⟩⟩
theorem VQ.st {L:LN}{w w':O1}{vl ve vs:O2}{ps:List AV}{I:LN}(h:VQ L ↑w vl ve vs ps I)(E:O5 L w w'):VQ L ↑w' vl ve vs ps I :=
 ⟨h.al.st E,h.ev.st E,h.ml,h.sl.st E,λi G H=>⟨(h.mp i G H).1.J E (h.mp i G H).2,(h.mp i G H).2⟩⟩
theorem VQ.up {L L':LN}{H:xA}{vl ve vs:O2}{ps:List AV}{J:LN}(h:VQ L H vl ve vs ps J)(E:∀b∈L',b∈L\/H.size<=b):VQ L' H vl ve vs ps J :=
 ⟨h.al.up E,h.ev.up E,h.ml,h.sl.up E,λi G I=>⟨(h.mp i G I).1,λS=>by rcases E _ S with O|O;exact(h.mp i G I).2 O;have:=(h.mp i G I).1.lt;omega⟩⟩
theorem Qeu {m:List ((Int×Int)×O2)}{es:List Ed}{k:Nat}(h:k<es.length):zm m (es.take (k+1))=xd (zm m (es.take k)) (es[k].1,es[k].2.1) (sS es[k].2.2):=by
 unfold zm;rw[Ln h,MF];rfl
theorem Qmg {L:LN}{ps:List AV}(h:KU L ↑w vl ps)(hn:ps.length<=12)(hD:∀p∈ps,p.a.al.length<=32)(hL:∀b∈L,b<↑w):
  QY sV 171 [vl] w λr w'=>sX w w'/\∃ve vs G,r=.agg #[vl,ve,vs]/\VQ L ↑w' vl ve vs ps G/\Qq 3 ↑w w' ve (evs (ps.map (·.a))):=by
 refine Zq func171 ?_;refine Qc<|QM [nS,nS,nS] λb2 w1 hu hP hv=>xe ?_;refine Qj<|Qa<|Qz<|(Qhk (h.I hu) hn hD).Y ?_;rintro ve w2 ⟨Y,hc⟩;have hQ:=QbQ (ps.map (·.a)) (λa ha=>by obtain⟨p,hp,rfl⟩:=LD.1 ha;exact hD p hp);have g9:(evs (ps.map (·.a))).length<=1000:=by simp at hQ;omega
 have hw:=Qq.ints (L:=[]) hc oa od;refine x (Qx ⟨h.arr.cells,hw.cells,Z⟩)<|QM [nS,nS,nS] λb3 w3 hR hS he =>
  QK [vl,ve,nS] he ⟨h.arr.one,hw.one,U,Z⟩ λH hT he=>xe ?_
 have hU:=hu.size;have ka:=Y.size;have hf:sX w2 H:=hR.O hT hS;have kb:=hv.lt;have kc:=he.lt;have hV:sX w H:=(hu.D Y).D hf;have hW:=Ql hc hf;refine Qd<|Qj<|QF h.arr U<|Qa<|xe ?_;have hX:=Q8 hc;refine Q7 (α:=Nat×LN×O2) [(5,6),(8,8),(15,42)] (λz=>[(15,sS z.1)])
  (λz w'=>z.1<=ps.length/\z.2.1.length=z.1/\O5 [b3] H w'/\QZ ↑w' b3 322 [vl,ve,z.2.2]/\w'.ownsRow ↑H 395 1 z.2.2 z.2.1.length (z.2.1.flatMap Qfr) /\
   (∀i (h:i<z.2.1.length) (h':i<ps.length),Yu Jz ↑w' z.2.1[i] (zm [] ps[i].a.ed)/\↑H<=z.2.1[i]/\z.2.1[i]∉ob z.2.2)) (λz=>ps.length - z.1) (0,[],nS) La
  ⟨Lo _,U,O5.Z _ _,he,QE _ _ _ _,λi h=>by simp at h⟩ ?_
 rintro⟨k,G,vs⟩ g w5 ⟨hk,hg,I,hy,J,hh⟩;simp only[]at hk hg I hy J hh;have hl:sX w w5:=hV.O I oa;have ke:=I.size;have ho:=Qg J;refine Zo rfl U (λhY=>?_) (λhY=>?_)
 ·have hZ:k=ps.length:=oa
  subst hZ;refine Qw<|Qc ?_;have ga:=QB (L:=[]) J oa od;refine QT hy U U<|QK [vl,ve,vs] (((hv.I Y).I hf).J I (by simp;omega)) ⟨h.arr.one,hw.one,ga.one,Z⟩ λw6 hr gb=>xe ?_;have hE:=hl.O hr hP;have hF:Qq 3 ↑w1 w6 ve _:=Qe (Qe hW I (λb E=>by have:=hX b E;simp;omega)) hr (λb E=>by have:=(Qg hc b E).1;simp;omega);have hG:=Qe J hr (λb E=>by have:=(ho b E).1;simp;omega);refine Qh ⟨[.agg #[vl,ve,vs]],⟨Yl gb,Z⟩,hE,ve,vs,G,U,⟨h.I hE,Qq.ints hF oa (λb E=>ov (hL b E)),hg,QB hG oa (λb E hbL=>oy (hL b hbL) (Qg hG b E).1),λi h1 h2=>⟨?_,λhbL=>oy (hL _ hbL) (hh i h1 h2).2.1⟩⟩,ZB hF hU⟩;obtain⟨m1,m2,_⟩:=hh i h1 h2;exact m1.J hr (λE=>by
   simp only[oJ]at E;have h7:=(((hv.I Y).I hf).J I (by simp;omega));rw[E]at m1;obtain⟨es,c,m4,_⟩:=m1;unfold QZ at h7;rw[h7]at m4;cases m4)
 have hz:k<ps.length:=oa
 have O:=h.each ps[k] (Lm hz);refine Qf<|Qd<|Qm<|Qc<|xig qX (h.I hl).arr U U hz λkf gc=>x (Qr gc U U)<|QM [nS,sS 0,nS,nS] λb5 w7 gg gh gi =>
  QK (ZX ps[k]) gi ⟨O.al.one,U,O.mr.one,O.ed.one,Z⟩ λw8 gj hH=>xe ?_
 have gk:sX w5 w8:=gg.O gj gh;have kg:=hH.lt;refine Qc<|Qn<|YM Jz λbm w9 hI kh hJ=>Qb ?_;have ki:=hJ.lt;have hK:=gk.D hI;have gl:=hl.D hK;refine Qd<|Qc<|Qo U (hH.I hI) U U<|QF O.ed U<|Qa<|xe ?_;have gm:=(O.ed.up (L':=[bm]) (λb E=>.inr (by simp at E;have:=hl.size;omega))).I gl;have kj:=O.ed.le;refine Q7 (α:=Nat) [(8,8),(23,35)] (λz=>[(23,sS z)]) (λz w'=>z<=ps[k].a.ed.length/\O5 [bm] w9 w'/\Yu Jz ↑w' bm (zm [] (ps[k].a.ed.take z))) (λz=>ps[k].a.ed.length - z) 0 La
  ⟨Lo _,O5.Z _ _,hJ⟩ ?_
 rintro j g2 S ⟨hj,hs,h0⟩;have kk:=hs.size;refine Zo rfl U (λgn=>?_) (λgn=>?_)
 ·refine Qw ?_;rw[Lu oa]at h0;have h3:sX w5 S:=hK.O hs oa;have hM:QZ ↑S b3 322 [vl,ve,vs]:=hy.I h3;refine Qs<|Qo U hM U U<|Qa<|Qn<|Za [[.map (some bm)]] λkn go ht ko gp=>?_;have h4:=h3.D ht;have gq:=Ql J h4;have kq:=h4.size;refine Qn<|Q2 (news:=[.map (some bm)]) (L:=[]) gq U U U (gp.at od) oq oa oa λh6 gr gs h8 hN=>?_;have h9:gr.ownsRow ↑H 395 1 h6 (G++[bm]).length ((G++[bm]).flatMap Qfr):=by
   rw[Ll,LA];simpa using gs
  have gt:=(hM.I ht).J h8 (QP J oa);refine QQ U<|Qn<|Qu gt U U od (QB (L:=[]) h9 (by simp;omega) od).one λgu hB gv=>xe ?_;refine Qs<|QH U U<|Qa<|xe ?_;have gw:∀b∈ob h6,↑H<=b:=λb E=>(Qg h9 b E).1;have kr:S.heap.size<=go.heap.size:=ht.size;refine⟨(k+1,G++[bm],h6),og,La,hz,by simp[hg],?_,gv,Qe h9 hB (λb E=>by have:=gw b E;simp;omega),?_⟩
  ·exact((I.D h4).S h8 (λb E=>.inr (ho b E).1)).Q hB
  intro i h1 h2;simp only[oN,oP]at h1;have keep:∀(c:Nat) (m:List ((Int×Int)×O2)),Yu Jz ↑S c m->c≠b3->c∉ob vs->Yu Jz ↑gu c m:=λc m hm gx gy =>
   ((hm.I ht).J h8 gy).J hB (oA gx)
  by_cases hi:i<G.length
  ·obtain⟨m1,m2,m3⟩:=hh i hi h2;simp only[List.getElem_append_left hi];refine⟨keep _ _ (m1.I h3) oa m3,m2,λE=>?_⟩;have kt:=m1.lt;rcases hN _ E with T|T
   ·exact m3 T
   omega
  have gz:i=G.length:=oa
  subst gz;simp only[List.getElem_append_right (Nat.le_refl _),Nat.sub_self,List.getElem_singleton];have hq:G.length=k:=hg;have e2:ps[G.length]=ps[k]:=by simp only[hq]
  rw[e2];refine⟨keep _ _ h0 oa (λE=>ov (ho _ E).2),oa,λE=>?_⟩;rcases hN _ E with T|T
  ·have:=(ho _ T).2;omega
  omega
 have hC:j<ps[k].a.ed.length:=oa
 refine Qf<|Qd<|Qm<|Qc<|xie (gm.st hs) U U hC λku g0=>x (Qr g0 U U)<|QM [sS 0,sS 0,sS 0] λb8 kv g3 g4 V=>QK (QA ps[k].a.ed[j]) V oC λg5 g6 V=>xe ?_;have hO:sX S g5:=g3.O g6 g4;refine Qs<|Qa<|Qo U V U U<|Qo U V U U<|x (Qx ⟨U,U,Z⟩)<|x (KC U) <|
  Xn V rfl U<|Qn<|XY (k:=(ps[k].a.ed[j].1,ps[k].a.ed[j].2.1)) (h0.I hO) U U λkw g7 g8=>xe ?_
 refine Qs<|QH U U<|Qa<|xe<|⟨j+1,oa,La,hC,(hs.D hO).Q g7,?_⟩;rw[Qeu hC];exact g8
theorem Qep {L:LN}{ps:List AV}{ms:LN}(h:VQ L ↑w vl ve vs ps ms)(hn:ps.length<=12):
  QY sV 172 [.agg #[vl,ve,vs]] w λr w'=>sX w w' /\
   if ∃p∈ps,p.a.st=0 then r=.tuple #[nS,.bool false]else ∃v,r=.tuple #[v,.bool true]/\Qq 3 ↑w w' v (oO ps.length 0):=by
 refine Zq func172 ?_;refine Qc<|Zl [vl,ve,vs] λb1 w1 G hj S=>x Qi<|Qb<|Qd<|Qc<|Qo U S U U<|QF h.al.arr U<|Qa<|xe<|Q7 (α:=Nat) [(2,3),(5,5),(9,16)] (λz=>[(9,sS z)]) (λz w'=>z<=ps.length/\sX w1 w'/\∀i (h:i<ps.length),i<z->ps[i].a.st≠0) (λz=>ps.length - z) 0 La
  ⟨Lo _,O5.Z _ _,λi _ h=>oa⟩ ?_
 rintro k g w2 ⟨hk,E,T⟩;refine Zo rfl U (λha=>?_) (λha=>?_)
 ·refine Qw<|Qc<|Qo U (S.I E) U U<|QF h.al.arr U<|Qn<|qH (n:=ps.length) U U oa λhb w3 hc hl V=>x Qi<|Qb ?_;rw[show(oO ps.length (sS 0).cells.toList).flatten=((oO ps.length 0).map (Value.int .i64)) by rw[show(sS 0).cells.toList=[sS 0] from rfl,Qcu,List.map_replicate]]at V;have hz:=(G.D E).size;refine Qh ⟨[sL hb ps.length ps.length,.bool true],oB,(G.D E).D hc,?_⟩;rw[OT (by
   rintro⟨p,hp,h0⟩;obtain⟨i,hi,rfl⟩:=LO hp;exact T i hi oa h0)]
  refine⟨_,U,?_⟩;have:=V.own (n:=ps.length) (sz:=1) (base:=↑w) od oa oa;unfold Qq;rw[List.length_replicate];exact this
 have H:k<ps.length:=oa
 have I:=h.al.each ps[k] (Lm H);refine Qf<|Qd<|Qm<|Qc<|xig qX ((h.al.I G).I E).arr U U H λhm he=>x (Qr he U U)<|QM [nS,sS 0,nS,nS] λb5 w4 hf hg J =>
  QK (ZX ps[k]) J ⟨I.al.one,U,I.mr.one,I.ed.one,Z⟩ λw5 hh J=>xe ?_
 have Y:sX w2 w5:=hf.O hh hg;refine Qc<|Qo U J U U<|x (QR U U)<|xe<|QO rfl (λO=>?_) (λO=>?_)
 ·refine Qc<|x Qi<|Qb<|Qh ⟨[nS,.bool false],oB,(G.D E).D Y,?_⟩;rw[OU ⟨ps[k],Lm H,O⟩];rfl
 refine Qf<|Qs<|QH U U<|Qa<|xe<|⟨k+1,oa,La,H,E.D Y,λi hi ho=>?_⟩;by_cases e:i=k
 ·subst e;exact O
 exact T i hi oa
theorem Qed {aa:List Q6}{ts:LI}{k:Nat}(h:k<aa.length)(E:k<ts.length):JZ (aa.drop k) (ts.drop k)=(decide (ts[k]∈aa[k].mr) && JZ (aa.drop (k+1)) (ts.drop (k+1))):=by
 rw[LF h,LF E,JZ]
theorem QgZ {L:LN}{ps:List AV}{ms:LN}{ts:LI}(h:VQ L ↑w vl ve vs ps ms)(ht:QL L ↑w vt ts)(hl:ts.length=ps.length)(hi:∀p∈ps,Xa p.a.mr)(hn:ps.length<=12):
  QY sV 174 [.agg #[vl,ve,vs],vt] w λr w'=>r=.bool (JZ (ps.map (·.a)) ts)/\sX w w':=by
 refine Zq func174 ?_;refine Qc<|Zl [vl,ve,vs] λb2 w1 hb hq he=>Qb<|Qd<|Qc<|Qo U he U U<|QF h.al.arr U<|Qa<|xe<|Q7 (α:=Nat) [(4,6),(10,23)] (λz=>[(10,sS z)]) (λz w'=>z<=ps.length/\sX w w'/\JZ (ps.map (·.a)) ts=JZ ((ps.map (·.a)).drop z) (ts.drop z)) (λz=>ps.length - z) 0 La
  ⟨Lo _,hb,U⟩ ?_
 rintro k g w2 ⟨hk,I,G⟩;refine Zo rfl U (λhf=>?_) (λhf=>?_)
 ·refine Qw<|Qc<|Qb<|Qh ⟨[.bool true],La,?_,I⟩;rw[G,Lt (by simp;omega)];rfl
 have E:k<ps.length:=oa
 have V:k<ts.length:=oa
 have H:=h.al.each ps[k] (Lm E);rw[Qed (oA E) V,Mr]at G;refine Qf<|Qd<|Qm<|Qj<|xig qX (h.al.I I).arr U U E λhr hg=>x (Qr hg U U)<|QM [nS,sS 0,nS,nS] λb6 w3 hh hj J=>x Qi <|
  QK (ZX ps[k]) J ⟨H.al.one,U,H.mr.one,H.ed.one,Z⟩ λY hm J=>xe ?_
 have ho:sX w2 Y:=hh.O hm hj;have O:=I.D ho;refine Qd<|Zz [] (YW 0 8 [6])<|p (QG U)<|pq (λ_ S=>Qk (J.I S) U U)<|p Qv<|p Qv<|pii U (ht.I O) U U V λhs hp =>
  pq (λ_ S=>Qy (hp.I S) U)<|pk<|xg<|(Kz ((H.mr.I O).I (O5.C _ _)) (hi ps[k] (Lm E)) _).Y ?_
 rintro r5 w5 ⟨rfl,rfl⟩;refine⟨O5.C _ _,?_⟩;refine p (λ_=>Zy U)<|pe ?_;have ha:=O.D (O5.C [] Y);refine QU rfl (λT=>?_) (λT=>?_)
 ·refine Qc<|Qb<|Qh ⟨[.bool false],La,?_,ha⟩;rw[G,show decide (ts[k]∈ps[k].a.mr)=false by simpa using T];rfl
 refine Qf<|Qs<|QH U U<|Qa<|xe<|⟨k+1,oa,La,E,ha,?_⟩;rw[G,show decide (ts[k]∈ps[k].a.mr)=true by simpa using T,OO]
theorem QdU {aa:List Q6}{ts:LI}{k:Nat}{v:Int}(h:k<aa.length)(E:k<ts.length):Y6 v (aa.drop k) (ts.drop k) =
  if v∉aa[k].al then(Y6 v (aa.drop (k+1)) (ts.drop (k+1))).map (ts[k]::·)else match xj aa[k].ed ts[k] v with|none=>none|some u=>(Y6 v (aa.drop (k+1)) (ts.drop (k+1))).map (u::·):=by
 rw[LF h,LF E];show(if v∉aa[k].al then _ else _)=_
 split
 ·rfl
 cases xj aa[k].ed ts[k] v <;> rfl
theorem QiQ {L:LN}{ps:List AV}{ms:LN}{ts:LI}(h:VQ L ↑w vl ve vs ps ms)(ht:QL L ↑w vt ts)(hl:ts.length=ps.length)(hi:∀p∈ps,Xa p.a.al)
  (hz:∀p∈ps,p.a.ed.Pairwise λx y=>x.1<y.1\/(x.1=y.1/\x.2.1<y.2.1)) (hn:ps.length<=12) (v:Int):
  QY sV 175 [.agg #[vl,ve,vs],vt,sS v] w λr w'=>sX w w' /\
   match Y6 v (ps.map (·.a)) ts with|none=>r=.tuple #[nS,.bool false]|some u=>∃v',r=.tuple #[v',.bool true]/\Qq 3 ↑w w' v' u:=by
 refine Zq func175 ?_;refine Qc<|Zl [vl,ve,vs] λb3 w1 ha hL hf=>x Qi<|Qb<|Qj<|Qz<|(Z3 (ht.I ha)).Y ?_;rintro vx w2 ⟨hg,hr⟩;refine Qb ?_;have h0:=ha.size;have hM:=hf.lt;have hh:=ha.D hg;refine Qd<|Qc<|Qo U (hf.I hg) U U<|QF h.al.arr U<|Qa<|xe ?_;have hge:=Qg hr;have h1:VQ (ob vx) ↑w2 vl ve vs ps ms:=((h.up (L':=ob vx) (λb G=>.inr (ov (hge b G).1))).I hh);have h2:QL (ob vx) ↑w2 vt ts:=((ht.up (L':=ob vx) (λb G=>.inr (ov (hge b G).1))).I hh);refine Q7 (α:=Nat×LI) [(6,7),(9,12),(18,49)] (λz=>[(18,sS z.1)])
  (λz w'=>z.1<=ps.length/\z.2.length=z.1/\O5 (ob vx) w2 w'/\Qq 3 ↑w1 w' vx (z.2++ts.drop z.1)/\Y6 v (ps.map (·.a)) ts=(Y6 v ((ps.map (·.a)).drop z.1) (ts.drop z.1)).map (z.2++·)) (λz=>ps.length - z.1) (0,[]) La
  ⟨Lo _,U,O5.Z _ _,hr,od⟩ ?_
 rintro⟨k,pre⟩ g w3 ⟨hk,T,O,S,E⟩;simp only[]at hk T S E;have hj:sX w w3:=hh.S O (λb G=>.inr (ov (hge b G).1));refine Zo rfl U (λh3=>?_) (λh3=>?_)
 ·refine Qw<|Qj<|x Qi<|Qb<|Qh ⟨[vx,.bool true],oB,hj,?_⟩;rw[Lt (by simp;omega),Lt oa]at E;rw[Lt oa]at S;rw[E];simp only[Y6,Oz];exact⟨vx,U,ZB S h0⟩
 have H:k<ps.length:=oa
 have hm:k<ts.length:=oa
 have hs:k<ms.length:=by rw[h.ml];exact H
 have V:=h.al.each ps[k] (Lm H);rw[QdU (oA H) hm,Mr]at E;have hu:=h1.st O;have h4:=h2.st O;refine Qf<|Qd<|Qm<|Qj<|xig qX hu.al.arr U U H λhN h5=>x (Qr h5 U U)<|QM [nS,sS 0,nS,nS] λhO w4 h6 h7 ho=>x Qi <|
  QK (ZX ps[k]) ho ⟨V.al.one,U,V.mr.one,V.ed.one,Z⟩ λw5 h8 ho=>xe ?_
 have I:sX w3 w5:=h6.O h8 h7;have h9:=hj.D I;refine Qd<|Qc<|Qo U ho U U<|Qa<|Qz<|(Kz (V.al.I h9) (hi ps[k] (Lm H)) v).Y ?_;rintro r6 w6 ⟨rfl,rfl⟩;refine x (Zy U)<|xe ?_;have hv:=Zc hm;refine QU rfl (λhp=>?_) (λhp=>?_)
 ·have hB:v∉ps[k].a.al:=by simpa using hp
  refine Qw<|Qs<|QH U U<|Qa<|xe<|⟨(k+1,pre++[ts[k]]),og,La,H,by simp[T],O.D I,?_,?_⟩
  ·simp only[o6,Ow];rw[<-hv];exact Ql S I
  simp only[];rw[E,OU hB,Option.map_map];congr 1;funext l;simp
 have hC:¬(v∉ps[k].a.al):=by simpa using hp
 rw[OT hC]at E;refine Qf ?_;have hD:=(hf.I hg).J O (λG=>ov (hge b3 G).1);have hw:=hu.I I;obtain⟨hE,hP⟩:=hw.mp k hs H;refine Qd<|Zz [] (YW 0 17 [])<|p (QG U)<|pq (λ_ J=>Qk ((hD.I I).I J) U U)<|p Qv<|pig U (g:=Qfr) (λ_=>U) hw.sl U U hs λhQ hF =>
  pq (λ_ J=>Qy (hF.I J) U)<|p Qv<|p Qv<|pii U (h4.I I) U U hm λhR hG=>pq (λ_ J=>Qy (hG.I J) U) <|
  p Qv<|p (λ_=>Qx ⟨U,U,Z⟩)<|pq (λ_ J=>Vy (k:=(ts[k],v)) (hE.I J) U U)<|?_
 rw[QaI ps[k].a.ed [] ts[k] v (hz ps[k] (Lm H))];have hq:sX w3 { w6 with drawn:=w6.drawn+1 }:=I.D (O5.C [] w6)
 cases he:xj ps[k].a.ed ts[k] v with
 | none =>
  rw[he]at E;refine p Qv<|p (λ_=>Zi U U)<|p (λ_=>Zi U U)<|p ZG<|p ZG<|pe ?_;refine Qd<|Qj<|x (Zy U)<|xe<|jv U ?_;refine Qc<|x Qi<|Qb<|Qh ⟨[nS,.bool false],oB,hj.D hq,?_⟩;rw[E];rfl
 | some u =>
  rw[he]at E;refine p Qv<|p (λ_=>Zi U U)<|p (λ_=>Zi U U)<|p ZG<|p ZG<|pe ?_;refine Qd<|Qj<|x (Zy U)<|xe<|ZO U<|Qf ?_;have hy:=Ql S hq;have hS:(pre++ts.drop k).length=ts.length:=by simp;omega
  obtain⟨gx,cx,Y⟩:=Jb S oa;have hH:ob vx=[gx]:=by rw[Y];rfl
  refine Qs<|Qa<|Qa<|Qa<|x (ZA Y U oa)<|Qn<|QiZ (u:=sS u) (by rw[Y]at hy;exact hy) U U oa U λw7 hI hJ=>xe ?_;refine Qs<|QH U U<|Qa<|xe ?_;have hK:(pre++ts.drop k).set k u=(pre++[u])++ts.drop (k+1):=by
   rw[hv,List.set_append_right _ _ oa,T,Nat.sub_self,List.set_cons_zero,LC];rfl
  refine⟨(k+1,pre++[u]),og,La,H,by simp[T],(O.D hq).S hI (λb G=>.inl (by rw[hH];exact G)),?_,?_⟩
  ·simp only[];rw[<-hK];unfold Qq;rw[Mb,OQ,Y];exact hJ
  simp only[];rw[E,Option.map_map];congr 1;funext l;simp
theorem UQ (h:n<256):(UInt8.ofNat n).toNat=n:=by
 simp[Nat.mod_eq_of_lt h]
theorem Qdb (u:Nat):(32:UInt8)∉Lib.decDigits u:=by
 induction u using Nat.strongRecOn with
 | _ u ih =>
  unfold Lib.decDigits;split
  ·intro h;simp only[oJ]at h;have:=OV UInt8.toNat h;rw[UQ oa]at this;have E:(32:UInt8).toNat=32:=rfl;omega
  intro h;rcases Lc.1 h with h|h
  ·exact ih _ oa h
  simp only[oJ]at h;have:=OV UInt8.toNat h;rw[UQ oa]at this;have E:(32:UInt8).toNat=32:=rfl;omega
def dval (l:List UInt8):Nat:=l.foldl (λa b=>a*10+(b.toNat - 48)) 0
theorem Qc8 (u:Nat):dval (Lib.decDigits u)=u:=by
 induction u using Nat.strongRecOn with
 | _ u ih =>
  unfold Lib.decDigits;split
  ·simp only[dval,List.foldl_cons,List.foldl_nil];rw[UQ oa];omega
  have:=ih (u / 10) oa;unfold dval at *;rw[MF,this];simp only[List.foldl_cons,List.foldl_nil];rw[UQ oa];omega
theorem Qe4:∀{a b r H:List UInt8},(32:UInt8)∉a->(32:UInt8)∉b->a++32::r=b++32::H->a=b/\r=H
 | [],[],_,_,_,_,h=>oA h
 | [],y::b,_,_,_,E,h=>by simp at h;exact OW h.1 (by intro e;exact E (by simp[e]))
 | x::a,[],_,_,G,_,h=>by simp at h;exact OW h.1 (by intro e;exact G (by simp[e]))
 | x::a,y::b,_,_,G,E,h=>by
  simp only[Oh,List.cons.injEq]at h;have:=Qe4 (λe=>G (Lk _ e)) (λe=>E (Lk _ e)) h.2;exact⟨by rw[h.1,this.1],this.2⟩
theorem QcO:∀{l l':LI},(∀n∈l,0<=n)->(∀n∈l',0<=n)->J6 l=J6 l'->l=l'
 | [],[],_,_,_=>rfl
 | [],y::b,_,_,h=>by simp[J6]at h
 | x::a,[],_,_,h=>by simp[J6]at h
 | x::a,y::b,G,H,h=>by
  have I:Lib.decDigits x.toNat++32::J6 a=Lib.decDigits y.toNat++32::J6 b:=by simpa[J6]using h
  obtain⟨J,O⟩:=Qe4 (Qdb _) (Qdb _) I;have S:x.toNat=y.toNat:=by rw[<-Qc8 x.toNat,<-Qc8 y.toNat,J]
  have T:=G x Lq;have V:=H y Lq;rw[(QcO (λn E=>G n (Lk _ E)) (λn E=>H n (Lk _ E)) O),show x=y by omega]
def Vl (l:LI):ByteArray:=⟨(J6 l).toArray⟩
theorem Qjs {l l':LI}(E:∀n∈l,0<=n)(G:∀n∈l',0<=n)(h:Vl l=Vl l'):l=l':=by
 refine QcO E G ?_;have:=OV (λb:ByteArray=>b.data.toList) h;simpa[Vl]using this
def zd (n:Nat)(m:List (ByteArray×O2))(tup:List (LI)):Prop :=
 ∀u:LI,u.length=n->(∀x∈u,0<=x)->O9 m (Vl u)=if u∈tup then some (sS (tup.idxOf u:Int))else none
theorem zd.add {m:List (ByteArray×O2)}{tup:List (LI)}(h:zd n m tup){u:LI}(H:u∉tup)(I:∀x∈u,0<=x):zd n (xd m (Vl u) (sS (tup.length:Int))) (tup++[u]):=by
 intro v J G;rw[XJ];by_cases e:u=v
 ·subst e;rw[OU rfl,OU od,MC,OT H];simp
 rw[OT (λO=>e (Qjs I G O)),h v J G];by_cases E:v∈tup
 ·rw[OU E,OU (by simp[E]),MC,OU E]
 rw[OT E,OT (by simp[E,Ne.symm e])]
structure SyI (N b2 b38 b37:Nat)(ve:O2)(wS:O1)(s:Sy)(m:List (ByteArray×O2))(qs:List TV)(vt vk vd:O2)(w:O1):Prop where
 st:O5 [b2,b38,b37] wS w
 A:QZ ↑w b2 66 [ve,sS 0,vk,vd]
 M:Yu J0 ↑w b38 m
 t:jP 63 N w vt qs
 tb:∀b∈ob vt,b=b37\/↑wS<=b
 k:Qq 3 ↑wS w vk s.mk'
 e:YP 159 ↑wS w vd s.ed
 q:qs.map (·.2)=s.tup
 el:∀p∈qs,Qq 3 N w p.1 p.2
 sep:∀p∈qs,∀b∈ob p.1,b≠b38/\b∉ob vt/\b∉ob vk/\b∉ob vd
 d1:Dj vt vk
 d2:Dj vt vd
 d3:Dj vk vd
section
variable {b38 b37:Nat}{wS:O1}{s:Sy}{m:List (ByteArray×O2)}{qs:List TV}{vd:O2}{w'':O1}
theorem SyI.I (h:SyI N b2 b38 b37 ve wS s m qs vt vk vd w)(E:sX w w'):SyI N b2 b38 b37 ve wS s m qs vt vk vd w' :=
 ⟨h.st.D E,h.A.I E,h.M.I E,Ql h.t E,h.tb,Ql h.k E,Ql h.e E,h.q,λp G=>Ql (h.el p G) E,h.sep,h.d1,h.d2,h.d3⟩
structure SyN (N b2 b38 b37:Nat)(wS:O1):Prop where
 l2:b2<N
 l38:b38<wS.heap.size
 l37:b37<wS.heap.size
 n37:N<=b37
 n38:b37<b38
 nS:N<=↑wS
theorem SyI.setK (h:SyI N b2 b38 b37 ve wS s m qs vt vk vd w)(n:SyN N b2 b38 b37 wS){J:O2}{l:LI}(I:O5 (ob vk) w w')(S:Qq 3 ↑wS w' J l)
  (O:∀b∈ob J,b∈ob vk\/↑w<=b) (H:O5 [b2] w' w'') (V:QZ ↑w'' b2 66 [ve,sS 0,J,vd]):SyI N b2 b38 b37 ve wS ⟨s.tup,l,s.ed⟩ m qs vt J vd w'':=by
 have l2:=n.l2;have l38:=n.l38;have n37:=n.n37;have n38:=n.n38;have nS:=n.nS;refine⟨(h.st.S I (λb E=>.inr ((Qg h.k) b E).1)).S H (λb E=>.inl (by simp at E;simp[E])),V,(h.M.J I (QP h.k oa)).J H (by simp;omega),
  Qe (Qe h.t I h.d1) H (λb E=>by have:=(Qg h.t b E).1;simp;omega),h.tb,Qe S H (λb E=>by have:=(Qg S b E).1;simp;omega),
  Qe (Qe h.e I h.d3.symm) H (λb E=>by have:=(Qg h.e b E).1;simp;omega),h.q,
  λp G=>Qe (Qe (h.el p G) I (λb E=>(h.sep p G b E).2.2.1)) H (λb E=>by have:=(Qg (h.el p G) b E).1;simp;omega),
  λp G b E=>⟨(h.sep p G b E).1,(h.sep p G b E).2.1,λY=>?_,(h.sep p G b E).2.2.2⟩,h.d1.grow O (Q8 h.t),h.d2,(h.d3.symm.grow O (Q8 h.e)).symm⟩
 rcases O b Y with T|T
 ·exact(h.sep p G b E).2.2.1 T
 have:=Q8 (h.el p G) b E;omega
theorem SyI.setE (h:SyI N b2 b38 b37 ve wS s m qs vt vk vd w)(n:SyN N b2 b38 b37 wS){J:O2}{l:List Ed}(I:O5 (ob vd) w w')(S:YP 159 ↑wS w' J l)
  (O:∀b∈ob J,b∈ob vd\/↑w<=b) (H:O5 [b2] w' w'') (V:QZ ↑w'' b2 66 [ve,sS 0,vk,J]):SyI N b2 b38 b37 ve wS ⟨s.tup,s.mk',l⟩ m qs vt vk J w'':=by
 have l2:=n.l2;have l38:=n.l38;have n37:=n.n37;have n38:=n.n38;have nS:=n.nS;refine⟨(h.st.S I (λb E=>.inr ((Qg h.e) b E).1)).S H (λb E=>.inl (by simp at E;simp[E])),V,(h.M.J I (QP h.e oa)).J H (by simp;omega),
  Qe (Qe h.t I h.d2) H (λb E=>by have:=(Qg h.t b E).1;simp;omega),h.tb,Qe (Qe h.k I h.d3) H (λb E=>by have:=(Qg h.k b E).1;simp;omega),
  Qe S H (λb E=>by have:=(Qg S b E).1;simp;omega),h.q,
  λp G=>Qe (Qe (h.el p G) I (λb E=>(h.sep p G b E).2.2.2)) H (λb E=>by have:=(Qg (h.el p G) b E).1;simp;omega),
  λp G b E=>⟨(h.sep p G b E).1,(h.sep p G b E).2.1,(h.sep p G b E).2.2.1,λY=>?_⟩,h.d1,h.d2.grow O (Q8 h.t),h.d3.grow O (Q8 h.k)⟩
 rcases O b Y with T|T
 ·exact(h.sep p G b E).2.2.2 T
 have:=Q8 (h.el p G) b E;omega
theorem SyI.setM (h:SyI N b2 b38 b37 ve wS s m qs vt vk vd w)(n:SyN N b2 b38 b37 wS){H:List (ByteArray×O2)}(G:O5 [b38] w w')(J:Yu J0 ↑w' b38 H):SyI N b2 b38 b37 ve wS s H qs vt vk vd w':=by
 have l2:=n.l2;have l38:=n.l38;have n37:=n.n37;have n38:=n.n38;have nS:=n.nS;exact⟨h.st.S G (λb E=>.inl (by simp at E;simp[E])),h.A.J G (by simp;omega),J,Qe h.t G (λb E=>by have:=h.tb b E;simp;omega),h.tb,
  Qe h.k G (λb E=>by have:=(Qg h.k b E).1;simp;omega),Qe h.e G (λb E=>by have:=(Qg h.e b E).1;simp;omega),h.q,
  λp I=>Qe (h.el p I) G (λb E=>by have:=(h.sep p I b E).1;simpa using this),h.sep,h.d1,h.d2,h.d3⟩
theorem SyI.setT (h:SyI N b2 b38 b37 ve wS s m qs vt vk vd w)(n:SyN N b2 b38 b37 wS){J:O2}{u:LI}(hx:Qq 3 ↑wS w vx u)(S:∀b∈ob vx,b∉ob vt/\b∉ob vk/\b∉ob vd)(H:O5 (ob vt) w w')
  (V:jP 63 N w' J (qs++[(vx,u)])) (O:∀b∈ob J,b∈ob vt\/↑w<=b):SyI N b2 b38 b37 ve wS ⟨s.tup++[u],s.mk',s.ed⟩ m (qs++[(vx,u)]) J vk vd w':=by
 have l2:=n.l2;have l38:=n.l38;have n37:=n.n37;have n38:=n.n38;have nS:=n.nS;have he:=h.st.size;have nott:∀c,c<↑w->c∉ob vt->c∉ob J:=λc hc Y ha=>by
  rcases O c ha with I|I
  ·exact Y I
  omega
 refine⟨h.st.S H (λb E=>by have:=h.tb b E;simp;omega),h.A.J H (λE=>ov (h.tb b2 E)),h.M.J H (λE=>ov (h.tb b38 E)),V,
  λb E=>?_,Qe h.k H h.d1.symm,Qe h.e H h.d2.symm,by rw[Lr,h.q];rfl,λp G=>?_,λp G b E=>?_,(h.d1.symm.grow O (Q8 h.k)).symm,(h.d2.symm.grow O (Q8 h.e)).symm,h.d3⟩
 ·rcases O b E with I|I
  ·exact h.tb b I
  exact .inr oa
 ·rcases Lc.1 G with G|G
  ·exact Qe (h.el p G) H (λb E=>(h.sep p G b E).2.1)
  simp only[oJ]at G;subst G;exact ZB (Qe hx H (λb E=>(S b E).1)) nS
 rcases Lc.1 G with G|G
 ·have:=h.sep p G b E;exact⟨this.1,nott b (Q8 (h.el p G) b E) this.2.1,this.2.2⟩
 simp only[oJ]at G;subst G;have I:=(Qg hx b E);have T:=S b E;exact⟨oa,nott b I.2 T.1,T.2⟩
end
theorem QrO (o:Option α):o=none\/∃t,o=some t:=by cases o;exact .inl U;exact .inr ⟨_,U⟩
def zA:O2:=.agg #[nS,sS 0,nS,nS]
def ZE:O2:=nS
def Y0 (N:Nat)(H:xA)(aa:List Q6)(va vt:O2)(c:Int):Prop :=
 if qt aa≠0 then c=qt aa/\va=zA/\vt=ZE else match xo aa with
  | none=>c=3/\va=zA/\vt=ZE
  | some z=>c=0/\JK N H va z.1/\QeK N H vt z.2
def Xc (s:Sy)(u:LI):Sy:=if u∈s.tup then s else⟨s.tup++[u],s.mk',s.ed⟩
theorem Qim (s:Sy)(u:LI):(Xc s u).mk'=s.mk':=by unfold Xc;split <;> rfl
theorem Qin (s:Sy)(u:LI):(Xc s u).ed=s.ed:=by unfold Xc;split <;> rfl
theorem QlK {aa:List Q6}{t u:LI}{s:Sy}{v:Int}(h:Y6 v aa t=some u)(H:u∈s.tup\/s.tup.length≠4096):
  syE aa i t s v=some ⟨(Xc s u).tup,(Xc s u).mk',(Xc s u).ed++[((i:Int),v,((Xc s u).tup.idxOf u:Int))]⟩:=by
 unfold syE Xc;rw[h];simp only[];by_cases E:u∈s.tup
 ·simp only[OU E]
 simp only[OT E];rw[OT (by rcases H with G|G;exact OW G E;exact G),MC,OT E];simp
theorem Qil {aa:List Q6}{t u:LI}{s:Sy}{v:Int}(h:Y6 v aa t=some u)(E:u∉s.tup)(G:s.tup.length=4096):syE aa i t s v=none:=by
 unfold syE;rw[h];simp only[];rw[OT E,OU G]
theorem Qij {aa:List Q6}{t:LI}{s:Sy}{v:Int}(h:Y6 v aa t=none):syE aa i t s v=some s:=by
 unfold syE;rw[h]
theorem Qqj {s:Sy}{qs:List TV}(E:qs.map (·.2)=s.tup)(h:i<qs.length):jZ s i=qs[i].2:=by
 unfold jZ;rw[<-E];simp[oR,h]
theorem Vt.bd {aa:List Q6}{t:LI}(h:Vt aa t){m:Int}(G:∀a∈aa,a.st<=m):∀x∈t,0<=x/\x<m:=by
 intro x hx;obtain⟨i,hi,rfl⟩:=LO hx;have E:i<aa.length:=by rw[<-h.1];exact hi
 have:=h.2 i hi E;have:=G aa[i] (Lm E);omega
theorem QdE {L:LN}{ps:List AV}{km:Int}(h:KU L ↑w vl ps)(gn:Kb w km)(kf:0<km)(m8:∀p∈ps,p.a.st<=km):
  QY sV 102 [vl] w λr w'=>sX w w'/\∃va vt c,r=.tuple #[va,vt,sS c]/\Y0 ↑w ↑w' (ps.map (·.a)) va vt c:=by
 refine Zq func102 ?_;generalize S:ps.map (·.a)=aa;refine Qc<|QM [nS,sS 0,nS,nS] λb2 w1 hQ hB go=>x Qi<|Qb ?_;have hl2:=go.lt;refine Qd<|Qj<|Qz<|(QgV (h.I hQ)).Y ?_;rintro r2 w2 ⟨rfl,hq⟩;refine Qb ?_;rw[S];refine Qj<|Zx U U<|xe<|QO rfl (λh5=>?_) (λh5=>?_)
 ·refine Qc<|x (Qx Z)<|Qa<|QK [nS,sS 0,nS,nS] (go.I hq) oD λw3 m9 pa=>x Qi<|Qb<|Qh ⟨[zA,ZE,sS (qt aa)],⟨Yl pa,U,U,Z⟩,(hQ.D hq).O m9 hB,zA,ZE,qt aa,U,?_⟩;unfold Y0;rw[OU h5];exact⟨U,U,U⟩
 have hr:qt aa=0:=Lp.1 h5;have hn:ps.length<=12:=by
  unfold qt at hr;split at hr
  ·cases hr
  rename_i h1;rw[<-S]at h1;simp at h1;exact h1
 have hC:∀a∈aa,ZK a:=by
  unfold qt at hr;split at hr
  ·cases hr
  exact(Qdl aa).1 hr
 have hR:∀p∈ps,ZK p.a:=λp G=>hC p.a (by rw[<-S];exact LP G);have pc:∀p∈ps,p.a.al.length<=32:=λp G=>(hR p G).al_le;have pd:∀a∈aa,a.st<=km:=λa ha=>by rw[<-S]at ha;obtain⟨p,G,rfl⟩:=LD.1 ha;exact m8 p G
 have hD:aa.length=ps.length:=by rw[<-S];simp
 refine Qf<|Qj<|Qz<|(Qmg (L:=[b2]) (((h.up (λb E=>.inr (by simp at E;omega))).I hQ).I hq) hn pc (λb E=>by simp at E;have:=hq.size;omega)).Y ?_;rintro r4 w4 ⟨gp,ve,vs,ms,rfl,kg,hm⟩;rw[S]at hm;have hel:=QbQ aa (λa ha=>(hC a ha).al_le);have hevl:(evs aa).length<=1000:=oa
 have hS:=Qq.ints (L:=[]) hm oa od;refine QM [nS,nS,nS] λb6 w5 pf pg hE=>QK [vl,ve,vs] hE ⟨h.arr.one,hS.one,kg.sl.one,Z⟩ λw6 ph hE=>xe ?_;have hU:sX w4 w6:=pf.O ph pg;have hz2:=hq.size;have hz4:=gp.size;have hl6:=hE.lt;refine Qc<|Qo U hE U U<|QQ U<|Qn<|Qu (((go.I hq).I gp).I hU) U U od hS.one λw7 hF pj=>xe ?_;have hz7:=hF.size;have gq:sX w w7:=((((hQ.D hq).D gp).D hU).O hF hB);have kh:VQ [b2] ↑w7 vl ve vs ps ms:=(kg.I hU).st hF;have ki:Qq 3 ↑w2 w7 ve (evs aa):=Qe (Ql hm hU) hF (λb E=>by have:=(Qg hm b E).1;simp;omega);have kj:=hE.J hF (by simp;omega);refine Qc<|QT kj U U<|Qz<|(Qep kh hn).Y ?_;rintro r8 w8 ⟨hk,hV⟩;have hz8:=hk.size;have gr:=pj.I hk;have hW:(∃p∈ps,p.a.st=0)↔(∃a∈aa,a.st=0):=by
  rw[<-S];constructor
  ·rintro⟨p,G,h0⟩;exact⟨p.a,LP G,h0⟩
  rintro⟨a,ha,h0⟩;obtain⟨p,G,rfl⟩:=LD.1 ha;exact⟨p,G,h0⟩
 by_cases hz:∃p∈ps,p.a.st=0
 ·rw[OU hz]at hV;subst hV;refine Qa<|QW U U<|QW U U<|x Qi<|Qb<|Qd<|Qj<|x (Zy U)<|xe<|jv U ?_;refine Qc<|QT gr U U<|QK [ve,sS 0,nS,nS] gr ⟨hS.one,U,U,U,Z⟩ λw9 kk pm=>x Qi<|Qb<|Qh ⟨[.agg #[ve,sS 0,nS,nS],ZE,sS 0],⟨Yl pm,U,U,Z⟩,(gq.D hk).O kk hB,_,ZE,0,U,?_⟩;unfold Y0;rw[OT h5];unfold xo;rw[OU (hW.1 hz)];refine⟨U,⟨ve,_,_,U,λL' hl=>⟨Qq.ints (Qe (Ql ki hk) kk (λb E=>by have:=(Qg hm b E).1;simp;omega)) (by show(evs aa).length<=_;omega) (λb E=>ov (hl b E)),Zn.nil _ _ _,Zn.nil _ _ _⟩⟩,[],U,λL' hl=>⟨Zn.nil _ _ _,λp G=>by cases G⟩⟩
 rw[OT hz]at hV;obtain⟨vf,rfl,gs⟩:=hV;have kn:=Qq.ints (L:=[]) gs (by simp;omega) od;refine Qa<|QW U U<|QW U U<|x Qi<|Qb<|Qd<|Qj<|x (Zy U)<|xe<|ZO rfl<|Qf<|Qj<|Qn<|Xy (us:=[[vf]]) U U ol od ⟨kn.cells,rfl,Z⟩ λV w10 gt hb37 ko=>Qb ?_;have hl37:=ko.lt;refine Qc<|Qn<|YM J0 λhg w11 hX hb38 kq=>?_;have hl38:=kq.lt;refine Qa<|Qz<|(QbF ((kn.I gt).I hX) (gn.I ((gq.D hk).D (gt.D hX))) (λn hn=>ov (NJ hn)) (by simp;omega)).Y ?_;rintro r12 pn ⟨rfl,hY⟩;have hz12:=hY.size;refine Qn<|Jn (k:=Vl (oO ps.length 0)) (kq.I hY) U U λwS gu po=>Qa<|Qb ?_;have hzS:=gu.size;have pp:sX w8 pn:=(gt.D hX).D hY;have h6:sX w8 wS:=pp.O gu oa;have hZ:sX w wS:=(gq.D hk).D h6;have pu:∀b∈[b2,hg,V],b∈[b2]\/↑w8<=b:=λb E=>by
  simp only[oL,oK,or_false]at E;rcases E with rfl|rfl|rfl
  ·exact .inl od
  ·exact .inr oa
  exact .inr oa
 have gv:VQ [b2,hg,V] ↑wS vl ve vs ps ms:=((kh.I hk).up pu).I h6;have gw:QZ ↑wS b6 322 [vl,ve,vs]:=(kj.I hk).I h6;have pw:Qq 3 ↑w2 wS ve (evs aa):=Ql (Ql ki hk) h6;have hG:SyN ↑w1 b2 hg V wS:=⟨oa,oa,oa,oa,oa,oa⟩;have pz:SyI ↑w1 b2 hg V ve wS (j5 aa) (xd [] (Vl (oO ps.length 0)) (sS 0)) [(vf,oO ps.length 0)] (sL V 1 1) ZE ZE wS:=by
  refine⟨O5.Z _ _,gr.I h6,po,?_,λb E=>by simp[ob]at E;exact .inl E,QE _ _ _ _,QE _ _ _ _,by simp[j5,hD],λp G=>?_,λp G b E=>?_,Dj.nil' _,Dj.nil' _,Dj.nil' _⟩
  ·exact(((ko.I hX).I hY).J gu (by simp;omega)).own (n:=1) (sz:=1) U oa oa
  ·simp only[oJ]at G;subst G;exact ZB (Ql gs h6) oa
  simp only[oJ]at G;subst G;have:=(Qg gs) b E;refine⟨oa,?_,by simp[ob,ZE],by simp[ob,ZE]⟩;simp[ob];omega
 have p0:zd ps.length (xd [] (Vl (oO ps.length 0)) (sS 0)) (j5 aa).tup:=by
  have kf:zd ps.length [] []:=λu _ _=>U;have:=kf.add (u:=oO ps.length 0) od (λx hx=>ov (NJ hx));simpa[j5,hD]using this
 have p1:q8 aa (j5 aa):=by
  refine⟨λt ht=>?_,by simp[j5]⟩;simp only[j5,oJ]at ht;subst ht;refine⟨od,λi h1 h2=>?_⟩;have h3:=(hC aa[i] (Lm h2)).st0;have h4:aa[i].st≠0:=λe=>hz (hW.2 ⟨aa[i],Lm h2,e⟩);simp only[List.getElem_replicate];omega
 generalize hT:syL aa 4096 0 (j5 aa)=T;have p2:∀s,T=some s->xo aa=some (⟨evs aa,s.tup.length,s.mk',s.ed⟩,s.tup):=λs hs=>by
  unfold xo;rw[OT (λe=>hz (hW.2 e)),hT,hs];rfl
 have p3:T=none->xo aa=none:=λhs=>by unfold xo;rw[OT (λe=>hz (hW.2 e)),hT,hs];rfl
 refine Qd<|Qc<|Qb ?_;have gx:b6∉[b2,hg,V]:=by simp;omega
 refine Q7 (α:=Nat×Sy×List (ByteArray×O2)×List TV×O2×O2×O2) [(3,4),(10,10),(12,16),(42,111)] (λz=>[(3,z.2.2.2.2.1),(10,sS z.1)])
  (λz w'=>SyI ↑w1 b2 hg V ve wS z.2.1 z.2.2.1 z.2.2.2.1 z.2.2.2.2.1 z.2.2.2.2.2.1 z.2.2.2.2.2.2 w'/\q8 aa z.2.1/\zd ps.length z.2.2.1 z.2.1.tup/\z.1<=z.2.1.tup.length/\z.2.1.mk'.length<=z.1/\z.2.1.ed.length<=z.1*1000/\syL aa (4096 - z.1) z.1 z.2.1=T)
  (λz=>4096 - z.1) (0,j5 aa,_,_,_,ZE,ZE) oB ⟨pz,p1,p0,Lo _,Lo _,Lo _,hT⟩ ?_
 rintro⟨i,s,m,qs,vt,vk,vd⟩ g ga ⟨I,gb,kr,hi,p4,kt,gy⟩;simp only[]at I gb kr hi p4 kt gy;have hle:=gb.le;have p5:qs.length=s.tup.length:=by rw[<-I.q];simp
 have ku:∀p∈qs,Vt aa p.2:=λp G=>gb.v p.2 (by rw[<-I.q];exact LP G);have kv:∀p∈qs,p.2.length<=12:=λp G=>ov (ku p G).1
 have gz:=QB (L:=[]) I.t oa od;refine Qd<|Qj<|Qa<|QF gz U<|Z5 U U<|xe<|ZH rfl (λp6=>?_) (λp6=>?_)
 ·have p7:T=some s:=by rw[<-gy,Qih oa]
  refine Qw<|Qj<|QF gz U<|QQ U<|Qn<|Qu I.A U U od rfl λw15 p8 kw=>xe ?_;refine Qc<|QT kw U U<|Qa<|QK [ve,sS qs.length,vk,vd] kw ⟨hS.one,U,(Qq.ints (L:=[]) I.k oa od).one,(YP.eds (L:=[]) I.e oa od).one,Z⟩ λg0 p9 qc=>x Qi<|Qb ?_;have h7:O5 [b2] ga g0:=p8.Q p9;have qf:sX w g0:=(hZ.S I.st (λb E=>.inr (by simp at E;omega))).O h7 hB;refine Qh ⟨[.agg #[ve,sS qs.length,vk,vd],vt,sS 0],⟨Yl qc,U,U,Z⟩,qf,_,vt,0,U,?_⟩;unfold Y0;rw[OT h5,p2 s p7];have e1:(qs.length:Int)=s.tup.length:=by rw[p5]
  have k0:Qq 3 ↑w2 g0 ve (evs aa):=Qe (Qe pw I.st (λb E=>by have:=(Qg hm b E).1;have:=(Q8 hm) b E;simp;omega)) h7 (λb E=>by have:=(Qg hm b E).1;simp;omega);have k1:=Qe I.k h7 (λb E=>by have:=(Qg I.k b E).1;simp;omega);have k2:=Qe I.e h7 (λb E=>by have:=(Qg I.e b E).1;simp;omega);have k3:=Qe I.t h7 (λb E=>by have:=(Qg I.t b E).1;simp;omega);refine⟨U,⟨ve,vk,vd,by rw[e1],λL' hl=>⟨Qq.ints k0 (by show(evs aa).length<=_;omega) (λb E=>ov (hl b E)),Qq.ints k1 (by show s.mk'.length<=_;omega) (λb E=>ov (hl b E)),YP.eds k2 (by show s.ed.length<=_;omega) (λb E=>ov (hl b E))⟩⟩,qs,I.q,λL' hl=>⟨?_,λp G=>?_⟩⟩
  ·exact QB k3 oa (λb E hbL=>oy (Qg I.t b E).1 (hl b hbL))
  exact Qq.ints (Qe (I.el p G) h7 (λb E=>by have:=(Qg (I.el p G) b E).1;simp;omega)) (ov (kv p G)) (λb E=>ov (hl b E))
 have ql:i<s.tup.length:=oa
 have Y:i<qs.length:=oa
 have kx:=Qqj I.q Y;have h8:=ku (qs[i]'Y) (Lm Y);obtain⟨t,g2⟩:∃t,(qs[i]'Y).2=t:=⟨_,U⟩;rw[g2]at kx h8;refine Qf ?_;have qm:(yo aa i t (evs aa) (Yn aa i t s)).bind (syL aa (4096 - (i+1)) (i+1))=T:=by
  rw[<-gy];obtain⟨f,hf⟩:∃f,4096 - i=f+1:=⟨4096 - i - 1,oa⟩;rw[hf,syL,OU ql,kx,show 4096 - (i+1)=f by omega]
 have qo:=gv.st I.st;have qr:VQ [] ↑ga vl ve vs ps ms:=qo.up (λ_ E=>by cases E);have q0:=gw.J I.st gx;have q1:QL [] ↑ga (qs[i]'Y).1 t:=by rw[<-g2];exact Qq.ints (I.el (qs[i]'Y) (Lm Y)) (ov (kv (qs[i]'Y) (Lm Y))) od
 refine Qd<|Qm<|QX (α:=O2) [(48,59)] (λz=>[]) (λz w'=>SyI ↑w1 b2 hg V ve wS (Yn aa i t s) m qs vt z vd w') om ?_ ?_
 ·refine Qd<|Zz [] (YW 0 6 [5])<|pq (λ_ hc=>Zu (q0.I hc) U U)<|p Qv<|p Qv<|pig U Us gz U U Y λa51 q2 =>
   pq (λ_ hc=>Qy (q2.I hc) U)<|pk<|xg<|(QgZ (qr.I (O5.C _ _)) (q1.I (O5.C _ _)) (by rw[h8.1,hD]) (λp G=>(hR p G).mri) hn).Y ?_
  rintro r17 w17 ⟨rfl,q3⟩;have kz:=(O5.C [] ga).D q3;refine⟨kz,?_⟩;refine pe ?_;have g5:=I.I kz;refine QU U (λhH=>?_) (λhH=>?_)
  rotate_left
  ·refine Qf<|⟨vk,Z,?_⟩;rw[S]at hH;unfold Yn;rw[OT (by rw[hH];simp)];exact g5
  refine Qs<|Qo U g5.A U U<|Qa<|Qn<|Za [[sS i]] λb57 w18 q4 hb57 q5=>?_;have hJ:=g5.I q4;refine Qn<|Q2 (news:=[sS i]) (L:=[]) hJ.k U U U (q5.at od) oq oa hJ.st.size λk4 q6 j1 k5 j2=>?_;have k6:Qq 3 ↑wS q6 k4 (s.mk'++[(i:Int)]):=Qq.snoc j1;refine QQ U<|Qn<|Qu (hJ.A.J k5 (QP hJ.k oa)) U U od (Qq.ints (L:=[]) k6 (by simp;omega) od).one λw20 j3 za=>xe ?_;refine⟨k4,Z,?_⟩;rw[S]at hH;unfold Yn;rw[OU hH];exact hJ.setK hG k5 k6 j2 j3 za
 rintro gc g3 w21 k7;have zb:q8 aa (Yn aa i t s):=j0 gb;have zv:(Yn aa i t s).tup=s.tup:=by unfold Yn;split <;> rfl
 have z1:(Yn aa i t s).ed=s.ed:=by unfold Yn;split <;> rfl
 have z2:(Yn aa i t s).mk'.length<=i+1:=by
  unfold Yn;split
  ·simp only[oN,oP];omega
  omega
 have k8:QL [b2,hg,V] ↑wS ve (evs aa):=by have:=gv.ev;rw[S]at this;exact this
 refine Qc<|Qo U (gw.J k7.st gx) U U<|QF k8 U<|Qa<|xe<|Q7 (α:=Nat×Sy×List (ByteArray×O2)×List TV×O2×O2) [(3,4),(12,16),(63,111)] (λz=>[(3,z.2.2.2.2.1),(63,sS z.1)])
  (λz w'=>SyI ↑w1 b2 hg V ve wS z.2.1 z.2.2.1 z.2.2.2.1 z.2.2.2.2.1 gc z.2.2.2.2.2 w'/\q8 aa z.2.1/\zd ps.length z.2.2.1 z.2.1.tup/\z.1<=(evs aa).length/\z.2.1.mk'=(Yn aa i t s).mk'/\z.2.1.ed.length<=i*1000+z.1 /\
   (∃h:i<z.2.2.2.1.length,(z.2.2.2.1[i]'h).2=t)/\(yo aa i t ((evs aa).drop z.1) z.2.1).bind (syL aa (4096 - (i+1)) (i+1))=T)
  (λz=>(evs aa).length - z.1) (0,Yn aa i t s,m,qs,vt,vd) oB
  ⟨k7,zb,by rw[zv];exact kr,Lo _,U,by rw[z1];simpa using kt,⟨Y,g2⟩,qm⟩ ?_
 rintro⟨j,H,m4,hh,gg,gh⟩ g4 hK ⟨O,hL,hv,hj,gi,k9,⟨ho,h9⟩,he⟩;simp only[]at O hL hv hj gi k9 he ho h9;have ma:hh.length=H.tup.length:=by rw[<-O.q];simp
 have hle4:=hL.le;refine Zo rfl U (λz3=>?_) (λz3=>?_)
 ·rw[Lt oa,yo]at he;refine Qw<|Qs<|Qa<|QH U U<|Qb<|⟨(i+1,H,m4,hh,gg,gc,gh),og,oB,O,hL,hv,og,by simp only[];rw[gi];exact z2,og,he⟩
 have gj:j<(evs aa).length:=oa
 rw[Zc gj,yo]at he;obtain⟨v,mf⟩:∃v,(evs aa)[j]=v:=⟨_,U⟩;rw[mf]at he;refine Qf<|Qd<|Qm<|Qc<|xii (k8.st O.st) U U gj λa65 mg=>?_;rw[mf]at mg;refine x (Qy mg U)<|Qb ?_;have z4:=gw.J O.st gx;have z5:=QB (L:=[]) O.t oa od;have htI4:QL [] ↑hK (hh[i]'ho).1 t:=by rw[<-h9];exact Qq.ints (O.el (hh[i]'ho) (Lm ho)) (by rw[h9,h8.1];omega) od
 refine Qd<|Zz [] (YW 0 12 [6])<|pq (λ_ hc=>Zu (z4.I hc) U U)<|p Qv<|p Qv<|pig U Us z5 U U ho λa71 h71 =>
  pq (λ_ hc=>Qy (h71.I hc) U)<|p Qv<|pk<|xg<|(QiQ (((gv.st O.st).up (L':=[]) (λ_ E=>by cases E)).I (O5.C _ _)) (htI4.I (O5.C _ _)) (by rw[h8.1,hD]) (λp G=>(hR p G).ali) (λp G=>(hR p G).edi) hn _).Y ?_
 rintro r23 w23 ⟨hs23,hM⟩;rw[S]at hM;have mh:=(O5.C [] hK).D hs23;refine⟨mh,?_⟩;have hN:=O.I mh;have hz22:=O.st.size;rcases QrO (Y6 v aa t)with hw|⟨u,hw⟩
 ·rw[hw]at hM;subst hM;rw[Qij hw]at he;refine p Qv<|p (λ_=>Zi U U)<|p (λ_=>Zi U U)<|p ZG<|p ZG<|pe ?_;refine Qd<|Qj<|x (Zy U)<|xe<|jv U ?_;refine Qw<|Qs<|QH U U<|Qa<|xe ?_;exact⟨(j+1,H,m4,hh,gg,gh),og,oB,hN,hL,hv,gj,gi,og,⟨ho,h9⟩,he⟩
 rw[hw]at hM;obtain⟨vx,rfl,g8⟩:=hM;have mj:=Kf hC h8 hw;have mo:u.length=ps.length:=by rw[mj.1,hD]
 have g9:=mj.bd pd;have ka:∀x∈u,0<=x:=λx hx=>(g9 x hx).1;refine p Qv<|p (λ_=>Zi U U)<|p (λ_=>Zi U U)<|p ZG<|p ZG<|pe ?_;refine Qd<|Qj<|x (Zy U)<|xe<|ZO U<|Qf ?_;have gk:=Qq.ints (L:=[]) g8 oa od;have mq:=Qg g8;refine QX (α:=Unit) [(15,16),(79,85)] (λz=>[(15,sS (if u∈H.tup then(H.tup.idxOf u:Int)else 0)),(16,.bool (decide (u∈H.tup)))]) (λz w'=>sX w23 w') om ?_ ?_
 ·refine Qs<|Qa<|Qa<|Qz<|(QbF gk (gn.I (hZ.S hN.st (λb E=>.inr (by simp at E;omega)))) g9 oa).Y ?_;rintro r24 w24 ⟨rfl,gl⟩;by_cases J:u∈H.tup
  ·refine x (Qag (k:=Vl u) ((hN.I gl).M) U U (by rw[hv u mo ka,OU J]))<|Qa<|QW rfl rfl<|QW rfl rfl<|x Qi<|Qb<|⟨(),⟨OV sS (OU J).symm,OV Value.bool (OX J).symm,Z⟩,gl⟩
  refine x (QgQ (k:=Vl u) ((hN.I gl).M) U U (by rw[hv u mo ka,OT J]))<|Qa<|QW rfl rfl<|QW rfl rfl<|x Qi<|Qb<|⟨(),⟨OV sS (OT J).symm,OV Value.bool (OZ J).symm,Z⟩,gl⟩
 rintro _ g6 w25 kb;have hA:=hN.I kb;have hxA25:=gk.I kb;have hadd:∀b∈ob vx,b∉ob gg/\b∉ob gc/\b∉ob gh:=λb E=>by
  have h1:=(mq b E).1;have h1':↑hK<=b:=h1;exact⟨λhO=>ov (Q8 O.t b hO),λhO=>ov (Q8 O.k b hO),λhO=>ov (Q8 O.e b hO)⟩
 refine QX (α:=List (ByteArray×O2)×List TV×O2) [(3,4),(15,15),(86,101)] (λz=>[(3,z.2.2),(15,sS ((Xc H u).tup.idxOf u:Int))])
  (λz w'=>SyI ↑w1 b2 hg V ve wS (Xc H u) z.1 z.2.1 z.2.2 gc gh w'/\(u∈H.tup\/H.tup.length≠4096)/\zd ps.length z.1 (Xc H u).tup/\∃h:i<z.2.1.length,(z.2.1[i]'h).2=t) om ?_ ?_
 ·refine Qj<|x (Zy U)<|xe<|QU U (λkc=>?_) (λkc=>?_)
  rotate_left
  ·have J:u∈H.tup:=by simpa using kc
   refine Qf ?_;have e1:Xc H u=H:=by unfold Xc;rw[OU J]
   have e2:(if u∈H.tup then(H.tup.idxOf u:Int)else 0)=((Xc H u).tup.idxOf u:Int):=by rw[e1,OU J]
   refine⟨(m4,hh,gg),⟨U,OV sS e2,Z⟩,?_,.inl J,?_,ho,h9⟩
   ·rw[e1];exact hA
   rw[e1];exact hv
  have J:u∉H.tup:=by simpa using kc
  have mt:=QB (L:=[]) hA.t oa od;refine Qd<|Qj<|QF mt U<|x (QR U U)<|xe<|QO U (λh90=>?_) (λh90=>?_)
  ·refine Qc<|x (Qx Z)<|QK [nS,sS 0,nS,nS] hA.A oD λw26 gm hB26=>x Qi<|Qb<|Qh ⟨[zA,ZE,sS 3],⟨Yl hB26,U,U,Z⟩,(hZ.S hA.st (λb E=>.inr (by simp at E;omega))).O gm hB,zA,ZE,3,U,?_⟩;unfold Y0;rw[Qil hw J oa]at he;rw[OT h5,p3 he.symm];exact⟨rfl,U,U⟩
  have hl4:H.tup.length≠4096:=oa
  refine Qf<|Qj<|QF mt U<|Qb<|Qj<|Qa<|Qz<|(QbF hxA25 (gn.I (hZ.S hA.st (λb E=>.inr (by simp at E;omega)))) g9 oa).Y ?_;rintro r26 w26 ⟨rfl,gm⟩;have mu:=hA.I gm;refine Qa<|Qn<|XY (k:=Vl u) mu.M U U λw27 mv hm27=>xe ?_;have hx27:=Qe (Ql (Ql g8 kb) gm) mv (λb E=>by have:=(mq b E).1;have h1':↑hK<=b:=this;simp;omega);refine Qs<|Qa<|Qa<|Qn<|Xy (us:=[[vx]]) U U ol od ⟨gk.cells,rfl,Z⟩ λb100 w28 mw hb100 hB100=>?_;have ke:=(mu.setM hG mv hm27).I mw;refine Qn<|Q2 (news:=[vx]) (L:=[]) ke.t U U U (hB100.at od) (λy hy=>by simp only[oJ]at hy;subst hy;exact gk.one) oa (oy ke.st.size hG.nS) λmy w29 ho29 hs29 hn29=>Qb ?_;have hk29:jP 63 ↑w1 w29 my (hh++[(vx,u)]):=jP.snoc ho29;have hIA:=ke.setT hG (u:=u) (ZB (Ql hx27 mw) (by show wS.heap.size<=↑hK;omega)) hadd hs29 hk29 hn29;have e1:Xc H u=⟨H.tup++[u],H.mk',H.ed⟩:=by unfold Xc;rw[OT J]
  have e2:(hh.length:Int)=((Xc H u).tup.idxOf u:Int):=by
   rw[e1];simp only[];rw[MC,OT J,<-ma];simp
  refine⟨(xd m4 (Vl u) (sS (hh.length:Int)),hh++[(vx,u)],my),⟨U,OV sS e2,Z⟩,?_,.inr hl4,?_,by simp;omega,?_⟩
  ·rw[e1];exact hIA
  ·rw[e1];simp only[];rw[ma];exact hv.add J ka
  simp only[];rw[MI ho];exact h9
 rintro⟨m5,qs5,vt5⟩ g7 w30 ⟨mz,hlim,hkn5,hlt5,ht5⟩;have hed5:(Xc H u).ed.length<=i*1000+j:=by rw[Qin];exact k9
 have m2:=QlK (aa:=aa) (i:=i) (s:=H) hw hlim;rw[m2]at he;refine Qs<|Qo U mz.A U U<|Qa<|Qa<|Qa<|x (Qx ⟨U,U,U,Z⟩)<|Qn<|Za [QA ((i:Int),v,((Xc H u).tup.idxOf u:Int))] λb108 w31 hs31 hb108 hB108=>?_;have hP:=mz.I hs31;refine Qn<|Q2 (news:=QA ((i:Int),v,((Xc H u).tup.idxOf u:Int))) (L:=[]) hP.e U U U (hB108.at od) (λy hy=>by simp only[QA,oL,oK,or_false]at hy;rcases hy with rfl|rfl|rfl <;> rfl) oa hP.st.size λm3 w32 ho32 m6 hn32=>?_
 have m7:YP 159 ↑wS w32 m3 ((Xc H u).ed++[((i:Int),v,((Xc H u).tup.idxOf u:Int))]):=YP.snoc ho32;refine QQ U<|Qn<|Qu (hP.A.J m6 (QP hP.e oa)) U U od (YP.eds (L:=[]) m7 (by simp;omega) od).one λw33 hs33 hB33=>xe ?_;refine Qs<|QH U U<|Qa<|xe<|⟨(j+1,_,m5,qs5,vt5,m3),og,oB,(hP.setE hG m6 m7 hn32 hs33 hB33),(Qik hC hL h8 m2),hkn5,gj,?_,?_,⟨hlt5,ht5⟩,he⟩
 ·simp only[];rw[Qim];exact gi
 simp only[oN,oP];omega
section
variable {f:Fr}{pS:String}{κ:Type}[DecidableEq κ]
end
theorem Qe1 {aa:List Q6}{i:Nat}{t:LI}(G:∀a∈aa,ZK a)(H:Vt aa t):∀(vs:LI) (s E:Sy),q8 aa s->yo aa i t vs s=some E->q8 aa E
 | [],s,E,h,e=>by cases e;exact h
 | v::vs,s,E,h,e=>by
  rw[yo]at e;obtain⟨I,J,O⟩:=MO.1 e;exact Qe1 G H vs I E (Qik G h H J) O
theorem Qig {aa:List Q6}(G:∀a∈aa,ZK a):∀(f i:Nat) (s E:Sy),q8 aa s->syL aa f i s=some E->q8 aa E
 | 0,i,s,E,h,e=>by cases e;exact h
 | f+1,i,s,E,h,e=>by
  rw[syL]at e;split at e
  ·rename_i hi;obtain⟨H,I,J⟩:=MO.1 e;have O:Vt aa (jZ s i):=h.v _ (by unfold jZ;simp[oR,hi]);exact Qig G f _ H E (Qe1 G O _ _ _ (j0 h) I) J
  cases e;exact h
theorem Qoo {aa:List Q6}(H:∀a∈aa,ZK a)(I:¬∃a∈aa,a.st=0):q8 aa (j5 aa):=by
 refine⟨λt E=>?_,by simp[j5]⟩;simp only[j5,oJ]at E;subst E;refine⟨od,λi J G=>?_⟩;have O:=(H aa[i] (Lm G)).st0;have S:aa[i].st≠0:=λe=>I ⟨aa[i],Lm G,e⟩;simp only[List.getElem_replicate];omega
theorem zS {aa:List Q6}(E:∀a∈aa,ZK a){z:Q6×List (LI)}(h:xo aa=some z):(∀t∈z.2,Vt aa t)/\z.2.length<=4096:=by
 unfold xo at h;split at h
 ·cases h;simp
 rename_i G;obtain⟨s,H,rfl⟩:=Ms.1 h;have:=Qig E _ _ _ _ (Qoo E G) H;exact⟨this.v,this.le⟩
def opC (p s:Q6):Int:=if JB p≠0 then JB p else if JB s≠0 then JB s else if mrg (λp q=>p && !q) s.al p.al=[]then 0 else 9
def opE (p s:Q6):Int:=if opC p s≠0 then opC p s else match xo [p,s]with|none=>3|some _=>0
def opQ (p s:Q6):List (LI):=match xo [p,s]with|none=>[]|some z=>z.2
def QqA (l:LI):Int:=(l.drop 1).foldl max (O6 l 0)
theorem KW {v:O2}{a:Q6}(h:JK N ↑w v a)(G:b<N)(H:O5 [b] w w'):JK N ↑w' v a:=by
 obtain⟨va,vm,ve,I,J⟩:=h;refine⟨va,vm,ve,I,λL O=>?_⟩;exact((J (b::L) (λc E=>by rcases Lj.1 E with rfl|E;exact G;exact O c E)).st (H.Y od)).up (λc E=>.inl (Lk _ E))
theorem Qk6 {v:O2}{l:List (LI)}(h:QeK N ↑w v l)(G:b<N)(H:O5 [b] w w'):QeK N ↑w' v l:=by
 obtain⟨ps,I,J⟩:=h;refine⟨ps,I,λL O=>?_⟩;exact((J (b::L) (λc E=>by rcases Lj.1 E with rfl|E;exact G;exact O c E)).st (H.Y od)).up (λc E=>.inl (Lk _ E))
theorem J5 {v:O2}{a:Q6}(h:JK N H v a):∃us,v=sT us/\us.length=4/\Zb us:=by
 obtain⟨va,vm,ve,E,G⟩:=h;have:=G [] od;exact⟨[va,sS a.st,vm,ve],E,U,this.al.one,U,this.mr.one,this.ed.one,Z⟩
theorem Qb1 {L:LN}{a:Q6}(h:ZM L ↑w va vm ve a):
  QY sV 192 [.agg #[va,sS a.st,vm,ve]] w λr w'=>sX w w'/\∃v,r=.tuple #[v,sS (JB a)]/\(JB a≠0->v=zA)/\(JB a=0->JK ↑w ↑w' v (Yk a)):=by
 refine Zq func192 ?_;refine Qc<|Zl [va,sS a.st,vm,ve] λb1 w1 T hj V=>QM [nS,sS 0,nS,nS] λb2 w2 G hk H=>Qb ?_;have I:=T.D G;refine Qd<|Qc<|QT (V.I G) U U<|Qz<|(Js (h.I I)).Y ?_;rintro r3 w3 ⟨rfl,E⟩;refine Qb ?_;have hl:=T.size;refine Qj<|Zx U U<|xe<|QO rfl (λJ=>?_) (λJ=>?_)
 ·refine Qc<|x (Qx Z)<|Qa<|QK [nS,sS 0,nS,nS] (H.I E) oD λw4 hf hg=>Qb<|Qh ⟨[zA,sS (JB a)],⟨Yl hg,U,Z⟩,(I.D E).O hf oa,zA,U,λ_=>U,λe=>OW e J⟩
 have O:JB a=0:=Lp.1 J;have hm:=H.lt;have S:=I.D E;refine Qf<|Qc<|QT ((V.I G).I E) U U<|Qz<|(JJ (h.I S) ((Z4 a).1 O)).Y ?_;rintro v w5 ⟨Y,hF⟩;obtain⟨us,ha,hb,hh⟩:=J5 hF;have hn:=E.size;refine Qn<|Zv (us:=us) ((H.I E).I Y) U ha hb U hh λw6 he hi =>
  Qb<|Qh ⟨[sT us,sS 0],⟨⟨_,U,Yb hb (hi.at (L:=[]) od).cells⟩,rfl,Z⟩,(S.D Y).O he oa,v,by rw[O,ha];rfl,λe=>OW O e,λ_=>?_⟩
 exact(KW hF oa he).Y S.size
def gget:List ((Int×Int)×Int)->Int×Int->Option Int
 | [],_=>none
 | (k',v)::m,k=>if k'=k then some v else gget m k
def gput:List ((Int×Int)×Int)->Int×Int->Int->List ((Int×Int)×Int)
 | [],k,v=>[(k,v)]
 | (k',v')::m,k,v=>if k'=k then(k',v)::m else(k',v')::gput m k v
def QrJ (s:Q6)(cls:LI)(x:Nat)(m:List ((Int×Int)×Int))(v:Int):List ((Int×Int)×Int):=gput m (O6 cls x,v) (O6 cls (to0 s x v).toNat)
def QrG (s:Q6)(l:List UN)(cls:LI)(z:LI×List ((Int×Int)×Int))(x:Nat):LI×List ((Int×Int)×Int):=
 if O6 cls x<0 then z else(if((lget l x).mk' && (lget l x).ps)=true then Qok z.1 (O6 cls x)else z.1,(lget l x).en.foldl (QrJ s cls x) z.2)
def Qqo (s:Q6)(l:List UN)(cls:LI):LI×List ((Int×Int)×Int):=(oS 0 cls.length).foldl (QrG s l cls) ([],[])
def QrI (m:List ((Int×Int)×Int))(c:Nat)(v:Int):Option Ed:=(gget m ((c:Int),v)).map λt=>((c:Int),v,t)
def QrH (m:List ((Int×Int)×Int))(al:LI)(n:Nat):List Ed:=(oS 0 n).flatMap λc=>al.filterMap (QrI m c)
def QrK (s:Q6)(l:List UN)(cls:LI):Q6:=⟨s.al,QqA cls+1,(Qqo s l cls).1,QrH (Qqo s l cls).2 s.al (QqA cls+1).toNat⟩
def red (p s:Q6):Q6:=QrK s (ctls p s (opQ p s)) (Qq4 p s (opQ p s))
def xJ (p s:Q6):Int:=if opE p s≠0 then opE p s else if opQ p s=[]then 0 else JB (red p s)
theorem KN {l:LI}(h:i<l.length):O6 l i∈l:=by rw[<-ZL h];exact Lm h
theorem Zf (a:α){Q:Prop}(h:∀b,a=b->Q):Q:=h a U
theorem exN {a:Int}(E:0<=a){Q:Prop}(h:∀u:Nat,a=u->Q):Q:=h a.toNat (Int.toNat_of_nonneg E).symm
theorem Qa7 {a:Q6}{J n1 G I:Nat}(S:QZ H b1 3 (a.al.map (.int .i64)))(T:QZ H b2 3 (a.mr.map (.int .i64)))(V:QZ H J 159 (a.ed.flatMap QA))(g1:N<=b1)(g2:N<=b2)(g3:N<=J)
  (Y:a.al.length=n1) (l2:a.mr.length=G) (l3:a.ed.length=I) (m1:n1<=1000) (m2:G<=1000) (m3:I<=1000):
  JK N H (.agg #[sL b1 n1 n1,sS a.st,sL b2 G G,sL J I I]) a:=by
 subst Y l2 l3;refine⟨_,_,_,U,λL O=>⟨?_,?_,?_⟩⟩
 ·exact S.arr (λE=>ov (O _ E)) od oa (Lx _)
 ·exact T.arr (λE=>ov (O _ E)) od oa (Lx _)
 exact V.arr (λE=>ov (O _ E)) (by rw[YY _ 3 Kl]) oa (Lx _)
end Go.Lg
namespace Go.Lg
abbrev xx:=Fr->xz
end Go.Lg
