/- Merged out of 38 texts. -/
import Derived.Orders
import Derived.Below
import Derived.WalkKit
import Derived.Laws.AppendOwn
import Derived.Laws.Rows
import Derived.Laws.Tables
import Derived.Great.BuildSlice
import Derived.Deep.OwnRows
import Derived.MapKept
import Derived.Laws.StructEq
import Derived.Test.YteekilnpgonojaaGreatDoorProg
import Derived.Shelf.Strings.Builder1
import Derived.Shelf.Small.Bits
import Derived.Shelf.Strings.BuilderF
import Derived.Shelf.Strings.BuilderK
import Derived.Shelf.Strconv.Itoa0
import Derived.Shelf.Strconv.Itoa1
import Derived.Shelf.LaysM
import Derived.Shelf.Strconv.Itoa2
import Derived.Shelf.Strconv.Itoa3
import Derived.Shelf.Strings.BuilderCap
import Derived.Ground.SlgfProg
import Derived.Ground.SlgmProg
import Derived.Shelf.SortM.Plain
import Derived.Shelf.SortM.SortNone
import Derived.Lib.Builder
import Derived.Laws.Externs
set_option maxHeartbeats 40000000
set_option maxRecDepth 100000
set_option linter.all false
abbrev Eq.D:=@Eq.trans
abbrev Iff.D:=@Iff.trans
abbrev List.Perm.D:=@List.Perm.trans
namespace Go
abbrev xj:=Option (Nat×Bool)
abbrev xo:=List (Nat×Bool)
abbrev xp:=List (Nat×Nat)
abbrev xq:=List (Int×Int)
abbrev xt:=World→Prop
abbrev xu:=Array Obj
abbrev xw:=Array Edge
abbrev xx:=List Oper
abbrev xz:=Option Nat
theorem ot{p q:Prop}(a:q)(h:q→p:=by intro _;omega):p:=h a
theorem ou{p q r:Prop}(a:q)(b:r)(h:q→r→p:=by intro _ _;omega):p:=h a b
theorem ov{p q r s:Prop}(a:q)(b:r)(c:s)(h:q→r→s→p:=by intro _ _ _;omega):p:=h a b c
theorem oy{p q:Prop}(a:q)(h:q→p:=by intro h;simpa using h):p:=h a
theorem oa{p:Prop}(h:p:=by omega):p:=h
theorem od{p:Prop}(h:p:=by kernel_rfl):p:=h
theorem oe{p:Prop}(h:p:=by simp):p:=h
theorem og{p:Prop}(h:p:=by decide):p:=h
theorem oh{p:Prop}(h:p:=by simp only[];omega):p:=h
theorem ol{p:Prop}(h:p:=by rfl):p:=h
theorem om{p:Prop}(h:p:=by simp only[List.mem_singleton];omega):p:=h
theorem oq{p:Prop}(h:p:=by simp[ow]):p:=h
abbrev oC(j:Nat):Nat×Bool:=(j,true)
abbrev oD(j:Nat):Nat×Bool:=(j,false)
abbrev OP:=@if_neg
abbrev OQ:=@if_pos
abbrev OR:=@congrArg
abbrev OS:=@absurd
abbrev OT:=@decide_eq_true
abbrev OU:=@of_decide_eq_true
abbrev OV:=@decide_eq_false
abbrev OW:=@of_decide_eq_false
end Go
open Go
open Go.Value renaming int->oE
open Go.IntKind renaming i64->oF
open _root_.List renaming mem_singleton->oH,not_mem_nil->oI,mem_cons->oK,length_append->oL,replicate->oM,length_singleton->oN,length->oO,getD->oP,range'->oQ,all_cons->oR,mem_append->oS,append_assoc->oT,length_cons->oU,range->oW,getElem?_toArray->oY,map_cons->oZ,length_drop->o6,length_take->o7,cons_append->o8,size_toArray->o9,flatMap_cons->Oa,all_eq_true->Og,nil_append->Oi,forall_mem_cons->Ok,length_map->Ol,singleton_append->On,append_nil->Oq,range'_succ->Ov,map_set->OL
open _root_.Bool renaming and_eq_true->oJ,not_eq_true'->Ob,or_eq_false_iff->Oc,true_and->OH
open _root_.Array renaming replicate->oV,getElem?_eq_getElem->Od
open _root_.Nat renaming zero_add->oX,add_mul->Oj,lt_or_ge->OA,add_zero->OB,sub_zero->OC,le_of_not_lt->OD,add_assoc->OG,le_succ->OJ,zero_mul->OK,beq->OO
open _root_.Option renaming map_some->Ot
open _root_.Int renaming toNat_natCast->Ou
open Go renaming World->OX,Value->OY,Operand->OZ,Program->O0
open Go.Proofs Go.Proofs.Tryz
variable {w w':OX}{n t i sz b T j g N E id ty b1 cap B kt lo hi b2 et G M:Nat}{H:xu}{α β:Type}{y:OZ}{z ve va vm vt v' vl vs vx vk vb:OY}{P:O0}{fn:Func}{o:Oper}{s:Int}{d:xz}{af:xw}{gd:xj}{k':IntKind}{pl rest:xo}{at_:Array Nat}{ops:xx}{ls:xq}
namespace Go
abbrev nS:OY:=.slice none 0 0
abbrev LI:=List Int
abbrev LN:=List Nat
abbrev LV:=List OY
theorem U.{u}{α:Sort u}{a:α}:a=a:=rfl
theorem Z:True:=trivial
theorem La.{u}{α:Sort u}{a:α}:a=a/\True:=⟨rfl,trivial⟩
abbrev Lb:=@List.mem_singleton
abbrev Lc:=@List.mem_append
abbrev Lh:=@List.length_map
abbrev Li:=@List.mem_cons
abbrev Lj:=@List.mem_cons_of_mem
abbrev Lk:=@List.getElem_mem
abbrev Ll:=@List.length_append
abbrev Lm:=@List.take_succ_eq_append_getElem
abbrev Ln:=@Decidable.not_not
abbrev Lo:=@Nat.zero_le
abbrev Lp:=@List.drop_of_length_le
abbrev Lq:=@List.mem_cons_self
abbrev Lr:=@List.take_of_length_le
abbrev Ls:=@List.eq_nil_of_length_eq_zero
abbrev Lt:=@List.map_append
abbrev Lu:=@Bool.and_eq_true
abbrev Lv:=@Nat.le_refl
abbrev Lx:=@List.not_mem_nil
abbrev Ly:=@List.length_take
abbrev LA:=@List.append_assoc
abbrev LB:=@List.flatMap_append
abbrev LC:=@List.mem_map
abbrev LD:=@List.drop_eq_getElem_cons
abbrev LE:=@List.map_cons
abbrev LF:=@List.length_singleton
abbrev LG:=@List.flatMap_cons
abbrev LH:=@Nat.le_trans
abbrev LJ:=@List.mem_map_of_mem
abbrev LK:=@List.append_nil
abbrev LM:=@List.getElem_map
abbrev LO:=@Array.getElem?_eq_some_iff
abbrev LP:=@List.getElem_of_mem
abbrev LQ:=@Nat.zero_add
abbrev LR:=@List.size_toArray
abbrev LS:=@List.length_cons
abbrev LT:=@Nat.lt_of_lt_of_le
abbrev LU:=@List.getElem?_eq_getElem
abbrev LW:=@List.length_drop
abbrev LX:=@List.getElem?_take
abbrev LY:=@Nat.mul_le_mul_right
abbrev LZ:=@List.mem_of_mem_take
abbrev L3:=@List.foldl_cons
abbrev L4:=@List.all_cons
abbrev L5:=@List.cons_append
abbrev L6:=@List.filter_append
abbrev L7:=@List.pairwise_cons
abbrev L8:=@List.nil_append
abbrev L9:=@Nat.le_of_ble_eq_true
abbrev Ma:=@List.mem_flatMap
abbrev Mb:=@Option.map_eq_some_iff
abbrev Mc:=@List.mem_of_mem_drop
abbrev Md:=@List.mem_filter
abbrev Me:=@List.length_set
abbrev Mf:=@List.getElem?_toArray
abbrev Mg:=@List.all_eq_true
abbrev Mh:=@List.filter_cons
abbrev Mi:=@Array.getElem?_toList
abbrev Mj:=@Array.getElem?_append
abbrev Mk:=@Array.size_modify
abbrev Ml:=@Nat.min_eq_left
abbrev Mn:=@List.mem_append_left
abbrev Mo:=@Nat.add_mul
abbrev Mq:=@List.filterMap_cons
abbrev Mr:=@List.range'_1_concat
abbrev Ms:=@List.mem_of_getElem?
abbrev Mt:=@List.ext_getElem
abbrev Mu:=@List.idxOf_append
abbrev Mv:=@List.foldl_append
abbrev Mw:=@Array.getElem?_modify
abbrev Mx:=@Array.getElem?_eq_getElem
abbrev My:=@List.getElem?_append_left
abbrev Mz:=@List.getElem?_eq_some_iff
abbrev MA:=@List.mem_range'_1
abbrev MB:=@List.map_map
abbrev MC:=@List.idxOf_lt_length_of_mem
abbrev MD:=@List.length_filter_le
abbrev ME:=@List.nodup_nil
abbrev MF:=@List.pairwise_map
abbrev MG:=@Bool.or_eq_false_iff
abbrev MH:=@List.pairwise_iff_getElem
abbrev MI:=@List.mem_or_eq_of_mem_set
abbrev MJ:=@Int.toNat_natCast
abbrev MK:=@List.nodup_append
abbrev ML:=@Bool.not_eq_true'
abbrev MM:=@List.mem_filterMap
abbrev MN:=@List.filter_eq_nil_iff
abbrev MO:=@List.map_congr_left
abbrev MP:=@Array.size_append
abbrev MQ:=@List.take_append_of_le_length
abbrev MR:=@List.getElem?_eq_none
abbrev MS:=@List.take_append_drop
abbrev MT:=@List.getElem_append_left
abbrev MU:=@List.headD_cons
abbrev MW:=@List.getElem?_drop
abbrev MX:=@List.getElem?_append_right
abbrev MY:=@List.tail_cons
abbrev MZ:=@List.filter_sublist
abbrev M0:=@List.nodup_cons
abbrev M1:=@List.getElem_set
abbrev M2:=@List.range'_succ
abbrev M3:=@List.map_singleton
abbrev M4:=@Nat.add_comm
abbrev M5:=@List.take_take
abbrev M6:=@List.forall_mem_cons
abbrev M7:=@List.ext_getElem?
abbrev M8:=@Nat.add_sub_cancel_left
abbrev M9:=@Option.bind_eq_some_iff
abbrev Na:=@Nat.not_lt_zero
abbrev Nb:=@List.length_nil
abbrev Nc:=@List.filter_nil
abbrev Nd:=@List.take_succ_cons
abbrev Nf:=@Nat.lt_irrefl
abbrev Ng:=@List.take_length
abbrev Nh:=@Array.getElem?_mapIdx
abbrev Ni:=@List.singleton_append
abbrev Nj:=@Option.isNone_iff_eq_none
abbrev Nk:=@Option.map_some
abbrev Nl:=@Nat.add_zero
abbrev Nm:=@List.getElem_take
abbrev Nn:=@List.map_nil
abbrev Np:=@List.any_eq_false
abbrev Nq:=@List.getElem?_set_ne
abbrev Nr:=@List.map_take
abbrev Ns:=@List.eq_of_mem_replicate
abbrev Nt:=@List.zipIdx_cons
abbrev Nu:=@List.mem_range
abbrev Nv:=@List.foldl_nil
abbrev Nw:=@Nat.mod_eq_of_lt
abbrev Nx:=@List.pairwise_lt_range'
abbrev Ny:=@Int.le_refl
abbrev Nz:=@Option.isSome_none
abbrev NA:=@Bool.false_eq_true
abbrev NB:=@Nat.sub_zero
abbrev NC:=@List.set_cons_succ
abbrev ND:=@List.range_succ
abbrev NE:=@Nat.one_mul
theorem oz.{u,v}{α:Sort u}{β:Sort v}{a:α}{b:β}:a=a/\b=b/\True:=⟨rfl,rfl,trivial⟩
theorem oA.{u,v,w}{α:Sort u}{β:Sort v}{γ:Sort w}{a:α}{b:β}{c:γ}:a=a/\b=b/\c=c/\True:=⟨rfl,rfl,rfl,trivial⟩
theorem oB.{u,v,w,x}{α:Sort u}{β:Sort v}{γ:Sort w}{δ:Sort x}{a:α}{b:β}{c:γ}{d:δ}:a=a/\b=b/\c=c/\d=d/\True:=⟨rfl,rfl,rfl,rfl,trivial⟩
end Go
namespace Go.Lg
open Go.RowKit
abbrev Fr:=Nat->OY
def upd (f:Fr)(d:Nat)(v:OY):Fr:=λt=>bif OO t d then v else f t
def ev (f:Fr):OZ->OY
 | .tmp t=>f t
 | .const v=>v
 | .global g=>.pointer (some ⟨g,0,none⟩)
 | .func g=>.func (.func g) #[] #[]
def QT (f:Fr):xz->OY->Fr
 | some d,v=>upd f d v
 | none,_=>f
structure Rel (n:Nat)(a:Act)(f:Fr):Prop where
 size:a.tmps.size=n
 defers:a.defers=[]
 get:∀t,a.tmps.getD t undef=f t
theorem YJ (f:Fr)(d:Nat)(v:OY):upd f d v d=v:=by simp[upd]
theorem JV (f:Fr){d:Nat}(v:OY)(h:t≠d):upd f d v t=f t:=by
 have:OO t d=false:=by
  cases e:OO t d with
  | false=>rfl
  | true=>exact OS (Nat.eq_of_beq_eq_true e) h
 simp[upd,this]
theorem Rel.eval {n:Nat}{a:Act}{f:Fr}(h:Rel n a f):a.eval=ev f:=by
 funext x;cases x with
 | tmp t=>exact h.get t
 | _=>rfl
theorem Rel.put {n:Nat}{a:Act}{f:Fr}(h:Rel n a f){dst:xz}(hd:∀d,dst=some d->d<n)(v:OY):Rel n (a.put dst v) (QT f dst v):=by
 cases dst with
 | none=>exact h
 | some d =>
  have E:d<a.tmps.size:=by rw[h.size];exact hd d U
  refine⟨by simp[Act.put,h.size],h.defers,λt=>?_⟩;by_cases e:t=d
  ·subst e;rw[QT,YJ];simp[Act.put,E]
  rw[QT,JV _ _ e,<-h.get t];simp[Act.put,Array.getElem?_setIfInBounds_ne (Ne.symm e)]
def Yd (l:xx)(t:Nat):Bool:=l.any λo=>match o.dst with|some d=>OO d t|none=>false
def wrs:Code->Nat->Bool
 | .region _ ops _,t=>Yd ops.toList t
 | .seq a b,t=>wrs a t || wrs b t
 | .cond _ a b,t=>wrs a t || wrs b t
 | .block _ a,t=>wrs a t
 | .loop a,t=>wrs a t
 | .skip,_| .exit _,_| .label _,_| .goto _,_| .ret,_=>false
 | _,_=>true
def Xa (D:xp)(t:Nat):Bool:=match D with
 | []=>false
 | (lo,hi)::D=>bif (Nat.ble lo t && Nat.ble t hi)then true else Xa D t
def inD (D:xp)(d:xz):Bool:=match d with|none=>true|some d=>Xa D d
def Qdc (D:xp)(l:xx):Bool:=l.all λo=>inD D o.dst
def wr (D:xp):Code->Bool
 | .region _ ops _=>Qdc D ops.toList
 | .seq a b=>wr D a && wr D b
 | .cond _ a b=>wr D a && wr D b
 | .block _ a=>wr D a
 | .loop a=>wr D a
 | .skip| .exit _| .label _| .goto _| .ret=>true
 | _=>false
theorem yF {D:xp}{l:xx}(h:Qdc D l=true)(G:Xa D t=false):Yd l t=false:=by
 unfold Qdc at h;unfold Yd;rw[Np];intro o H;have E:=Mg.1 h o H;cases hd:o.dst with
 | none=>simp
 | some d =>
  rw[hd]at E;simp only[inD]at E;intro e;have:=Nat.eq_of_beq_eq_true e;subst this;rw[E]at G;cases G
theorem KH {D:xp}{t:Nat}(E:Xa D t=false):∀c:Code,wr D c=true->wrs c t=false
 | .region _ ops _,h=>yF h E
 | .seq a b,h=>by simp only[wr,oJ]at h;simp[wrs,KH E a h.1,KH E b h.2]
 | .cond _ a b,h=>by simp only[wr,oJ]at h;simp[wrs,KH E a h.1,KH E b h.2]
 | .block _ a,h=>KH E a (by simpa[wr]using h)
 | .loop a,h=>KH E a (by simpa[wr]using h)
 | .skip,_=>rfl
 | .exit _,_=>rfl
 | .label _,_=>rfl
 | .goto _,_=>rfl
 | .ret,_=>rfl
 | .rangeFunc ..,h=>by simp[wr]at h
 | .scope _,h=>by simp[wr]at h
 | .refuse _,h=>by simp[wr]at h
def mix (D:xp)(f g:Fr):Fr:=λt=>bif Xa D t then g t else f t
theorem X5 {D:xp}{f g:Fr}(h:∀t,Xa D t=false->g t=f t):mix D f g=g:=by
 funext t;unfold mix;cases e:Xa D t with
 | false=>exact(h t e).symm
 | true=>rfl
def qh (S:List (Nat×OY))(f:Fr):Fr:=match S with
 | []=>f
 | (t,v)::S=>upd (qh S f) t v
def Xn (f:Fr):List (Nat×OY)->Prop
 | []=>True
 | (t,v)::S=>f t=v/\Xn f S
theorem Y0 {f:Fr}:∀{S:List (Nat×OY)},Xn f S->qh S f=f
 | [],_=>rfl
 | (t,v)::S,h=>by
  funext s;simp only[qh,Y0 h.2];by_cases e:s=t
  ·subst e;rw[YJ];exact h.1.symm
  exact JV _ _ e
def W (P:O0)(n:Nat)(c:Code)(Q:Exit->Fr->OX->Prop)(f:Fr)(w:OX):Prop :=
 ∀a,Rel n a f->c.wp P (λe E w'=>∃f',Rel n E f'/\(∀t,wrs c t=false->f' t=f t)/\Q e f' w') a w
def thn (K:Fr->OX->Prop)(Q:Exit->Fr->OX->Prop):Exit->Fr->OX->Prop
 | .normal,f,w=>K f w
 | e,f,w=>Q e f w
def blk (id:Nat)(Q:Exit->Fr->OX->Prop):Exit->Fr->OX->Prop
 | .exit i,f,w=>bif OO i id then Q .normal f w else Q (.exit i) f w
 | e,f,w=>Q e f w
section
variable {Q:Exit->Fr->OX->Prop}{f:Fr}
theorem W.mono {c:Code}{Q':Exit->Fr->OX->Prop}(h:W P n c Q f w)(E:∀e f w,Q e f w->Q' e f w):W P n c Q' f w :=
 λa G=>wp_mono (h a G) λ_ _ _ ⟨H,I,J,O⟩=>⟨H,I,J,E _ _ _ O⟩
theorem W.keeps {c:Code}(h:W P n c Q f w):W P n c (λe E w'=>(∀t,wrs c t=false->E t=f t)/\Q e E w') f w :=
 λa H=>wp_mono (h a H) λ_ _ _ ⟨E,I,G,J⟩=>⟨E,I,G,G,J⟩
theorem Qh (h:Q .normal f w):W P n .skip Q f w:=λ_ E=>wp_skip ⟨f,E,λ_ _=>U,h⟩
theorem Qz (h:Q (.exit i) f w):W P n (.exit i) Q f w:=λ_ E=>wp_exit ⟨f,E,λ_ _=>U,h⟩
theorem Qk (h:Q .ret f w):W P n .ret Q f w:=λ_ E=>wp_ret ⟨f,E,λ_ _=>U,h⟩
theorem Qd {x y:Code}(h:W P n x (thn (λf w=>W P n y Q f w) Q) f w):W P n (.seq x y) Q f w:=by
 intro a J;refine wp_seq (wp_mono (h a J) ?_);rintro e O w' ⟨E,G,S,H⟩;have k1:∀t,wrs (.seq x y) t=false->E t=f t:=λt I=>S t (by simp only[wrs,Oc]at I;exact I.1);cases e with
 | normal =>
  refine wp_mono (H O G) λ_ _ _ ⟨T,g1,V,Y⟩=>⟨T,g1,λt I=>(V t ?_).D (k1 t I),Y⟩;simp only[wrs,Oc]at I;exact I.2
 | exit id=>exact⟨E,G,k1,H⟩
 | goto l=>exact⟨E,G,k1,H⟩
 | ret=>exact⟨E,G,k1,H⟩
 | panic ch=>exact⟨E,G,k1,H⟩
 | outgrown=>exact⟨E,G,k1,H⟩
theorem Za {x y:Code}(D:xp)(S:α->List (Nat×OY))(I:α->OX->Prop)(J:wr D x=true)
  (O:W P n x (thn (λG w'=>∃z,Xn G (S z)/\I z w') Q) f w)
  (T:∀z g w',I z w'->W P n y Q (qh (S z) (mix D f g)) w'):W P n (.seq x y) Q f w:=by
 refine Qd (O.keeps.mono ?_);rintro e G w' ⟨V,E⟩;cases e with
 | normal =>
  obtain⟨z,Y,hi⟩:=E;have H:=T z G w' hi;rw[X5 (λt ht=>V t (KH ht x J)),Y0 Y]at H;exact H
 | exit id=>exact E
 | goto l=>exact E
 | ret=>exact E
 | panic ch=>exact E
 | outgrown=>exact E
theorem QQ {c:OZ}{x y:Code}{t:Bool}(H:ev f c=.bool t)(E:t=true->W P n x Q f w)(I:t=false->W P n y Q f w):
  W P n (.cond c x y) Q f w:=by
 intro a G;have J:a.eval c=.bool t:=by rw[G.eval];exact H
 refine wp_cond_split J (λe=>wp_mono (E e a G) ?_) (λe=>wp_mono (I e a G) ?_) <;>
  (rintro e Y w' ⟨O,S,T,V⟩
   refine⟨O,S,λt E=>T t ?_,V⟩;simp only[wrs,Oc]at E
   first|exact E.1|exact E.2)
theorem QX {c:OZ}{x y:Code}{p:Prop}[Decidable p](E:ev f c=.bool (decide p))(G:p->W P n x Q f w)(H:¬p->W P n y Q f w):
  W P n (.cond c x y) Q f w :=
 QQ E (λe=>G (OU e)) (λe=>H (OW e))
theorem QH {c:OZ}{x y:Code}{p:Prop}[Decidable p](E:ev f c=.bool (decide p))(G:¬p->W P n y Q f w)(H:p->W P n x Q f w):
  W P n (.cond c x y) Q f w:=QX E H G
theorem yi {c:OZ}{x y:Code}(E:ev f c=.bool true)(h:W P n x Q f w):W P n (.cond c x y) Q f w:=QQ E (λ_=>h) (λe=>by cases e)
theorem ZS {c:OZ}{x y:Code}(E:ev f c=.bool false)(h:W P n y Q f w):W P n (.cond c x y) Q f w:=QQ E (λe=>by cases e) (λ_=>h)
theorem Qg {c:Code}(h:W P n c (blk id Q) f w):W P n (.block id c) Q f w:=by
 intro a I;refine wp_block (wp_mono (h a I) ?_);rintro e T w' ⟨G,H,J,E⟩;have k1:∀t,wrs (.block id c) t=false->G t=f t:=λt O=>J t (by simpa[wrs]using O);cases e with
 | exit i =>
  simp only[Exit.inBlock];simp only[blk]at E;by_cases hi:i=id
  ·subst hi;simp only[Nat.beq_refl,cond_true]at E;simp only[if_true];exact⟨G,H,k1,E⟩
  have S:OO i id=false:=by
   cases e:OO i id with
   | false=>rfl
   | true=>exact OS (Nat.eq_of_beq_eq_true e) hi
  rw[S]at E;rw[OP hi];exact⟨G,H,k1,E⟩
 | normal=>exact⟨G,H,k1,E⟩
 | goto l=>exact⟨G,H,k1,E⟩
 | ret=>exact⟨G,H,k1,E⟩
 | panic ch=>exact⟨G,H,k1,E⟩
 | outgrown=>exact⟨G,H,k1,E⟩
theorem QD {c:Code}(D:xp)(S:α->List (Nat×OY))(I:α->OX->Prop)(m:α->Nat)(hD:wr D c=true)(z:α)
  (h0:Xn f (S z)) (hI:I z w)
  (round:∀x g w',I x w'->W P n c (thn (λG V=>∃O,m O<m x/\Xn G (S O)/\I O V) Q) (qh (S x) (mix D f g)) w'):W P n (.loop c) Q f w:=by
 intro a ha;refine wp_loop_ghost (λ(x:α) T w'=>∃G,Rel n T G/\(∀t,wrs c t=false->G t=f t)/\Xn G (S x)/\I x w') m z ⟨f,ha,λ_ _=>U,h0,hI⟩ ?_;rintro x T w' ⟨G,h1,Y,h3,h4⟩;have h5:=round x G w' h4;rw[X5 (λt H=>Y t (KH H c hD)),Y0 h3]at h5;refine wp_mono (h5 T h1) ?_;rintro e hb V ⟨E,g1,g2,J⟩;have k1:∀t,wrs c t=false->E t=f t:=λt H=>(g2 t H).D (Y t H);have k2:∀t,wrs (.loop c) t=false->E t=f t:=λt H=>k1 t (by simpa[wrs]using H);cases e with
 | normal=>obtain⟨O,hm,hs,hi⟩:=J;exact⟨O,hm,E,g1,k1,hs,hi⟩
 | exit id=>exact⟨E,g1,k2,J⟩
 | goto l=>exact⟨E,g1,k2,J⟩
 | ret=>exact⟨E,g1,k2,J⟩
 | panic ch=>exact⟨E,g1,k2,J⟩
 | outgrown=>exact⟨E,g1,k2,J⟩
 where
 wp_loop_ghost {α:Type} {P:O0} {c:Code} {Q:Exit->Act->OX->Prop} {a:Act} {w:OX} (J:α->Act->OX->Prop) (m:α->Nat) (z:α) (h₀:J z a w)
   (round:∀x a w,J x a w->c.wp P (Exit.then (λa' w'=>∃x',m x'<m x/\J x' a' w') Q) a w):(Code.loop c).wp P Q a w:=by
  intro b k cs
  have key:∀i x a w,m x=i->J x a w ->
    ∃e a' w',Q e a' w'/\Arrives P (lone (b.at a (.code c::.inLoop c::k)) cs w) b k cs e a' w':=by
   intro i
   induction i using Nat.strongRecOn with
   | _ i ih =>
    intro x a w hx hJ
    obtain⟨e,a₁,w₁,hq,harr⟩:=round x a w hJ b (.inLoop c::k) cs
    cases e with
    | normal =>
     obtain⟨x',hlt,hJ'⟩:=hq
     obtain⟨e₂,a₂,w₂,hq₂,harr₂⟩:=ih (m x') (hx ▸ hlt) x' a₁ w₁ rfl hJ'
     exact⟨e₂,a₂,w₂,hq₂,.of_steps (Steps.trans harr (.one step_inLoop)) harr₂⟩
    | exit id=>exact⟨_,a₁,w₁,hq,.pass (x:=.inLoop c) rfl (λ_ _=>.inl oe) harr⟩
    | goto l=>exact⟨_,a₁,w₁,hq,.pass (x:=.inLoop c) rfl (λ_ _=>.inl oe) harr⟩
    | ret=>exact⟨_,a₁,w₁,hq,.pass (x:=.inLoop c) rfl (λ_ _=>.inl oe) harr⟩
    | panic ch=>exact⟨_,a₁,w₁,hq,.pass (x:=.inLoop c) rfl (λ_ _=>.inl oe) harr⟩
    | outgrown=>exact⟨_,a₁,w₁,hq,.pass (x:=.inLoop c) rfl (λ_ _=>.inl oe) harr⟩
  obtain⟨e,a',w',hq,harr⟩:=key _ z a w rfl h₀
  exact⟨e,a',w',hq,.of_steps (.one step_loop) harr⟩
end
def upF (P:O0)(dst:xz)(f:Fr)(K:Fr->OX->Prop):Result Next->Prop
 | .ok (.value v) w'=>K (QT f dst v) w'
 | .ok .skip w'=>K (QT f dst undef) w'
 | .ok (.enter g args) w'=>Calls P g args w' λe E=>match e with| .returned v=>K (QT f dst v) E|_=>False
 | _=>False
def XO (P:O0)(o:Oper)(f:Fr)(w:OX)(K:Fr->OX->Prop):Prop:=upF P o.dst f K ((execOp (ev f) o).run P w)
def Ya (ops:xx)(f:Fr)(o:Oper):Bool:=match o.guard with
 | none=>true
 | some (j,want)=>match (ops[j]?).bind (·.dst)with
  | some d=>(match f d with| .bool b=>bif want then b else !b|_=>false)
  | none=>false
def XL (P:O0)(ops:xx)(K:Fr->OX->Prop):xx->Fr->OX->Prop
 | [],f,w=>K f w
 | o::l,f,w=>bif Ya ops f o then XO P o f w (XL P ops K l)else XL P ops K l (QT f o.dst undef) w
theorem UC {l:xx}{a:Act}{f:Fr}(h:Rel n a f)(H:∀o∈l,∀d,o.dst=some d->d<n)(o:Oper):Region.wanted o (yielded l.toArray a.tmps)=Ya l f o:=by
 unfold Region.wanted Ya;cases o.guard with
 | none=>rfl
 | some p =>
  obtain⟨j,want⟩:=p;simp only[yielded,oY];cases I:(l[j]?)with
  | none=>simp
  | some o' =>
   cases hd:o'.dst with
   | none=>simp[hd]
   | some d =>
    have E:d<a.tmps.size:=by rw[h.size];exact H o' (Ms I) d hd
    have G:=h.get d;simp only[Option.bind_some,hd,Od E];simp[E]at G;rw[G];cases f d <;> simp
    cases want <;> simp
theorem Ql7 {a:Act}{f:Fr}{K:Fr->OX->Prop}{K':Act->OX->Prop}{Q:Exit->Act->OX->Prop}(h:Rel n a f)
  (hK:∀v w',K (QT f o.dst v) w'->K' (a.put o.dst v) w') (hx:XO P o f w K):o.wp P a w K' Q:=by
 unfold XO at hx;unfold Oper.wp;rw[h.eval];generalize (execOp (ev f) o).run P w=r at hx;cases r with
 | ok nx w' =>
  cases nx <;> simp only[upF]at hx <;> simp only[Oper.upon]
  case value v=>exact hK v w' hx
  case skip=>exact hK _ w' hx
  case enter g args =>
   refine Calls.mono hx λe G E=>?_;cases e with
   | returned v=>exact hK v G E
   | panicked c=>exact E.elim
   | outgrown=>exact E.elim
 | halt x w'=>exact hx.elim
theorem XO.mono {P:O0}{o:Oper}{f:Fr}{w:OX}{K K':Fr->OX->Prop}(hK:∀v w',K (QT f o.dst v) w'->K' (QT f o.dst v) w')(hx:XO P o f w K):XO P o f w K':=by
 unfold XO at *;generalize (execOp (ev f) o).run P w=r at *;cases r with
 | ok nx w' =>
  cases nx <;> simp only[upF]at hx ⊢
  case value v=>exact hK v w' hx
  case skip=>exact hK _ w' hx
  case enter g args =>
   refine Calls.mono hx λe G E=>?_;cases e with
   | returned v=>exact hK v G E
   | panicked c=>exact E.elim
   | outgrown=>exact E.elim
 | halt x w'=>exact hx.elim
def XI (n:Nat)(l:xx):Bool:=l.all λo=>match o.dst with|some d=>Nat.blt d n|none=>true
theorem Xh {l:xx}(h:XI n l=true):∀o∈l,∀d,o.dst=some d->d<n:=by
 intro o E d hd;have:=Mg.1 h o E;simp only[hd,Nat.blt_eq]at this;exact this
theorem Jn {l:xx}(E:o∈l)(h:Yd l t=false):o.dst≠some t:=by
 intro e;have:=Np.1 h o E;simp[e]at this
theorem Y1 {f:Fr}{dst:xz}(h:dst≠some t)(v:OY):QT f dst v t=f t:=by
 cases dst with
 | none=>rfl
 | some d=>exact JV _ _ (λe=>h (by rw[e]))
section
variable {Q:Exit->Fr->OX->Prop}{f:Fr}
theorem Ql8 {all:xx}(G:∀o∈all,∀d,o.dst=some d->d<n)(H:Fr):
  ∀(l:xx) (k:Nat) (a:Act) (f:Fr) (w:OX),(∀j,l[j]?=all[k+j]?)->Rel n a f->(∀t,Yd all t=false->f t=H t) ->
   XL P all (λf w=>Q .normal f w) l f w ->
   wpOps P all.toArray (λe V w'=>∃f',Rel n V f'/\(∀t,Yd all t=false->f' t=H t)/\Q e f' w') (oQ k l.length) a w
 | [],_,a,f,w,_,E,I,h=>⟨f,E,I,h⟩
 | o::l,k,a,f,w,hl,E,I,h=>by
  have O:all[k]?=some o:=by simpa using(hl 0).symm
  have J:o∈all:=Ms O;have ih:=λa f w=>Ql8 G H l (k+1) a f w (λj=>by have:=hl (j+1);simpa[OG,Nat.add_comm 1 j]using this);have next:∀v,(∀t,Yd all t=false->QT f o.dst v t=H t):=λv t S=>(Y1 (Jn J S) v).D (I t S);simp only[oU,Ov,wpOps,oY,O];rw[UC E G o];simp only[XL]at h;cases T:Ya all f o with
  | false =>
   rw[T]at h;exact ih _ _ _ (E.put (G o J) _) (next _) h
  | true =>
   rw[T]at h;exact .inl (Ql7 E (λv w' hx=>ih _ _ _ (E.put (G o J) v) (next v) hx) h)
theorem QbV {l:xx}(E:XI n l=true)(h:XL P l (λf w=>Q .normal f w) l f w):W P n (.region id l.toArray false) Q f w:=by
 intro a G;refine wp_region ?_;have:=Ql8 (Xh E) f l 0 a f w oe G (λ_ _=>rfl) h;simpa[List.range_eq_range',wrs]using this
end
def UH (o:Oper):Bool:=match o.op with
 | .move _| .assign _| .pick .. | .alloc _| .box .. | .build .. | .buildSlice .. | .store .. | .nilCheck _| .binOp .. | .unOp .. | .makeFunc .. | .makeMap .. | .makeSlice .. | .fieldAddr .. | .field .. | .indexAddr .. | .index .. | .extract .. | .insert .. | .mapUpdate ..=>false
 | .slice ..=>false
 | .call ⟨.builtin .append,_,_⟩=>false
 | .call ⟨.builtin .min,_,_⟩=>false
 | .call ⟨.builtin .max,_,_⟩=>false
 | .call ⟨.builtin .len,_,_⟩=>false
 | .call ⟨.value _,_,_⟩=>false
 | _=>true
def Vr (all:xx)(j:Nat):Bool:=match all[j]? with
 | none=>false
 | some o=>(oW all.length).all λi=>match all[i]? with
  | none=>true
  | some oi=>!UH oi || i == j || o.after.any λe=>Region.binds .any e && e.on == i
def XA (P:O0)(all:xx)(C:xt)(K:Fr->OX->Prop):Nat->Array Bool->Fr->OX->Prop
 | 0,ls,f,w=>Region.ready .any all.toArray ls=[]/\K f w
 | k+1,ls,f,w=>(Region.ready .any all.toArray ls=[]->K f w) /\
  ∀i∈Region.ready .any all.toArray ls,∀o,all[i]?=some o ->
   bif Ya all f o then XO P o f w (λE w'=>(Vr all i=true\/w'=w\/C w')/\XA P all C K k (ls.setIfInBounds i true) E w')else XA P all C K k (ls.setIfInBounds i true) (QT f o.dst undef) w
section
variable {f:Fr}{all:xx}{C:xt}{K:Fr->OX->Prop}
theorem Qet {Q:Exit->Act->OX->Prop}(G:∀o∈all,∀d,o.dst=some d->d<n)(H:Fr)
  (I:∀a f w,Rel n a f->(∀t,Yd all t=false->f t=H t)->K f w->Q .normal a w):
  ∀(k:Nat) (ls:Array Bool) (a:Act) (f:Fr) (w:OX),Rel n a f->(∀t,Yd all t=false->f t=H t)->XA P all C K k ls f w->wpAny P .any all.toArray Q k ls a w
 | 0,_,a,f,w,E,J,h=>⟨h.1,I a f w E J h.2⟩
 | k+1,ls,a,f,w,E,J,h=>by
  refine⟨λh0=>I a f w E J (h.1 h0),λi hi=>?_⟩;unfold wpOp;simp only[oY];cases S:all[i]? with
  | none =>
   exfalso;obtain⟨_,o,ha,_⟩:=mem_ready.1 hi;simp[S]at ha
  | some o =>
   have T:o∈all:=Ms S;have O:=h.2 i hi o S;have next:∀v,(∀t,Yd all t=false->QT f o.dst v t=H t):=λv t V=>(Y1 (Jn T V) v).D (J t V);simp only[];rw[UC E G o];cases Y:Ya all f o with
   | false =>
    rw[Y]at O;exact Qet G H I k _ _ _ _ (E.put (G o T) _) (next _) O
   | true =>
    rw[Y]at O;exact .inl (Ql7 E (λv w' hx=>Qet G H I k _ _ _ _ (E.put (G o T) v) (next v) hx.2) O)
theorem J3 (f:Fr){x y:xz}(v u:OY)(h:∀d,x=some d->y≠some d):QT (QT f x v) y u=QT (QT f y u) x v:=by
 cases x with
 | none=>rfl
 | some d =>
  cases y with
  | none=>rfl
  | some e =>
   have H:d≠e:=λI=>h d U (I ▸ U);funext t;simp only[QT];by_cases E:t=d
   ·subst E;rw[JV _ _ H,YJ,YJ]
   by_cases G:t=e
   ·subst G;rw[YJ,JV _ _ E,YJ]
   rw[JV _ _ G,JV _ _ E,JV _ _ E,JV _ _ G]
theorem Qk0 {f:Fr}{dst:xz}{v:OY}{x:OZ}(h:∀d,dst=some d->x≠.tmp d):ev (QT f dst v) x=ev f x:=by
 cases dst with
 | none=>rfl
 | some d =>
  cases x with
  | tmp t=>exact JV _ _ (λe=>h d U (by rw[e]))
  | _=>rfl
theorem Xm (E:∀cs b,o.op≠.select cs b)(f:Fr)(dst:xz)(v:OY)(h:∀d,dst=some d->d∉o.looksAt all.toArray):
  execOp (ev (QT f dst v)) o=execOp (ev f) o :=
 execOp_congr o E λx hx=>Qk0 λd hd G=>h d hd (by
  subst G;exact Mn _ (MM.2 ⟨.tmp d,oy hx,rfl⟩))
theorem X0 (o:Oper)(f:Fr)(dst:xz)(v:OY)(h:∀d,dst=some d->d∉o.looksAt all.toArray):Ya all (QT f dst v) o=Ya all f o:=by
 unfold Ya;cases E:o.guard with
 | none=>rfl
 | some gw =>
  obtain⟨g,want⟩:=gw;simp only[];cases G:(all[g]?).bind (·.dst)with
  | none=>rfl
  | some t =>
   have H:dst≠some t:=λe=>h t e (by simp[Oper.looksAt,E,G]);simp only[];rw[Y1 H]
def Qev (P:O0)(all:xx)(D:xt)(o:Oper)(v:OY)(f:Fr):Prop :=
 (Ya all f o=true/\∀w,D w->(execOp (ev f) o).run P w=.ok (.value v) w)\/(Ya all f o=false/\v=undef)
theorem Qky {oi oj:Oper}(hi:all[i]?=some oi)(G:all[j]?=some oj)(H:UH oi=true)(I:j≠i)(hl:Vr all j=true)(J:∀e∈oj.after,Region.binds .any e=true->e.on≠i):False:=by
 simp only[Vr,G,Og,List.mem_range]at hl;have O:i<all.length:=(Mz.1 hi).1;have E:=hl i O;simp only[hi,H,Bool.not_true,Bool.false_or,Bool.or_eq_true,beq_iff_eq,Array.any_eq_true',oJ]at E;rcases E with E|⟨e,S,T,V⟩
 ·exact I E.symm
 exact J e S T V
theorem Xb {oi:Oper}{v:OY}{D:xt}(hi:all[i]?=some oi)(hD:∀w,(UH oi=true->C w)->D w)(ha:∀(j:Nat) (o:Oper) cs b,all[j]?=some o->o.op≠.select cs b):
  ∀(fuel:Nat) (ls:Array Bool) (f:Fr) (w:OX),(UH oi=true->C w) ->
   (∀j oj,all[j]?=some oj->j≠i->ls.getD j true=false->(∀e∈oj.after,Region.binds .any e=true->e.on≠i)->oi.apart all.toArray oj=true) ->
   i∈Region.ready .any all.toArray ls->Qev P all D oi v f ->
   XA P all C K fuel (ls.setIfInBounds i true) (QT f oi.dst v) w->XA P all C K (fuel+1) ls f w:=by
 have hc:∀(fuel:Nat) (ls:Array Bool) (f:Fr) (w:OX),(UH oi=true->C w)->Qev P all D oi v f->XA P all C K fuel (ls.setIfInBounds i true) (QT f oi.dst v) w->∀o,all[i]?=some o ->
   bif Ya all f o then XO P o f w (λf' w'=>(Vr all i=true\/w'=w\/C w')/\XA P all C K fuel (ls.setIfInBounds i true) f' w')else XA P all C K fuel (ls.setIfInBounds i true) (QT f o.dst undef) w:=by
  intro fuel ls f w J T H o ho;rw[hi]at ho;cases ho
  rcases T with⟨V,hv⟩|⟨V,rfl⟩
  ·rw[V];simp only[cond_true,XO,hv w (hD w J),upF];exact⟨.inr (.inl Z),H⟩
  rw[V];exact H
 intro fuel;induction fuel with
 | zero =>
  intro ls f w J _ O T H;refine⟨λh=>(by rw[h]at O;cases O),λj hj=>?_⟩;by_cases I:j=i
  ·subst I;exact hc _ _ _ _ J T H
  have:=ready_mono hj I;rw[H.1]at this;cases this
 | succ fuel ih =>
  intro ls f w J hf O T H;refine⟨λh=>(by rw[h]at O;cases O),λj hj=>?_⟩;by_cases I:j=i
  ·subst I;exact hc _ _ _ _ J T H
  intro oj Y;have E:=H.2 j (ready_mono hj I) oj Y;obtain⟨hh,G,hm,ht⟩:=mem_ready.1 hj;have hu:G=oj:=by rw[Mf,Y]at hm;exact(Option.some.inj hm).symm
  subst hu;have hn:∀e∈G.after,Region.binds .any e=true->e.on≠i:=λe S hb hw=>by
   have E:=ht e S hb;have h0:=(mem_ready.1 O).1;rw[hw]at E;rcases OA i ls.size with h'|h'
   ·simp[h']at h0 E;rw[h0]at E;cases E
   simp[Array.getElem?_eq_none h']at E
  obtain⟨a1,a2,a3⟩:=Oper.apart_spec (hf j G Y I hh hn);have hz:∀k ok,all[k]?=some ok->k≠i->(ls.setIfInBounds j true).getD k true=false ->
    (∀e∈ok.after,Region.binds .any e=true->e.on≠i)->oi.apart all.toArray ok=true:=λk ok hk h2 hp h3=>by
   refine hf k ok hk h2 ?_ h3;by_cases hq:j=k
   ·subst hq;exact hh
   rw[getD_set_ne true hq]at hp;exact hp
  have keep:∀u,Qev P all D oi v (QT f G.dst u):=λu=>by
   unfold Qev at *;rw[X0 oi f G.dst u a3,Xm (all:=all) (ha i oi · · hi) f G.dst u a3];exact T
  have dOf:∀w',(Vr all j=true\/w'=w\/C w')->(UH oi=true->C w'):=λw' hl hs=>by
   rcases hl with hl|rfl|hl
   ·exact(Qky hi Y hs I hl hn).elim
   ·exact J hs
   exact hl
  have go:∀u w',(UH oi=true->C w')->XA P all C K fuel ((ls.setIfInBounds i true).setIfInBounds j true) (QT (QT f oi.dst v) G.dst u) w' ->
    XA P all C K (fuel+1) (ls.setIfInBounds j true) (QT f G.dst u) w':=λu w' h4 hx=>by
   refine ih _ _ _ h4 hz (ready_mono O (Ne.symm I)) (keep u) ?_;rw[Array.setIfInBounds_comm _ _ I,<-J3 f v u a2];exact hx
  rw[X0 G f oi.dst v a1]at E;cases V:Ya all f G with
  | false=>rw[V]at E;exact go _ _ J E
  | true =>
   rw[V]at E;simp only[cond_true]at E ⊢;unfold XO at *;rw[Xm (all:=all) (ha j G · · Y) f oi.dst v a1]at E;generalize (execOp (ev f) G).run P w=r at *;cases r with
   | ok nx w' =>
    cases nx <;> simp only[upF]at E ⊢
    case value u=>exact⟨E.1,go _ _ (dOf _ E.1) E.2⟩
    case skip=>exact⟨E.1,go _ _ (dOf _ E.1) E.2⟩
    case enter g args =>
     refine Calls.mono E λe h5 S=>?_;cases e with
     | returned u=>exact⟨S.1,go _ _ (dOf _ S.1) S.2⟩
     | panicked c=>exact S.elim
     | outgrown=>exact S.elim
   | halt x w'=>exact E.elim
def Y6 (all:Array Oper):xo->Array Bool->Bool
 | [],ls=>(Region.ready .any all ls).isEmpty
 | (i,true)::pl,ls=>(Region.ready .any all ls).contains i && Region.free .any all ls i && Y6 all pl (ls.setIfInBounds i true)
 | (i,false)::pl,ls=>Region.ready .any all ls == [i] && Y6 all pl (ls.setIfInBounds i true)
def zk (all:xx)(pl:xo):Bool:=Region.noSelect all.toArray && pl.length == all.length && Y6 all.toArray pl (oV all.length false)
def QV:xx->Nat->Oper
 | [],_=>default
 | o::_,0=>o
 | _::l,i+1=>QV l i
theorem Zj {l:xx}(h:l[i]?=some o):QV l i=o:=by
 induction l generalizing i with
 | nil=>simp at h
 | cons a l ih=>cases i with
  | zero=>simp at h;subst h;rfl
  | succ i=>exact ih (oy h)
def XP (P:O0)(all:xx)(C:xt)(K:Fr->OX->Prop):xo->Fr->OX->Prop
 | [],f,w=>K f w
 | (i,q)::pl,f,w=>bif Ya all f (QV all i)then
    (bif q then ∃v,(∀w',(UH (QV all i)=true->C w')->(execOp (ev f) (QV all i)).run P w'=.ok (.value v) w')/\XP P all C K pl (QT f (QV all i).dst v) w
     else XO P (QV all i) f w λE w'=>(Vr all i=true\/w'=w\/C w')/\XP P all C K pl E w')
   else XP P all C K pl (QT f (QV all i).dst undef) w
def QbT (all:xx)(ls:Array Bool):Prop:=∀i o,all[i]?=some o->UH o=true->ls.getD i false=true
theorem QbT.set {ls:Array Bool}(h:QbT all ls)(i:Nat):QbT all (ls.setIfInBounds i true):=λj o E G=>getD_set_true (h j o E G)
theorem ZN (S:Region.noSelect all.toArray=true):∀(pl:xo) (ls:Array Bool) (f:Fr) (w:OX),ls.size=all.length->(C w\/QbT all ls)->Y6 all.toArray pl ls=true->XP P all C K pl f w ->
  XA P all C K pl.length ls f w
 | [],ls,f,w,_,_,H,h=>⟨by simpa[Y6]using H,h⟩
 | (i,true)::pl,ls,f,w,T,V,H,h=>by
  simp only[Y6,oJ]at H;obtain⟨⟨J,hf⟩,Y⟩:=H;simp only[XP]at h;have O:i∈Region.ready .any all.toArray ls:=by simpa using J
  cases E:all[i]? with
  | none =>
   exfalso;obtain⟨_,o,h2,_⟩:=mem_ready.1 O;simp[E]at h2
  | some o =>
   rw[Zj E]at h;have hn:∀(j:Nat) (o:Oper) cs b,all[j]?=some o->o.op≠.select cs b:=λj o cs b hj=>Region.noSelect_spec S j o cs b (oy hj);have hq:=λj oj hj=>Region.free_spec (ops:=all.toArray) (md:=.any) (i:=i) (oi:=o) (listed:=ls) (oy E) hf j oj (oy hj);have ht:=(mem_ready.1 O).1;have hu:UH o=true->C w:=λhh=>V.resolve_right (λhi=>by
    have G:=hi i o E hh;have hm:i<ls.size:=by rw[T];exact(Mz.1 E).1
    simp[hm]at ht G;rw[ht]at G;cases G)
   have hw:C w\/QbT all (ls.setIfInBounds i true):=V.imp id (λh=>h.set i);have ha:(ls.setIfInBounds i true).size=all.length:=by simpa using T
   cases I:Ya all f o with
   | false =>
    rw[I]at h;exact Xb (v:=undef) (D:=λw=>UH o=true->C w) E (λ_ h=>h) hn pl.length ls f w hu hq O (.inr ⟨I,U⟩) (ZN S pl _ _ _ ha hw Y h)
   | true =>
    rw[I]at h;simp only[cond_true]at h;obtain⟨v,hv,hx⟩:=h;exact Xb (v:=v) (D:=λw=>UH o=true->C w) E (λ_ h=>h) hn pl.length ls f w hu hq O (.inl ⟨I,hv⟩) (ZN S pl _ _ _ ha hw Y hx)
 | (i,false)::pl,ls,f,w,T,V,H,h=>by
  simp only[Y6,oJ,beq_iff_eq]at H;obtain⟨J,Y⟩:=H;refine⟨λh0=>(by rw[h0]at J;cases J),?_⟩;have O:i∈Region.ready .any all.toArray ls:=by rw[J];simp
  rw[J];intro j hj o E;have:j=i:=by simpa using hj
  subst this;have ha:(ls.setIfInBounds j true).size=all.length:=by simpa using T
  simp only[XP,Zj E]at h;cases I:Ya all f o with
  | false=>rw[I]at h;exact ZN S pl _ _ _ ha (V.imp id (λh=>h.set j)) Y h
  | true =>
   rw[I]at h;simp only[cond_true,cond_false]at h ⊢;refine h.mono λv w' hx=>⟨hx.1,ZN S pl _ _ _ ha ?_ Y hx.2⟩;rcases hx.1 with hl|rfl|hc
   ·right;intro k ok hk hh;by_cases hy:k=j
    ·subst hy;have hm:k<ls.size:=by rw[T];exact(Mz.1 hk).1
     simp[hm]
    simp only[Vr,E,Og,List.mem_range]at hl;have G:=hl k (Mz.1 hk).1;simp only[hk,hh,Bool.not_true,Bool.false_or,Bool.or_eq_true,beq_iff_eq,Array.any_eq_true',oJ]at G;rcases G with G|⟨e,he,hb,h3⟩
    ·exact OS G hy
    obtain⟨_,o',hz,hi⟩:=mem_ready.1 O;have:o'=o:=by rw[Mf,E]at hz;exact(Option.some.inj hz).symm
    subst this;have:=hi e he hb;rw[h3]at this;exact getD_set_true this
   ·exact V.imp id (λh=>h.set j)
   exact .inl hc
theorem yj {Q:Exit->Fr->OX->Prop}(C:xt)(pl:xo)(I:P.follows .mixedOrders=true)(J:XI n all=true)(G:zk all pl=true)
  (O:C { w with drawn:=w.drawn+1 }) (h:XP P all C (λf w=>Q .normal f w) pl f { w with drawn:=w.drawn+1 }):W P n (.region id all.toArray true) Q f w:=by
 intro a S;simp only[zk,oJ,beq_iff_eq]at G;obtain⟨⟨T,hl⟩,G⟩:=G;refine wp_region_any I ?_;have H:=ZN T pl _ _ _ oe (.inl O) G h;rw[hl]at H;have V:=Qet (n:=n) (Q:=λe Y w'=>∃E,Rel n Y E/\(∀t,Yd all t=false->E t=f t)/\Q e E w') (Xh J) f
  (λa E w hr hk hq=>⟨E,hr,hk,hq⟩) _ _ a f _ S (λ_ _=>U) H
 simpa[wrs]using V
theorem JB {Q:Exit->Fr->OX->Prop}(C:xt)(G:P.follows .mixedOrders=true)(H:XI n all=true)
  (h:XA P all C (λf w=>Q .normal f w) all.length (oV all.length false) f { w with drawn:=w.drawn+1 }):W P n (.region id all.toArray true) Q f w:=by
 intro a I;refine wp_region_any G ?_;have J:=Qet (n:=n) (Q:=λe O w'=>∃E,Rel n O E/\(∀t,Yd all t=false->E t=f t)/\Q e E w') (Xh H) f
  (λa E w S T V=>⟨E,S,T,V⟩) _ _ a f _ I (λ_ _=>U) h
 simpa[wrs]using J
end
theorem XC {all:xx}{C:xt}{K:Fr->OX->Prop}{k:Nat}{ls:Array Bool}{f:Fr}(E:Region.ready .any all.toArray ls=[]->K f w)
  (h:∀i∈Region.ready .any all.toArray ls,∀o,all[i]?=some o ->
   bif Ya all f o then XO P o f w (λG w'=>(Vr all i=true\/w'=w\/C w')/\XA P all C K k (ls.setIfInBounds i true) G w')else XA P all C K k (ls.setIfInBounds i true) (QT f o.dst undef) w):XA P all C K (k+1) ls f w:=⟨E,h⟩
attribute [irreducible] W XL XP XO XA
class Sl (P:O0)(t:Nat)(e sz bys:outParam Nat)(z:outParam OY):Prop where
 u:P.underlying t=some (.slice e)
 i:(P.info? e).map (λi=>(i.zero,i.size,i.bytes))=some (some z,sz,bys)
 zs:z.cells.size=sz
 pos:0<sz
def QoB (P:O0)(t j:Nat):xz:=match P.underlying t with
 | some (.struct fs)=>match fs[j]? with
  | some fd=>match P.info? fd.type with
   | some i=>if i.size=0 then none else some fd.offset
   | none=>none
  | none=>none
 | _=>none
class Zk (P:O0)(t j:Nat)(off:outParam Nat):Prop where
 h:QoB P t j=some off
class X7 (P:O0)(t:Nat):Prop where
 u:∃d,P.underlying t=some d/\(match d with| .struct _| .array ..=>false|_=>true)=true
 i:(P.info? t).map (·.size)=some 1
class Ag (P:O0)(t:Nat)(sz:outParam Nat):Prop where
 u:∃d,P.underlying t=some d/\(match d with| .struct _| .array ..=>true|_=>false)=true
 i:(P.info? t).map (·.size)=some sz
class Ze (P:O0)(t:Nat)(z:outParam OY):Prop where
 i:(P.info? t).map (·.zero)=some (some z)
class Fu (P:O0)(g:Nat)(fn:outParam Func):Prop where
 f:P.funcs[g]?=some fn
 b:fn.body.isNone=false
 nm:(fn.name == "runtime.NumGoroutine")=false
section
variable {K:Fr->OX->Prop}{f:Fr}
theorem xe (h:K f w):XL P ops K [] f w:=by simp only[XL];exact h
theorem xl {l:xx}(E:Ya ops f o=true)(h:XO P o f w (XL P ops K l)):XL P ops K (o::l) f w:=by
 simp only[XL,E,cond_true];exact h
theorem xs {l:xx}(E:Ya ops f o=false)(h:XL P ops K l (QT f o.dst undef) w):XL P ops K (o::l) f w:=by
 simp only[XL,E,cond_false];exact h
theorem xv {v:OY}(E:(execOp (ev f) o).run P w=.ok (.value v) w')(h:K (QT f o.dst v) w'):XO P o f w K:=by
 simp only[XO,E,upF];exact h
theorem xk (E:(execOp (ev f) o).run P w=.ok .skip w')(h:K (QT f o.dst undef) w'):XO P o f w K:=by
 simp only[XO,E,upF];exact h
theorem x {l:xx}{v:OY}(E:(execOp (ev f) o).run P w=.ok (.value v) w)(h:XL P ops K l (QT f o.dst v) w)(G:Ya ops f o=true:=by rfl):XL P ops K (o::l) f w :=
 xl G (xv E h)
theorem xb {l:xx}{q:Prop}[Decidable q](E:(execOp (ev f) o).run P w=.ok (.value (.bool (decide q))) w)(H:q->XL P ops K l (QT f o.dst (.bool true)) w)(I:¬q->XL P ops K l (QT f o.dst (.bool false)) w)
  (G:Ya ops f o=true:=by rfl):XL P ops K (o::l) f w:=by
 by_cases h:q
 ·rw[OT h]at E;exact x E (H h) G
 rw[OV h]at E;exact x E (I h) G
variable {C:xt}
theorem pe (h:K f w):XP P ops C K [] f w:=by simp only[XP];exact h
theorem pq {v:OY}(E:∀w',C w'->(execOp (ev f) (QV ops i)).run P w'=.ok (.value v) w')(h:XP P ops C K pl (QT f (QV ops i).dst v) w)
  (hd:UH (QV ops i)=true:=by rfl) (G:Ya ops f (QV ops i)=true:=by rfl):XP P ops C K ((i,true)::pl) f w:=by
 simp only[XP,G,cond_true];exact⟨v,λw' H=>E w' (H hd),h⟩
theorem p {v:OY}(E:∀w',(execOp (ev f) (QV ops i)).run P w'=.ok (.value v) w')(h:XP P ops C K pl (QT f (QV ops i).dst v) w)
  (G:Ya ops f (QV ops i)=true:=by rfl):XP P ops C K ((i,true)::pl) f w:=by
 simp only[XP,G,cond_true];exact⟨v,λw' _=>E w',h⟩
theorem ps {q:Bool}(h:XP P ops C K pl (QT f (QV ops i).dst undef) w)
  (E:Ya ops f (QV ops i)=false:=by rfl):XP P ops C K ((i,q)::pl) f w:=by
 simp only[XP,E,cond_false];exact h
theorem pb {q:Prop}[Decidable q](E:∀w',(execOp (ev f) (QV ops i)).run P w'=.ok (.value (.bool (decide q))) w')(H:q->XP P ops C K pl (QT f (QV ops i).dst (.bool true)) w)(I:¬q->XP P ops C K pl (QT f (QV ops i).dst (.bool false)) w)
  (G:Ya ops f (QV ops i)=true:=by rfl):XP P ops C K ((i,true)::pl) f w:=by
 by_cases h:q
 ·rw[OT h]at E;exact p E (H h) G
 rw[OV h]at E;exact p E (I h) G
theorem pk (h:XO P (QV ops i) f w λE w'=>C w'/\XP P ops C K pl E w')
  (G:Ya ops f (QV ops i)=true:=by rfl):XP P ops C K ((i,false)::pl) f w:=by
 simp only[XP,G,cond_true,cond_false];exact h.mono λ_ _ hx=>⟨.inr (.inr hx.1),hx.2⟩
theorem pkl (h:XO P (QV ops i) f w λE w'=>XP P ops C K pl E w')
  (hl:Vr ops i=true:=by rfl) (G:Ya ops f (QV ops i)=true:=by rfl):XP P ops C K ((i,false)::pl) f w:=by
 simp only[XP,G,cond_true,cond_false];exact h.mono λ_ _ hx=>⟨.inl hl,hx⟩
end
section
variable {f:Fr}{pS:String}
theorem Kh {x:OZ}:(execOp (ev f) ⟨d,.move x,ty,pS,af,gd⟩).run P w=.ok (.value (ev f x)) w:=by simp[execOp]
theorem Ql {x:OZ}:(execOp (ev f) ⟨d,.assign x,ty,pS,af,gd⟩).run P w=.ok (.value (ev f x)) w:=by simp[execOp]
theorem zh {c a b:OZ}{t:Bool}(h:ev f c=.bool t):(execOp (ev f) ⟨d,.pick c a b,ty,pS,af,gd⟩).run P w=.ok (.value (bif t then ev f a else ev f b)) w:=by
 cases t <;> simp[execOp,h,asBool]
theorem Zn {x:OZ}{vs:LV}{v:OY}(h:ev f x=.tuple vs.toArray)(E:vs[j]?=some v):(execOp (ev f) ⟨d,.extract x j,ty,pS,af,gd⟩).run P w=.ok (.value v) w:=by
 simp[execOp,h,Instr.extract,E]
theorem Qbo {op:BinOp}{t:TypeId}{x:OZ}{k:IntKind}{a b:Int}:(eqGuard op t x y (.int k a) (.int k' b)).run P w=.ok () w:=by
 simp only[eqGuard];split <;> simp
theorem JO {op:BinOp}{x:OZ}{k:IntKind}{a b:Int}{v:OY}(hx:ev f x=.int k a)(G:ev f y=.int k' b)
  (h:(binOp op t (.int k a) (.int k' b)).run P w=.ok v w):(execOp (ev f) ⟨d,.binOp op t x y E,ty,pS,af,gd⟩).run P w=.ok (.value v) w:=by
 simp[execOp,hx,G,Qbo,h]
def inK (k:IntKind)(n:Int):Prop:=match k with
 | .i64=>-9223372036854775808<=n/\n<=9223372036854775807
 | .u8=>0<=n/\n<=255
 | .u16=>0<=n/\n<=65535
 | .u32=>0<=n/\n<=4294967295
 | .u64=>0<=n/\n<=18446744073709551615
 | .i32=>-2147483648<=n/\n<=2147483647
 | _=>False
theorem YM {k:IntKind}{n:Int}(h:inK k n):k.wrap n=n:=by
 cases k <;> simp only[inK]at h <;> simp only[IntKind.wrap,IntKind.bits,IntKind.signed] <;> first|exact h.elim|(simp;omega)
theorem Xu {x:OZ}{k:IntKind}{a b:Int}(hx:ev f x=.int k a)(G:ev f y=.int k b)(h:inK k (a+b)):
  (execOp (ev f) ⟨d,.binOp .add t x y E,ty,pS,af,gd⟩).run P w=.ok (.value (.int k (a+b))) w:=JO hx G (by simp[binOp,Op.intArith,YM h])
theorem Jo {x:OZ}{k:IntKind}{a b:Int}(hx:ev f x=.int k a)(G:ev f y=.int k b)(h:inK k (a - b)):
  (execOp (ev f) ⟨d,.binOp .sub t x y E,ty,pS,af,gd⟩).run P w=.ok (.value (.int k (a - b))) w:=JO hx G (by simp[binOp,Op.intArith,YM h])
theorem QgO {x:OZ}{k:IntKind}{a b:Int}(hx:ev f x=.int k a)(G:ev f y=.int k b)(h:inK k (a*b)):
  (execOp (ev f) ⟨d,.binOp .mul t x y E,ty,pS,af,gd⟩).run P w=.ok (.value (.int k (a*b))) w:=JO hx G (by simp[binOp,Op.intArith,YM h])
theorem YP {x:OZ}{k:IntKind}{a b:Int}(hx:ev f x=.int k a)(G:ev f y=.int k b):
  (execOp (ev f) ⟨d,.binOp .lss t x y E,ty,pS,af,gd⟩).run P w=.ok (.value (.bool (decide (a<b)))) w:=JO hx G (by simp[binOp,Op.intCmp])
theorem KN {x:OZ}{k:IntKind}{a b:Int}(hx:ev f x=.int k a)(G:ev f y=.int k b):
  (execOp (ev f) ⟨d,.binOp .leq t x y E,ty,pS,af,gd⟩).run P w=.ok (.value (.bool (decide (a<=b)))) w:=JO hx G (by simp[binOp,Op.intCmp])
theorem Yg {x:OZ}{k:IntKind}{a b:Int}(hx:ev f x=.int k a)(G:ev f y=.int k b):
  (execOp (ev f) ⟨d,.binOp .gtr t x y E,ty,pS,af,gd⟩).run P w=.ok (.value (.bool (decide (b<a)))) w:=JO hx G (by simp[binOp,Op.intCmp])
theorem Yw {x:OZ}{k:IntKind}{a b:Int}(hx:ev f x=.int k a)(G:ev f y=.int k b):
  (execOp (ev f) ⟨d,.binOp .geq t x y E,ty,pS,af,gd⟩).run P w=.ok (.value (.bool (decide (b<=a)))) w:=JO hx G (by simp[binOp,Op.intCmp])
theorem QY {x:OZ}{k:IntKind}{a b:Int}(hx:ev f x=.int k a)(G:ev f y=.int k b):
  (execOp (ev f) ⟨d,.binOp .eql t x y E,ty,pS,af,gd⟩).run P w=.ok (.value (.bool (decide (a=b)))) w :=
 JO hx G (by simp[binOp,Op.intCmp];by_cases h:a=b <;> simp[h])
theorem Xr {x:OZ}{k:IntKind}{a b:Int}(hx:ev f x=.int k a)(G:ev f y=.int k b):
  (execOp (ev f) ⟨d,.binOp .neq t x y E,ty,pS,af,gd⟩).run P w=.ok (.value (.bool (decide (¬a=b)))) w :=
 JO hx G (by simp[binOp,Op.intCmp];by_cases h:a=b <;> simp[h])
theorem ZC {x:OZ}{b:Bool}(hx:ev f x=.bool b):(execOp (ev f) ⟨d,.unOp .not t x,ty,pS,af,gd⟩).run P w=.ok (.value (.bool (!b))) w:=by
 simp[execOp,hx,Op.unary]
theorem yU {x:OZ}{e bys:Nat}[h:Sl P t e sz bys z]{a:Option Addr}{c:Nat}(hx:ev f x=.slice a n c):
  (execOp (ev f) ⟨d,.call ⟨.builtin .len,#[x],#[t]⟩,ty,pS,af,gd⟩).run P w=.ok (.value (oE oF n)) w:=by
 simp[execOp,resolve,invoke,builtin,Builtin.len_,hx,run_underlying h.u,goInt]
theorem Sl.info {e bys:Nat}(h:Sl P t e sz bys z):∃i,P.info? e=some i/\i.zero=some z/\i.size=sz/\i.bytes=bys:=by
 have:=h.i;cases hi:P.info? e with
 | none=>simp[hi]at this
 | some i=>simp[hi]at this;exact⟨i,U,this.1,this.2.1,this.2.2⟩
theorem Xd {x:OZ}{e bys:Nat}[h:Sl P t e sz bys z]{a:Addr}{c:Nat}{k:IntKind}{i:Int}(hx:ev f x=.slice (some a) n c)(E:ev f y=.int k i)(G:0<=i)(H:i<n):
  (execOp (ev f) ⟨d,.indexAddr t x y,ty,pS,af,gd⟩).run P w=.ok (.value (.pointer (some (a.add (i.toNat*sz))))) w:=by
 obtain⟨ii,hi,_,I,_⟩:=Sl.info h;simp[execOp,hx,E,Instr.indexAt,asIntOf,run_underlying h.u,G,H,sizeOf,typeInfo,hi,I]
theorem jc [h:X7 P t]:(isAgg t).run P w=.ok false w:=by
 obtain⟨d,E,hd⟩:=h.u;unfold isAgg;cases d <;> simp at hd <;> simp[run_underlying E]
theorem QhF [h:Ag P t sz]:(isAgg t).run P w=.ok true w:=by
 obtain⟨d,E,hd⟩:=h.u;unfold isAgg;cases d <;> simp at hd <;> simp[run_underlying E]
theorem Xc [h:X7 P t]{a:Addr}{v:OY}(E:w.cell? a=some v):(loadVar t a).run P w=.ok v w:=by
 simp[loadVar,jc,E]
theorem Qcg [h:X7 P t]:(sizeOf t).run P w=.ok 1 w:=by
 have:=h.i;cases hi:P.info? t with
 | none=>simp[hi]at this
 | some i=>simp[hi]at this;simp[sizeOf,typeInfo,hi,this]
theorem UE [h:Ag P t sz]:(sizeOf t).run P w=.ok sz w:=by
 have:=h.i;cases hi:P.info? t with
 | none=>simp[hi]at this
 | some i=>simp[hi]at this;simp[sizeOf,typeInfo,hi,this]
theorem JM {a:Addr}:∀(vs:LV) (i:Nat) (acc:Array OY),(∀j v,vs[j]?=some v->w.cell? (a.add (i+j))=some v)->(loadCellsFrom a i vs.length acc).run P w=.ok (acc++vs.toArray) w
 | [],_,acc,_=>by simp[loadCellsFrom]
 | v::vs,i,acc,h=>by
  have E:=h 0 v U;have ih:=JM vs (i+1) (acc.push v) (λj u G=>by have:=h (j+1) u (oy G);simpa[OG,Nat.add_comm 1 j]using this);simp only[OB]at E;simp[loadCellsFrom,E,ih]
theorem Qn [h:Ag P t sz]{a:Addr}{vs:LV}(hl:vs.length=sz)(E:∀j v,vs[j]?=some v->w.cell? (a.add j)=some v):(loadVar t a).run P w=.ok (.agg vs.toArray) w:=by
 have:=JM (P:=P) (w:=w) (a:=a) vs 0 #[] (oy E);subst hl;simp[loadVar,QhF,UE (sz:=vs.length),loadCells,this]
theorem QgP [h:X7 P t]{x:OZ}{a:Addr}{v:OY}(hx:ev f x=.pointer (some a))(E:w.cell? a=some v):
  (execOp (ev f) ⟨d,.load t x,ty,pS,af,gd⟩).run P w=.ok (.value v) w:=by
 simp[execOp,hx,Instr.loadAt,Instr.sureAddr,Xc E]
theorem jV [h:Ag P t sz]{x:OZ}{a:Addr}{vs:LV}(hx:ev f x=.pointer (some a))(hl:vs.length=sz)(E:∀j v,vs[j]?=some v->w.cell? (a.add j)=some v):
  (execOp (ev f) ⟨d,.load t x,ty,pS,af,gd⟩).run P w=.ok (.value (.agg vs.toArray)) w:=by
 simp[execOp,hx,Instr.loadAt,Instr.sureAddr,Qn hl E]
theorem Zt {off:Nat}[h:Zk P t j off]{x:OZ}{a:Addr}(hx:ev f x=.pointer (some a)):
  (execOp (ev f) ⟨d,.fieldAddr t x j,ty,pS,af,gd⟩).run P w=.ok (.value (.pointer (some (a.add off)))) w:=by
 have E:=h.h;unfold QoB at E;cases H:P.underlying t with
 | none=>simp[H]at E
 | some dd =>
  cases dd <;> simp[H]at E
  rename_i fs;cases G:fs[j]? with
  | none=>simp[G]at E
  | some fd =>
   cases hi:P.info? fd.type with
   | none=>simp[G,hi]at E
   | some i =>
    simp[G,hi]at E;simp[execOp,hx,Instr.fieldAt,run_underlying H,G,Instr.sureAddr,fieldPlace,sizeOf,typeInfo,hi,E]
theorem VB {x:OZ}{a:Addr}(hx:ev f x=.pointer (some a)):(execOp (ev f) ⟨d,.nilCheck x,ty,pS,af,gd⟩).run P w=.ok (.value (.pointer (some a))) w:=by
 simp[execOp,hx]
theorem Zz {fn:Fn}{l l':List OZ}:(execOp (ev f) ⟨d,.makeFunc fn l.toArray l'.toArray,ty,pS,af,gd⟩).run P w=.ok (.value (.func fn (l.map (ev f)).toArray (l'.map (ev f)).toArray)) w:=by
 simp[execOp,Instr.makeFunc]
end
def Q3 (P:O0)(g:Nat)(args:LV)(w:OX)(R:OY->OX->Prop):Prop :=
 Calls P g args.toArray w λe w'=>match e with| .returned v=>R v w'|_=>False
theorem Q3.mono {P:O0}{g:Nat}{args:LV}{w:OX}{R R':OY->OX->Prop}(h:Q3 P g args w R)(G:∀v w',R v w'->R' v w'):Q3 P g args w R' :=
 Calls.mono h λe w' E=>by cases e <;> first|exact G _ _ E|exact E
theorem xc {f:Fr}{K:Fr->OX->Prop}{pS:String}{x:OZ}{l:List OZ}
    {first capt:LV} [hF:Fu P g fn] (hx:ev f x=.func (.func g) first.toArray capt.toArray) (h:Q3 P g (first++l.map (ev f)++capt) w λv w'=>K (QT f d v) w'):
  XO P ⟨d,.call ⟨.value x,l.toArray,at_⟩,ty,pS,af,gd⟩ f w K:=by
 have E:(execOp (ev f) ⟨d,.call ⟨.value x,l.toArray,at_⟩,ty,pS,af,gd⟩).run P w=.ok (.enter g (first++l.map (ev f)++capt).toArray) w:=by
  have G:¬fn.name = "runtime.NumGoroutine" := by simpa using hF.nm
  have H:¬fn.body=none:=by have:=hF.b;intro e;rw[e]at this;cases this
  simp[execOp,resolve,hx,Deferred.ofValue,invoke,callFunc,hF.f,G,H]
 simp only[XO,E,upF];exact h
theorem xf {f:Fr}{K:Fr->OX->Prop}{pS:String}{l:List OZ}
    [hF:Fu P g fn] (h:Q3 P g (l.map (ev f)) w λv w'=>K (QT f d v) w'):
  XO P ⟨d,.call ⟨.value (.func g),l.toArray,at_⟩,ty,pS,af,gd⟩ f w K :=
 xc (first:=[]) (capt:=[]) (g:=g) (fn:=fn) U (oy h)
def ent:LV->Fr
 | [],_=>undef
 | v::_,0=>v
 | _::l,t+1=>ent l t
def Uw (P:O0)(f:Fr)(w:OX):List ResultVar->LV->Prop
 | [],[]=>True
 | .tmp t::rs,v::vs=>f t=v/\Uw P f w rs vs
 | .cell a t::rs,v::vs=>(∃ad,f a=.pointer (some ad)/\(loadVar t ad).run P w=.ok v w)/\Uw P f w rs vs
 | _,_=>False
def tup:LV->OY
 | [v]=>v
 | vs=>.tuple vs.toArray
def rq (P:O0)(rs:List ResultVar)(R:OY->OX->Prop):Exit->Fr->OX->Prop
 | .ret,f,w=>∃vs,Uw P f w rs vs/\R (tup vs) w
 | .normal,f,w=>∃vs,Uw P f w rs vs/\R (tup vs) w
 | _,_,_=>False
theorem JL {P:O0}{n:Nat}{a:Act}{f:Fr}{w:OX}(G:Rel n a f)(g:ResultVar->Sem OY)(g1:∀t,g (.tmp t)=pure (a.tmps.getD t undef))
  (H:∀ad t,g (.cell ad t)=(do loadVar t (<-asAddr (a.tmps.getD ad undef)))):∀(rs:List ResultVar) (vs:LV),Uw P f w rs vs->(rs.mapM g).run P w=.ok vs w
 | [],[],_=>oe
 | [],_::_,h=>h.elim
 | .tmp t::rs,[],h=>h.elim
 | .cell _ _::rs,[],h=>h.elim
 | .tmp t::rs,v::vs,h=>by
  have ih:=JL G g g1 H rs vs h.2;have E:=G.get t;rw[h.1]at E;simp only[List.mapM_cons,Sem.run_bind,Sem.run_pure,Result.andThen_ok,ih,E,g1]
 | .cell ad t::rs,v::vs,h=>by
  have ih:=JL G g g1 H rs vs h.2;obtain⟨⟨I,J,O⟩,_⟩:=h;have E:=G.get ad;rw[J]at E;have S:(asAddr (.pointer (some I))).run P w=.ok I w:=rfl;simp only[List.mapM_cons,Sem.run_bind,H,E,S,Sem.run_pure,Result.andThen_ok,O,ih]
theorem Q3.of_W {c:Code}{args:LV}{R:OY->OX->Prop}{rs:List ResultVar}
  (J:P.funcs[g]?=some fn) (O:fn.body=some c) (S:fn.ntmps=n) (T:fn.results=rs.toArray) (hl:args.length<=n)
  (h:W P n c (rq P rs R) (ent args) w):Q3 P g args w R:=by
 unfold W at h;refine calls_of_wp J O (wp_mono (h _ ?_) ?_)
 ·refine⟨by simp[S];omega,U,λt=>?_⟩;have key:∀(l:LV) (t:Nat),l[t]?.getD undef=ent l t:=by
   intro l;induction l with
   | nil=>intro t;rfl
   | cons v l ih=>intro t;cases t with|zero=>rfl|succ t=>simpa[ent]using ih t
  rw[<-key];simp only[Array.getD_eq_getD_getElem?,Array.getElem?_append,o9,oY];by_cases G:t<args.length
  ·simp[G]
  simp[G,Array.getElem?_replicate];split <;> rfl
 rintro e H w' ⟨V,I,_,E⟩;have fin:(∃vs,Uw P V w' rs vs/\R (tup vs) w')->H.defers=[]/\∃v,(results fn H.tmps).run P w'=.ok v w'/\R v w':=by
  rintro⟨vs,Y,hR⟩;refine⟨I.defers,tup vs,?_,hR⟩;simp only[results,T,List.mapM_toArray,Sem.run_bind,Sem.run_map];rw[JL I _ (λ_=>rfl) (λ_ _=>rfl) rs vs Y];cases vs with
  | nil=>rfl
  | cons v vs=>cases vs with|nil=>rfl|cons u us=>rfl
 cases e with
 | normal=>exact fin E
 | ret=>exact fin E
 | exit id=>exact E.elim
 | goto l=>exact E.elim
 | panic c=>exact E.elim
 | outgrown=>exact E.elim
attribute [irreducible] Q3
theorem YI (f:P.funcs[g]?=some fn)(b:fn.body.isNone=false:=by kernel_rfl)(nm:(fn.name == "runtime.NumGoroutine")=false:=by kernel_rfl):Fu P g fn:=⟨f,b,nm⟩
theorem Qc {f:Fr}{Q:Exit->Fr->OX->Prop}{l:xx}{y:Code}(h:XL P l (λf w=>thn (λf w=>W P n y Q f w) Q .normal f w) l f w)(E:XI n l=true:=by rfl):W P n (.seq (.region id l.toArray false) y) Q f w:=Qd (QbV E h)
theorem Qw {f:Fr}{Q:Exit->Fr->OX->Prop}{l:xx}(h:XL P l (λf w=>Q .normal f w) l f w)(E:XI n l=true:=by rfl):W P n (.region id l.toArray false) Q f w:=QbV E h
section
variable {K:Fr->OX->Prop}{f:Fr}{pS:String}{l:xx}
theorem Qa (h:XL P ops K l (QT f d (ev f y)) w)(E:Ya ops f ⟨d,.move y,ty,pS,af,gd⟩=true:=by rfl):XL P ops K (⟨d,.move y,ty,pS,af,gd⟩::l) f w:=x Kh h E
theorem QS {H:Nat}{E G:OZ}{k:IntKind}{a b:Int}(hx:ev f E=.int k a)(I:ev f G=.int k b)(h:XL P ops K l (QT f d (.int k (a+b))) w)(J:inK k (a+b):=by exact⟨oa,oa⟩)
  (O:Ya ops f ⟨d,.binOp .add t E G H,ty,pS,af,gd⟩=true:=by rfl):XL P ops K (⟨d,.binOp .add t E G H,ty,pS,af,gd⟩::l) f w:=x (Xu hx I J) h O
theorem Qb (h:K (QT f d (ev f y)) w)(E:Ya ops f ⟨d,.assign y,ty,pS,af,gd⟩=true:=by rfl):XL P ops K [⟨d,.assign y,ty,pS,af,gd⟩] f w:=x Ql (xe h) E
end
section
variable {C:xt}{K:Fr->OX->Prop}{f:Fr}{pS:String}{l:xx}
theorem Qe (h:XO P o f w (XL P ops K l))(E:Ya ops f o=true:=by rfl):XL P ops K (o::l) f w:=xl E h
theorem Qp (h:XL P ops K l (QT f o.dst undef) w)(E:Ya ops f o=false:=by rfl):XL P ops K (o::l) f w:=xs E h
theorem QZ {E:OZ}{vs:LV}{v:OY}(G:ev f E=.tuple vs.toArray)(H:vs[j]?=some v)(h:XL P ops K l (QT f d v) w)(I:Ya ops f ⟨d,.extract E j,ty,pS,af,gd⟩=true:=by rfl):XL P ops K (⟨d,.extract E j,ty,pS,af,gd⟩::l) f w:=x (Zn G H) h I
theorem QG {c a b:OZ}{t:Bool}(E:ev f c=.bool t)(h:XL P ops K l (QT f d (bif t then ev f a else ev f b)) w)(G:Ya ops f ⟨d,.pick c a b,ty,pS,af,gd⟩=true:=by rfl):XL P ops K (⟨d,.pick c a b,ty,pS,af,gd⟩::l) f w:=x (zh E) h G
theorem ZB {H:Nat}{E G:OZ}{k:IntKind}{a b:Int}(hx:ev f E=.int k a)(I:ev f G=.int k b)(h:XL P ops K l (QT f d (.bool (decide (¬a=b)))) w)(J:Ya ops f ⟨d,.binOp .neq t E G H,ty,pS,af,gd⟩=true:=by rfl):XL P ops K (⟨d,.binOp .neq t E G H,ty,pS,af,gd⟩::l) f w:=x (Xr hx I) h J
theorem Q0 {H:Nat}{E G:OZ}{k:IntKind}{a b:Int}(hx:ev f E=.int k a)(I:ev f G=.int k b)(h:XL P ops K l (QT f d (.bool (decide (a<b)))) w)(J:Ya ops f ⟨d,.binOp .lss t E G H,ty,pS,af,gd⟩=true:=by rfl):XL P ops K (⟨d,.binOp .lss t E G H,ty,pS,af,gd⟩::l) f w:=x (YP hx I) h J
theorem Yl {E:OZ}{a:Addr}(hx:ev f E=.pointer (some a))(h:XL P ops K l (QT f d (.pointer (some a))) w)(G:Ya ops f ⟨d,.nilCheck E,ty,pS,af,gd⟩=true:=by rfl):XL P ops K (⟨d,.nilCheck E,ty,pS,af,gd⟩::l) f w:=x (VB hx) h G
theorem Zq {c:Code}{args:LV}{R:OY->OX->Prop}{rs:List ResultVar}(E:P.funcs[g]?=some fn)(h:W P n c (rq P rs R) (ent args) w)(G:fn.body=some c:=by rfl)(H:fn.ntmps=n:=by rfl)(I:fn.results=rs.toArray:=by rfl)(hl:Nat.ble args.length n=true:=by rfl):Q3 P g args w R:=Q3.of_W E G H I (L9 hl) h
def Xx:Nat->Nat->LN->List (Nat×Bool)
 | _,0,_=>[]
 | i,n+1,fs=>(i,!fs.contains i)::Xx (i+1) n fs
def fuB (P:O0)(g:Nat):Bool:=match P.funcs[g]? with|some fn=>!fn.body.isNone && !(fn.name == "runtime.NumGoroutine")|none=>false
theorem fuE (h:fuB P g=true):∃fn,Fu P g fn:=by
 unfold fuB at h;split at h
 ·next fn E=>simp only[oJ,Ob]at h;exact⟨fn,E,h.1,h.2⟩
 cases h
theorem xg {f:Fr}{K:Fr->OX->Prop}{pS:String}{l:List OZ}(h:Q3 P g (l.map (ev f)) w λv w'=>K (QT f d v) w')(E:fuB P g=true:=by kernel_rfl):XO P ⟨d,.call ⟨.value (.func g),l.toArray,at_⟩,ty,pS,af,gd⟩ f w K:=(fuE E).elim λ_ _=>xf h
theorem QM {l':List OZ}(h:Q3 P g (l'.map (ev f)) w λv w'=>XL P ops K l (QT f d v) w')(E:fuB P g=true:=by kernel_rfl)(G:Ya ops f ⟨d,.call ⟨.value (.func g),l'.toArray,at_⟩,ty,pS,af,gd⟩=true:=by rfl):XL P ops K (⟨d,.call ⟨.value (.func g),l'.toArray,at_⟩,ty,pS,af,gd⟩::l) f w:=xl G (xg h E)
theorem ZO {l':List OZ}[Fu P g fn](h:Q3 P g (l'.map (ev f)) w λv w'=>XL P ops K l (QT f d v) w')(E:Ya ops f ⟨d,.call ⟨.value (.func g),l'.toArray,at_⟩,ty,pS,af,gd⟩=true:=by rfl):XL P ops K (⟨d,.call ⟨.value (.func g),l'.toArray,at_⟩,ty,pS,af,gd⟩::l) f w:=xl E (xf h)
theorem QF {E:OZ}:∀w',(execOp (ev f) ⟨d,.move E,ty,pS,af,gd⟩).run P w'=.ok (.value (ev f E)) w':=λ_=>Kh
theorem ZM {E:OZ}:∀w',(execOp (ev f) ⟨d,.assign E,ty,pS,af,gd⟩).run P w'=.ok (.value (ev f E)) w':=λ_=>Ql
theorem Xf {c a b:OZ}{t:Bool}(h:ev f c=.bool t):∀w',(execOp (ev f) ⟨d,.pick c a b,ty,pS,af,gd⟩).run P w'=.ok (.value (bif t then ev f a else ev f b)) w':=λ_=>zh h
theorem Y9 {E:OZ}{a:Addr}(hx:ev f E=.pointer (some a)):∀w',(execOp (ev f) ⟨d,.nilCheck E,ty,pS,af,gd⟩).run P w'=.ok (.value (.pointer (some a))) w':=λ_=>VB hx
theorem Qm {Q:Exit->Fr->OX->Prop}{c:Code}(h:XL P (⟨d,.move y,ty,pS,af,gd⟩::l) (λf w=>thn (λf w=>W P n c Q f w) Q .normal f w) l (QT f d (ev f y)) w)(E:Ya (⟨d,.move y,ty,pS,af,gd⟩::l) f ⟨d,.move y,ty,pS,af,gd⟩=true:=by rfl)(G:XI n (⟨d,.move y,ty,pS,af,gd⟩::l)=true:=by rfl):W P n (.seq (.region id (⟨d,.move y,ty,pS,af,gd⟩::l).toArray false) c) Q f w:=Qc (Qa h E) G
end
structure O1 (L:LN)(w w':OX):Prop where
 os:w'.os=w.os
 tape:w'.tape=w.tape
 output:w'.output=w.output
 size:w.heap.size<=w'.heap.size
 block:∀k,k<w.heap.size->k∉L->w'.heap[k]?=w.heap[k]?
theorem O1.Z (L:LN)(w:OX):O1 L w w:=⟨U,U,U,Lv _,λ_ _ _=>U⟩
theorem O1.C (L:LN)(w:OX):O1 L w { w with drawn:=w.drawn+1 }:=⟨U,U,U,Lv _,λ_ _ _=>U⟩
theorem O1.mono {L L':LN}(h:O1 L w w')(E:∀b∈L,b∈L'):O1 L' w w' :=
 ⟨h.os,h.tape,h.output,h.size,λk G H=>h.block k G (λI=>H (E k I))⟩
theorem O1.any {L:LN}(h:O1 [] w w'):O1 L w w':=h.mono (λ_ E=>by cases E)
theorem O1.then {L L':LN}{E:OX}(h:O1 L E w)(k:O1 L' w w')(I:∀b∈L',b∈L\/E.heap.size<=b):O1 L E w' :=
 ⟨k.os.D h.os,k.tape.D h.tape,k.output.D h.output,LH h.size k.size,λi hi G =>
  (k.block i (LT hi h.size) (λJ=>by rcases I i J with H|H;exact G H;omega)).D (h.block i hi G)⟩
theorem O1.D {L:LN}{E:OX}(h:O1 L E w)(k:O1 [] w w'):O1 L E w':=h.then k (λ_ G=>by cases G)
theorem O1.Q {L:LN}{E:OX}(h:O1 L E w)(k:O1 L w w'):O1 L E w':=h.then k (λ_ G=>.inl G)
theorem O1.below (h:O1 [] w w'):Below w.heap.size w w':=⟨h.os,h.tape,h.output,h.size,λk E=>h.block k E oe⟩
theorem O1.of_below (h:Below w.heap.size w w'):O1 [] w w':=⟨h.os,h.tape,h.output,h.size,λk E _=>h.block k E⟩
theorem O1.of_grown {row:xz}(h:w.grownBy w' row):O1 row.toList w w' :=
 ⟨h.os,h.tape,h.output,h.size,λk E G=>h.block k E (λe=>G (by simp[<-e]))⟩
theorem UZ (w:OX)(o:Obj)(k:Nat)(h:k<w.heap.size):(w.alloc o).heap[k]?=w.heap[k]?:=by
 show(w.heap.push o)[k]?=_;rw[Array.getElem?_push,OP oa]
theorem JY (w:OX)(o:Obj):(w.alloc o).heap[w.heap.size]?=some o:=by
 show(w.heap.push o)[w.heap.size]?=_;simp
theorem Vg (w:OX)(o:Obj):(w.alloc o).heap.size=w.heap.size+1:=by show(w.heap.push o).size=_;simp
theorem O1.alloc (w:OX)(o:Obj):O1 [] w (w.alloc o):=⟨U,U,U,by rw[Vg];omega,λk E _=>UZ w o k E⟩
theorem O1.setRow (w:OX)(g:Nat)(cs:Array OY):O1 [g] w (w.setRow g cs):=
 ⟨U,U,U,by simp[World.setRow],λk _ E=>setRow_other w g k cs (λe=>E (by simp[e]))⟩
def cel (H:xu)(a:Addr):Option OY:=match H[a.block]? with
 | some (.cells c _ _)=>if a.spot.isSome then none else c[a.off]?
 | _=>none
theorem jt (w:OX)(a:Addr):w.cell? a=cel w.heap a:=rfl
structure At (L:LN)(H:xu)(a:Addr)(us:LV):Prop where
 out:∀u∈us,a.block∉L
 lt:∀u∈us,a.block<H.size
 cell:∀j u,us[j]?=some u->cel H (a.add j)=some u
theorem YC (a:Addr)(j:Nat):(a.add j).block=a.block:=by unfold Addr.add;split <;> rfl
theorem QiK {L:LN}(h:O1 L w w'){a:Addr}(E:a.block∉L)(hl:a.block<w.heap.size):cel w'.heap a=cel w.heap a:=by
 unfold cel;rw[h.block _ hl E]
theorem At.J {L X:LN}{a:Addr}{us:LV}(h:At L w.heap a us)(G:O1 X w w')(I:∀b∈X,b∈L):At L w'.heap a us :=
 ⟨h.out,λu E=>LT (h.lt u E) G.size,λj u E=>by
  have H:=Ms E;rw[QiK (L:=X) G (by rw[YC];exact λhx=>h.out u H (I _ hx)) (by rw[YC];exact h.lt u H)];exact h.cell j u E⟩
theorem At.I {L:LN}{a:Addr}{us:LV}(h:At L w.heap a us)(E:O1 [] w w'):At L w'.heap a us:=h.J E (λ_ G=>by cases G)
theorem At.st {L:LN}{a:Addr}{us:LV}(h:At L w.heap a us)(E:O1 L w w'):At L w'.heap a us:=h.J E (λ_ G=>G)
theorem At.one {L:LN}{a:Addr}{u:OY}(h:At L w.heap a [u]):w.cell? a=some u:=by
 have:=h.cell 0 u U;simp only[Addr.add,if_true]at this;exact this
theorem At.cells {L:LN}{a:Addr}{us:LV}(h:At L w.heap a us):∀j v,us[j]?=some v->w.cell? (a.add j)=some v:=h.cell
theorem Addr.add_add (a:Addr)(i j:Nat):(a.add i).add j=a.add (i+j):=by
 unfold Addr.add;by_cases hi:i=0
 ·subst hi;simp
 by_cases E:j=0
 ·subst E;simp
 simp[hi,E,OG]
theorem At.fld {L:LN}{a:Addr}{us:LV}(h:At L H a us)(j:Nat)(u:OY)(E:us[j]?=some u):At L H (a.add j) [u]:=
 ⟨λ_ _=>by rw[YC];exact h.out u (Ms E),λ_ _=>by rw[YC];exact h.lt u (Ms E),λi v G=>by
  cases i with
  | zero=>simp at G;subst G;rw[Addr.add_add,Nl];exact h.cell j u E
  | succ i=>simp at G⟩
theorem At.up {L L':LN}{a:Addr}{us:LV}(h:At L H a us)(I:∀b∈L',b∈L\/H.size<=b):At L' H a us :=
 ⟨λu E J=>by rcases I _ J with G|G;exact h.out u E G;have:=h.lt u E;omega,h.lt,h.cell⟩
def Zm (L:LN)(H:xu)(v:OY)(n sz:Nat)(cs:LV):Prop :=
 cs.length=n*sz/\n<=1099511627776/\((v=nS/\n=0)\/∃a cap,v=.slice (some a) n cap/\n<=cap/\At L H a cs)
theorem Zm.J {L X:LN}{w w':OX}{v:OY}{n sz:Nat}{cs:LV}(h:Zm L w.heap v n sz cs)(E:O1 X w w')(G:∀b∈X,b∈L):Zm L w'.heap v n sz cs :=
 ⟨h.1,h.2.1,h.2.2.imp id λ⟨a,cap,H,I,J⟩=>⟨a,cap,H,I,J.J E G⟩⟩
theorem Zm.I {L:LN}{v:OY}{cs:LV}(h:Zm L w.heap v n sz cs)(E:O1 [] w w'):Zm L w'.heap v n sz cs:=h.J E (λ_ G=>by cases G)
theorem Zm.st {L:LN}{v:OY}{cs:LV}(h:Zm L w.heap v n sz cs)(E:O1 L w w'):Zm L w'.heap v n sz cs:=h.J E (λ_ G=>G)
theorem Zm.up {L L':LN}{H:xu}{v:OY}{n sz:Nat}{cs:LV}(h:Zm L H v n sz cs)(E:∀b∈L',b∈L\/H.size<=b):Zm L' H v n sz cs :=
 ⟨h.1,h.2.1,h.2.2.imp id λ⟨a,cap,G,I,J⟩=>⟨a,cap,G,I,J.up E⟩⟩
theorem Zm.nil (L:LN)(H:xu)(sz:Nat):Zm L H (nS) 0 sz []:=⟨oe,oa,.inl ⟨rfl,rfl⟩⟩
theorem Zm.shape {L:LN}{v:OY}{cs:LV}(h:Zm L H v n sz cs):∃a cap,v=.slice a n cap:=by
 rcases h.2.2 with⟨E,G⟩|⟨a,cap,E,_⟩
 ·exact⟨none,0,by rw[E,G]⟩
 exact⟨some a,cap,E⟩
theorem Zm.one {L:LN}{v:OY}{cs:LV}(h:Zm L H v n sz cs):v.oneCell'=true:=by obtain⟨a,cap,rfl⟩:=h.shape;rfl
theorem Zm.cells {L:LN}{H:xu}{v:OY}{n sz:Nat}{cs:LV}(h:Zm L H v n sz cs):v.cells=#[v]:=by obtain⟨a,cap,rfl⟩:=h.shape;rfl
theorem Zm.le {L:LN}{v:OY}{cs:LV}(h:Zm L H v n sz cs):n<=1099511627776:=h.2.1
theorem Zm.at {L:LN}{H:xu}{v:OY}{n sz:Nat}{cs:LV}(h:Zm L H v n sz cs){i:Nat}(hi:i<n):
  ∃a cap,v=.slice (some a) n cap/\At L H (a.add (i*sz)) ((cs.drop (i*sz)).take sz):=by
 rcases h.2.2 with⟨_,J⟩|⟨a,cap,I,_,G⟩
 ·omega
 refine⟨a,cap,I,λu E=>by rw[YC];exact G.out u (Mc (LZ E)),λu E=>by rw[YC];exact G.lt u (Mc (LZ E)),λj u E=>?_⟩;rw[Addr.add_add];refine G.cell _ u ?_;rw[LX]at E;split at E
 ·simpa using E
 cases E
abbrev QP (L:LN)(H:xu)(v:OY)(l:LI):Prop:=Zm L H v l.length 1 (l.map (.int .i64))
theorem QP.at {L:LN}{H:xu}{v:OY}{l:LI}(h:QP L H v l){i:Nat}(hi:i<l.length):
  ∃a cap,v=.slice (some a) l.length cap/\At L H (a.add (i*1)) [oE oF l[i]]:=by
 obtain⟨a,cap,G,E⟩:=Zm.at h hi;refine⟨a,cap,G,?_⟩;have:((l.map (Value.int .i64)).drop (i*1)).take 1=[oE oF l[i]]:=by
  rw[Nat.mul_one,LD (oy hi)];simp
 rw[this]at E;exact E
def Q9 (H:xu)(b T:Nat)(cs:LV):Prop:=H[b]?=some (.cells cs.toArray T (0,0))
theorem Q9.lt {cs:LV}(h:Q9 H b T cs):b<H.size:=(LO.1 h).1
theorem Q9.J {X:LN}{cs:LV}(h:Q9 w.heap b T cs)(E:O1 X w w')(G:b∉X):Q9 w'.heap b T cs:=by
 unfold Q9;rw[E.block b h.lt G];exact h
theorem Q9.I {cs:LV}(h:Q9 w.heap b T cs)(E:O1 [] w w'):Q9 w'.heap b T cs:=h.J E oe
theorem Q9.cell {cs:LV}(h:Q9 H b T cs)(j:Nat):cel H ⟨b,j,none⟩=cs[j]?:=by
 unfold Q9 at h;simp[cel,h]
theorem QdE (b j:Nat):(⟨b,0,none⟩:Addr).add j=⟨b,j,none⟩:=by unfold Addr.add;split <;> simp_all
theorem Ub (b i j:Nat):(⟨b,i,none⟩:Addr).add j=⟨b,i+j,none⟩:=by unfold Addr.add;split <;> simp_all
theorem Q9.at {L:LN}{cs:LV}(h:Q9 H b T cs)(E:b∉L):At L H ⟨b,0,none⟩ cs :=
 ⟨λ_ _=>E,λ_ _=>h.lt,λj u G=>by rw[QdE,h.cell];exact G⟩
theorem Q9.arr {L:LN}{cs:LV}(h:Q9 H b T cs)(E:b∉L)(hl:cs.length=n*sz)(G:n<=1099511627776)(I:n<=cap):
  Zm L H (.slice (some ⟨b,0,none⟩) n cap) n sz cs:=⟨hl,G,.inr ⟨_,_,U,I,h.at E⟩⟩
def ob:OY->LN
 | .slice (some a) _ _=>[a.block]
 | _=>[]
theorem zo (v:OY):ob v=v.ownBlock.toList:=by
 cases v <;> try rfl
 rename_i a _ _;cases a <;> rfl
theorem Qf {X:LN}{base e:Nat}{v:OY}{cs:LV}(h:w.ownsRow base e sz v n cs)(H:O1 X w w')(I:∀b∈ob v,b∉X):w'.ownsRow base e sz v n cs:=by
 refine⟨h.1,h.2.imp id λ⟨g,cap,cur,E,J,G,O⟩=>⟨g,cap,cur,E,J,?_,O⟩⟩;rw[H.block g (LO.1 G).1 (I g (by rw[E];simp[ob]))];exact G
theorem Qq {base e:Nat}{v:OY}{cs:LV}(h:w.ownsRow base e sz v n cs)(E:O1 [] w w'):w'.ownsRow base e sz v n cs:=Qf h E (λ_ _=>oe)
theorem Qi {base e:Nat}{v:OY}{cs:LV}(h:w.ownsRow base e sz v n cs):∀b∈ob v,base<=b/\b<w.heap.size:=by
 intro b E;rcases h.2 with⟨G,_⟩|⟨g,cap,cur,G,H,I,_⟩
 ·subst G;simp[ob]at E
 subst G;simp[ob]at E;subst E;exact⟨H,(LO.1 I).1⟩
theorem Zy {base base' e:Nat}{v:OY}{cs:LV}(h:w.ownsRow base e sz v n cs)(E:base'<=base):w.ownsRow base' e sz v n cs :=
 ⟨h.1,h.2.imp id λ⟨g,cap,cur,G,H,I⟩=>⟨g,cap,cur,G,LH E H,I⟩⟩
theorem QK {L:LN}{base e:Nat}{v:OY}{cs:LV}(h:w.ownsRow base e sz v n cs)(I:n<=1099511627776)(J:∀b∈ob v,b∉L):Zm L w.heap v n sz cs:=by
 refine⟨h.1,I,?_⟩;rcases h.2 with E|⟨g,cap,cur,E,T,H,O,V,Y,S⟩
 ·exact .inl E
 refine .inr ⟨_,_,E,O,λ_ _=>J g (by rw[E];simp[ob]),λ_ _=>(LO.1 H).1,λj u G=>?_⟩;rw[QdE];unfold cel;simp only[H];rw[<-S,LX]at G;split at G
 ·simpa using G
 cases G
theorem QJ (w:OX)(base e sz:Nat):w.ownsRow base e sz (nS) 0 []:=World.ownsRow_nil w base e sz
theorem Q9.own {cs:LV}(h:Q9 w.heap b T cs)(hl:cs.length=n*sz)(G:n<=1099511627776){base:Nat}(E:base<=b):w.ownsRow base T sz (.slice (some ⟨b,0,none⟩) n n) n cs :=
 ⟨hl,.inr ⟨b,n,cs.toArray,U,E,h,Lv _,by simp only[maxLen];omega,by simp[hl],by simp[<-hl]⟩⟩
section
variable {K:Fr->OX->Prop}{f:Fr}{pS:String}{l:xx}
theorem Yv {x:OZ}{e bys:Nat}[Sl P t e E bys z]{L:LN}{cs:LV}{v:OY}(h:Zm L H v n sz cs)(G:ev f x=v):
  (execOp (ev f) ⟨d,.call ⟨.builtin .len,#[x],#[t]⟩,ty,pS,af,gd⟩).run P w=.ok (.value (oE oF n)) w:=by
 obtain⟨a,cap,I⟩:=h.shape;exact yU (G.D I)
theorem xi {x:OZ}{e bys:Nat}[Sl P t e sz bys z]{L:LN}{cs:LV}{v:OY}{k:IntKind}
  (h:Zm L w.heap v n sz cs) (E:ev f x=v) (G:ev f y=.int k i) (hi:i<n)
  (hK:∀a,At L w.heap a ((cs.drop (i*sz)).take sz)->XL P ops K l (QT f d (.pointer (some a))) w) (H:Ya ops f ⟨d,.indexAddr t x y,ty,pS,af,gd⟩=true:=by rfl):
  XL P ops K (⟨d,.indexAddr t x y,ty,pS,af,gd⟩::l) f w:=by
 obtain⟨a,cap,I,J⟩:=h.at hi;refine xl H (xv (Xd (E.D I) G oa oa) (hK _ ?_));simpa using J
theorem xii {x:OZ}{e bys:Nat}[Sl P t e 1 bys z]{L:LN}{li:LI}{v:OY}{k:IntKind}
  (h:QP L w.heap v li) (E:ev f x=v) (G:ev f y=.int k i) (hi:i<li.length)
  (hK:∀a,At L w.heap a [oE oF li[i]]->XL P ops K l (QT f d (.pointer (some a))) w) (H:Ya ops f ⟨d,.indexAddr t x y,ty,pS,af,gd⟩=true:=by rfl):
  XL P ops K (⟨d,.indexAddr t x y,ty,pS,af,gd⟩::l) f w:=by
 obtain⟨a,cap,I,J⟩:=QP.at h hi;refine xl H (xv (Xd (E.D I) G oa oa) (hK _ ?_));simpa using J
theorem QA [X7 P t]{x:OZ}{a:Addr}{L:LN}{u:OY}(h:At L w.heap a [u])(hx:ev f x=.pointer (some a)):
  (execOp (ev f) ⟨d,.load t x,ty,pS,af,gd⟩).run P w=.ok (.value u) w:=QgP hx h.one
theorem Qx [Ag P t sz]{x:OZ}{a:Addr}{L:LN}{us:LV}(h:At L w.heap a us)(hx:ev f x=.pointer (some a))(hl:us.length=sz):
  (execOp (ev f) ⟨d,.load t x,ty,pS,af,gd⟩).run P w=.ok (.value (.agg us.toArray)) w:=jV hx hl h.cells
theorem Qr [X7 P t]{x:OZ}{cs:LV}{u:OY}(h:Q9 w.heap b T cs)(hx:ev f x=.pointer (some ⟨b,j,none⟩))(E:cs[j]?=some u):
  (execOp (ev f) ⟨d,.load t x,ty,pS,af,gd⟩).run P w=.ok (.value u) w:=QgP hx (by rw[jt,h.cell];exact E)
theorem ZT [Ag P t sz]{x:OZ}{cs:LV}(h:Q9 w.heap b T cs)(hx:ev f x=.pointer (some ⟨b,0,none⟩))(hl:cs.length=sz):
  (execOp (ev f) ⟨d,.load t x,ty,pS,af,gd⟩).run P w=.ok (.value (.agg cs.toArray)) w:=jV hx hl (h.at (L:=[]) oe).cells
theorem V5 {off:Nat}[Zk P t j off]{x:OZ}{o:Nat}(hx:ev f x=.pointer (some ⟨b,o,none⟩)):
  (execOp (ev f) ⟨d,.fieldAddr t x j,ty,pS,af,gd⟩).run P w=.ok (.value (.pointer (some ⟨b,o+off,none⟩))) w:=by
 rw[<-Ub];exact Zt hx
end
section
variable {K:Fr->OX->Prop}{f:Fr}{pS:String}
theorem QW {x:OZ}{us:LV}(hx:(ev f x).cells=us.toArray)
  (hK:∀b w',O1 [] w w'->w.heap.size<=b->Q9 w'.heap b t us->K (QT f d (.pointer (some ⟨b,0,none⟩))) w'):XO P ⟨d,.box t x,ty,pS,af,gd⟩ f w K:=by
 have E:(execOp (ev f) ⟨d,.box t x,ty,pS,af,gd⟩).run P w=.ok (.value (.pointer (some ⟨w.heap.size,0,none⟩))) (w.alloc (.cells us.toArray t)):=by
  simp[execOp,Instr.box,newVar,newRow,hx]
 exact xv E (hK _ _ (O1.alloc w _) (Lv _) (JY w _))
theorem Qo [h:Ze P t z]{us:LV}(G:z.cells=us.toArray)
  (hK:∀b w',O1 [] w w'->w.heap.size<=b->Q9 w'.heap b t us->K (QT f d (.pointer (some ⟨b,0,none⟩))) w'):XO P ⟨d,.alloc t,ty,pS,af,gd⟩ f w K:=by
 have H:(execOp (ev f) ⟨d,.alloc t,ty,pS,af,gd⟩).run P w=.ok (.value (.pointer (some ⟨w.heap.size,0,none⟩))) (w.alloc (.cells us.toArray t)):=by
  have hi:=h.i;cases E:P.info? t with
  | none=>simp[E]at hi
  | some i =>
   simp[E]at hi;simp[execOp,Instr.alloc,newVar,newRow,zeroValue,typeInfo,E,hi,G]
 exact xv H (hK _ _ (O1.alloc w _) (Lv _) (JY w _))
def Qau (sz:Nat):LV->List (LV)->Prop
 | [],[]=>True
 | v::vs,u::us=>v.cells=u.toArray/\u.length=sz/\Qau sz vs us
 | _,_=>False
theorem zQ {sz:Nat}:∀(vs:LV) (us:List (LV)) (E:Nat) (pre rest:LV),Qau sz vs us->pre.length=E*sz->rest.length=vs.length*sz ->
  Instr.fill (λi=>some (i*sz,sz)) (pre++rest).toArray ((vs.zipIdx E).map λx=>(x.2,x.1))=some (pre++us.flatten).toArray
 | [],[],E,pre,rest,_,_,G=>by
  have:rest=[]:=Ls (oy G);subst this;simp[Instr.fill]
 | [],_::_,_,_,_,h,_,_=>h.elim
 | _::_,[],_,_,_,h,_,_=>h.elim
 | v::vs,u::us,E,pre,rest,h,H,G=>by
  obtain⟨I,J,T⟩:=h;have ha:sz<=rest.length:=by rw[G];simp[Oj]
  have ih:=zQ vs us (E+1) (pre++u) (rest.drop sz) T (by simp[H,J,Oj]) (by simp only[o6,G,oU,Oj,Nat.one_mul];omega);simp only[List.zipIdx_cons,oZ];unfold Instr.fill;have V:v.cells.size=sz:=by rw[I];simp[J]
  simp only[V];rw[OP (by simp;omega)];have key:v.cells.zipIdx.foldl (λcs (x:OY×Nat)=>cs.setIfInBounds (E*sz+x.2) x.1) (pre++rest).toArray=(pre++u++rest.drop sz).toArray:=by
   rw[<-Array.foldl_toList,Array.toList_zipIdx,I];obtain⟨g1,Y⟩:=Great.foldl_set (E*sz) u 0 (pre++rest).toArray;apply Array.ext';apply M7;intro k;have g3:=Y k;simp only[Array.getElem?_toList];rw[g3];simp only[OB,o9,oL,oY];split
   ·rename_i O;rw[LA,MX oa,My oa,<-H]
   rename_i O;by_cases S:k<pre.length
   ·rw[LA,My S,My S]
   rw[LA,MX oa,MX oa];by_cases hb:k<pre.length+sz
   ·exfalso;apply O;omega
   rw[MX oa,MW];congr 1;omega
  have he:=ih;rw[LA pre u]at key;rw[show(v.cells.zipIdx.foldl (λcs (x:OY×Nat)=>cs.setIfInBounds (E*sz+x.2) x.1) (pre++rest).toArray)=(pre++u++rest.drop sz).toArray by rw[key,LA]];rw[ih];simp
theorem yE (f:Fr):∀(ps:List (Nat×OZ)) (i:Nat),ps.map (·.1)=oQ i ps.length->(ps.map λx=>(x.1,ev f x.2))=((ps.map λx=>ev f x.2).zipIdx i).map λx=>(x.2,x.1)
 | [],_,_=>rfl
 | p::ps,i,h=>by
  simp only[oZ,oU,Ov,List.cons.injEq]at h;simp only[oZ,List.zipIdx_cons];rw[yE f ps (i+1) h.2,h.1]
theorem QB {e bys:Nat}[h:Sl P t e sz bys z]{parts:List (Nat×OZ)}{us:List (LV)}(G:parts.map (·.1)=oQ 0 n)(H:parts.length=n)(I:0<n)(hs:n*sz<=1000000)
  (J:Qau sz (parts.map λx=>ev f x.2) us)
  (hK:∀b w',O1 [] w w'->w.heap.size<=b->Q9 w'.heap b e us.flatten->K (QT f d (.slice (some ⟨b,0,none⟩) n n)) w'):XO P ⟨d,.buildSlice t n parts.toArray,ty,pS,af,gd⟩ f w K:=by
 obtain⟨ie,O,S,E,_⟩:=Sl.info h;subst H;have T:=h.pos;have hm:0<parts.length*sz:=Nat.mul_pos I T;have V:Instr.fill (λi=>some (i*ie.size,ie.size)) ((Array.range (parts.length*ie.size)).map (z.cells[· % z.cells.size]!)) (parts.toArray.map λ(i,x)=>(i,ev f x)).toList=some us.flatten.toArray:=by
  rw[E];have:=zQ (parts.map λx=>ev f x.2) us 0 [] ((Array.range (parts.length*sz)).map (z.cells[· % z.cells.size]!)).toList J oe oe;simp only[Oi,Array.toArray_toList]at this;rw[<-this,<-yE f parts 0 G];simp
 have Y:(execOp (ev f) ⟨d,.buildSlice t parts.length parts.toArray,ty,pS,af,gd⟩).run P w=.ok (.value (.slice (some ⟨w.heap.size,0,none⟩) parts.length parts.length)) (w.alloc (.cells us.flatten.toArray e)):=by
  have:=run_buildSlice (P:=P) w t e parts.length (parts.toArray.map λ(i,x)=>(i,ev f x)) us.flatten.toArray ie z h.u O S (by rw[E];omega) (by rw[E];omega) V;simp only[execOp,Sem.run_bind,this,Result.andThen_ok,Sem.run_pure]
 exact xv Y (hK _ _ (O1.alloc w _) (Lv _) (JY w _))
theorem yr {base e:Nat}{bys:Nat}[h:Sl P t e sz bys z]{v:OY}{cs:LV}(G:w.ownsRow base e sz v n cs)
  {a:Addr} {m c:Nat} {news:LV} (hl:news.length=m*sz) (S:∀j u,news[j]?=some u->w.cell? (a.add j)=some u) (h1:∀u∈news,u.oneCell'=true)
  (hb:n+m<=1099511627776) (hq:bys<=128) (hc:base<=w.heap.size):
  ∃v' w',(Builtin.append_ #[t,t] ty #[v,.slice (some a) m c]).run P w=.ok v' w'/\w'.ownsRow base e sz v' (n+m) (cs++news)/\O1 (ob v) w w'/\(∀b∈ob v',b∈ob v\/w.heap.size<=b):=by
 obtain⟨i,hi,V,J,Y⟩:=Sl.info h;have ha:(n+m)*bys<=140737488355328:=LH (Nat.mul_le_mul hb hq) oa;have he:n+m<=maxLen:=by simp only[maxLen];omega
 by_cases hg:∃g cap cur,v=.slice (some ⟨g,0,none⟩) n cap/\w.heap[g]?=some (.cells cur e (0,0))/\n+m<=cap
 ·obtain⟨v',w',H,ho,hs,_⟩:=run_append_own (P:=P) w base t ty e i z sz bys h.u hi V J Y h.zs h.pos v n cs G a m c news hl S h1 he ha hc;refine⟨v',w',H,ho,by rw[zo];exact O1.of_grown hs,?_⟩;obtain⟨g,cap,cur,rfl,hf,O⟩:=hg;rcases G.2 with⟨h2,_⟩|⟨g2,cap2,hh,h2,h3,h4,h5,h6,h7,h8⟩
  ·cases h2
  cases h2
  have ht:n*i.size+news.length<=hh.size:=by rw[hl,h7,J,<-Mo];exact LY _ O
  have hu:=run_append_room (P:=P) w t ty e i h.u hi g n cap hh h4 a m c news (by rw[J];exact hl) S h1 O ht;rw[hu]at H;cases H
  intro b E;exact .inl E
 have new:∀(old:Nat),old<n+m->∀I,I=(Obj.cells (cs.toArray++news.toArray++Builtin.zeroCells z.cells (grownCap w (n+m) old e - (n+m))) e) ->
   (w.drew.alloc I).ownsRow base e sz (.slice (some ⟨w.heap.size,0,none⟩) (n+m) (grownCap w (n+m) old e)) (n+m) (cs++news):=by
  intro old ho I hv;subst hv;have hge:=grownCap_ge w (n+m) old e;have hj:grownCap w (n+m) old e<=maxLen:=grownCap_le_maxLen w (n+m) old e he;have hp:(cs++news).length=(n+m)*sz:=by rw[Ll,G.1,hl,Mo]
  refine⟨hp,.inr ⟨w.heap.size,_,_,U,hc,JY w.drew _,hge,hj,?_,?_⟩⟩
  ·simp only[Array.size_append,o9,size_zeroCells,h.zs,G.1,hl,<-Oj];congr 1;omega
  simp only[Array.toList_append,oT];rw[<-LA,<-hp];exact List.take_left
 have stp:∀I,O1 (ob v) w (w.drew.alloc I):=λI=>⟨U,U,U,by rw[Vg];exact OJ _,λk hk _=>UZ w.drew I k hk⟩;have fin:∀(b:Nat),b∈ob (.slice (some ⟨w.heap.size,0,none⟩) (n+m) 0)->b∈ob v\/w.heap.size<=b:=λb E=>by simp[ob]at E;omega
 rcases G.2 with⟨rfl,rfl⟩|⟨g,cap,cur,rfl,h9,hf,hA,hj,hB,hC⟩
 ·have hx:cs=[]:=Ls (oy G.1);subst hx;by_cases hm:m=0
  ·subst hm;have T:news=[]:=Ls (oy hl);subst T;refine⟨nS,w,?_,QJ _ _ _ _,O1.Z _ _,λb E=>by simp[ob]at E⟩;simp[Builtin.append_,run_underlying h.u,sizeOf,typeInfo,hi,Builtin.lenOf,Builtin.firstCells,loadCells,loadCellsFrom]
  have H:=run_append_nil (P:=P) w t ty e i z h.u hi V a m c news (by rw[J];exact hl) S oa oa (by rw[Y];have hw:=ha;simp only[oX]at hw;omega);have T:=new 0 oa _ U;simp only[oX,Oi,Array.empty_append]at T ⊢;exact⟨_,_,H,T,stp _,λb E=>fin b E⟩
 have O:cap<n+m:=by
  rcases OA cap (n+m)with hy|hge
  ·exact hy
  exact OS ⟨g,cap,cur,U,hf,hge⟩ hg
 have h0:∀j u,cs[j]?=some u->w.cell? ((⟨g,0,none⟩:Addr).add j)=some u:=G.cells (g:=g) U;have H:=run_append_grow (P:=P) w t ty e i z h.u hi V ⟨g,0,none⟩ n cap cs (by rw[J];exact G.1) h0 a m c news (by rw[J];exact hl) S O oa (growslice_fits O (by rw[Y];exact ha));exact⟨_,_,H,new cap O _ U,stp _,λb E=>fin b E⟩
theorem Zb {e bys:Nat}[h:Sl P t e sz bys z]{s:OZ}{base:Nat}{v:OY}{cs:LV}(E:w.ownsRow base e sz v n cs)(G:ev f s=v)
  {a:Addr} {m c:Nat} {news:LV} (H:ev f y=.slice (some a) m c) (hl:news.length=m*sz) {L:LN} (I:At L w.heap a news) (J:∀u∈news,u.oneCell'=true)
  (O:n+m<=1099511627776) (S:base<=w.heap.size)
  (hK:∀v' w',w'.ownsRow base e sz v' (n+m) (cs++news)->O1 (ob v) w w'->(∀b∈ob v',b∈ob v\/w.heap.size<=b)->K (QT f d v') w') (T:bys<=128:=by decide):
  XO P ⟨d,.call ⟨.builtin .append,#[s,y],#[t,t]⟩,ty,pS,af,gd⟩ f w K:=by
 obtain⟨v',w',V,Y,h3,h4⟩:=yr (P:=P) (t:=t) (ty:=ty) E hl I.cells J O T S (c:=c);have ha:(execOp (ev f) ⟨d,.call ⟨.builtin .append,#[s,y],#[t,t]⟩,ty,pS,af,gd⟩).run P w=.ok (.value v') w':=by
  simp[execOp,resolve,invoke,builtin,G,H,V]
 exact xv ha (hK v' w' Y h3 h4)
end
def QnF (P:O0)(t:Nat):Option (LV×LN):=match P.info? t,P.underlying t with
 | some it,some (.struct fs)=>match it.zero,fs.toList.mapM (λf=>(P.info? f.type).bind λi=>if i.size=1 then some f.offset else none)with
  | some (.agg zs),some offs=>some (zs.toList,offs)
  | _,_=>none
 | some it,some (.array n e)=>match it.zero,P.info? e with
  | some (.agg zs),some ie=>if ie.size=1 then some (zs.toList,oW n)else none
  | _,_=>none
 | _,_=>none
class Bs (P:O0)(t:Nat)(zs:outParam (LV))(offs:outParam (LN)):Prop where
 h:QnF P t=some (zs,offs)
 b:offs.all (·<zs.length)=true
def bld (offs:LN)(zs:LV):List (Nat×OY)->LV
 | []=>zs
 | (j,v)::ps=>bld offs (zs.set (offs.getD j 0) v) ps
def QlK:LV->Prop
 | []=>True
 | v::vs=>v.cells=#[v]/\QlK vs
theorem zP {place:Nat->Option (Nat×Nat)}{offs:LN}(G:∀j,j<offs.length->place j=some (offs.getD j 0,1)):∀(ps:List (Nat×OY)) (zs:LV),QlK (ps.map (·.2))->ps.all (λp=>p.1<offs.length)=true ->
  (∀o∈offs,o<zs.length)->Instr.fill place zs.toArray ps=some (bld offs zs ps).toArray
 | [],zs,_,_,_=>rfl
 | (j,v)::ps,zs,H,E,I=>by
  simp only[oR,oJ,decide_eq_true_eq]at E;have J:=G j E.1;have T:offs.getD j 0<zs.length:=I _ (by simp[oP,List.getElem?_eq_getElem E.1]);unfold Instr.fill;simp only[J];have O:v.cells=#[v]:=H.1;simp only[O];rw[OP (by rw[show(#[v]:Array OY).size=1 from rfl,LR];simp only[ne_eq,not_true,decide_false,Bool.false_or,decide_eq_true_eq];omega)];have:(#[v]:Array OY).zipIdx.foldl (λcs (x:OY×Nat)=>cs.setIfInBounds (offs.getD j 0+x.2) x.1) zs.toArray=(zs.set (offs.getD j 0) v).toArray:=by
   simp[Array.zipIdx]
  rw[this];exact zP G ps _ H.2 E.2 (λo S=>by rw[Me];exact I o S)
theorem QcV {zs:LV}{offs:LN}(h:QnF P t=some (zs,offs))(hb:offs.all (·<zs.length)=true)(ps:List (Nat×OY))(S:QlK (ps.map (·.2)))(T:ps.all (λp=>p.1<offs.length)=true):
  P.built t ps=some (bld offs zs ps).toArray:=by
 have V:∀o∈offs,o<zs.length:=λo ho=>oy (Mg.1 hb o ho)
 unfold QnF at h;unfold Program.built;cases hi:P.info? t with
 | none=>simp[hi]at h
 | some it =>
  cases Y:P.underlying t with
  | none=>simp[hi,Y]at h
  | some dd =>
   simp only[hi,Y]at h;cases dd <;> simp only[]at h <;> try (cases h)
   case struct fs =>
    cases E:it.zero with
    | none=>simp[E]at h
    | some z =>
     cases z <;> simp only[E]at h <;> try (cases h)
     rename_i za;cases I:fs.toList.mapM (λf=>(P.info? f.type).bind λi=>if i.size=1 then some f.offset else none)with
     | none=>simp[I]at h
     | some offs' =>
      simp only[I,Option.some.injEq,Prod.mk.injEq]at h;obtain⟨rfl,rfl⟩:=h;have key:∀(l:List Field) (offs:LN),l.mapM (λf=>(P.info? f.type).bind λi=>if i.size=1 then some f.offset else none)=some offs ->
        l.mapM (λf=>(P.info? f.type).map λi=>(f.offset,i.size))=some (offs.map λo=>(o,1)):=by
       intro l;induction l with
       | nil=>intro offs h;simp at h;subst h;rfl
       | cons f l ih =>
        intro offs h;simp only[List.mapM_cons]at h ⊢;cases J:P.info? f.type with
        | none=>simp[J]at h
        | some i =>
         by_cases G:i.size=1
         ·simp only[J,Option.bind_some,G,if_true,Option.bind_eq_bind]at h;cases hl:l.mapM (λf=>(P.info? f.type).bind λi=>if i.size=1 then some f.offset else none)with
          | none=>simp[hl]at h
          | some os =>
           simp[hl]at h;subst h;simp[ih os hl,G]
         simp[J,G]at h
      have ha:=key _ _ I;simp only[E,ha,Value.cells];rw[<-zP (place:=λj=>((offs'.map λo=>(o,1)).toArray)[j]?) (λj H=>by simp[List.getElem?_eq_getElem H,oP]) ps za.toList S T V]
   case array n e =>
    cases E:it.zero with
    | none=>simp[E]at h
    | some z =>
     cases z <;> simp only[E]at h <;> try (cases h)
     rename_i za;cases O:P.info? e with
     | none=>simp[O]at h
     | some ie =>
      simp only[O]at h;split at h
      ·rename_i G;simp only[Option.some.injEq,Prod.mk.injEq]at h;obtain⟨rfl,rfl⟩:=h;simp only[E,O,Value.cells];rw[<-zP (place:=λi=>some (i*ie.size,ie.size)) (λj H=>by simp at H;simp[G,oP,H]) ps za.toList S T V]
      cases h
theorem Qy {f:Fr}{pS:String}{zs:LV}{offs:LN}[h:Bs P t zs offs]{parts:List (Nat×OZ)}
  (E:QlK (parts.map λx=>ev f x.2)) (G:parts.all (λp=>p.1<offs.length)=true:=by rfl):
  (execOp (ev f) ⟨d,.build t parts.toArray,ty,pS,af,gd⟩).run P w=.ok (.value (.agg (bld offs zs (parts.map λx=>(x.1,ev f x.2))).toArray)) w:=by
 have H:=QcV h.h h.b (parts.map λx=>(x.1,ev f x.2)) (by rw[MB];exact E) (by rw[List.all_map];exact G);have I:=run_build (P:=P) w t (parts.toArray.map λ(i,x)=>(i,ev f x)) _ (oy H);simp only[execOp,Sem.run_bind,I,Result.andThen_ok,Sem.run_pure]
section
variable {K:Fr->OX->Prop}{f:Fr}{pS:String}{l:xx}
theorem Q7 {off:Nat}[Zk P t j off]{E:OZ}{o:Nat}(hx:ev f E=.pointer (some ⟨b,o,none⟩))(h:XL P ops K l (QT f d (.pointer (some ⟨b,o+off,none⟩))) w)(G:Ya ops f ⟨d,.fieldAddr t E j,ty,pS,af,gd⟩=true:=by rfl):XL P ops K (⟨d,.fieldAddr t E j,ty,pS,af,gd⟩::l) f w:=x (V5 hx) h G
theorem X2 [X7 P t]{E:OZ}{cs:LV}{u:OY}(G:Q9 w.heap b T cs)(hx:ev f E=.pointer (some ⟨b,j,none⟩))(H:cs[j]?=some u)(h:XL P ops K l (QT f d u) w)(I:Ya ops f ⟨d,.load t E,ty,pS,af,gd⟩=true:=by rfl):XL P ops K (⟨d,.load t E,ty,pS,af,gd⟩::l) f w:=x (Qr G hx H) h I
theorem Q6 [Ag P t sz]{E:OZ}{cs:LV}(G:Q9 w.heap b T cs)(hx:ev f E=.pointer (some ⟨b,0,none⟩))(hl:cs.length=sz)(h:XL P ops K l (QT f d (.agg cs.toArray)) w)(H:Ya ops f ⟨d,.load t E,ty,pS,af,gd⟩=true:=by rfl):XL P ops K (⟨d,.load t E,ty,pS,af,gd⟩::l) f w:=x (ZT G hx hl) h H
theorem QI {E:OZ}{e bys:Nat}[Sl P t e G bys z]{L:LN}{cs:LV}{v:OY}(I:Zm L H v n sz cs)(J:ev f E=v)(h:XL P ops K l (QT f d (oE oF n)) w)(O:Ya ops f ⟨d,.call ⟨.builtin .len,#[E],#[t]⟩,ty,pS,af,gd⟩=true:=by rfl):XL P ops K (⟨d,.call ⟨.builtin .len,#[E],#[t]⟩,ty,pS,af,gd⟩::l) f w:=x (Yv I J) h O
theorem QR {off:Nat}[Zk P t j off]{E:OZ}{o:Nat}(hx:ev f E=.pointer (some ⟨b,o,none⟩)):∀w',(execOp (ev f) ⟨d,.fieldAddr t E j,ty,pS,af,gd⟩).run P w'=.ok (.value (.pointer (some ⟨b,o+off,none⟩))) w':=λ_=>V5 hx
theorem Qs {off:Nat}[Zk P t j off]{E:OZ}{o:Nat}[X7 P G]{d2:xz}{I:Nat}{pS2:String}{J:xw}{O:xj}{H:OZ}{cs:LV}{u:OY}(hx:ev f E=.pointer (some ⟨b,o,none⟩))(S:Q9 w.heap b T cs)(V:ev (QT f d (.pointer (some ⟨b,o+off,none⟩))) H=.pointer (some ⟨b,i,none⟩))(Y:cs[i]?=some u)(h:XL P ops K l (QT (QT f d (.pointer (some ⟨b,o+off,none⟩))) d2 u) w)
  (hg:Ya ops f ⟨d,.fieldAddr t E j,ty,pS,af,gd⟩=true:=by rfl) (ha:Ya ops (QT f d (.pointer (some ⟨b,o+off,none⟩))) ⟨d2,.load G H,I,pS2,J,O⟩=true:=by rfl):XL P ops K (⟨d,.fieldAddr t E j,ty,pS,af,gd⟩::⟨d2,.load G H,I,pS2,J,O⟩::l) f w:=Q7 hx (X2 S V Y h ha) hg
end
section
variable {κ:Type}[DecidableEq κ]
def O6:List (κ×OY)->κ->Option OY
 | [],_=>none
 | (k',v)::m,k=>if k'=k then some v else O6 m k
def O7:List (κ×OY)->κ->OY->List (κ×OY)
 | [],k,v=>[(k,v)]
 | (k',v')::m,k,v=>if k'=k then(k',v)::m else(k',v')::O7 m k v
theorem Xl (m:List (κ×OY))(k k':κ)(v:OY):O6 (O7 m k v) k'=if k=k' then some v else O6 m k':=by
 induction m with
 | nil=>simp[O6,O7]
 | cons p m ih =>
  obtain⟨q,u⟩:=p;simp only[O7];by_cases h:q=k
  ·subst h;simp[O6];by_cases E:q=k' <;> simp[E]
  simp only[h,if_false,O6,ih];by_cases E:q=k'
  ·subst E;simp[Ne.symm h]
  simp[E]
def fnd (k:κ):List κ->List MapEntry->Nat->Option (Nat×OY)
 | q::ks,e::es,i=>if k=q then some (i,e.val)else fnd k ks es (i+1)
 | _,_,_=>none
end
class Key (P:O0)(kt:Nat){κ:Type}[DecidableEq κ](enc:κ->OY):Prop where
 check:∀(w:OX) (em:Bool) (k:κ),(Instr.checkKey em 10000 kt (enc k)).run P w=.ok () w
 find:∀(w:OX) (k:κ) (ks:List κ) (es:List MapEntry),es.map (·.key)=ks.map enc->(Instr.findKey kt (enc k) es).run P w=.ok (fnd k ks es 0) w
 same:∀k,Instr.sameBits 10000 (enc k) (enc k)=true
abbrev VE (n:Int):OY:=oE oF n
abbrev X8 (p:Int×Int):OY:=.agg #[oE oF p.1,oE oF p.2]
abbrev Jt (s:ByteArray):OY:=.string s
theorem QkB (G:P.underlying kt=some (.int .i64)):Key P kt VE:=by
 refine⟨λw em k=>?_,λw k ks es h=>?_,λk=>by simp[Instr.sameBits]⟩
 ·have H:∀n,(Instr.checkKey em (n+1) kt (VE k)).run P w=.ok () w:=λn=>by simp[Instr.checkKey,run_underlying G]
  exact H 9999
 have key:∀(ks:LI) (es:List MapEntry) (i:Nat),es.map (·.key)=ks.map VE->Instr.findNow (.int .i64) (VE k) es i=some (fnd k ks es i):=by
  intro ks;induction ks with
  | nil=>intro es i h;simp at h;subst h;rfl
  | cons q ks ih =>
   intro es i h;cases es with
   | nil=>simp at h
   | cons e es =>
    simp only[oZ,List.cons.injEq]at h;have I:=ih es (i+1) h.2;simp only[Instr.findNow,h.1,Instr.sameNow,VE,if_true,fnd];by_cases E:k=q
    ·subst E;simp
    have:(k == q)=false:=by simpa using E
    simp[E,this,I]
 simp[Instr.findKey,run_underlying G,key ks es 0 h]
theorem QkA (G:P.underlying kt=some .string):Key P kt Jt:=by
 refine⟨λw em k=>?_,λw k ks es h=>?_,λk=>by simp[Instr.sameBits,(MapKept.bytes_beq k k).2 rfl]⟩
 ·have H:∀n,(Instr.checkKey em (n+1) kt (Jt k)).run P w=.ok () w:=λn=>by simp[Instr.checkKey,run_underlying G]
  exact H 9999
 have key:∀(ks:List ByteArray) (es:List MapEntry) (i:Nat),es.map (·.key)=ks.map Jt->Instr.findNow .string (Jt k) es i=some (fnd k ks es i):=by
  intro ks;induction ks with
  | nil=>intro es i h;simp at h;subst h;rfl
  | cons q ks ih =>
   intro es i h;cases es with
   | nil=>simp at h
   | cons e es =>
    simp only[oZ,List.cons.injEq]at h;have I:=ih es (i+1) h.2;simp only[Instr.findNow,h.1,Instr.sameNow,Jt,fnd];by_cases E:k=q
    ·subst E;simp[(MapKept.bytes_beq k k).2 rfl]
    have:(k == q)=false:=by
     cases J:(k == q)with
     | false=>rfl
     | true=>exact OS ((MapKept.bytes_beq k q).1 J) E
    simp[E,this,I]
 simp[Instr.findKey,run_underlying G,key ks es 0 h]
theorem q9 {e:Nat}(V:P.underlying kt=some (.array 2 e))(I:P.underlying e=some (.int .i64))(E:(P.info? e).map (·.size)=some 1)(w:OX)(p q:Int×Int):
  (Op.equal kt (X8 p) (X8 q)).run P w=.ok (decide (p=q)) w:=by
 obtain⟨a,b⟩:=p;obtain⟨c,d⟩:=q;cases hi:P.info? e with
 | none=>simp[hi]at E
 | some ie =>
  simp[hi]at E;have J:∀w,(isAgg e).run P w=.ok false w:=λw=>by simp[isAgg,run_underlying I]
  have G:∀(x y:Int) (w:OX),(part e #[oE oF x,oE oF y] 0).run P w=.ok (oE oF x) w:=λx y w=>by simp[part,J]
  have O:∀(x y:Int) (w:OX),(part e #[oE oF x,oE oF y] 1).run P w=.ok (oE oF y) w:=λx y w=>by simp[part,J]
  have H:∀(m:Nat) (x y:Int) (w:OX),(Op.equalIn (m+1) e (oE oF x) (oE oF y)).run P w=.ok (x == y) w:=λm x y w=>by simp[Op.equalIn,run_underlying I]
  simp only[Op.equal,Op.maxDepth,X8];unfold Op.equalIn;simp only[Sem.run_bind,run_underlying V,Result.andThen_ok,sizeOf,typeInfo,run_program,hi,Sem.run_pure,E];simp only[Std.Legacy.Range.forIn_eq_forIn_range',Std.Legacy.Range.size,OC,Nat.add_sub_cancel,Nat.div_one,Ov,List.range'_zero,List.forIn_cons,List.forIn_nil,OK,Nat.one_mul,oX];by_cases S:a=c
  ·subst S;by_cases T:b=d
   ·subst T;simp[G,O,H]
   simp[G,O,H,T]
  simp[G,H,S]
theorem Qho {e:Nat}(E:P.underlying kt=some (.array 2 e))(H:P.underlying e=some (.int .i64))(G:(P.info? e).map (·.size)=some 1):Key P kt X8:=by
 refine⟨λw em k=>?_,λw k ks es h=>?_,λk=>?_⟩
 ·obtain⟨a,b⟩:=k;cases hi:P.info? e with
  | none=>simp[hi]at G
  | some ie =>
   simp[hi]at G;have J:∀w,(isAgg e).run P w=.ok false w:=λw=>by simp[isAgg,run_underlying H]
   have S:∀(x y:Int) (w:OX),(part e #[oE oF x,oE oF y] 0).run P w=.ok (oE oF x) w:=λx y w=>by simp[part,J]
   have T:∀(x y:Int) (w:OX),(part e #[oE oF x,oE oF y] 1).run P w=.ok (oE oF y) w:=λx y w=>by simp[part,J]
   have V:∀(m:Nat) (x:Int) (w:OX),(Instr.checkKey em (m+1) e (oE oF x)).run P w=.ok () w:=λm x w=>by simp[Instr.checkKey,run_underlying H]
   simp only[X8];unfold Instr.checkKey;simp only[Sem.run_bind,run_underlying E,Result.andThen_ok,sizeOf,typeInfo];simp[Std.Legacy.Range.forIn_eq_forIn_range',Std.Legacy.Range.size,Ov,hi,G,S,T,V]
 ·have Y:∀es i,es.map (·.key)=ks.map X8->Instr.findNow (.array 2 e) (X8 k) es i=none\/es=[]:=by
   intro es i h;cases es with
   | nil=>exact .inr U
   | cons e es=>left;simp[Instr.findNow,Instr.sameNow]
  have ask:∀(ks:xq) (es:List MapEntry) (i:Nat),es.map (·.key)=ks.map X8->(Instr.findAsking kt (X8 k) es i).run P w=.ok (fnd k ks es i) w:=by
   intro ks;induction ks with
   | nil=>intro es i h;simp at h;subst h;simp[Instr.findAsking,fnd]
   | cons q ks ih =>
    intro es i h;cases es with
    | nil=>simp at h
    | cons e es =>
     simp only[oZ,List.cons.injEq]at h;have ha:=ih es (i+1) h.2;simp only[Instr.findAsking,h.1,Sem.run_bind,q9 E H G,Result.andThen_ok,fnd];by_cases O:k=q
     ·subst O;simp
     simp[O,ha]
  rcases Y es 0 h with I|I
  ·simp[Instr.findKey,run_underlying E,I,ask ks es 0 h]
  subst I;have:ks=[]:=by simpa using h.symm
  subst this;simp[Instr.findKey,run_underlying E,Instr.findNow,fnd]
 simp[Instr.sameBits]
class Mp (P:O0)(t:Nat)(kt et:outParam Nat)(z:outParam OY):Prop where
 u:P.underlying t=some (.map kt et)
 z:(P.info? et).map (·.zero)=some (some z)
def Yi {κ:Type}(enc:κ->OY)(H:xu)(b:Nat)(m:List (κ×OY)):Prop :=
 ∃es clock,H[b]?=some (.map es clock)/\es.toList.map (λe=>(e.key,e.val))=m.map (λp=>(enc p.1,p.2))
section
variable {κ:Type}{enc:κ->OY}
theorem Yi.lt {m:List (κ×OY)}(h:Yi enc H b m):b<H.size:=by
 obtain⟨es,c,E,_⟩:=h;exact(LO.1 E).1
theorem Yi.J {X:LN}{m:List (κ×OY)}(h:Yi enc w.heap b m)(E:O1 X w w')(G:b∉X):Yi enc w'.heap b m:=by
 have hl:=h.lt;obtain⟨es,c,H,I⟩:=h;exact⟨es,c,by rw[E.block b hl G];exact H,I⟩
theorem Yi.I {m:List (κ×OY)}(h:Yi enc w.heap b m)(E:O1 [] w w'):Yi enc w'.heap b m:=h.J E oe
theorem j8 {m:List (κ×OY)}{es:List MapEntry}(h:es.map (λe=>(e.key,e.val))=m.map (λp=>(enc p.1,p.2))):es.map (·.key)=(m.map (·.1)).map enc:=by
 have:=OR (List.map Prod.fst) h;simp only[List.map_map]at this ⊢;exact this
variable [DecidableEq κ]
theorem Uh {k:κ}:∀{m:List (κ×OY)}{es:List MapEntry}{i:Nat},es.map (λe=>(e.key,e.val))=m.map (λp=>(enc p.1,p.2))->O6 m k=none->fnd k (m.map (·.1)) es i=none
 | [],es,i,h,_=>by simp[fnd]
 | (q,u)::m,[],i,h,_=>by simp at h
 | (q,u)::m,e::es,i,h,E=>by
  simp only[oZ,List.cons.injEq]at h;simp only[O6]at E;by_cases G:q=k
  ·simp[G]at E
  simp only[G,if_false]at E;simp only[oZ,fnd,Ne.symm G,if_false];exact Uh h.2 E
theorem Ug {k:κ}{u:OY}:∀{m:List (κ×OY)}{es:List MapEntry}{i:Nat},es.map (λe=>(e.key,e.val))=m.map (λp=>(enc p.1,p.2))->O6 m k=some u ->
  ∃j,fnd k (m.map (·.1)) es i=some (i+j,u)/\j<es.length/\(∃e,es[j]?=some e/\e.key=enc k) /\
   ∀v,(es.modify j λe=>{ e with key:=enc k,val:=v }).map (λe=>(e.key,e.val))=(O7 m k v).map (λp=>(enc p.1,p.2))
 | [],es,i,_,h=>by simp[O6]at h
 | (q,x)::m,[],i,h,_=>by simp at h
 | (q,x)::m,e::es,i,h,E=>by
  simp only[oZ,List.cons.injEq,Prod.mk.injEq]at h;simp only[O6]at E;by_cases G:q=k
  ·subst G;simp at E;subst E;refine⟨0,by simp[fnd,h.1.2],oe,⟨e,rfl,h.1.1⟩,λv=>?_⟩;simp[O7,h.2]
  simp only[G,if_false]at E;obtain⟨j,H,T,⟨I,J,O⟩,S⟩:=Ug (i:=i+1) h.2 E;refine⟨j+1,?_,by simp;omega,⟨I,oy J,O⟩,λv=>?_⟩
  ·simp only[oZ,fnd,Ne.symm G,if_false,H];congr 2;omega
  simp only[O7,G,if_false,List.modify_succ_cons,oZ,S v,h.1]
end
section
variable {K:Fr->OX->Prop}{f:Fr}{pS:String}{κ:Type}[DecidableEq κ]
omit [DecidableEq κ] in
theorem Yy (enc:κ->OY)
  (hK:∀b w',O1 [] w w'->w.heap.size<=b->Yi enc w'.heap b []->K (QT f d (.map (some b))) w'):XO P ⟨d,.makeMap t none,ty,pS,af,gd⟩ f w K:=by
 have E:(execOp (ev f) ⟨d,.makeMap t none,ty,pS,af,gd⟩).run P w=.ok (.value (.map (some w.heap.size))) (w.alloc (.map #[] 0)):=by
  simp[execOp,Instr.makeMap]
 exact xv E (hK _ _ (O1.alloc w _) (Lv _) ⟨#[],0,JY w _,U⟩)
theorem XW {es:Array MapEntry}{c:Nat}(h:w.heap[b]?=some (.map es c)):(getObj b).run P w=.ok (.map es c) w:=by
 simp[getObj,Sem.run,h]
theorem Vq {es E:Array MapEntry}{c:Nat}(h:w.heap[b]?=some (.map es c)):(setObj b (.map E G)).run P w=.ok () { w with heap:=w.heap.setIfInBounds b (.map E G) }:=by
 simp[setObj,Sem.run,h]
theorem KM [hm:Mp P t kt et z]{enc:κ->OY}[G:Key P kt enc]{x:OZ}{m:List (κ×OY)}{k:κ}(h:Yi enc w.heap b m)(hx:ev f x=.map (some b))(I:ev f y=enc k):
  (execOp (ev f) ⟨d,.lookup t x y true,ty,pS,af,gd⟩).run P w=.ok (.value (match O6 m k with|some u=>.tuple #[u,.bool true]|none=>.tuple #[z,.bool false])) w:=by
 obtain⟨es,c,J,E⟩:=h;have O:=G.find w k (m.map (·.1)) es.toList (j8 E);have S:(zeroValue et).run P w=.ok z w:=by
  have:=hm.z;cases hi:P.info? et with
  | none=>simp[hi]at this
  | some i=>simp[hi]at this;simp[zeroValue,typeInfo,hi,this]
 simp only[execOp,Sem.run_bind,Instr.lookup,run_underlying hm.u,Result.andThen_ok,hx,I,XW J,Sem.run_pure,G.check,O];cases H:O6 m k with
 | none=>rw[Uh E H];simp[S]
 | some u =>
  obtain⟨j,T,_⟩:=Ug (i:=0) E H;rw[T];simp
theorem Ji [hm:Mp P t kt et z]{enc:κ->OY}[G:Key P kt enc]{x:OZ}{m:List (κ×OY)}{k:κ}(h:Yi enc w.heap b m)(hx:ev f x=.map (some b))(I:ev f y=enc k):
  (execOp (ev f) ⟨d,.lookup t x y false,ty,pS,af,gd⟩).run P w=.ok (.value (match O6 m k with|some u=>u|none=>z)) w:=by
 obtain⟨es,c,J,E⟩:=h;have O:=G.find w k (m.map (·.1)) es.toList (j8 E);have S:(zeroValue et).run P w=.ok z w:=by
  have:=hm.z;cases hi:P.info? et with
  | none=>simp[hi]at this
  | some i=>simp[hi]at this;simp[zeroValue,typeInfo,hi,this]
 simp only[execOp,Sem.run_bind,Instr.lookup,run_underlying hm.u,Result.andThen_ok,hx,I,XW J,Sem.run_pure,G.check,O];cases H:O6 m k with
 | none=>rw[Uh E H];simp[S]
 | some u =>
  obtain⟨j,T,_⟩:=Ug (i:=0) E H;rw[T];simp
theorem q8 [hm:Mp P t kt et z]{enc:κ->OY}[I:Key P kt enc]{m:List (κ×OY)}{k:κ}{u:OY}(h:Yi enc w.heap b m):
  ∃w',(Instr.mapUpdate t (.map (some b)) (enc k) u).run P w=.ok () w'/\O1 [b] w w'/\Yi enc w'.heap b (O7 m k u):=by
 have hl:=h.lt;obtain⟨es,c,J,G⟩:=h;have E:=I.find w k (m.map (·.1)) es.toList (j8 G);have stp:∀S T,O1 [b] w { w with heap:=w.heap.setIfInBounds b (.map S T) }:=λS T =>
  ⟨rfl,rfl,rfl,oe,λi hi V=>by
   have:b≠i:=λe=>V (by simp[e]);simp[Array.getElem?_setIfInBounds_ne this]⟩
 cases H:O6 m k with
 | none =>
  rw[Uh G H]at E;refine⟨_,?_,stp (es.push { key:=enc k,val:=u,born:=c }) (c+1),es.push { key:=enc k,val:=u,born:=c },c+1,?_,?_⟩
  ·simp only[Instr.mapUpdate,Sem.run_bind,run_underlying hm.u,Result.andThen_ok,XW J,I.check,E,Vq J]
  ·simp[hl]
  have Y:O7 m k u=m++[(k,u)]:=by
   clear G E;induction m with
   | nil=>rfl
   | cons p m ih =>
    obtain⟨q,x⟩:=p;by_cases O:q=k
    ·simp[O6,O]at H
    simp only[O6,O,if_false]at H;simp[O7,O,ih H]
  simp[Y,G]
 | some u0 =>
  obtain⟨j,hj,ho,⟨e,he,ha⟩,hb⟩:=Ug (i:=0) G H;rw[hj]at E;simp only[oX]at E;have hc:∀w,(Instr.keyThatStays (enc k) (enc k)).run P w=.ok (enc k) w:=λw=>by simp[Instr.keyThatStays,I.same]
  have hh:((es[j]?).map (·.key)).getD (enc k)=enc k:=by
   have:es[j]?=some e:=by simpa using he
   simp[this,ha]
  refine⟨_,?_,stp (es.modify j λe=>{ e with key:=enc k,val:=u }) c,es.modify j λe=>{ e with key:=enc k,val:=u },c,?_,?_⟩
  ·simp only[Instr.mapUpdate,Sem.run_bind,run_underlying hm.u,Result.andThen_ok,XW J,I.check,E,hh,hc,Vq J]
  ·simp[hl]
  rw[Array.toList_modify];exact hb u
theorem Xv [hm:Mp P t kt et z]{enc:κ->OY}[hk:Key P kt enc]{x v:OZ}{m:List (κ×OY)}{k:κ}(h:Yi enc w.heap b m)(hx:ev f x=.map (some b))(E:ev f y=enc k)
  (hK:∀w',O1 [b] w w'->Yi enc w'.heap b (O7 m k (ev f v))->K (QT f d undef) w'):XO P ⟨d,.mapUpdate t x y v,ty,pS,af,gd⟩ f w K:=by
 obtain⟨w',G,H,I⟩:=q8 (P:=P) (t:=t) (k:=k) (u:=ev f v) h;exact xk (w':=w') (by simp[execOp,hx,E,G]) (hK w' H I)
theorem XY [hm:Mp P t kt et z]{enc:κ->OY}[hk:Key P kt enc]{x v:OZ}{m:List (κ×OY)}{k:κ}(h:Yi enc w.heap b m)(hx:ev f x=.map (some b))(E:ev f y=enc k)
  (hK:∀w',O1 [b] w w'->Yi enc w'.heap b (O7 m k (ev f v))->K (QT f d undef) w'):XO P ⟨d,.insert t x y v,ty,pS,af,gd⟩ f w K:=by
 obtain⟨w',G,H,I⟩:=q8 (P:=P) (t:=t) (k:=k) (u:=ev f v) h;exact xk (w':=w') (by simp[execOp,hx,E,G]) (hK w' H I)
end
section
def eqV:OY->OY->Bool
 | .int _ a,.int _ b=>a == b
 | .string a,.string b=>a == b
 | .bool a,.bool b=>a == b
 | _,_=>false
def tvB:LN->LV->LV->Bool
 | [],[],[]=>true
 | 0::ks,oE oF _::xs,oE oF _::ys=>tvB ks xs ys
 | 1::ks,.string _::xs,.string _::ys=>tvB ks xs ys
 | 2::ks,.bool _::xs,.bool _::ys=>tvB ks xs ys
 | _,_,_=>false
def Vn:LV->LV->Bool
 | x::xs,y::ys=>eqV x y && Vn xs ys
 | _,_=>true
inductive Fks (P:O0):Nat->List Field->LN->Prop
 | nil {o:Nat}:Fks P o [] []
 | int {o:Nat} {f:Field} {fs:List Field} {ks:LN} (hn:f.name ≠ "_") (ho:f.offset=o) (hu:P.underlying f.type=some (.int .i64)) (h:Fks P (o+1) fs ks):Fks P o (f::fs) (0::ks)
 | str {o:Nat} {f:Field} {fs:List Field} {ks:LN} (hn:f.name ≠ "_") (ho:f.offset=o) (hu:P.underlying f.type=some .string) (h:Fks P (o+1) fs ks):Fks P o (f::fs) (1::ks)
 | flag {o:Nat} {f:Field} {fs:List Field} {ks:LN} (hn:f.name ≠ "_") (ho:f.offset=o) (hu:P.underlying f.type=some .bool) (h:Fks P (o+1) fs ks):Fks P o (f::fs) (2::ks)
theorem qG {k:Nat}{v:OY}{l:LV}(h:∀w,(isAgg t).run P w=.ok false w)(E:l[k]?=some v)(w:OX):(part t l.toArray k).run P w=.ok v w:=by
 have e:l.toArray[k]?=some v:=by simpa using E
 simp[part,h w,e]
theorem zT {d o:Nat}{f:Field}{fs:List Field}{x y:OY}{xs ys X Y:LV}(I:f.name ≠ "_") (J:f.offset=o) (E:∀w,(isAgg f.type).run P w=.ok false w) (O:∀m w,(Op.equalIn (m+1) f.type x y).run P w=.ok (eqV x y) w)
  (G:X.drop o=x::xs) (H:Y.drop o=y::ys) (ih:X.drop (o+1)=xs->Y.drop (o+1)=ys->∀w,(Op.eqFields (d+1) X.toArray Y.toArray fs).run P w=.ok (Vn xs ys) w) (w:OX):
  (Op.eqFields (d+1) X.toArray Y.toArray (f::fs)).run P w=.ok (Vn (x::xs) (y::ys)) w:=by
 have hx:X[o]?=some x:=by rw[<-List.head?_drop,G];rfl
 have S:Y[o]?=some y:=by rw[<-List.head?_drop,H];rfl
 have T:X.drop (o+1)=xs:=by rw[<-List.tail_drop,G];rfl
 have V:Y.drop (o+1)=ys:=by rw[<-List.tail_drop,H];rfl
 simp only[Op.eqFields,I,ne_eq,not_false_eq_true,if_true,Sem.run_bind,J,qG E hx,qG E S,O,Result.andThen_ok,Sem.run_ite,Vn];cases hv:eqV x y with
 | false=>simp
 | true=>simpa using ih T V w
theorem Fks.run {d:Nat}{o:Nat}{fs:List Field}{ks:LN}(h:Fks P o fs ks):∀{xs ys X Y:LV},tvB ks xs ys=true->X.drop o=xs->Y.drop o=ys->∀w,(Op.eqFields (d+1) X.toArray Y.toArray fs).run P w=.ok (Vn xs ys) w:=by
 induction h with
 | nil =>
  intro xs ys X Y E _ _ w;cases xs with
  | nil=>simp[Op.eqFields,Vn]
  | cons x xs=>cases ys <;> simp[tvB]at E
 | @int o f fs ks H I G h ih =>
  intro xs ys X Y E J O w
  match xs,ys,E with
  | oE oF a::xs,oE oF b::ys,E=>exact zT H I (λw=>by simp[isAgg,run_underlying G]) (λm w=>by simp[Op.equalIn,run_underlying G,eqV]) J O (λS T=>ih E S T) w
 | @str o f fs ks H I G h ih =>
  intro xs ys X Y E J O w
  match xs,ys,E with
  | .string a::xs,.string b::ys,E=>exact zT H I (λw=>by simp[isAgg,run_underlying G]) (λm w=>by simp[Op.equalIn,run_underlying G,eqV]) J O (λS T=>ih E S T) w
 | @flag o f fs ks H I G h ih =>
  intro xs ys X Y E J O w
  match xs,ys,E with
  | .bool a::xs,.bool b::ys,E=>exact zT H I (λw=>by simp[isAgg,run_underlying G]) (λm w=>by simp[Op.equalIn,run_underlying G,eqV]) J O (λS T=>ih E S T) w
class Sk (P:O0)(t:Nat)(ks:outParam (LN)):Prop where
 u:∃fs:List Field,P.underlying t=some (.struct fs.toArray)/\Fks P 0 fs ks
 s:P.stoodInHeld t=false
 g:P.eqGuardType P.depth t=false
theorem V0 {ks:LN}[h:Sk P t ks]{xs ys:LV}(I:tvB ks xs ys=true)(w:OX):(Op.equal t (.agg xs.toArray) (.agg ys.toArray)).run P w=.ok (Vn xs ys) w:=by
 obtain⟨fs,E,J⟩:=h.u;have G:P.fieldsOf t=fs.toArray:=by unfold Program.fieldsOf;rw[E]
 have O:P.underlying t=some (.struct (P.fieldsOf t)):=by rw[G];exact E
 have H:=run_equalIn_struct (P:=P) w 9999 t xs.toArray ys.toArray O h.s;rw[G]at H;exact H.D (J.run (d:=9998) I U U w)
variable {f:Fr}{pS:String}
theorem V3 {ks:LN}[h:Sk P t ks]{x:OZ}{xs ys:LV}(G:tvB ks xs ys=true)(hx:ev f x=.agg xs.toArray)(H:ev f y=.agg ys.toArray):
  (execOp (ev f) ⟨d,.binOp .neq t x y E,ty,pS,af,gd⟩).run P w=.ok (.value (.bool (!Vn xs ys))) w:=by
 have I:(eqGuard .neq t x y (.agg xs.toArray) (.agg ys.toArray)).run P w=.ok () w:=by simp[eqGuard,h.g]
 simp only[execOp,hx,H,Sem.run_bind,I,Result.andThen_ok,binOp,V0 G,Sem.run_pure]
end
abbrev kKy (k:Int×ByteArray):OY:=.agg #[oE oF k.1,.string k.2]
theorem Qkz (k k':Int×ByteArray):Vn [oE oF k.1,.string k.2] [oE oF k'.1,.string k'.2]=decide (k=k'):=by
 obtain⟨a,b⟩:=k;obtain⟨c,e⟩:=k';have E:(b == e)=decide (b=e):=by
  cases E:(b == e)with
  | true=>exact(OT ((MapKept.bytes_beq b e).1 E)).symm
  | false=>exact(OV λh=>by rw[(MapKept.bytes_beq b e).2 h]at E;cases E).symm
 simp only[Vn,eqV,E,Bool.and_true,Prod.mk.injEq];by_cases G:a=c
 ·subst G;simp
 simp[G]
theorem QmN {E G:Field}[h:Sk P kt [0,1]](I:P.underlying kt=some (.struct #[E,G]))(Y:E.name ≠ "_") (n1:G.name ≠ "_") (o0:E.offset=0) (o1:G.offset=1) (J:P.underlying E.type=some (.int .i64)) (O:P.underlying G.type=some .string):Key P kt kKy:=by
 have ha:∀w,(isAgg E.type).run P w=.ok false w:=λw=>by simp[isAgg,run_underlying J]
 have hb:∀w,(isAgg G.type).run P w=.ok false w:=λw=>by simp[isAgg,run_underlying O]
 refine⟨λw em k=>?_,λw k ks es S=>?_,λk=>?_⟩
 ·obtain⟨a,b⟩:=k;have p0:∀w,(part E.type #[oE oF a,.string b] 0).run P w=.ok (oE oF a) w:=λw=>qG (l:=[oE oF a,.string b]) (k:=0) ha U w;have p1:∀w,(part G.type #[oE oF a,.string b] 1).run P w=.ok (.string b) w:=λw=>qG (l:=[oE oF a,.string b]) (k:=1) hb U w;have c0:∀(m:Nat) (w:OX),(Instr.checkKey em (m+1) E.type (oE oF a)).run P w=.ok () w:=λm w=>by simp[Instr.checkKey,run_underlying J]
  have c1:∀(m:Nat) (w:OX),(Instr.checkKey em (m+1) G.type (.string b)).run P w=.ok () w:=λm w=>by simp[Instr.checkKey,run_underlying O]
  simp only[kKy];unfold Instr.checkKey;simp only[Sem.run_bind,run_underlying I,Result.andThen_ok];simp[Y,n1,o0,o1,p0,p1,c0,c1]
 ·have ask:∀(ks:List (Int×ByteArray)) (es:List MapEntry) (i:Nat),es.map (·.key)=ks.map kKy->(Instr.findAsking kt (kKy k) es i).run P w=.ok (fnd k ks es i) w:=by
   intro ks;induction ks with
   | nil=>intro es i h;simp at h;subst h;simp[Instr.findAsking,fnd]
   | cons q ks ih =>
    intro es i H;cases es with
    | nil=>simp at H
    | cons e es =>
     simp only[oZ,List.cons.injEq]at H;have hc:=ih es (i+1) H.2;have T:=V0 (P:=P) (t:=kt) (xs:=[oE oF k.1,.string k.2]) (ys:=[oE oF q.1,.string q.2]) U w;rw[Qkz]at T;have hf:(Op.equal kt (kKy k) (kKy q)).run P w=.ok (decide (k=q)) w:=T;simp only[Instr.findAsking,H.1,Sem.run_bind,hf,Result.andThen_ok,fnd];by_cases V:k=q
     ·subst V;simp
     simp[V,hc]
  cases es with
  | nil =>
   have:ks=[]:=by simpa using S.symm
   subst this;simp[Instr.findKey,run_underlying I,Instr.findNow,fnd]
  | cons e es =>
   have hn:Instr.findNow (.struct #[E,G]) (kKy k) (e::es) 0=none:=by simp[Instr.findNow,Instr.sameNow]
   simp only[Instr.findKey,Sem.run_bind,run_underlying I,Result.andThen_ok,hn];exact ask ks (e::es) 0 S
 simp[Instr.sameBits,(MapKept.bytes_beq k.2 k.2).2 rfl]
section
variable {K:Fr->OX->Prop}{f:Fr}{pS:String}{l:xx}
theorem XJ {cs cs':LV}(h:Q9 w.heap b T cs):Q9 (w.setRow b cs'.toArray).heap b T cs':=setRow_heap w b cs.toArray cs'.toArray T (0,0) h
theorem yq (cs:LV)(j:Nat)(u:OY)(h:j<cs.length):cs.take j++[u]++cs.drop (j+1)=cs.set j u:=by
 rw[List.set_eq_take_append_cons_drop,OQ h];simp
theorem QE [h1:X7 P t]{x:OZ}{cs:LV}{u:OY}(E:Q9 w.heap b T cs)(hx:ev f x=.pointer (some ⟨b,j,none⟩))(J:ev f y=u)(O:j<cs.length)(G:u.oneCell'=true)
  (hK:∀w',O1 [b] w w'->Q9 w'.heap b T (cs.set j u)->K (QT f d undef) w'):XO P ⟨d,.store t x y,ty,pS,af,gd⟩ f w K:=by
 have S:u.cells=#[u]:=by cases u <;> first|rfl|cases G
 have I:=run_storeCells_at P b j T [u] 0 cs.toArray w E (by simp;omega) (by simp[G]);simp only[OB,oN,yq cs j u O]at I;refine xk (w':=w.setRow b (cs.set j u).toArray) ?_ (hK _ (O1.setRow _ _ _) (XJ E));simp[execOp,hx,J,Instr.storeAt,Instr.sureAddr,storeVar,Qcg,S,I]
def Zp:LV->Prop
 | []=>True
 | u::us=>u.oneCell'=true/\Zp us
theorem Zp.all:∀{us:LV},Zp us->∀u∈us,u.oneCell'=true
 | [],_,u,E=>by cases E
 | v::us,h,u,E=>by
  rcases Li.1 E with rfl|E
  ·exact h.1
  exact Zp.all h.2 u E
theorem Qj [h1:Ag P t sz]{x:OZ}{cs us:LV}(E:Q9 w.heap b T cs)(hx:ev f x=.pointer (some ⟨b,0,none⟩))(I:ev f y=.agg us.toArray)(hl:us.length=sz)(J:cs.length=sz)(O:Zp us)
  (hK:∀w',O1 [b] w w'->Q9 w'.heap b T us->K (QT f d undef) w'):XO P ⟨d,.store t x y,ty,pS,af,gd⟩ f w K:=by
 have G:=run_storeCells_at P b 0 T us 0 cs.toArray w E (by simp;omega) O.all;have e:(cs.take 0++us++cs.drop us.length)=us:=by rw[hl,<-J];simp
 simp only[OB,oX,e]at G;refine xk (w':=w.setRow b us.toArray) ?_ (hK _ (O1.setRow _ _ _) (XJ E));subst hl;simp[execOp,hx,I,Instr.storeAt,Instr.sureAddr,storeVar,UE (sz:=us.length),Value.cells,G]
theorem Zv {x:OZ}{e bys:Nat}[h:Sl P t e sz bys z]{o c:Nat}{k:IntKind}(hx:ev f x=.slice (some ⟨b,o,none⟩) n c)(E:ev f y=.int k i)(G:i<n):
  (execOp (ev f) ⟨d,.indexAddr t x y,ty,pS,af,gd⟩).run P w=.ok (.value (.pointer (some ⟨b,o+i*sz,none⟩))) w:=by
 have:=Xd (P:=P) (w:=w) (d:=d) (ty:=ty) (pS:=pS) (af:=af) (gd:=gd) (t:=t) hx E oa oa;rw[Ub]at this;simpa using this
theorem Qki {e bys:Nat}[h:Sl P t e sz bys z]{x:OZ}{k:IntKind}(hx:ev f x=.int k n)(J:ev f y=.int k' n)(O:bys*n<=281474976710656)(hn:n<=1099511627776)
  (hK:∀b w',O1 [] w w'->w.heap.size<=b->Q9 w'.heap b e (oM n z.cells.toList).flatten->K (QT f d (.slice (some ⟨b,0,none⟩) n n)) w'):
  XO P ⟨d,.makeSlice t x y,ty,pS,af,gd⟩ f w K:=by
 obtain⟨i,hi,S,T,V⟩:=Sl.info h;have hb:i.bytes*n<=281474976710656:=by rw[V];exact O
 have Y:(i.bytes:Int)*(n:Int)<=281474976710656:=by
  have h:((i.bytes*n:Nat):Int)<=281474976710656:=oa
  rwa [Int.natCast_mul]at h
 have G:=run_make (P:=P) w t e i z h.u hi S k k' n n oa (Ny _) Y oa;simp only[Ou]at G;have ha:madeCells z.cells (n*i.size)=(oM n z.cells.toList).flatten.toArray:=by
  have hc:z.cells.size=i.size:=by rw[h.zs,T]
  apply Array.ext';apply M7;intro j;simp only[madeCells,<-hc,Array.toList_map,Array.toList_range,List.getElem?_map];have he:∀n,(oM n z.cells.toList).flatten.length=n*z.cells.size:=λn=>oe
  have key:∀n j,j<n*z.cells.size->(oM n z.cells.toList).flatten[j]?=some z.cells[j % z.cells.size]!:=by
   intro n;induction n with
   | zero=>intro j E;omega
   | succ n ih =>
    intro j E;rw[List.replicate_succ,List.flatten_cons];by_cases I:j<z.cells.size
    ·rw[My (oy I),Nw I];simp[I]
    rw[MX (by simp;omega)];have:=ih (j - z.cells.size) (by rw[Mo]at E;omega);rw[Array.length_toList,this];rw[<-Nat.mod_eq_sub_mod oa]
  by_cases E:j<n*z.cells.size
  ·rw[key n j E];simp[E]
  rw[MR (oy (OD E)),List.getElem?_eq_none (by rw[he];omega)];rfl
 rw[ha]at G;refine xv (w':=w.alloc (.cells (oM n z.cells.toList).flatten.toArray e)) (v:=.slice (some ⟨w.heap.size,0,none⟩) n n) ?_ (hK _ _ (O1.alloc w _) (Lv _) (JY w _));simp[execOp,hx,J,G]
theorem UJ {e bys:Nat}[h:Sl P t e sz bys z]{x:OZ}{k:IntKind}(hx:ev f x=.int k n)(G:ev f y=.int k' n)(E:n<=1099511627776)
  (hK:∀b w',O1 [] w w'->w.heap.size<=b->Q9 w'.heap b e (oM n z.cells.toList).flatten->K (QT f d (.slice (some ⟨b,0,none⟩) n n)) w') (I:bys<=128:=by decide):
  XO P ⟨d,.makeSlice t x y,ty,pS,af,gd⟩ f w K:=Qki hx G (LH (Nat.mul_le_mul I E) oa) E hK
theorem ZK {k:IntKind}{y:Nat}{c:BoundsCode}(h:i<=y):(Instr.sliceBound (.int k i) y c).run P w=.ok i w:=by
 simp[Instr.sliceBound,asIntOf,h]
theorem Zm.cut {L:LN}{a:Addr}{cs:LV}(h:Zm L H (.slice (some a) n cap) n sz cs)(S:lo<=hi)(T:hi<=n):
  Zm L H (.slice (if cap=lo then some a else some (a.add (lo*sz))) (hi - lo) (cap - lo)) (hi - lo) sz ((cs.drop (lo*sz)).take ((hi - lo)*sz)):=by
 obtain⟨J,V,O⟩:=h;rcases O with⟨G,_⟩|⟨a',cap',G,Y,I⟩
 ·cases G
 cases G
 refine⟨?_,oa,.inr ?_⟩
 ·simp only[o7,o6,J,<-Nat.sub_mul];rw[Ml];exact LY _ oa
 split
 ·rename_i hc;have:hi - lo=0:=oa
  refine⟨a,cap - lo,by rw[this],oa,λu E=>?_,λu E=>?_,λj u E=>?_⟩
  ·simp[this]at E
  ·simp[this]at E
  simp[this]at E
 refine⟨a.add (lo*sz),cap - lo,U,oa,λu E=>by rw[YC];exact I.out u (Mc (LZ E)),λu E=>by rw[YC];exact I.lt u (Mc (LZ E)),λj u E=>?_⟩;rw[Addr.add_add];rw[LX]at E;split at E
 ·exact I.cell _ u (oy E)
 cases E
theorem Qj7 {e bys:Nat}[h:Sl P t e sz bys z]{x y1 y2:OZ}{L:LN}{v:OY}{cs:LV}{k:IntKind}(G:Zm L H v n sz cs)(hx:ev f x=v)(hl:ev f y1=.int k lo)(I:ev f y2=.int k' hi)
  (O:lo<=hi) (S:hi<=n):∃v',Zm L H v' (hi - lo) sz ((cs.drop (lo*sz)).take ((hi - lo)*sz))/\∀w,(execOp (ev f) ⟨d,.slice t x (some y1) (some y2) none,ty,pS,af,gd⟩).run P w=.ok (.value v') w:=by
 obtain⟨i,J,_,T,_⟩:=Sl.info h;rcases G.2.2 with⟨E,V⟩|⟨a,cap,E,Y,ha⟩
 ·have e1:hi=0:=oa
  have e2:lo=0:=oa
  subst e1 e2;refine⟨nS,⟨oe,oa,.inl ⟨rfl,rfl⟩⟩,λw=>?_⟩;simp[execOp,hx,E,hl,I,Instr.sliceAt,Instr.slice,run_underlying h.u,Instr.sliceBounds,Instr.sliceBound,asIntOf,sizeOf,typeInfo,J]
 subst E;refine⟨_,G.cut O S,λw=>?_⟩;have e1:(Instr.sliceBound (.int k' hi) cap .sliceAcap).run P w=.ok hi w:=ZK oa;have e2:(Instr.sliceBound (.int k lo) hi .sliceB).run P w=.ok lo w:=ZK oa;simp[execOp,hx,hl,I,Instr.sliceAt,Instr.slice,run_underlying h.u,Instr.sliceBounds,e1,e2,sizeOf,typeInfo,J,T]
theorem QaX {e bys:Nat}[h:Sl P t e sz bys z]{x y1:OZ}{L:LN}{v:OY}{cs:LV}{k:IntKind}(E:Zm L H v n sz cs)(hx:ev f x=v)(hl:ev f y1=.int k lo)
  (I:lo<=n):∃v',Zm L H v' (n - lo) sz (cs.drop (lo*sz))/\∀w,(execOp (ev f) ⟨d,.slice t x (some y1) none none,ty,pS,af,gd⟩).run P w=.ok (.value v') w:=by
 obtain⟨i,J,_,S,_⟩:=Sl.info h;rcases E.2.2 with⟨G,T⟩|⟨a,cap,G,V,Y⟩
 ·have e2:lo=0:=oa
  subst e2 T;have:cs=[]:=Ls (oy E.1);subst this;refine⟨nS,⟨oe,oa,.inl ⟨rfl,rfl⟩⟩,λw=>?_⟩;simp[execOp,hx,G,hl,Instr.sliceAt,Instr.slice,run_underlying h.u,Instr.sliceBounds,Instr.sliceBound,asIntOf,sizeOf,typeInfo,J]
 subst G;have O:=E.cut I (Lv n);have e:(cs.drop (lo*sz)).take ((n - lo)*sz)=cs.drop (lo*sz):=Lr (by rw[LW,E.1,<-Nat.sub_mul];exact Lv _);rw[e]at O;refine⟨_,O,λw=>?_⟩;have e2:(Instr.sliceBound (.int k lo) n .sliceB).run P w=.ok lo w:=ZK I;simp[execOp,hx,hl,Instr.sliceAt,Instr.slice,run_underlying h.u,Instr.sliceBounds,e2,sizeOf,typeInfo,J,S]
theorem QaY {e bys:Nat}[h:Sl P t e sz bys z]{x y2:OZ}{L:LN}{v:OY}{cs:LV}{k:IntKind}(G:Zm L H v n sz cs)(hx:ev f x=v)(I:ev f y2=.int k hi)
  (S:hi<=n):∃v',Zm L H v' hi sz (cs.take (hi*sz))/\∀w,(execOp (ev f) ⟨d,.slice t x none (some y2) none,ty,pS,af,gd⟩).run P w=.ok (.value v') w:=by
 obtain⟨i,J,_,T,_⟩:=Sl.info h;rcases G.2.2 with⟨E,V⟩|⟨a,cap,E,Y,ha⟩
 ·have e2:hi=0:=oa
  subst e2;refine⟨nS,⟨oe,oa,.inl ⟨rfl,rfl⟩⟩,λw=>?_⟩;simp[execOp,hx,E,I,Instr.sliceAt,Instr.slice,run_underlying h.u,Instr.sliceBounds,Instr.sliceBound,asIntOf,sizeOf,typeInfo,J]
 subst E;have O:=G.cut (Lo hi) S;simp only[OK,List.drop_zero,OC]at O;refine⟨_,O,λw=>?_⟩;have e2:(Instr.sliceBound (.int k hi) cap .sliceAcap).run P w=.ok hi w:=ZK oa;simp[execOp,hx,I,Instr.sliceAt,Instr.slice,run_underlying h.u,Instr.sliceBounds,e2,sizeOf,typeInfo,J]
end
section
variable {K:Fr->OX->Prop}{C:xt}{f:Fr}{w0:OX}{pS:String}{i0:Nat}
theorem pi {x:OZ}{e bys:Nat}[Sl P t e sz bys z]{L:LN}{cs:LV}{v:OY}{k:IntKind}
  (E:QV ops i0=⟨d,.indexAddr t x y,ty,pS,af,gd⟩) (h:Zm L H v n sz cs) (G:ev f x=v) (I:ev f y=.int k i) (hi:i<n)
  (hK:∀a,At L H a ((cs.drop (i*sz)).take sz)->XP P ops C K pl (QT f d (.pointer (some a))) w) (J:Ya ops f (QV ops i0)=true:=by rfl):
  XP P ops C K ((i0,true)::pl) f w:=by
 obtain⟨a,cap,O,S⟩:=h.at hi;refine Lg.p (λw'=>by rw[E];exact Xd (G.D O) I oa oa) ?_ J;rw[E];refine hK _ ?_;simpa using S
theorem pii {x:OZ}{e bys:Nat}[Sl P t e 1 bys z]{L:LN}{li:LI}{v:OY}{k:IntKind}
  (E:QV ops i0=⟨d,.indexAddr t x y,ty,pS,af,gd⟩) (h:QP L H v li) (G:ev f x=v) (I:ev f y=.int k i) (hi:i<li.length)
  (hK:∀a,At L H a [oE oF li[i]]->XP P ops C K pl (QT f d (.pointer (some a))) w) (J:Ya ops f (QV ops i0)=true:=by rfl):
  XP P ops C K ((i0,true)::pl) f w:=by
 obtain⟨a,cap,O,S⟩:=QP.at h hi;refine Lg.p (λw'=>by rw[E];exact Xd (G.D O) I oa oa) ?_ J;rw[E];refine hK _ ?_;simpa using S
end
abbrev Ed:=Int×Int×Int
def QC (e:Ed):LV:=[oE oF e.1,oE oF e.2.1,oE oF e.2.2]
abbrev qB (L:LN)(H:xu)(v:OY)(es:List Ed):Prop:=Zm L H v es.length 3 (es.flatMap QC)
theorem XX {α:Type}(g:α->LV)(sz:Nat)(E:∀x,(g x).length=sz):∀(l:List α) (i:Nat) (h:i<l.length),((l.flatMap g).drop (i*sz)).take sz=g l[i]
 | x::l,0,_=>by simp[E]
 | x::l,i+1,h=>by
  have:=XX g sz E l i (oy h);simp only[Oa,List.getElem_cons_succ];rw[<-this,Mo,NE,M4,List.drop_append,E];simp[Nat.add_sub_cancel_left,List.drop_eq_nil_of_le,E]
theorem Xy (g:α->LV)(sz:Nat)(E:∀x,(g x).length=sz)(l:List α):(l.flatMap g).length=l.length*sz:=by
 induction l with
 | nil=>simp
 | cons x l ih=>simp[ih,E,Oj,Nat.add_comm]
theorem JQ (e:Ed):(QC e).length=3:=rfl
structure Q2 where
 al:LI
 st:Int
 mr:LI
 ed:List Ed
structure ZH (L:LN)(H:xu)(va vm ve:OY)(a:Q2):Prop where
 al:QP L H va a.al
 mr:QP L H vm a.mr
 ed:qB L H ve a.ed
def QpY (L:LN)(H:xu)(v:OY)(a:Q2):Prop:=∃va vm ve,v=.agg #[va,oE oF a.st,vm,ve]/\ZH L H va vm ve a
theorem ZH.I {L:LN}{w w':OX}{va vm ve:OY}{a:Q2}(h:ZH L w.heap va vm ve a)(E:O1 [] w w'):ZH L w'.heap va vm ve a:=⟨h.al.I E,h.mr.I E,h.ed.I E⟩
theorem ZH.st {L:LN}{w w':OX}{va vm ve:OY}{a:Q2}(h:ZH L w.heap va vm ve a)(E:O1 L w w'):ZH L w'.heap va vm ve a:=⟨h.al.st E,h.mr.st E,h.ed.st E⟩
theorem ZH.up {L L':LN}{H:xu}{va vm ve:OY}{a:Q2}(h:ZH L H va vm ve a)(E:∀b∈L',b∈L\/H.size<=b):ZH L' H va vm ve a:=⟨h.al.up E,h.mr.up E,h.ed.up E⟩
section
variable {f:Fr}{pS:String}
class Ik (P:O0)(t:Nat)(k:outParam IntKind):Prop where
 u:P.underlying t=some (.int k)
theorem XM {k:IntKind}[h:Ik P t k][h':Ik P E k']{x:OZ}{n:Int}{G:IntKind}(hx:ev f x=.int G n)(I:inK k' n):
  (execOp (ev f) ⟨d,.convert t E x,ty,pS,af,gd⟩).run P w=.ok (.value (.int k' n)) w:=by
 simp[execOp,hx,convert,run_underlying h.u,run_underlying h'.u,Conv.intToInt,YM I]
class St (P:O0)(t:Nat):Prop where
 u:P.underlying t=some .string
end
theorem Zd {l:List α}{k:Nat}(h:k<l.length):l.drop k=l[k]::l.drop (k+1):=LD h
theorem qB.at {L:LN}{H:xu}{v:OY}{es:List Ed}(h:qB L H v es){i:Nat}(hi:i<es.length):
  ∃a cap,v=.slice (some a) es.length cap/\At L H (a.add (i*3)) (QC es[i]):=by
 obtain⟨a,cap,G,E⟩:=Zm.at h hi;rw[XX QC 3 JQ es i hi]at E;exact⟨a,cap,G,E⟩
section
variable {K:Fr->OX->Prop}{f:Fr}{pS:String}{l:xx}{C:xt}{i0:Nat}
theorem xie {x:OZ}{e bys:Nat}[Sl P t e 3 bys z]{L:LN}{es:List Ed}{v:OY}{k:IntKind}
  (h:qB L w.heap v es) (E:ev f x=v) (G:ev f y=.int k i) (hi:i<es.length)
  (hK:∀a,At L w.heap a (QC es[i])->XL P ops K l (QT f d (.pointer (some a))) w) (I:Ya ops f ⟨d,.indexAddr t x y,ty,pS,af,gd⟩=true:=by rfl):
  XL P ops K (⟨d,.indexAddr t x y,ty,pS,af,gd⟩::l) f w:=by
 obtain⟨a,cap,J,O⟩:=qB.at h hi;refine xl I (xv (Xd (E.D J) G oa oa) (hK _ ?_));simpa using O
theorem pie {x:OZ}{e bys:Nat}[Sl P t e 3 bys z]{L:LN}{es:List Ed}{v:OY}{k:IntKind}
  (E:QV ops i0=⟨d,.indexAddr t x y,ty,pS,af,gd⟩) (h:qB L H v es) (G:ev f x=v) (I:ev f y=.int k i) (hi:i<es.length)
  (hK:∀a,At L H a (QC es[i])->XP P ops C K pl (QT f d (.pointer (some a))) w) (J:Ya ops f (QV ops i0)=true:=by rfl):
  XP P ops C K ((i0,true)::pl) f w:=by
 obtain⟨a,cap,O,S⟩:=qB.at h hi;refine Lg.p (λw'=>by rw[E];exact Xd (G.D O) I oa oa) ?_ J;rw[E];refine hK _ ?_;simpa using S
end
section
variable {f:Fr}{pS:String}
theorem Qdo {x:OZ}{k:IntKind}{a:Int}(hx:ev f x=.int k a)(G:ev f y=.int k' n)(I:n<=k.bits):
  (execOp (ev f) ⟨d,.binOp .shr t x y E,ty,pS,af,gd⟩).run P w=.ok (.value (.int k (a / 2 ^ n))) w:=by
 refine JO hx G ?_;have J:¬((n:Int)<0):=oa
 simp only[binOp,Op.shift,J,if_false,Ou,Nat.min_eq_left I,Sem.run_pure];rw[Int.fdiv_eq_ediv_of_nonneg _ (Int.le_of_lt (Int.pow_pos og))]
class S3 (P:O0)(t:Nat):Prop where
 u:∃f0 f1 f2,P.underlying t=some (.struct #[f0,f1,f2])/\f0.name ≠ "_" /\ f1.name ≠ "_" /\ f2.name ≠ "_" /\ f0.offset=0/\f1.offset=1/\f2.offset=2 /\
  P.underlying f0.type=some (.int .i64)/\P.underlying f1.type=some (.int .i64)/\P.underlying f2.type=some (.int .i64)
 s:P.stoodInHeld t=false
 g:P.eqGuardType P.depth t=false
theorem V1 [h:S3 P t](w:OX)(p q:Ed):(Op.equal t (.agg (QC p).toArray) (.agg (QC q).toArray)).run P w=.ok (decide (p=q)) w:=by
 obtain⟨a,b,c⟩:=p;obtain⟨V,Y,c'⟩:=q;obtain⟨f0,f1,f2,hu,O,n1,n2,S,o1,o2,I,J,u2⟩:=h.u;have ha:∀e w,P.underlying e=some (.int .i64)->(isAgg e).run P w=.ok false w:=λe w E=>by simp[isAgg,run_underlying E]
 have T:∀e (x y z:Int) (w:OX),P.underlying e=some (.int .i64)->(part e #[oE oF x,oE oF y,oE oF z] 0).run P w=.ok (oE oF x) w:=λe x y z w E=>by simp[part,ha e w E]
 have hb:∀e (x y z:Int) (w:OX),P.underlying e=some (.int .i64)->(part e #[oE oF x,oE oF y,oE oF z] 1).run P w=.ok (oE oF y) w:=λe x y z w E=>by simp[part,ha e w E]
 have hc:∀e (x y z:Int) (w:OX),P.underlying e=some (.int .i64)->(part e #[oE oF x,oE oF y,oE oF z] 2).run P w=.ok (oE oF z) w:=λe x y z w E=>by simp[part,ha e w E]
 have G:∀e (m:Nat) (x y:Int) (w:OX),P.underlying e=some (.int .i64)->(Op.equalIn (m+1) e (oE oF x) (oE oF y)).run P w=.ok (x == y) w:=λe m x y w E=>by simp[Op.equalIn,run_underlying E]
 have key:∀m,(Op.equalIn (m+2) t (.agg (QC (a,b,c)).toArray) (.agg (QC (V,Y,c')).toArray)).run P w=.ok (decide ((a,b,c)=(V,Y,c'))) w:=by
  intro m;simp only[QC];unfold Op.equalIn;simp only[Sem.run_bind,run_underlying hu,Result.andThen_ok];by_cases e1:a=V
  ·subst e1;by_cases e2:b=Y
   ·subst e2;by_cases e3:c=c'
    ·subst e3;simp[h.s,O,n1,n2,S,o1,o2,T _ _ _ _ _ I,hb _ _ _ _ _ J,hc _ _ _ _ _ u2,G _ _ _ _ _ I,G _ _ _ _ _ J,G _ _ _ _ _ u2]
    simp[h.s,O,n1,n2,S,o1,o2,T _ _ _ _ _ I,hb _ _ _ _ _ J,hc _ _ _ _ _ u2,G _ _ _ _ _ I,G _ _ _ _ _ J,G _ _ _ _ _ u2,e3]
   simp[h.s,O,n1,S,o1,T _ _ _ _ _ I,hb _ _ _ _ _ J,G _ _ _ _ _ I,G _ _ _ _ _ J,e2]
  simp[h.s,O,S,T _ _ _ _ _ I,G _ _ _ _ _ I,e1]
 exact key 9998
theorem V4 [h:S3 P t]{x:OZ}{p q:Ed}(hx:ev f x=.agg (QC p).toArray)(G:ev f y=.agg (QC q).toArray):
  (execOp (ev f) ⟨d,.binOp .neq t x y E,ty,pS,af,gd⟩).run P w=.ok (.value (.bool (decide (¬p=q)))) w:=by
 have I:(eqGuard .neq t x y (.agg (QC p).toArray) (.agg (QC q).toArray)).run P w=.ok () w:=by simp[eqGuard,h.g]
 simp only[execOp,hx,G,Sem.run_bind,I,Result.andThen_ok,binOp,V1,Sem.run_pure];by_cases e:p=q <;> simp[e]
end
theorem O1.O {L:LN}{w0:OX}(h:O1 L w0 w)(k:O1 [b] w w')(G:w0.heap.size<=b):O1 L w0 w':=h.then k (λc E=>.inr (by simp at E;omega))
section
variable {K:Fr->OX->Prop}{f:Fr}{pS:String}
theorem Xs {e bys:Nat}[h:Sl P t e sz bys z]{x:OZ}{a:Option Addr}{c:Nat}(hx:ev f x=.slice a n c)(G:ev f y=nS):
  (execOp (ev f) ⟨d,.binOp .eql t x y E,ty,pS,af,gd⟩).run P w=.ok (.value (.bool a.isNone)) w:=by
 have I:(eqGuard .eql t x y (.slice a n c) (nS)).run P w=.ok () w:=by simp[eqGuard]
 have key:∀m,(Op.equalIn (m+1) t (.slice a n c) (nS)).run P w=.ok a.isNone w:=by
  intro m;unfold Op.equalIn;cases a <;> simp[run_underlying h.u]
 have J:(Op.equal t (.slice a n c) (nS)).run P w=.ok a.isNone w:=key 9999;simp only[execOp,hx,G,Sem.run_bind,I,Result.andThen_ok,binOp,J,Sem.run_pure]
theorem Xw {e bys:Nat}[h:Sl P t e sz bys z]
  (hK:∀b w',O1 [] w w'->w.heap.size<=b->Q9 w'.heap b e []->K (QT f d (.slice (some ⟨b,0,none⟩) 0 0)) w'):XO P ⟨d,.buildSlice t 0 #[],ty,pS,af,gd⟩ f w K:=by
 obtain⟨ie,E,I,J,_⟩:=Sl.info h;have G:(execOp (ev f) ⟨d,.buildSlice t 0 #[],ty,pS,af,gd⟩).run P w=.ok (.value (.slice (some ⟨w.heap.size,0,none⟩) 0 0)) (w.alloc (.cells #[] e)):=by
  simp[execOp,Instr.buildSlice,run_underlying h.u,sizeOf,typeInfo,E,Instr.fill,newRow];have e0:Array.map (λ_=>(default:OY)) (Array.range 0)=#[]:=by apply Array.ext';simp
  rw[e0]
 exact xv G (hK _ _ (O1.alloc w _) (Lv _) (JY w _))
end
abbrev Qv (e base:Nat)(w:OX)(v:OY)(l:LI):Prop:=w.ownsRow base e 1 v l.length (l.map (.int .i64))
theorem Qv.ints {e base:Nat}{v:OY}{l:LI}{L:LN}(h:Qv e base w v l)(E:l.length<=1099511627776)(G:∀b∈L,b<base):QP L w.heap v l :=
 QK h E (λb I hbL=>ou (Qi h b I).1 (G b hbL))
theorem zn (l:LI):∀u∈l.map (Value.int .i64),u.oneCell'=true:=by
 intro u E;obtain⟨n,_,rfl⟩:=LC.1 E;rfl
section
variable {P:O0}{ops:xx}{K:Fr->OX->Prop}{f:Fr}{w:OX}{d:xz}{ty:Nat}{pS:String}{af:xw}{gd:xj}{l:xx}{C:xt}{pl:xo}{i0:Nat}
 {t e sz bys:Nat} {z:OY} {x y1 y2:OZ} {L:LN} {v:OY} {n:Nat} {cs:LV} {H:xu} {k k':IntKind} {lo hi:Nat}
theorem Qmz [h:Sl P t e sz bys z](E:QV ops i0=⟨d,.slice t x (some y1) none none,ty,pS,af,gd⟩)(G:Zm L H v n sz cs)(hx:ev f x=v)(hl:ev f y1=.int k lo)(I:lo<=n)(hK:∀v',Zm L H v' (n - lo) sz (cs.drop (lo*sz))->XP P ops C K pl (QT f d v') w)
  (J:Ya ops f (QV ops i0)=true:=by rfl):XP P ops C K ((i0,true)::pl) f w:=by
 obtain⟨v',O,S⟩:=QaX (P:=P) (d:=d) (ty:=ty) (pS:=pS) (af:=af) (gd:=gd) (t:=t) G hx hl I;exact Lg.p (λw'=>by rw[E];exact S w') (by rw[E];exact hK v' O) J
theorem Qpe [h:Sl P t e sz bys z](E:Zm L H v n sz cs)(hx:ev f x=v)(hl:ev f y1=.int k lo)(G:lo<=n)(hK:∀v',Zm L H v' (n - lo) sz (cs.drop (lo*sz))->XL P ops K l (QT f d v') w)
  (I:Ya ops f ⟨d,.slice t x (some y1) none none,ty,pS,af,gd⟩=true:=by rfl):XL P ops K (⟨d,.slice t x (some y1) none none,ty,pS,af,gd⟩::l) f w:=by
 obtain⟨v',J,O⟩:=QaX (P:=P) (d:=d) (ty:=ty) (pS:=pS) (af:=af) (gd:=gd) (t:=t) E hx hl G;exact xl I (xv (O w) (hK v' J))
theorem Qpf [h:Sl P t e sz bys z](E:Zm L H v n sz cs)(hx:ev f x=v)(hl:ev f y1=.int k lo)(G:ev f y2=.int k' hi)(I:lo<=hi)(J:hi<=n)(hK:∀v',Zm L H v' (hi - lo) sz ((cs.drop (lo*sz)).take ((hi - lo)*sz))->XL P ops K l (QT f d v') w)
  (O:Ya ops f ⟨d,.slice t x (some y1) (some y2) none,ty,pS,af,gd⟩=true:=by rfl):XL P ops K (⟨d,.slice t x (some y1) (some y2) none,ty,pS,af,gd⟩::l) f w:=by
 obtain⟨v',S,T⟩:=Qj7 (P:=P) (d:=d) (ty:=ty) (pS:=pS) (af:=af) (gd:=gd) (t:=t) E hx hl G I J;exact xl O (xv (T w) (hK v' S))
theorem Qmf [h:Sl P t e sz bys z](E:Zm L H v n sz cs)(hx:ev f x=v)(G:ev f y2=.int k hi)(I:hi<=n)(hK:∀v',Zm L H v' hi sz (cs.take (hi*sz))->XL P ops K l (QT f d v') w)
  (J:Ya ops f ⟨d,.slice t x none (some y2) none,ty,pS,af,gd⟩=true:=by rfl):XL P ops K (⟨d,.slice t x none (some y2) none,ty,pS,af,gd⟩::l) f w:=by
 obtain⟨v',O,S⟩:=QaY (P:=P) (d:=d) (ty:=ty) (pS:=pS) (af:=af) (gd:=gd) (t:=t) E hx G I;exact xl J (xv (S w) (hK v' O))
end
theorem QP.drop {L:LN}{H:xu}{v:OY}{l:LI}{lo:Nat}(h:Zm L H v (l.length - lo) 1 ((l.map (Value.int .i64)).drop (lo*1))):QP L H v (l.drop lo):=by
 rw[Nat.mul_one,<-List.map_drop]at h;have e:(l.drop lo).length=l.length - lo:=LW;unfold QP;rw[e];exact h
theorem Qv.snoc {e base:Nat}{v:OY}{l:LI}{n:Int}(h:w.ownsRow base e 1 v (l.length+1) (l.map (Value.int .i64)++[oE oF n])):Qv e base w v (l++[n]):=by
 unfold Qv;rw[Ll,Lt];exact h
def Dj (u v:OY):Prop:=∀b∈ob u,b∉ob v
theorem Dj.symm {u v:OY}(h:Dj u v):Dj v u:=λb E G=>h b G E
theorem Dj.nil (v:OY):Dj (nS) v:=λb E=>by simp[ob]at E
theorem Dj.nil' (v:OY):Dj v (nS):=(Dj.nil v).symm
theorem Dj.grow {u v:OY}(h:Dj u v)(I:∀b∈ob v',b∈ob v\/N<=b)(J:∀b∈ob u,b<N):Dj u v' :=
 λb E O=>by rcases I b O with G|G;exact h b E G;have:=J b E;omega
theorem Zf {base e:Nat}{v:OY}{cs:LV}(h:w.ownsRow base e sz v n cs):∀b∈ob v,b<w.heap.size:=λb E=>(Qi h b E).2
theorem Zh {base e:Nat}{v:OY}{cs:LV}(h:w.ownsRow base e sz v n cs)(G:b<base):b∉ob v:=λE=>ot (Qi h b E).1
abbrev YT (e base:Nat)(w:OX)(v:OY)(l:List Ed):Prop:=w.ownsRow base e 3 v l.length (l.flatMap QC)
theorem YT.snoc {e base:Nat}{v:OY}{l:List Ed}{n:Ed}(h:w.ownsRow base e 3 v (l.length+1) (l.flatMap QC++QC n)):YT e base w v (l++[n]):=by
 unfold YT;rw[Ll,LB];simpa using h
theorem YT.eds {e base:Nat}{v:OY}{l:List Ed}{L:LN}(h:YT e base w v l)(E:l.length<=1099511627776)(G:∀b∈L,b<base):qB L w.heap v l :=
 QK h E (λb I hbL=>ou (Qi h b I).1 (G b hbL))
def Kg (N:Nat)(H:xu)(v:OY)(a:Q2):Prop:=∃va vm ve,v=.agg #[va,oE oF a.st,vm,ve]/\∀L:LN,(∀b∈L,b<N)->ZH L H va vm ve a
theorem Kg.v {N:Nat}{H:xu}{v:OY}{a:Q2}(h:Kg N H v a){L:LN}(E:∀b∈L,b<N):QpY L H v a:=let⟨va,vm,ve,G,I⟩:=h;⟨va,vm,ve,G,I L E⟩
theorem Kg.mono {v:OY}{a:Q2}(h:Kg N H v a)(hM:M<=N):Kg M H v a:=let⟨va,vm,ve,E,G⟩:=h;⟨va,vm,ve,E,λL I=>G L (λb J=>LT (I b J) hM)⟩
section
variable {K:Fr->OX->Prop}{f:Fr}{pS:String}
theorem qF [X7 P t]{x:OZ}{l:LI}(h:Q9 w.heap b T (l.map (.int .i64)))(hx:ev f x=.pointer (some ⟨b,0+i*1,none⟩))(hi:i<l.length):
  (execOp (ev f) ⟨d,.load t x,ty,pS,af,gd⟩).run P w=.ok (.value (oE oF l[i])) w:=Qr h hx (by simp[hi])
theorem J4 [h1:X7 P t]{x:OZ}{l:LI}{u:Int}(E:Q9 w.heap b T (l.map (.int .i64)))(hx:ev f x=.pointer (some ⟨b,0+i*1,none⟩))(G:ev f y=oE oF u)(hi:i<l.length)
  (hK:∀w',O1 [b] w w'->Q9 w'.heap b T ((l.set i u).map (.int .i64))->K (QT f d undef) w'):XO P ⟨d,.store t x y,ty,pS,af,gd⟩ f w K:=by
 refine QE E hx G (oy hi) rfl λw' I J=>hK w' I ?_;rw[OL];simpa using J
end
theorem QaW (n:Nat)(u:OY):(oM n [u]).flatten=oM n u:=by
 induction n with
 | zero=>rfl
 | succ n ih=>simp[List.replicate_succ,ih]
end Go.Lg
namespace Go.Proofs
open Go.Proofs.Tryz
open Go.Lg
instance:Sl prog 39 183 5 32 (.agg #[.string ByteArray.empty,.bool false,.bool false,.bool false,oE oF 0]):=⟨underlying39,od,U,og⟩
instance:Sl prog 40 71 5 96 (.agg #[.string ByteArray.empty,nS,oE oF 0,nS,nS]):=⟨underlying40,od,U,og⟩
instance:Sl prog 41 116 2 40 (.agg #[.string ByteArray.empty,nS]):=⟨underlying41,od,U,og⟩
instance:Sl prog 42 121 3 48 (.agg #[.string ByteArray.empty,nS,oE oF 0]):=⟨underlying42,od,U,og⟩
instance:Sl prog 51 75 2 24 (.agg #[oE oF 0,.string ByteArray.empty]):=⟨underlying51,od,U,og⟩
instance:Sl prog 56 3 1 8 (oE oF 0):=⟨underlying56,od,U,og⟩
instance:Sl prog 57 167 3 24 (.agg #[oE oF 0,oE oF 0,oE oF 0]):=⟨underlying57,od,U,og⟩
instance:Sl prog 60 143 2 24 (.agg #[.string ByteArray.empty,oE oF 0]):=⟨underlying60,od,U,og⟩
instance:Sl prog 61 145 2 24 (.agg #[.string ByteArray.empty,oE oF 0]):=⟨underlying61,od,U,og⟩
instance:Sl prog 69 65 10 168 (.agg #[.bool false,oE oF 0,.string ByteArray.empty,nS,oE oF 0,nS,nS,nS,nS,oE oF 0]):=⟨underlying69,od,U,og⟩
instance:Sl prog 80 90 10 184 (.agg #[oE oF 0,.string ByteArray.empty,oE oF 0,nS,oE oF 0,nS,nS,nS,nS,nS]):=⟨underlying80,od,U,og⟩
instance:Sl prog 86 241 4 32 (.agg #[oE oF 0,oE oF 0,oE oF 0,oE oF 0]):=⟨underlying86,od,U,og⟩
instance:Sl prog 101 53 3 72 (.agg #[nS,nS,nS]):=⟨underlying101,od,U,og⟩
instance:Sl prog 114 118 2 16 (.agg #[oE oF 0,oE oF 0]):=⟨underlying114,od,U,og⟩
instance:Sl prog 119 123 2 16 (.agg #[oE oF 0,oE oF 0]):=⟨underlying119,od,U,og⟩
instance:Sl prog 126 63 9 160 (.agg #[oE oF 0,.string ByteArray.empty,nS,oE oF 0,nS,nS,nS,nS,oE oF 0]):=⟨underlying126,od,U,og⟩
instance:Sl prog 131 149 15 304 (.agg #[oE oF 0,.string ByteArray.empty,oE oF 0,nS,oE oF 0,nS,nS,nS,nS,nS,nS,nS,nS,nS,nS]):=⟨underlying131,od,U,og⟩
instance:Sl prog 134 139 1 8 (.nilFunc):=⟨underlying134,od,U,og⟩
instance:Sl prog 168 59 4 80 (.agg #[nS,oE oF 0,nS,nS]):=⟨underlying168,od,U,og⟩
instance:Sl prog 174 56 1 24 (nS):=⟨underlying174,od,U,og⟩
instance:Sl prog 175 185 4 32 (.agg #[oE oF 0,oE oF 0,oE oF 0,oE oF 0]):=⟨underlying175,od,U,og⟩
instance:Sl prog 188 5 1 1 (.int .u8 0):=⟨underlying188,od,U,og⟩
instance:Sl prog 197 71 5 96 (.agg #[.string ByteArray.empty,nS,oE oF 0,nS,nS]):=⟨underlying197,od,U,og⟩
instance:Sl prog 213 219 3 40 (.agg #[oE oF 0,oE oF 0,nS]):=⟨underlying213,od,U,og⟩
instance:Sl prog 275 4 1 1 (.bool false):=⟨underlying275,od,U,og⟩
instance:Sl prog 302 306 3 24 (.agg #[oE oF 0,oE oF 0,.nilFunc]):=⟨underlying302,od,U,og⟩
instance:Sl prog 327 398 1 8 (.map none):=⟨underlying327,od,U,og⟩
instance:Sl prog 348 403 1 8 (.nilFunc):=⟨underlying348,od,U,og⟩
instance:Sl prog 376 375 2 32 (.agg #[nS,oE oF 0]):=⟨underlying376,od,U,og⟩
instance:Sl prog 415 414 2 32 (.agg #[nS,oE oF 0]):=⟨underlying415,od,U,og⟩
instance:Sl prog 429 57 1 24 (nS):=⟨underlying429,od,U,og⟩
instance:Zk prog 44 0 0:=⟨od⟩
instance:Zk prog 44 1 1:=⟨od⟩
instance:Zk prog 44 2 2:=⟨od⟩
instance:Zk prog 44 3 3:=⟨od⟩
instance:Zk prog 44 4 4:=⟨od⟩
instance:Zk prog 53 0 0:=⟨od⟩
instance:Zk prog 53 1 1:=⟨od⟩
instance:Zk prog 53 2 2:=⟨od⟩
instance:Zk prog 59 0 0:=⟨od⟩
instance:Zk prog 59 1 1:=⟨od⟩
instance:Zk prog 59 2 2:=⟨od⟩
instance:Zk prog 59 3 3:=⟨od⟩
instance:Zk prog 63 0 0:=⟨od⟩
instance:Zk prog 63 1 1:=⟨od⟩
instance:Zk prog 63 2 2:=⟨od⟩
instance:Zk prog 63 3 6:=⟨od⟩
instance:Zk prog 63 4 7:=⟨od⟩
instance:Zk prog 63 5 8:=⟨od⟩
instance:Zk prog 65 0 0:=⟨od⟩
instance:Zk prog 65 1 1:=⟨od⟩
instance:Zk prog 68 0 0:=⟨od⟩
instance:Zk prog 68 1 1:=⟨od⟩
instance:Zk prog 68 2 2:=⟨od⟩
instance:Zk prog 71 0 0:=⟨od⟩
instance:Zk prog 71 1 1:=⟨od⟩
instance:Zk prog 75 1 1:=⟨od⟩
instance:Zk prog 88 0 0:=⟨od⟩
instance:Zk prog 88 1 1:=⟨od⟩
instance:Zk prog 88 2 2:=⟨od⟩
instance:Zk prog 90 0 0:=⟨od⟩
instance:Zk prog 90 2 3:=⟨od⟩
instance:Zk prog 90 3 7:=⟨od⟩
instance:Zk prog 116 0 0:=⟨od⟩
instance:Zk prog 116 1 1:=⟨od⟩
instance:Zk prog 118 0 0:=⟨od⟩
instance:Zk prog 118 1 1:=⟨od⟩
instance:Zk prog 121 0 0:=⟨od⟩
instance:Zk prog 121 1 1:=⟨od⟩
instance:Zk prog 121 2 2:=⟨od⟩
instance:Zk prog 123 0 0:=⟨od⟩
instance:Zk prog 123 1 1:=⟨od⟩
instance:Zk prog 136 0 0:=⟨od⟩
instance:Zk prog 136 1 5:=⟨od⟩
instance:Zk prog 136 2 6:=⟨od⟩
instance:Zk prog 136 3 7:=⟨od⟩
instance:Zk prog 136 4 8:=⟨od⟩
instance:Zk prog 143 0 0:=⟨od⟩
instance:Zk prog 143 1 1:=⟨od⟩
instance:Zk prog 145 0 0:=⟨od⟩
instance:Zk prog 145 1 1:=⟨od⟩
instance:Zk prog 149 0 0:=⟨od⟩
instance:Zk prog 149 1 10:=⟨od⟩
instance:Zk prog 167 0 0:=⟨od⟩
instance:Zk prog 167 1 1:=⟨od⟩
instance:Zk prog 167 2 2:=⟨od⟩
instance:Zk prog 177 0 0:=⟨od⟩
instance:Zk prog 177 1 4:=⟨od⟩
instance:Zk prog 177 2 5:=⟨od⟩
instance:Zk prog 177 3 6:=⟨od⟩
instance:Zk prog 177 4 7:=⟨od⟩
instance:Zk prog 183 0 0:=⟨od⟩
instance:Zk prog 183 1 1:=⟨od⟩
instance:Zk prog 183 2 2:=⟨od⟩
instance:Zk prog 183 4 4:=⟨od⟩
instance:Zk prog 185 0 0:=⟨od⟩
instance:Zk prog 206 0 0:=⟨od⟩
instance:Zk prog 206 1 1:=⟨od⟩
instance:Zk prog 206 2 2:=⟨od⟩
instance:Zk prog 219 0 0:=⟨od⟩
instance:Zk prog 219 1 1:=⟨od⟩
instance:Zk prog 219 2 2:=⟨od⟩
instance:Zk prog 224 0 0:=⟨od⟩
instance:Zk prog 224 1 3:=⟨od⟩
instance:Zk prog 224 2 4:=⟨od⟩
instance:Zk prog 224 3 8:=⟨od⟩
instance:Zk prog 241 0 0:=⟨od⟩
instance:Zk prog 266 0 0:=⟨od⟩
instance:Zk prog 266 1 5:=⟨od⟩
instance:Zk prog 266 2 9:=⟨od⟩
instance:Zk prog 266 3 10:=⟨od⟩
instance:Zk prog 266 4 14:=⟨od⟩
instance:Zk prog 266 5 15:=⟨od⟩
instance:Zk prog 266 6 18:=⟨od⟩
instance:Zk prog 306 0 0:=⟨od⟩
instance:Zk prog 306 1 1:=⟨od⟩
instance:Zk prog 306 2 2:=⟨od⟩
instance:Zk prog 309 0 0:=⟨od⟩
instance:Zk prog 309 1 1:=⟨od⟩
instance:Zk prog 309 2 2:=⟨od⟩
instance:Zk prog 309 3 3:=⟨od⟩
instance:Zk prog 329 0 0:=⟨od⟩
instance:Zk prog 329 1 1:=⟨od⟩
instance:Zk prog 329 2 2:=⟨od⟩
instance:Zk prog 339 0 0:=⟨od⟩
instance:Zk prog 339 1 1:=⟨od⟩
instance:Zk prog 375 0 0:=⟨od⟩
instance:Zk prog 375 1 1:=⟨od⟩
instance:Zk prog 388 0 0:=⟨od⟩
instance:Zk prog 388 1 4:=⟨od⟩
instance:Zk prog 388 2 5:=⟨od⟩
instance:Zk prog 388 3 6:=⟨od⟩
instance:Zk prog 414 0 0:=⟨od⟩
instance:Zk prog 414 1 1:=⟨od⟩
instance:X7 prog 3:=⟨⟨_,underlying3,U⟩,od⟩
instance:X7 prog 4:=⟨⟨_,underlying4,U⟩,od⟩
instance:X7 prog 5:=⟨⟨_,underlying5,U⟩,od⟩
instance:X7 prog 9:=⟨⟨_,underlying9,U⟩,od⟩
instance:X7 prog 39:=⟨⟨_,underlying39,U⟩,od⟩
instance:X7 prog 40:=⟨⟨_,underlying40,U⟩,od⟩
instance:X7 prog 41:=⟨⟨_,underlying41,U⟩,od⟩
instance:X7 prog 42:=⟨⟨_,underlying42,U⟩,od⟩
instance:X7 prog 47:=⟨⟨_,underlying47,U⟩,od⟩
instance:X7 prog 51:=⟨⟨_,underlying51,U⟩,od⟩
instance:X7 prog 56:=⟨⟨_,underlying56,U⟩,od⟩
instance:X7 prog 57:=⟨⟨_,underlying57,U⟩,od⟩
instance:X7 prog 60:=⟨⟨_,underlying60,U⟩,od⟩
instance:X7 prog 61:=⟨⟨_,underlying61,U⟩,od⟩
instance:X7 prog 86:=⟨⟨_,underlying86,U⟩,od⟩
instance:X7 prog 101:=⟨⟨_,underlying101,U⟩,od⟩
instance:X7 prog 114:=⟨⟨_,underlying114,U⟩,od⟩
instance:X7 prog 119:=⟨⟨_,underlying119,U⟩,od⟩
instance:X7 prog 131:=⟨⟨_,underlying131,U⟩,od⟩
instance:X7 prog 134:=⟨⟨_,underlying134,U⟩,od⟩
instance:X7 prog 139:=⟨⟨_,underlying139,U⟩,od⟩
instance:X7 prog 168:=⟨⟨_,underlying168,U⟩,od⟩
instance:X7 prog 174:=⟨⟨_,underlying174,U⟩,od⟩
instance:X7 prog 175:=⟨⟨_,underlying175,U⟩,od⟩
instance:X7 prog 188:=⟨⟨_,underlying188,U⟩,od⟩
instance:X7 prog 261:=⟨⟨_,underlying261,U⟩,od⟩
instance:X7 prog 264:=⟨⟨_,underlying264,U⟩,od⟩
instance:X7 prog 275:=⟨⟨_,underlying275,U⟩,od⟩
instance:X7 prog 304:=⟨⟨_,underlying304,U⟩,od⟩
instance:X7 prog 327:=⟨⟨_,underlying327,U⟩,od⟩
instance:X7 prog 337:=⟨⟨_,underlying337,U⟩,od⟩
instance:X7 prog 386:=⟨⟨_,underlying386,U⟩,od⟩
instance:X7 prog 398:=⟨⟨_,underlying398,U⟩,od⟩
instance:X7 prog 403:=⟨⟨_,underlying403,U⟩,od⟩
instance:Ag prog 44 5:=⟨⟨_,underlying44,U⟩,od⟩
instance:Ag prog 53 3:=⟨⟨_,underlying53,U⟩,od⟩
instance:Ag prog 59 4:=⟨⟨_,underlying59,U⟩,od⟩
instance:Ag prog 63 9:=⟨⟨_,underlying63,U⟩,od⟩
instance:Ag prog 65 10:=⟨⟨_,underlying65,U⟩,od⟩
instance:Ag prog 68 3:=⟨⟨_,underlying68,U⟩,od⟩
instance:Ag prog 71 5:=⟨⟨_,underlying71,U⟩,od⟩
instance:Ag prog 75 2:=⟨⟨_,underlying75,U⟩,od⟩
instance:Ag prog 88 3:=⟨⟨_,underlying88,U⟩,od⟩
instance:Ag prog 90 10:=⟨⟨_,underlying90,U⟩,od⟩
instance:Ag prog 116 2:=⟨⟨_,underlying116,U⟩,od⟩
instance:Ag prog 118 2:=⟨⟨_,underlying118,U⟩,od⟩
instance:Ag prog 121 3:=⟨⟨_,underlying121,U⟩,od⟩
instance:Ag prog 123 2:=⟨⟨_,underlying123,U⟩,od⟩
instance:Ag prog 143 2:=⟨⟨_,underlying143,U⟩,od⟩
instance:Ag prog 145 2:=⟨⟨_,underlying145,U⟩,od⟩
instance:Ag prog 149 15:=⟨⟨_,underlying149,U⟩,od⟩
instance:Ag prog 167 3:=⟨⟨_,underlying167,U⟩,od⟩
instance:Ag prog 177 8:=⟨⟨_,underlying177,U⟩,od⟩
instance:Ag prog 183 5:=⟨⟨_,underlying183,U⟩,od⟩
instance:Ag prog 185 4:=⟨⟨_,underlying185,U⟩,od⟩
instance:Ag prog 206 3:=⟨⟨_,underlying206,U⟩,od⟩
instance:Ag prog 219 3:=⟨⟨_,underlying219,U⟩,od⟩
instance:Ag prog 224 9:=⟨⟨_,underlying224,U⟩,od⟩
instance:Ag prog 241 4:=⟨⟨_,underlying241,U⟩,od⟩
instance:Ag prog 306 3:=⟨⟨_,underlying306,U⟩,od⟩
instance:Ag prog 309 4:=⟨⟨_,underlying309,U⟩,od⟩
instance:Ag prog 329 3:=⟨⟨_,underlying329,U⟩,od⟩
instance:Ag prog 375 2:=⟨⟨_,underlying375,U⟩,od⟩
instance:Ag prog 414 2:=⟨⟨_,underlying414,U⟩,od⟩
instance:Ze prog 3 (oE oF 0):=⟨od⟩
instance:Ze prog 4 (.bool false):=⟨od⟩
instance:Ze prog 44 (.agg #[nS,nS,nS,nS,nS]):=⟨od⟩
instance:Ze prog 47 (oE oF 0):=⟨od⟩
instance:Ze prog 53 (.agg #[nS,nS,nS]):=⟨od⟩
instance:Ze prog 59 (.agg #[nS,oE oF 0,nS,nS]):=⟨od⟩
instance:Ze prog 63 (.agg #[oE oF 0,.string ByteArray.empty,nS,oE oF 0,nS,nS,nS,nS,oE oF 0]):=⟨od⟩
instance:Ze prog 65 (.agg #[.bool false,oE oF 0,.string ByteArray.empty,nS,oE oF 0,nS,nS,nS,nS,oE oF 0]):=⟨od⟩
instance:Ze prog 71 (.agg #[.string ByteArray.empty,nS,oE oF 0,nS,nS]):=⟨od⟩
instance:Ze prog 75 (.agg #[oE oF 0,.string ByteArray.empty]):=⟨od⟩
instance:Ze prog 88 (.agg #[nS,nS,nS]):=⟨od⟩
instance:Ze prog 90 (.agg #[oE oF 0,.string ByteArray.empty,oE oF 0,nS,oE oF 0,nS,nS,nS,nS,nS]):=⟨od⟩
instance:Ze prog 116 (.agg #[.string ByteArray.empty,nS]):=⟨od⟩
instance:Ze prog 118 (.agg #[oE oF 0,oE oF 0]):=⟨od⟩
instance:Ze prog 121 (.agg #[.string ByteArray.empty,nS,oE oF 0]):=⟨od⟩
instance:Ze prog 123 (.agg #[oE oF 0,oE oF 0]):=⟨od⟩
instance:Ze prog 131 (nS):=⟨od⟩
instance:Ze prog 143 (.agg #[.string ByteArray.empty,oE oF 0]):=⟨od⟩
instance:Ze prog 145 (.agg #[.string ByteArray.empty,oE oF 0]):=⟨od⟩
instance:Ze prog 149 (.agg #[oE oF 0,.string ByteArray.empty,oE oF 0,nS,oE oF 0,nS,nS,nS,nS,nS,nS,nS,nS,nS,nS]):=⟨od⟩
instance:Ze prog 167 (.agg #[oE oF 0,oE oF 0,oE oF 0]):=⟨od⟩
instance:Ze prog 177 (.agg #[nS,oE oF 0,nS,nS,nS,nS,nS,nS]):=⟨od⟩
instance:Ze prog 183 (.agg #[.string ByteArray.empty,.bool false,.bool false,.bool false,oE oF 0]):=⟨od⟩
instance:Ze prog 185 (.agg #[oE oF 0,oE oF 0,oE oF 0,oE oF 0]):=⟨od⟩
instance:Ze prog 206 (.agg #[nS,nS,nS]):=⟨od⟩
instance:Ze prog 219 (.agg #[oE oF 0,oE oF 0,nS]):=⟨od⟩
instance:Ze prog 224 (.agg #[nS,nS,nS,oE oF 0,nS,oE oF 0,nS,nS,nS]):=⟨od⟩
instance:Ze prog 241 (.agg #[oE oF 0,oE oF 0,oE oF 0,oE oF 0]):=⟨od⟩
instance:Ze prog 306 (.agg #[oE oF 0,oE oF 0,.nilFunc]):=⟨od⟩
instance:Ze prog 309 (.agg #[nS,nS,nS,nS]):=⟨od⟩
instance:Ze prog 329 (.agg #[nS,nS,nS]):=⟨od⟩
instance:Ze prog 339 (.agg #[.pointer none,nS]):=⟨od⟩
instance:Ze prog 375 (.agg #[nS,oE oF 0]):=⟨od⟩
instance:Ze prog 414 (.agg #[nS,oE oF 0]):=⟨od⟩
instance:Bs prog 44 [nS,nS,nS,nS,nS] [0,1,2,3,4]:=⟨od,og⟩
instance:Bs prog 53 [nS,nS,nS] [0,1,2]:=⟨od,og⟩
instance:Bs prog 59 [nS,oE oF 0,nS,nS] [0,1,2,3]:=⟨od,og⟩
instance:Bs prog 68 [.int .u8 0,.int .u8 0,.int .u8 0] [0,1,2]:=⟨od,og⟩
instance:Bs prog 75 [oE oF 0,.string ByteArray.empty] [0,1]:=⟨od,og⟩
instance:Bs prog 88 [nS,nS,nS] [0,1,2]:=⟨od,og⟩
instance:Bs prog 116 [.string ByteArray.empty,nS] [0,1]:=⟨od,og⟩
instance:Bs prog 118 [oE oF 0,oE oF 0] [0,1]:=⟨od,og⟩
instance:Bs prog 121 [.string ByteArray.empty,nS,oE oF 0] [0,1,2]:=⟨od,og⟩
instance:Bs prog 123 [oE oF 0,oE oF 0] [0,1]:=⟨od,og⟩
instance:Bs prog 143 [.string ByteArray.empty,oE oF 0] [0,1]:=⟨od,og⟩
instance:Bs prog 145 [.string ByteArray.empty,oE oF 0] [0,1]:=⟨od,og⟩
instance:Bs prog 167 [oE oF 0,oE oF 0,oE oF 0] [0,1,2]:=⟨od,og⟩
instance:Bs prog 183 [.string ByteArray.empty,.bool false,.bool false,.bool false,oE oF 0] [0,1,2,3,4]:=⟨od,og⟩
instance:Bs prog 185 [oE oF 0,oE oF 0,oE oF 0,oE oF 0] [0,1,2,3]:=⟨od,og⟩
instance:Bs prog 206 [nS,nS,nS] [0,1,2]:=⟨od,og⟩
instance:Bs prog 219 [oE oF 0,oE oF 0,nS] [0,1,2]:=⟨od,og⟩
instance:Bs prog 241 [oE oF 0,oE oF 0,oE oF 0,oE oF 0] [0,1,2,3]:=⟨od,og⟩
instance:Bs prog 306 [oE oF 0,oE oF 0,.nilFunc] [0,1,2]:=⟨od,og⟩
instance:Bs prog 309 [nS,nS,nS,nS] [0,1,2,3]:=⟨od,og⟩
instance:Bs prog 329 [nS,nS,nS] [0,1,2]:=⟨od,og⟩
instance:Bs prog 375 [nS,oE oF 0] [0,1]:=⟨od,og⟩
instance:Bs prog 399 [oE oF 0,oE oF 0] [0,1]:=⟨od,og⟩
instance:Bs prog 414 [nS,oE oF 0] [0,1]:=⟨od,og⟩
instance:Ik prog 3 .i64:=⟨underlying3⟩
instance:Ik prog 5 .u8:=⟨underlying5⟩
instance:St prog 9:=⟨underlying9⟩
instance:Ik prog 21 .i32:=⟨underlying21⟩
instance:Ik prog 285 .u64:=⟨underlying285⟩
instance:S3 prog 167:=⟨⟨_,_,_,underlying167,og,og,og,U,U,U,underlying3,underlying3,underlying3⟩,od,od⟩
instance:Mp prog 202 9 4 (.bool false):=⟨underlying202,od⟩
instance:Key prog 9 Jt:=QkA underlying9
instance:Mp prog 216 75 149 (.agg #[oE oF 0,.string ByteArray.empty,oE oF 0,nS,oE oF 0,nS,nS,nS,nS,nS,nS,nS,nS,nS,nS]):=⟨underlying216,od⟩
instance:Mp prog 217 75 4 (.bool false):=⟨underlying217,od⟩
instance:Mp prog 264 9 3 (oE oF 0):=⟨underlying264,od⟩
instance:Mp prog 380 3 379 (.nilFunc):=⟨underlying380,od⟩
instance:Key prog 3 VE:=QkB underlying3
instance:Mp prog 386 3 56 (nS):=⟨underlying386,od⟩
instance:Mp prog 398 399 3 (oE oF 0):=⟨underlying398,od⟩
instance:Key prog 399 X8:=Qho underlying399 underlying3 od
instance:Mp prog 430 3 3 (oE oF 0):=⟨underlying430,od⟩
instance:Fu prog 43 f43:=YI func43
instance:Fu prog 48 f48:=YI func48
instance:Fu prog 51 f51:=YI func51
instance:Fu prog 70 f70:=YI func70
instance:Fu prog 74 f74:=YI func74
instance:Fu prog 77 f77:=YI func77
instance:Fu prog 80 f80:=YI func80
instance:Fu prog 81 f81:=YI func81
instance:Fu prog 86 f86:=YI func86
instance:Fu prog 96 f96:=YI func96
instance:Fu prog 105 f105:=YI func105
instance:Fu prog 107 f107:=YI func107
instance:Fu prog 112 f112:=YI func112
instance:Fu prog 113 f113:=YI func113
instance:Fu prog 114 f114:=YI func114
instance:Fu prog 115 f115:=YI func115
instance:Fu prog 116 f116:=YI func116
instance:Fu prog 118 f118:=YI func118
instance:Fu prog 119 f119:=YI func119
instance:Fu prog 122 f122:=YI func122
instance:Fu prog 124 f124:=YI func124
instance:Fu prog 125 f125:=YI func125
instance:Fu prog 126 f126:=YI func126
instance:Fu prog 127 f127:=YI func127
instance:Fu prog 128 f128:=YI func128
instance:Fu prog 142 f142:=YI func142
instance:Fu prog 146 f146:=YI func146
instance:Fu prog 147 f147:=YI func147
instance:Fu prog 149 f149:=YI func149
instance:Fu prog 150 f150:=YI func150
instance:Fu prog 151 f151:=YI func151
instance:Fu prog 152 f152:=YI func152
instance:Fu prog 153 f153:=YI func153
instance:Fu prog 154 f154:=YI func154
instance:Fu prog 155 f155:=YI func155
instance:Fu prog 156 f156:=YI func156
instance:Fu prog 157 f157:=YI func157
instance:Fu prog 158 f158:=YI func158
instance:Fu prog 159 f159:=YI func159
instance:Fu prog 160 f160:=YI func160
instance:Fu prog 166 f166:=YI func166
instance:Fu prog 167 f167:=YI func167
instance:Fu prog 168 f168:=YI func168
instance:Fu prog 176 f176:=YI func176
instance:Fu prog 177 f177:=YI func177
instance:Fu prog 178 f178:=YI func178
instance:Fu prog 187 f187:=YI func187
instance:Fu prog 188 f188:=YI func188
instance:Fu prog 189 f189:=YI func189
instance:Fu prog 193 f193:=YI func193
instance:Fu prog 196 f196:=YI func196
instance:Fu prog 197 f197:=YI func197
instance:Fu prog 220 f220:=YI func220
instance:Fu prog 223 f223:=YI func223
instance:Fu prog 224 f224:=YI func224
instance:Fu prog 225 f225:=YI func225
instance:Fu prog 226 f226:=YI func226
instance:Fu prog 227 f227:=YI func227
instance:Fu prog 228 f228:=YI func228
instance:Fu prog 229 f229:=YI func229
instance:Fu prog 230 f230:=YI func230
instance:Fu prog 232 f232:=YI func232
instance:Fu prog 237 f237:=YI func237
instance:Fu prog 250 f250:=YI func250
instance:Fu prog 255 f255:=YI func255
instance:Fu prog 256 f256:=YI func256
instance:Fu prog 259 f259:=YI func259
instance:Fu prog 262 f262:=YI func262
instance:Fu prog 263 f263:=YI func263
instance:Fu prog 272 f272:=YI func272
instance:Fu prog 295 f295:=YI func295
instance:Fu prog 296 f296:=YI func296
instance:Fu prog 297 f297:=YI func297
instance:Fu prog 298 f298:=YI func298
instance:Fu prog 310 f310:=YI func310
instance:Fu prog 332 f332:=YI func332
instance:Fu prog 333 f333:=YI func333
instance:Fu prog 334 f334:=YI func334
theorem mixed:prog.follows .mixedOrders=true:=od
theorem ZI {all:xx}{f:Fr}{Q:Exit->Fr->OX->Prop}(L:LN)(pl:xo)(h:XP prog all (O1 L w) (λf w=>Q .normal f w) pl f { w with drawn:=w.drawn+1 })(E:XI n all=true:=by rfl)(G:zk all pl=true:=by kernel_rfl):W prog n (.region id all.toArray true) Q f w:=yj (O1 L w) pl mixed E G (O1.C _ _) h
end Go.Proofs
namespace Go.Lg
def O8 (es:List Ed)(s e:Int):Int:=match es with
 | []=>-1
 | x::es=>if x.1=s/\x.2.1=e then x.2.2 else O8 es s e
abbrev Xk (l:LI):Prop:=l.Pairwise (·<·)
def leO:Option Int->Int->Bool
 | none,_=>false
 | some b,a=>decide (a<=b)
def J9 (n:Int):Option Int->LI->Int
 | _,[]=>0
 | pr,a::l=>if a<0\/n<=a then 2 else if leO pr a=true then 5 else J9 n (some a) l
def pv {α:Type}(l:List α)(k:Nat):Option α:=if k=0 then none else l[k - 1]?
theorem K7 {l:List α}{k:Nat}(h:k<l.length):pv l (k+1)=some l[k]:=by simp[pv,h]
def edO:Option Ed->Ed->Bool
 | none,_=>false
 | some y,a=>decide (a.1<y.1\/(a.1=y.1/\a.2.1<=y.2.1))
def ckE (al:LI)(st:Int):Option Ed->List Ed->Int
 | _,[]=>0
 | pr,a::l=>if a.1<0\/st<=a.1\/a.2.2<0\/st<=a.2.2 then 2 else if a.2.1∉al then 9 else if edO pr a=true then 5 else ckE al st (some a) l
def X9 (a:Q2):Int :=
 if J9 32 none a.al≠0 then J9 32 none a.al else if a.st<0 then 2 else if 4096<a.st then 3 else if J9 a.st none a.mr≠0 then J9 a.st none a.mr else ckE a.al a.st none a.ed
def Jd:LI->LI->Bool
 | [],_=>false
 | _::_,[]=>true
 | a::_,b::_=>decide (a<=b)
def tl (c:Bool)(l:LI):LI:=bif c then l.tail else l
def hx (a b:LI):Int:=bif Jd b a then b.headD 0 else a.headD 0
def yu (keep:Bool->Bool->Bool):Nat->LI->LI->LI
 | 0,_,_=>[]
 | n+1,a,b=>if a=[]/\b=[]then[]else(bif keep (Jd a b) (Jd b a)then[hx a b]else[])++yu keep n (tl (Jd a b) a) (tl (Jd b a) b)
def mrg (keep:Bool->Bool->Bool)(a b:LI):LI:=yu keep (a.length+b.length) a b
theorem zH {a b:LI}(h:¬(a=[]/\b=[])):(tl (Jd a b) a).length+(tl (Jd b a) b).length<a.length+b.length:=by
 cases a with
 | nil=>cases b with
  | nil=>simp at h
  | cons y b=>simp[Jd,tl]
 | cons x a=>cases b with
  | nil=>simp[Jd,tl]
  | cons y b =>
   simp only[Jd,tl];by_cases E:x<=y <;> by_cases G:y<=x <;> simp[E,G] <;> omega
theorem y0 (keep:Bool->Bool->Bool):∀(n:Nat) (a b:LI),a.length+b.length<=n->yu keep n a b=mrg keep a b:=by
 have key:∀(n m:Nat) (a b:LI),a.length+b.length<=n->a.length+b.length<=m->yu keep n a b=yu keep m a b:=by
  intro n;induction n with
  | zero =>
   intro m a b E _;have G:a=[]:=Ls oa;have H:b=[]:=Ls oa;subst G H;cases m <;> simp[yu]
  | succ n ih =>
   intro m a b E I;by_cases h:a=[]/\b=[]
   ·obtain⟨rfl,rfl⟩:=h;cases m <;> simp[yu]
   have J:=zH h;cases m with
   | zero=>omega
   | succ m=>rw[yu,yu,OP h,OP h,ih m _ _ oa oa]
 intro n a b h;exact key n _ a b h (Lv _)
theorem Km (keep:Bool->Bool->Bool):mrg keep [] []=[]:=rfl
theorem J5 (keep:Bool->Bool->Bool){a b:LI}(h:¬(a=[]/\b=[])):
  mrg keep a b=(bif keep (Jd a b) (Jd b a)then[hx a b]else[])++mrg keep (tl (Jd a b) a) (tl (Jd b a) b):=by
 have E:=zH h;rw[<-y0 keep (a.length+b.length - 1+1) a b oa,yu,OP h,y0 keep _ _ _ oa]
theorem Qcq (keep:Bool->Bool->Bool):∀(n:Nat) (a b:LI),a.length+b.length<=n->(mrg keep a b).length<=a.length+b.length:=by
 intro n;induction n with
 | zero =>
  intro a b h;have E:a=[]:=Ls oa;have G:b=[]:=Ls oa;subst E G;simp[Km]
 | succ n ih =>
  intro a b H;by_cases h:a=[]/\b=[]
  ·obtain⟨rfl,rfl⟩:=h;simp[Km]
  have I:=zH h;rw[J5 keep h];have:=ih (tl (Jd a b) a) (tl (Jd b a) b) oa;cases keep (Jd a b) (Jd b a) <;> simp <;> omega
theorem j4 (keep:Bool->Bool->Bool)(a b:LI):(mrg keep a b).length<=a.length+b.length:=Qcq keep _ a b (Lv _)
theorem QcL (q:α->Bool)(es:List α)(lo hi:Nat)(S:lo<=hi)(T:hi<=es.length)(H:∀m (E:m<es.length),m<lo->q es[m]=false)(I:∀m (E:m<es.length),lo<=m->m<hi->q es[m]=true)
  (J:∀m (E:m<es.length),hi<=m->q es[m]=false):(es.drop lo).take (hi - lo)=es.filter q:=by
 have e1:es=es.take lo++((es.drop lo).take (hi - lo)++es.drop hi):=by
  conv=>lhs;rw[<-MS lo es]
  congr 1;conv=>lhs;rw[<-MS (hi - lo) (es.drop lo)]
  rw[List.drop_drop];congr 2;omega
 have O:(es.take lo).filter q=[]:=by
  rw[MN];intro a G;obtain⟨m,E,rfl⟩:=LP G;rw[Ly]at E;rw[Nm,H m oa oa];simp
 have f3:(es.drop hi).filter q=[]:=by
  rw[MN];intro a G;obtain⟨m,E,rfl⟩:=LP G;rw[LW]at E;rw[List.getElem_drop,J (hi+m) oa oa];simp
 have f2:((es.drop lo).take (hi - lo)).filter q=(es.drop lo).take (hi - lo):=by
  rw[List.filter_eq_self];intro a G;obtain⟨m,E,rfl⟩:=LP G;rw[Ly,LW]at E;rw[Nm,List.getElem_drop];exact I (lo+m) oa oa oa
 conv=>rhs;rw[e1]
 rw[L6,L6,O,f2,f3];simp
def Z2 (es:List Ed)(s:Int):List Ed:=es.filter λe=>decide (e.1=s)
theorem QhG {L:LN}{v:OY}{l:LI}(h:QP L w.heap v l)(n:Int):
  Q3 prog 75 [v,oE oF n] w λr w'=>w'=w/\∃i:Int,r=oE oF i/\(0<=i↔n∈l):=by
 have O:=h.le;refine Zq func75 ?_;refine Qc<|Qb<|Qd<|Qm<|QI h U<|Qa<|xe<|Qg<|QD (α:=Nat) [(4,5),(8,18)] (λk=>[(8,oE oF k)]) (λk w'=>w'=w/\k<=l.length/\(n∈l↔n∈l.drop k)) (λk=>l.length - k) ol 0 La ⟨U,Lo _,oe⟩ ?_;rintro k g S ⟨rfl,T,E⟩;refine Qc<|Q0 U U<|xe<|Qd<|QH U (λI=>?_) (λI=>?_)
 ·refine Qz<|Qc<|Qb<|Qk ⟨[oE oF (-1)],La,U,-1,U,?_⟩;rw[Lp oa]at E;simp[E]
 have H:k<l.length:=oa
 have hd:=Zd H;refine Qh<|Qd<|Qg<|Qm<|Qb<|Qm<|Qa<|Qa<|xii h U U H λV J=>x (QA J U)<|x (QY U U)<|xe<|QX rfl (λG=>?_) (λG=>?_)
 ·refine Qm<|Qb<|Qk ⟨[oE oF k],La,U,k,U,?_⟩;have:n∈l:=by rw[E,hd,G];exact Lq
  simp[this]
 refine Qh<|Qw<|QS U U<|Qa<|xe<|⟨k+1,oa,La,U,oa,?_⟩;rw[E,hd,Li];exact⟨λh=>h.resolve_left G,.inr⟩
theorem Yr {L:LN}{v:OY}{l:LI}(h:QP L w.heap v l)(n:Int):
  Q3 prog 39 [v,oE oF n] w λr w'=>r=.bool (decide (n∈l))/\w'=w:=by
 refine Zq func39 ?_;refine Qc<|Qb<|Qm<|Qa<|QM<|(QhG h n).mono ?_;rintro E G ⟨rfl,i,rfl,hi⟩;refine x (Yw U U)<|Qb<|Qk ⟨[.bool (decide (0<=i))],La,?_,U⟩;simp[tup,hi]
theorem Vc {L L':LN}{v:OY}{l l':LI}(h:QP L w.heap v l)(E:QP L' w.heap v' l'):
  Q3 prog 107 [v,v'] w λr w'=>r=.bool (decide (l=l'))/\O1 [] w w':=by
 have hf:=h.le;refine Zq func107 ?_;refine Qc<|Qb<|Qd<|Qm<|QI h U<|Qa<|QI E U<|ZB U U<|xe<|QX rfl (λO=>?_) (λO=>?_)
 ·refine Qc<|Qb<|Qk ⟨[.bool false],La,?_,O1.Z _ _⟩;have:l≠l':=λe=>O (by rw[e]);simp[tup,this]
 refine Qh<|Qd<|Qm<|QI h U<|Qa<|xe<|Qg<|QD (α:=Nat) [(4,5),(13,25)] (λk=>[(13,oE oF k)]) (λk w'=>O1 [] w w'/\k<=l.length/\(l=l'↔l.drop k=l'.drop k)) (λk=>l.length - k) ol 0 La ⟨O1.Z _ _,Lo _,oe⟩ ?_;rintro k g Y ⟨G,hk,H⟩
 replace h:=h.I G
 replace E:=E.I G;refine Qc<|Q0 U U<|xe<|Qd<|QH U (λha=>?_) (λha=>?_)
 ·refine Qz<|Qc<|Qb<|Qk ⟨[.bool true],La,?_,G⟩;rw[Lp oa,Lp oa]at H;simp[tup,H]
 have S:k<l.length:=oa
 have T:k<l'.length:=oa
 refine Qh<|Qd<|Qg<|Qm<|Qb<|Qd<|ZI [] (Xx 0 9 [])<|p QF<|p QF<|pii U h U U S λhg hb=>pq (λ_ I=>QA (hb.I I) U) <|
  p QF<|p QF<|pii U E U U T λhh he=>pq (λ_ I=>QA (he.I I) U)<|p (λ_=>Xr U U)<|pe ?_
 have V:=G.D (O1.C [] Y);refine QX rfl (λJ=>?_) (λJ=>?_)
 ·refine Qc<|Qb<|Qk ⟨[.bool false],La,?_,V⟩;have:l≠l':=λe=>J (by simp[e]);simp[tup,this]
 refine Qh<|Qw<|QS U U<|Qa<|xe<|⟨k+1,oa,La,V,oa,?_⟩;have e:l[k]=l'[k]:=Ln.1 J;rw[H,Zd S,Zd T,e];exact⟨λh=>(List.cons.inj h).2,λh=>by rw[h]⟩
theorem Qfm {L L':LN}{v:OY}{l l':List Ed}(h:qB L w.heap v l)(E:qB L' w.heap v' l'):
  Q3 prog 108 [v,v'] w λr w'=>r=.bool (decide (l=l'))/\O1 [] w w':=by
 have hf:=h.le;refine Zq func108 ?_;refine Qc<|Qb<|Qd<|Qm<|QI h U<|Qa<|QI E U<|ZB U U<|xe<|QX rfl (λO=>?_) (λO=>?_)
 ·refine Qc<|Qb<|Qk ⟨[.bool false],La,?_,O1.Z _ _⟩;have:l≠l':=λe=>O (by rw[e]);simp[tup,this]
 refine Qh<|Qd<|Qm<|QI h U<|Qa<|xe<|Qg<|QD (α:=Nat) [(4,5),(13,25)] (λk=>[(13,oE oF k)]) (λk w'=>O1 [] w w'/\k<=l.length/\(l=l'↔l.drop k=l'.drop k)) (λk=>l.length - k) ol 0 La ⟨O1.Z _ _,Lo _,oe⟩ ?_;rintro k g Y ⟨G,hk,H⟩
 replace h:=h.I G
 replace E:=E.I G;refine Qc<|Q0 U U<|xe<|Qd<|QH U (λha=>?_) (λha=>?_)
 ·refine Qz<|Qc<|Qb<|Qk ⟨[.bool true],La,?_,G⟩;rw[Lp oa,Lp oa]at H;simp[tup,H]
 have S:k<l.length:=oa
 have T:k<l'.length:=oa
 refine Qh<|Qd<|Qg<|Qm<|Qb<|Qd<|ZI [] (Xx 0 9 [])<|p QF<|p QF<|pie U h U U S λhg hb=>pq (λ_ I=>Qx (hb.I I) U U) <|
  p QF<|p QF<|pie U E U U T λhh he=>pq (λ_ I=>Qx (he.I I) U U)<|p (λ_=>V4 U U)<|pe ?_
 have V:=G.D (O1.C [] Y);refine QX rfl (λJ=>?_) (λJ=>?_)
 ·refine Qc<|Qb<|Qk ⟨[.bool false],La,?_,V⟩;have:l≠l':=λe=>J (by simp[e]);simp[tup,this]
 refine Qh<|Qw<|QS U U<|Qa<|xe<|⟨k+1,oa,La,V,oa,?_⟩;have e:l[k]=l'[k]:=Ln.1 J;rw[H,Zd S,Zd T,e];exact⟨λh=>(List.cons.inj h).2,λh=>by rw[h]⟩
theorem Qbg (n:Int):Q3 prog 175 [oE oF n] w λr w'=>r=.bool false/\w'=w:=by
 refine Zq func175 ?_;refine Qc<|Qb<|Qm<|Qa<|ZB U U<|Qb<|Qk ⟨[.bool (decide (¬n=n))],La,by simp[tup],rfl⟩
theorem Qe9 (n:Int):Q3 prog 248 [oE oF n] w λr w'=>r=.bool false/\w'=w:=by
 refine Zq func248 ?_;refine Qc<|Qb<|Qm<|Qa<|ZB U U<|Qb<|Qk ⟨[.bool (decide (¬n=n))],La,by simp[tup],rfl⟩
theorem QdG (m n:Int):Q3 prog 174 [oE oF m,oE oF n] w λr w'=>r=.bool (decide (m<n))/\w'=w:=by
 refine Zq func174 ?_;refine Qc<|Qb<|Qm<|QM<|(Qe9 m).mono ?_;rintro E G ⟨rfl,rfl⟩;refine Qa<|Qp<|Qp<|Qp<|QG U<|Qa<|Qa<|Qa<|Q0 U U<|QG U<|Qb<|Qk ⟨[.bool (decide (m<n))],La,U,U⟩
theorem Xk.get {l:LI}(h:Xk l)(E:j<l.length)(G:i<j):l[i]<l[j]:=MH.1 h i j oa E G
theorem ye {L:LN}{v:OY}{l:LI}(h:QP L w.heap v l)(hi:Xk l)(n:Int):
  Q3 prog 104 [v,oE oF n] w λr w'=>w'=w/\∃i:Int,r=.tuple #[oE oF i,.bool (decide (n∈l))]:=by
 have ht:=h.le;refine Zq func104 ?_;refine Qc<|x Ql<|Qb<|Qm<|QI h U<|Qb<|Qm<|x Ql<|Qb<|Qd<|Qg<|QD (α:=Nat×Nat) [(7,9),(13,30)] (λz=>[(7,oE oF z.1),(8,oE oF z.2)])
  (λz w'=>w'=w/\z.1<=z.2/\z.2<=l.length/\(∀m (E:m<l.length),m<z.1->l[m]<n)/\(∀m (E:m<l.length),z.2<=m->n<=l[m])) (λz=>z.2 - z.1) ol (0,l.length) oz
  ⟨U,Lo _,Lv _,λm _ J=>OS J (Na m),λm h1 J=>OS h1 (by simp only[]at J;omega)⟩ ?_
 rintro⟨i,j⟩ g w1 ⟨rfl,hb,T,G,O⟩;simp only[]at hb T G O;refine Qd<|Qm<|Qa<|Q0 U U<|xe<|QH rfl (λhc=>?_) (λhc=>?_)
 ·have e:i=j:=oa
  subst e;refine Qz<|Za (α:=Bool) [(4,5),(31,53)] (λz=>[(4,oE oF i),(5,.bool z)]) (λz w'=>w'=w1/\z=decide (n∈l)) ol ?_ ?_
  ·refine Qw<|Qa<|Qa<|Qa<|xb (YP U U) (λhe=>?_) (λhe=>?_)
   ·have H:i<l.length:=oa
    refine Qa<|Qa<|Qa<|xii h U U H λhu hf=>x (QA hf U)<|Qa<|xb (QY U U) (λS=>?_) (λS=>?_)
    ·refine Qa<|Qp<|Qp<|Qp<|Qp<|Qp<|Qp<|Qp<|Qp<|Qp<|QG U<|QG U<|x Ql<|Qb ?_;have:n∈l:=by rw[<-S];exact Lk H
     exact⟨true,oz,U,by simp[this]⟩
    refine Qa<|Qa<|Qa<|xii h U U H λhv hg=>x (QA hg U)<|QM<|(Qbg _).mono ?_;rintro r3 w3 ⟨rfl,rfl⟩;refine Qa<|Qp<|Qp<|QG U<|QG U<|QG U<|x Ql<|Qb<|⟨false,oz,U,?_⟩;have:n∉l:=by
     intro E;obtain⟨m,I,V⟩:=LP E;by_cases hk:m<i
     ·have:=G m I hk;omega
     by_cases hl:m=i
     ·subst hl;exact S V
     have:=Xk.get hi I (show i<m by omega);have:=O i H (Lv _);omega
    simp[this]
   refine Qa<|Qp<|Qp<|Qp<|Qp<|Qp<|Qp<|Qp<|Qp<|Qp<|Qp<|Qp<|Qp<|Qp<|Qp<|Qp<|Qp<|xs U <|
    QG rfl<|x Ql<|Qb<|⟨false,oz,U,?_⟩
   have:n∉l:=by
    intro E;obtain⟨m,I,V⟩:=LP E;have:=G m I oa;omega
   simp[this]
  rintro z g w7 ⟨rfl,rfl⟩;exact Qk ⟨[oE oF i,.bool (decide (n∈l))],oz,U,i,U⟩
 refine Qh<|Qg<|Qm<|Qa<|QS U U<|x (XM U (by exact⟨oa,oa⟩))<|x (Qdo (n:=1) U U og)<|x (XM U (by exact⟨oa,oa⟩))<|Qb ?_;have hh:(((i:Int)+(j:Int)) / 2 ^ 1)=(((i+j) / 2:Nat):Int):=oa
 rw[hh];generalize hq:(i+j) / 2=q;have hn:i<=q:=oa
 have ho:q<j:=oa
 have Y:q<l.length:=oa
 refine Qm<|Qa<|xii h U U Y λhw hp=>x (QA hp U)<|Qa<|QM<|(QdG _ _).mono ?_;rintro r8 w8 ⟨rfl,rfl⟩;refine xe<|QH rfl (λha=>?_) (λha=>?_)
 ·refine Qw<|Qa<|Qb<|⟨(i,q),oh,oz,U,hn,oa,G,λm E hr=>?_⟩;by_cases e:q=m
  ·subst e;omega
  have:=Xk.get hi E (show q<m by simp only[]at hr;omega);omega
 refine Qw<|Qa<|QS U U<|Qb<|⟨(q+1,j),oh,oz,U,ho,T,λm E hs=>?_,O⟩;by_cases e:m=q
 ·subst e;exact ha
 have:=Xk.get hi Y (show m<q by simp only[]at hs;omega);omega
theorem JZ {L:LN}{v:OY}{l:LI}(h:QP L w.heap v l)(hi:Xk l)(n:Int):
  Q3 prog 251 [v,oE oF n] w λr w'=>r=.bool (decide (n∈l))/\w'=w:=by
 refine Zq func251 ?_;refine Qc<|Qb<|Qm<|Qa<|QM<|(ye h hi n).mono ?_;rintro E G ⟨rfl,i,rfl⟩;refine Qa<|QZ U U<|QZ U U<|x Ql<|Qb<|Qm<|Qb<|Qk ⟨[.bool (decide (n∈l))],La,U,U⟩
theorem qb {L:LN}{v:OY}{l:LI}(h:QP L w.heap v l)(n:Int):
  Q3 prog 102 [v,oE oF n] w λr w'=>r=oE oF (J9 n none l)/\w'=w:=by
 have hc:=h.le;refine Zq func102 ?_;refine Qc<|Qb<|Qd<|Qm<|QI h U<|Qa<|xe<|Qg<|QD (α:=Nat) [(4,6),(9,34)] (λk=>[(9,oE oF k)]) (λk w'=>w'=w/\k<=l.length/\J9 n (pv l k) (l.drop k)=J9 n none l) (λk=>l.length - k) ol 0 La ⟨U,Lo _,U⟩ ?_;rintro k g S ⟨rfl,hk,E⟩;refine Qc<|Q0 U U<|xe<|Qd<|QH U (λT=>?_) (λT=>?_)
 ·refine Qz<|Qc<|Qb<|Qk ⟨[oE oF 0],La,?_,U⟩;rw[<-E,Lp oa];rfl
 have G:k<l.length:=oa
 have hd:=Zd G;rw[hd,J9]at E;refine Qh<|Qd<|Qg<|Qm<|xii h U U G λhe V=>x (QA V U)<|x Ql<|Qb<|Qg<|Za (α:=Bool) [(14,21)] (λz=>[(14,.bool z)]) (λz w'=>w'=S/\z=decide (l[k]<0\/n<=l[k])) ol ?_ ?_
 ·refine Qw<|Qa<|xb (YP U U) (λH=>?_) (λH=>?_)
  ·refine Qa<|Qp<|Qp<|Qp<|QG U<|Qb<|⟨true,La,U,by simp[H]⟩
  refine Qa<|Qa<|Qa<|x (Yw U U)<|QG U<|Qb<|⟨_,La,U,by simp[H]⟩
 rintro z g Y ⟨rfl,rfl⟩;refine QX rfl (λI=>?_) (λI=>?_)
 ·refine Qc<|Qb<|Qk ⟨[oE oF 2],La,?_,U⟩;rw[<-E,OQ I];rfl
 rw[OP I]at E;refine Za (α:=Bool) [(22,33)] (λz=>[(22,.bool z)]) (λz w'=>w'=Y/\z=leO (pv l k) l[k]) ol ?_ ?_
 ·refine Qw<|Qa<|xb (Yg U U) (λha=>?_) (λha=>?_)
  ·have hk1:((k:Int) - 1)=((k - 1:Nat):Int):=oa
   refine Qa<|Qa<|Qa<|Qa<|x (Jo U U ⟨oa,oa⟩)<|xii (i:=k - 1) h U (by show Value.int _ ((k:Int) - 1)=_;rw[hk1]) oa λhf hb=>x (QA hb rfl)<|x (KN rfl rfl)<|QG rfl<|Qb<|⟨_,⟨rfl,Z⟩,rfl,?_⟩;have:pv l k=some l[k - 1]:=by
    have J:k≠0:=oa
    simp[pv,J,show k - 1<l.length by omega]
   rw[this];rfl
  refine Qa<|Qp<|Qp<|Qp<|Qp<|Qp<|Qp<|Qp<|QG U<|Qb ?_;have J:k=0:=oa
  exact⟨false,La,U,by simp[pv,J,leO]⟩
 rintro z g w3 ⟨rfl,rfl⟩;refine QQ rfl (λO=>?_) (λO=>?_)
 ·refine Qc<|Qb<|Qk ⟨[oE oF 5],La,?_,U⟩;rw[<-E,OQ O];rfl
 rw[OP (by simp[O])]at E;refine Qh<|Qw<|QS U U<|Qa<|xe ?_;exact⟨k+1,oa,La,U,oa,by rw[K7 G];exact E⟩
theorem yw {L:LN}{a:Q2}(h:ZH L w.heap va vm ve a):
  Q3 prog 103 [.agg #[va,oE oF a.st,vm,ve]] w λr w'=>r=oE oF (ckE a.al a.st none a.ed)/\O1 [] w w':=by
 obtain⟨J,_,H⟩:=h;have h2:=H.le;refine Zq func103 ?_;refine Qc<|Qe<|QW (us:=[va,oE oF a.st,vm,ve]) U λb1 w1 Y h3 I=>Qb ?_
 replace J:=J.I Y
 replace H:=H.I Y;refine Qd<|Qc<|Qs U I U U<|QI H U<|Qa<|xe<|Qg<|QD (α:=Nat) [(2,5),(9,71)] (λk=>[(9,oE oF k)]) (λk w'=>O1 [] w1 w'/\k<=a.ed.length/\ckE a.al a.st (pv a.ed k) (a.ed.drop k)=ckE a.al a.st none a.ed) (λk=>a.ed.length - k) ol 0 La
  ⟨O1.Z _ _,Lo _,U⟩ ?_
 rintro k g w2 ⟨O,hk,E⟩
 replace J:=J.I O
 replace H:=H.I O
 replace I:=I.I O;refine Qc<|Q0 U U<|xe<|Qd<|QH U (λhq=>?_) (λhq=>?_)
 ·refine Qz<|Qc<|Qb<|Qk ⟨[oE oF 0],La,?_,Y.D O⟩;rw[<-E,Lp oa];rfl
 have ha:k<a.ed.length:=oa
 have hd:=Zd ha;rw[hd,ckE]at E;refine Qh<|Qd<|Qg<|Qm<|xie H U U ha λh4 hr=>x (Qx hr U U)<|Qe<|Qo (us:=[oE oF 0,oE oF 0,oE oF 0]) U λb4 w3 hs ht G=>x Ql <|
  Qe<|Qj G U U U U oA λw4 hu G=>xe ?_
 have S:=hs.O hu ht
 replace J:=J.I S
 replace H:=H.I S
 replace I:=I.I S;have T:=(Y.D O).D S;refine Qd<|Qg<|Za (α:=Bool) [(14,36)] (λz=>[(14,.bool z)]) (λz w'=>w'=w4/\z=decide (a.ed[k].1<0\/a.st<=a.ed[k].1\/a.ed[k].2.2<0\/a.st<=a.ed[k].2.2)) ol ?_ ?_
 ·refine Qw<|Qs U G U U<|xb (YP U U) (λhb=>?_) (λhb=>?_)
  ·refine Qa<|Qp<|Qp<|Qp<|Qp<|Qp<|QG U<|Qa<|Qp<|Qp<|Qp<|QG U<|Qa<|Qp<|Qp<|Qp<|Qp<|Qp<|QG U<|Qb<|⟨true,La,U,by simp[hb]⟩
  refine Qa<|Qs U G U U<|Qs U I U U<|xb (Yw U U) (λhc=>?_) (λhc=>?_)
  ·refine QG U<|Qa<|Qp<|Qp<|Qp<|QG U<|Qa<|Qp<|Qp<|Qp<|Qp<|Qp<|QG U<|Qb<|⟨true,La,U,by simp[hc]⟩
  refine QG U<|Qa<|Qs U G U U<|xb (YP U U) (λhe=>?_) (λhe=>?_)
  ·refine QG U<|Qa<|Qp<|Qp<|Qp<|Qp<|Qp<|QG U<|Qb<|⟨true,La,U,by simp[he]⟩
  refine QG U<|Qa<|Qs U G U U<|Qs U I U U<|x (Yw U U)<|QG U<|Qb<|⟨_,La,U,by simp[hb,hc,he]⟩
 rintro z g w5 ⟨rfl,rfl⟩;refine QX rfl (λhf=>?_) (λhf=>?_)
 ·refine Qc<|Qb<|Qk ⟨[oE oF 2],La,?_,T⟩;rw[<-E,OQ hf];rfl
 rw[OP hf]at E;refine Qc<|Qs U I U U<|Qs U G U U<|QM<|(Yr J _).mono ?_;rintro r4 w6 ⟨rfl,rfl⟩;refine x (ZC U)<|Qb<|QQ U (λhg=>?_) (λhg=>?_)
 ·have hn:a.ed[k].2.1∉a.al:=by simpa using hg
  refine Qc<|Qb<|Qk ⟨[oE oF 9],La,?_,T⟩;rw[<-E,OQ hn];rfl
 have hn:¬(a.ed[k].2.1∉a.al):=by simpa using hg
 rw[OP hn]at E;refine Qh<|Qd<|Qm<|x (QY U U)<|xe<|QX rfl (λhv=>?_) (λhv=>?_)
 ·have h0:k=0:=oa
  rw[OP (by simp[pv,h0,edO])]at E;refine Qz<|Qw<|QS U U<|Qa<|xe ?_;exact⟨k+1,oa,La,O.D S,oa,by rw[K7 ha];exact E⟩
 have h0:k≠0:=oa
 have hk1:((k:Int) - 1)=((k - 1:Nat):Int):=oa
 have ho:k - 1<a.ed.length:=oa
 refine Qh<|Qc<|Qs U I U U<|Qa<|x (Jo U U ⟨oa,oa⟩)<|xie (i:=k - 1) H U (by show Value.int _ ((k:Int) - 1)=_;rw[hk1]) ho λh5 hw =>
  x (Qx hw U U)<|Qe<|Qo (us:=[oE oF 0,oE oF 0,oE oF 0]) U λb5 w7 hy hz V=>Qe<|Qj V U U U U oA λw8 h1 V=>xe ?_
 have hh:=hy.O h1 hz
 replace G:=G.I hh
 replace T:=T.D hh;have hp:pv a.ed k=some a.ed[k - 1]:=by simp[pv,h0,ho]
 rw[hp]at E;refine Za (α:=Bool) [(52,70)] (λz=>[(70,.bool z)]) (λz w'=>w'=w8/\z=edO (some a.ed[k - 1]) a.ed[k]) ol ?_ ?_
 ·refine Qw<|Qs U G U U<|Qs U V U U<|xb (YP U U) (λhi=>?_) (λhi=>?_)
  ·refine Qa<|Qp<|Qp<|Qp<|Qp<|Qp<|Qp<|Qp<|Qp<|Qp<|Qp<|Qp<|Qp<|QG U<|xe ?_;exact⟨true,La,U,by simp[edO,hi]⟩
  refine Qa<|Qs U G U U<|Qs U V U U<|xb (QY U U) (λhj=>?_) (λhj=>?_)
  ·refine Qa<|Qs U G U U<|Qs U V U U<|x (KN U U)<|QG U<|QG U<|xe ?_;exact⟨_,La,U,by simp[edO,hj]⟩
  refine Qa<|Qp<|Qp<|Qp<|Qp<|Qp<|QG U<|QG U<|xe ?_;exact⟨false,La,U,by simp[edO,hj,hi]⟩
 rintro z g w9 ⟨rfl,rfl⟩;refine QQ rfl (λhl=>?_) (λhl=>?_)
 ·refine Qc<|Qb<|Qk ⟨[oE oF 5],La,?_,T⟩;rw[<-E,OQ hl];rfl
 rw[OP (by simp[hl])]at E;refine Qh<|Qw<|QS U U<|Qa<|xe ?_;exact⟨k+1,oa,La,(O.D S).D hh,oa,by rw[K7 ha];exact E⟩
theorem X1 {L:LN}{a:Q2}(h:ZH L w.heap va vm ve a):
  Q3 prog 51 [.agg #[va,oE oF a.st,vm,ve]] w λr w'=>r=oE oF (X9 a)/\O1 [] w w':=by
 refine Zq func51 ?_;refine Qc<|Qe<|QW (us:=[va,oE oF a.st,vm,ve]) U λb1 T E V G=>Qb ?_
 replace h:=h.I E;refine Qd<|Qc<|Qs U G U U<|QM<|(qb h.al 32).mono ?_;rintro Y w2 ⟨rfl,rfl⟩;refine Qb<|Qm<|ZB U U<|xe<|QX rfl (λH=>?_) (λH=>?_)
 ·refine Qm<|Qb<|Qk ⟨[oE oF (J9 32 none a.al)],La,?_,E⟩;rw[X9,OQ H];rfl
 refine Qh<|Qd<|Qg<|Qc<|Qs U G U U<|Q0 U U<|Qb<|QX U (λI=>?_) (λI=>?_)
 ·refine Qc<|Qb<|Qk ⟨[oE oF 2],La,?_,E⟩;rw[X9,OP H,OQ I];rfl
 refine Qc<|Qs U G U U<|x (Yg U U)<|Qb<|QX U (λJ=>?_) (λJ=>?_)
 ·refine Qc<|Qb<|Qk ⟨[oE oF 3],La,?_,E⟩;rw[X9,OP H,OP I,OQ J];rfl
 refine Qh<|Qd<|Qc<|Qs U G U U<|Qs U G U U<|QM<|(qb h.mr a.st).mono ?_;rintro r3 w3 ⟨rfl,rfl⟩;refine Qb<|Qm<|ZB U U<|xe<|QX rfl (λO=>?_) (λO=>?_)
 ·refine Qm<|Qb<|Qk ⟨[oE oF (J9 a.st none a.mr)],La,?_,E⟩;rw[X9,OP H,OP I,OP J,OQ O];rfl
 refine Qh<|Qc<|Q6 G U U<|QM<|(yw h).mono ?_;rintro r4 w4 ⟨rfl,S⟩;refine Qb<|Qk ⟨[oE oF (ckE a.al a.st none a.ed)],La,?_,E.D S⟩;rw[X9,OP H,OP I,OP J,OP O];rfl
theorem Z5 {L:LN}{v:OY}{l:LI}(h:QP L w.heap v l):
  Q3 prog 70 [v] w λr w'=>O1 [] w w'/\Qv 3 w.heap.size w' r l:=by
 have ha:=h.le;refine Zq func70 ?_;refine Qc<|Qb ?_;obtain⟨ao,cap,G⟩:=h.shape;refine Qd<|Qm<|x (Xs (show ev _ _=_ from G) U)<|xe<|QQ rfl (λH=>?_) (λH=>?_)
 ·refine Qc<|Qb<|Qk ⟨[nS],La,O1.Z _ _,?_⟩;rcases h.2.2 with⟨E,I⟩|⟨a,c,E,_⟩
  ·have:l=[]:=Ls I;subst this;exact QJ _ _ _ _
  rw[E]at G;cases G;cases H
 rcases h.2.2 with⟨E,I⟩|⟨a,c,E,I,T⟩
 ·rw[E]at G;injection G with e1;subst e1;cases H
 refine Qh<|Qc<|Qe<|Xw λb5 w1 J O S=>Qa<|Qe<|Zb (base:=w.heap.size) (S.own (n:=0) (sz:=1) U oa O) U (show ev _ _=_ from E) oe (T.I J) (zn l) oa (ot S.lt) λv2 w2 V Y hb=>Qb<|Qk ⟨[v2],La,J.O Y O,?_⟩;simpa[tup]using V
theorem Qa9 [Fu prog g fn]{keep:Bool->Bool->Bool}(hk:∀(p q:Bool) (w:OX),Q3 prog g [.bool p,.bool q] w λr w'=>r=.bool (keep p q)/\w'=w)
  {L L':LN}   {a b:LI} (H:QP L w.heap va a) (G:QP L' w.heap vb b) (hH:a.length+b.length<=1099511627776):
  Q3 prog 153 [va,vb,.func (.func g) #[] #[]] w λr w'=>O1 [] w w'/\Qv 3 w.heap.size w' r (mrg keep a b):=by
 refine Zq func153 ?_;refine Qc<|Qb<|Qc<|Qb<|Qd<|Qg<|QD (α:=(LI×OY)×(LI×OY)×(LI×OY)) [(0,1),(7,72)] (λz=>[(0,z.1.2),(1,z.2.1.2),(7,z.2.2.2)])
  (λz w'=>QP L w.heap z.1.2 z.1.1/\QP L' w.heap z.2.1.2 z.2.1.1/\Qv 3 w.heap.size w' z.2.2.2 z.2.2.1/\O1 [] w w'/\z.2.2.1++mrg keep z.1.1 z.2.1.1=mrg keep a b/\z.2.2.1.length+z.1.1.length+z.2.1.1.length<=1099511627776)
  (λz=>z.1.1.length+z.2.1.1.length) ol ((a,va),(b,vb),([],nS)) oA ⟨H,G,QJ _ _ _ _,O1.Z _ _,U,by simp;omega⟩ ?_
 clear H G;rintro⟨⟨a1,h2⟩,⟨b1,h3⟩,⟨o,vo⟩⟩ g1 w1 ⟨H,G,I,E,T,hl⟩;simp only[]at H G I E T hl;refine Qd<|Za (α:=Bool) [(11,18)] (λz=>[(18,.bool z)]) (λz w'=>w'=w1/\z=decide (¬(a1=[]/\b1=[]))) ol ?_ ?_
 ·refine Qw<|Qa<|QI H U<|xb (Yg U U) (λhn=>?_) (λhn=>?_)
  ·refine Qa<|Qp<|Qp<|Qp<|QG U<|xe ?_;have:a1≠[]:=by intro e;subst e;simp at hn
   exact⟨true,La,U,by simp[this]⟩
  refine Qa<|Qa<|QI G U<|x (Yg U U)<|QG U<|xe ?_;have:a1=[]:=Ls oa;refine⟨_,La,U,?_⟩;cases b1 <;> simp[this]
 rintro z g2 w2 ⟨rfl,rfl⟩;refine QH rfl (λhe=>?_) (λhe=>?_)
 ·refine Qz<|Qm<|Qb<|Qk ⟨[vo],La,E,?_⟩;obtain⟨rfl,rfl⟩:=Ln.1 he;rw[Km,LK]at T;rw[<-T];exact I
 refine Qh ?_;rw[J5 keep he]at T;have hp:=zH he;have hI:=H.le;have hJ:=G.le;refine Qg<|Za (α:=Bool) [(8,8),(19,35)] (λz=>[(8,.bool z)]) (λz w'=>O1 [] w2 w'/\z=Jd a1 b1) ol ?_ ?_
 ·refine ZI [] (Xx 0 18 [])<|p QF<|p (λ_=>Yv H U)<|pb (λ_=>Yg U U) (λhq=>?_) (λhq=>?_)
  ·refine p QF<|p QF<|p (λ_=>Yv G U)<|pb (λ_=>QY U U) (λh4=>?_) (λh4=>?_)
   ·refine p QF<|ps<|ps<|ps<|ps<|ps<|ps<|ps<|p (Xf U)<|p (Xf U)<|p ZM<|pe ?_;refine⟨true,La,O1.C _ _,?_⟩;have:b1=[]:=Ls oa;subst this;cases a1 with
    | nil=>simp at hq
    | cons y a1=>rfl
   have O:0<a1.length:=oa
   have S:0<b1.length:=oa
   refine p QF<|p QF<|pii U (i:=0) (H.I E) U U O λhK h5=>pq (λ_ J=>QA (h5.I J) U) <|
    p QF<|pii U (i:=0) (G.I E) U U S λhL h6=>pq (λ_ J=>QA (h6.I J) U)<|p (λ_=>KN U U) <|
    p (Xf rfl)<|p (Xf U)<|p ZM<|pe ?_
   refine⟨_,La,O1.C _ _,?_⟩;cases a1 with
   | nil=>simp at O
   | cons y a1=>cases b1 with
    | nil=>simp at S
    | cons z b1=>rfl
  refine p QF<|ps<|ps<|ps<|ps<|ps<|ps<|ps<|ps<|ps<|ps<|ps<|ps<|p (Xf U)<|p ZM<|pe ?_;refine⟨false,La,O1.C _ _,?_⟩;have:a1=[]:=Ls oa;subst this;rfl
 rintro z g3 w3 ⟨hr,rfl⟩
 replace I:=Qq I hr
 replace E:=E.D hr;refine Za (α:=Bool) [(9,9),(36,52)] (λz=>[(9,.bool z)]) (λz w'=>O1 [] w3 w'/\z=Jd b1 a1) ol ?_ ?_
 ·refine ZI [] (Xx 0 18 [])<|p QF<|p (λ_=>Yv G U)<|pb (λ_=>Yg U U) (λht=>?_) (λht=>?_)
  ·refine p QF<|p QF<|p (λ_=>Yv H U)<|pb (λ_=>QY U U) (λh7=>?_) (λh7=>?_)
   ·refine p QF<|ps<|ps<|ps<|ps<|ps<|ps<|ps<|p (Xf U)<|p (Xf U)<|p ZM<|pe ?_;refine⟨true,La,O1.C _ _,?_⟩;have:a1=[]:=Ls oa;subst this;cases b1 with
    | nil=>simp at ht
    | cons y b1=>rfl
   have O:0<a1.length:=oa
   have S:0<b1.length:=oa
   refine p QF<|p QF<|pii U (i:=0) (G.I E) U U S λhM h8=>pq (λ_ J=>QA (h8.I J) U) <|
    p QF<|pii U (i:=0) (H.I E) U U O λhN h9=>pq (λ_ J=>QA (h9.I J) U)<|p (λ_=>KN U U) <|
    p (Xf rfl)<|p (Xf U)<|p ZM<|pe ?_
   refine⟨_,La,O1.C _ _,?_⟩;cases a1 with
   | nil=>simp at O
   | cons y a1=>cases b1 with
    | nil=>simp at S
    | cons z b1=>rfl
  refine p QF<|ps<|ps<|ps<|ps<|ps<|ps<|ps<|ps<|ps<|ps<|ps<|ps<|p (Xf U)<|p ZM<|pe ?_;refine⟨false,La,O1.C _ _,?_⟩;have:b1=[]:=Ls oa;subst this;rfl
 rintro z g4 w4 ⟨hu,rfl⟩
 replace I:=Qq I hu
 replace E:=E.D hu;refine Qc<|Qb<|Za (α:=OY) [(0,0),(10,10),(53,58)] (λz=>[(0,z),(10,oE oF (bif Jd a1 b1 then a1.headD 0 else 0))]) (λz w'=>O1 [] w4 w'/\QP L w.heap z (tl (Jd a1 b1) a1)) ol ?_ ?_
 ·refine Qm<|xe<|QQ U (λV=>?_) (λV=>?_)
  ·have O:0<a1.length:=by cases a1 with|nil=>simp[Jd]at V|cons y a1=>simp
   refine ZI [] (Xx 0 7 [])<|p QF<|pii U (i:=0) (H.I E) U U O λhC hf=>pq (λ_ J=>QA (hf.I J) U)<|p QF <|
    Qmz rfl (lo:=1) H U U O λv' hg=>p ZM<|p ZM<|pe ?_
   have hh:=QP.drop hg;refine⟨v',⟨U,?_,Z⟩,O1.C _ _,?_⟩
   ·show oE oF a1[0]=_;rw[V];cases a1 with|nil=>simp at O|cons y a1=>rfl
   rw[V];simpa[tl]using hh
  refine Qh<|⟨h2,⟨U,by show _=_;rw[V];rfl,Z⟩,O1.Z _ _,?_⟩;rw[V];exact H
 rintro hv g5 w5 ⟨hw,hy⟩
 replace I:=Qq I hw
 replace E:=E.D hw;refine Za (α:=OY) [(1,1),(10,10),(59,64)] (λz=>[(1,z),(10,oE oF (bif Jd b1 a1 then b1.headD 0 else bif Jd a1 b1 then a1.headD 0 else 0))]) (λz w'=>O1 [] w5 w'/\QP L' w.heap z (tl (Jd b1 a1) b1)) ol ?_ ?_
 ·refine Qm<|xe<|QQ U (λY=>?_) (λY=>?_)
  ·have S:0<b1.length:=by cases b1 with|nil=>simp[Jd]at Y|cons y b1=>simp
   refine ZI [] (Xx 0 7 [])<|p QF<|pii U (i:=0) (G.I E) U U S λhC hf=>pq (λ_ J=>QA (hf.I J) U)<|p QF <|
    Qmz rfl (lo:=1) G U U S λv' hg=>p ZM<|p ZM<|pe ?_
   have hh:=QP.drop hg;refine⟨v',⟨U,?_,Z⟩,O1.C _ _,?_⟩
   ·show oE oF b1[0]=_;rw[Y];cases b1 with|nil=>simp at S|cons y b1=>rfl
   rw[Y];simpa[tl]using hh
  refine Qh<|⟨h3,⟨U,by show _=_;rw[Y];rfl,Z⟩,O1.Z _ _,?_⟩;rw[Y];exact G
 rintro hz g6 w6 ⟨h0,h1⟩
 replace I:=Qq I h0
 replace E:=E.D h0;have hD:(bif Jd b1 a1 then b1.headD 0 else bif Jd a1 b1 then a1.headD 0 else 0)=hx a1 b1:=by
  unfold hx;cases e:Jd b1 a1 with
  | true=>rfl
  | false =>
   cases e2:Jd a1 b1 with
   | true=>rfl
   | false=>rw[e,e2]at hp;simp[tl]at hp
 refine Qm<|Qa<|Qa<|Qe<|xc (first:=[]) (capt:=[]) U<|(hk _ _ _).mono ?_;rintro r7 w7 ⟨rfl,rfl⟩;refine xe<|QQ rfl (λhi=>?_) (λhi=>?_)
 ·refine Qw ?_;rw[hi,cond_true]at T;refine Qa<|Qa<|Qe<|QB (us:=[[oE oF (hx a1 b1)]]) U U og oe ⟨by rw[<-hD];rfl,U,Z⟩ λhO w8 hj hP hE =>
   Qe<|Zb (news:=[oE oF (hx a1 b1)]) (L:=[]) (Qq I hj) U U U (hE.at oe) (by simp[Value.oneCell']) oa (ou E.size hj.size) λv9 w9 hF hG hQ=>Qb ?_
  have hge:=Qi I;refine⟨((tl (Jd a1 b1) a1,hv),(tl (Jd b1 a1) b1,hz),(o++[hx a1 b1],v9)),oh,oA,hy,h1,?_,(E.D hj).then hG (λb G=>.inr (hge b G).1),by rw[LA];exact T,by simp only[oL,oN];omega⟩;exact Qv.snoc hF
 rw[hi,cond_false,L8]at T;refine Qh ?_;exact⟨((tl (Jd a1 b1) a1,hv),(tl (Jd b1 a1) b1,hz),(o,vo)),oh,oA,hy,h1,I,E,T,oh⟩
theorem Qok (p q:Bool)(w:OX):Q3 prog 154 [.bool p,.bool q] w λr w'=>r=.bool (p || q)/\w'=w:=by
 refine Zq func154 ?_;refine Qc<|Qb<|Qc ?_;cases p
 ·refine Qa<|Qa<|Qa<|QG U<|Qb<|Qk ⟨[.bool q],La,U,U⟩
 refine Qa<|Qa<|Qp<|QG U<|Qb<|Qk ⟨[.bool true],La,U,U⟩
theorem Qhd (p q:Bool)(w:OX):Q3 prog 272 [.bool p,.bool q] w λr w'=>r=.bool (p && !q)/\w'=w:=by
 refine Zq func272 ?_;refine Qc<|Qb<|Qc ?_;cases p
 ·refine Qa<|Qa<|Qp<|Qp<|QG U<|Qb<|Qk ⟨[.bool false],La,U,U⟩
 refine Qa<|Qa<|Qa<|x (ZC U)<|QG U<|Qb<|Qk ⟨[.bool (!q)],La,U,U⟩
theorem QbW {L L':LN}{a b:LI}(E:QP L w.heap va a)(G:QP L' w.heap vb b)(H:a.length+b.length<=1099511627776):
  Q3 prog 83 [va,vb] w λr w'=>O1 [] w w'/\Qv 3 w.heap.size w' r (mrg (· || ·) a b):=by
 refine Zq func83 ?_;refine Qc<|Qb<|Qm<|Qa<|ZO<|(Qa9 Qok E G H).mono ?_;rintro I S ⟨J,O⟩;refine Qb<|Qk ⟨[I],La,J,O⟩
theorem Qjd {L L':LN}{a b:LI}(E:QP L w.heap va a)(G:QP L' w.heap vb b)(H:a.length+b.length<=1099511627776):
  Q3 prog 221 [va,vb] w λr w'=>O1 [] w w'/\Qv 3 w.heap.size w' r (mrg (λp q=>p && !q) a b):=by
 refine Zq func221 ?_;refine Qc<|Qb<|Qm<|Qa<|ZO<|(Qa9 Qhd E G H).mono ?_;rintro I S ⟨J,O⟩;refine Qb<|Qk ⟨[I],La,J,O⟩
theorem QfO {L L':LN}{a b:LI}(E:QP L w.heap va a)(G:QP L' w.heap vb b)(H:a.length+b.length<=1099511627776):
  Q3 prog 152 [va,vb] w λr w'=>O1 [] w w'/\r=.bool (decide (mrg (λp q=>p && !q) a b=[])):=by
 refine Zq func152 ?_;refine Qc<|Qb<|Qm<|Qa<|QM<|(Qjd E G H).mono ?_;rintro O S ⟨I,J⟩;have T:=j4 (λp q=>p && !q) a b;have hi:=Qv.ints (L:=[]) J oa oe;refine QI hi U<|x (QY U U)<|Qb<|Qk ⟨[.bool (decide (((mrg (λp q=>p && !q) a b).length:Int)=0))],La,I,?_⟩;simp[tup]
theorem QiT [Fu prog g fn](Y:∀(e:Ed) (s:Int) (w:OX),0<=e.1->e.1<=1099511627776->0<=s->s<=1099511627776->Q3 prog g [.agg (QC e).toArray,oE oF s] w λr w'=>r=oE oF (e.1 - s)/\O1 [] w w')
  {L:LN}  {v:OY} {es:List Ed} (h:qB L w.heap v es) (hi:es.Pairwise (λa b=>a.1<=b.1)) (hb:∀e∈es,0<=e.1/\e.1<=1099511627776) (s:Int) (ha:0<=s) (hc:s<=1099511627776):
  Q3 prog 176 [v,oE oF s,.func (.func g) #[] #[]] w λr w'=>O1 [] w w'/\∃(i:Nat) (b:Bool),r=.tuple #[oE oF i,.bool b]/\i<=es.length /\
   (∀m (E:m<es.length),m<i->es[m].1<s)/\(∀m (E:m<es.length),i<=m->s<=es[m].1):=by
 have h3:=h.le;have he:∀{i j:Nat} (G:j<es.length) (I:i<j),es[i].1<=es[j].1:=λ{i j} G I=>MH.1 hi i j oa G I;have hf:∀m (E:m<es.length),0<=es[m].1/\es[m].1<=1099511627776:=λm E=>hb _ (Lk E);refine Zq func176 ?_;refine Qc<|x Ql<|Qb<|Qm<|QI h U<|Qb<|Qm<|x Ql<|Qb<|Qd<|Qg<|QD (α:=Nat×Nat) [(9,11),(15,34)] (λz=>[(9,oE oF z.1),(10,oE oF z.2)])
  (λz w'=>O1 [] w w'/\z.1<=z.2/\z.2<=es.length/\(∀m (E:m<es.length),m<z.1->es[m].1<s)/\(∀m (E:m<es.length),z.2<=m->s<=es[m].1)) (λz=>z.2 - z.1) ol (0,es.length) oz
  ⟨O1.Z _ _,Lo _,Lv _,λm _ J=>OS J (Na m),λm h1 J=>OS h1 (by simp only[]at J;omega)⟩ ?_
 rintro⟨i,j⟩ g1 w1 ⟨H,I,G,O,S⟩;simp only[]at I G O S;refine Qd<|Qm<|Qa<|Q0 U U<|xe<|QH rfl (λho=>?_) (λho=>?_)
 ·have e:i=j:=oa
  subst e;refine Qz<|Za (α:=Bool) [(6,7),(35,48)] (λz=>[(6,oE oF i),(7,.bool z)]) (λz w'=>O1 [] w1 w') ol ?_ ?_
  ·refine Qw<|Qa<|Qa<|Qa<|xb (YP U U) (λhp=>?_) (λhp=>?_)
   ·have hg:i<es.length:=oa
    have T:=hf i hg;refine Qa<|Qa<|Qa<|Qa<|xie (h.I H) U U hg λh4 hr=>x (Qx hr U U)<|Qa<|Qe<|xc (first:=[]) (capt:=[]) U<|(Y es[i] s _ T.1 T.2 ha hc).mono ?_;rintro r2 w2 ⟨rfl,hs⟩;refine x (QY U U)<|QG U<|x Ql<|Qb<|⟨_,oz,hs⟩
   refine Qa<|Qp<|Qp<|Qp<|Qp<|Qp<|Qp<|Qp<|Qp<|QG U<|x Ql<|Qb<|⟨false,oz,O1.Z _ _⟩
  rintro z g3 w3 ht;exact Qk ⟨[oE oF i,.bool z],oz,H.D ht,i,z,U,G,O,S⟩
 refine Qh<|Qg<|Qm<|Qa<|QS U U<|x (XM U (by exact⟨oa,oa⟩))<|x (Qdo (n:=1) U U og)<|x (XM U (by exact⟨oa,oa⟩))<|Qb ?_;have hh:(((i:Int)+(j:Int)) / 2 ^ 1)=(((i+j) / 2:Nat):Int):=oa
 rw[hh];generalize T:(i+j) / 2=q;have hu:i<=q:=oa
 have hv:q<j:=oa
 have V:q<es.length:=oa
 have hl:=hf q V;refine Qm<|Qa<|Qa<|xie (h.I H) U U V λh5 hw=>x (Qx hw U U)<|Qa<|Qe<|xc (first:=[]) (capt:=[]) U<|(Y es[q] s _ hl.1 hl.2 ha hc).mono ?_;rintro r4 w4 ⟨rfl,hn⟩;refine Q0 rfl U<|xe<|QH rfl (λhy=>?_) (λhy=>?_)
 ·refine Qw<|Qa<|Qb<|⟨(i,q),oh,oz,H.D hn,hu,oa,O,λm E hz=>?_⟩;by_cases e:q=m
  ·subst e;omega
  have:=he E (show q<m by simp only[]at hz;omega);omega
 refine Qw<|Qa<|QS U U<|Qb<|⟨(q+1,j),oh,oz,H.D hn,hv,G,λm E h2=>?_,S⟩;by_cases e:m=q
 ·subst e;omega
 have:=he V (show m<q by simp only[]at h2;omega);omega
theorem Qkf (e:Ed)(s:Int)(w:OX)(H:0<=e.1)(I:e.1<=1099511627776)(J:0<=s)(O:s<=1099511627776):
  Q3 prog 177 [.agg (QC e).toArray,oE oF s] w λr w'=>r=oE oF (e.1 - s)/\O1 [] w w':=by
 refine Zq func177 ?_;refine Qc<|Qe<|QW (us:=QC e) U λb2 S E T G=>Qb<|Qc<|Qs U G U U<|Qa<|x (Jo U U ⟨oa,oa⟩)<|Qb<|Qk ⟨[oE oF (e.1 - s)],La,U,E⟩
theorem Qke (e:Ed)(s:Int)(w:OX)(H:0<=e.1)(I:e.1<=1099511627776)(J:0<=s)(O:s<=1099511627776):
  Q3 prog 178 [.agg (QC e).toArray,oE oF s] w λr w'=>r=oE oF (e.1 - s)/\O1 [] w w':=by
 refine Zq func178 ?_;refine Qc<|Qe<|QW (us:=QC e) U λb2 S E T G=>Qb<|Qc<|Qs U G U U<|Qa<|x (Jo U U ⟨oa,oa⟩)<|Qb<|Qk ⟨[oE oF (e.1 - s)],La,U,E⟩
theorem j0 {L:LN}{st:Int}{es:List Ed}(h:qB L w.heap ve es)(hi:es.Pairwise (λa b=>a.1<=b.1))(S:∀e∈es,0<=e.1/\e.1<=1099511627776)(s:Int)(hf:0<=s)(hp:s<1099511627776):
  Q3 prog 105 [.agg #[va,oE oF st,vm,ve],oE oF s] w λr w'=>O1 [] w w'/\qB L w'.heap r (Z2 es s):=by
 refine Zq func105 ?_;refine Qc<|Qe<|QW (us:=[va,oE oF st,vm,ve]) U λb2 w1 T hq E=>Qb ?_
 replace h:=h.I T;refine Qc<|Qs U E U U<|Qa<|ZO<|(QiT Qkf h hi S s hf oa).mono ?_;rintro r2 w2 ⟨J,lo,b,rfl,hr,V,hg⟩
 replace h:=h.I J
 replace E:=E.I J;refine Qa<|QZ U U<|QZ U U<|x Ql<|Qb<|Qc<|Qs U E U U<|Qa<|QS U U<|ZO<|(QiT Qke h hi S (s+1) oa oa).mono ?_;rintro r3 w3 ⟨O,G,b',rfl,Y,hh,ha⟩
 replace h:=h.I O
 replace E:=E.I O;refine Qa<|QZ U U<|QZ U U<|x Ql<|Qb ?_;have he:lo<=G:=by
  rcases OA G lo with hj|hge
  ·have I:=V G oa hj;have h2:=ha G oa (Lv _);omega
  exact hge
 refine Qc<|Qs U E U U<|Qa<|Qa<|Qpf h U U U he Y λv' hk=>Qb<|Qk ⟨[v'],La,(T.D J).D O,?_⟩;have hc:=QcL (λe:Ed=>decide (e.1=s)) es lo G he Y (λm H hl=>by have:=V m H hl;simp;omega) (λm H I h2=>by have:=hg m H I;have:=hh m H h2;simp;omega) (λm H I=>by have:=ha m H I;simp;omega);have hn:(Z2 es s).length=G - lo:=by unfold Z2;rw[<-hc,Ly,LW];omega
 show Zm L w3.heap v' (Z2 es s).length 3 _;rw[hn];have e1:(Z2 es s).flatMap QC=((es.flatMap QC).drop (lo*3)).take ((G - lo)*3):=by
  unfold Z2;rw[<-hc];have key:∀(l:List Ed) (k:Nat),(l.flatMap QC).drop (k*3)=(l.drop k).flatMap QC:=by
   intro l;induction l with
   | nil=>intro k;simp
   | cons a l ih=>intro k;cases k with
    | zero=>simp
    | succ k=>simp only[Oa,List.drop_succ_cons,Oj,Nat.one_mul];rw[M4,<-List.drop_drop,show(QC a++l.flatMap QC).drop 3=l.flatMap QC from rfl,ih]
  have ho:∀(l:List Ed) (k:Nat),(l.flatMap QC).take (k*3)=(l.take k).flatMap QC:=by
   intro l;induction l with
   | nil=>intro k;simp
   | cons a l ih=>intro k;cases k with
    | zero=>simp
    | succ k =>
     simp only[Oa,List.take_succ_cons,Oj,Nat.one_mul];rw[List.take_append,JQ,<-ih,Lr (by simp[JQ])];simp
  rw[key,ho]
 rw[e1];exact hk
structure ZD (a:Q2):Prop where
 al:∀e∈a.al,0<=e/\e<32
 ali:Xk a.al
 st0:0<=a.st
 st1:a.st<=4096
 mr:∀s∈a.mr,0<=s/\s<a.st
 mri:Xk a.mr
 ed:∀e∈a.ed,0<=e.1/\e.1<a.st/\e.2.1∈a.al/\0<=e.2.2/\e.2.2<a.st
 edi:a.ed.Pairwise λx y=>x.1<y.1\/(x.1=y.1/\x.2.1<y.2.1)
theorem XB (n:Int):∀(l:LI) (pr:Option Int),J9 n pr l=0↔(∀x∈l,0<=x/\x<n)/\Xk l/\∀y,pr=some y->∀x∈l,y<x
 | [],pr=>by simp[J9]
 | a::l,pr=>by
  have ih:=XB n l (some a);rw[J9];by_cases O:a<0\/n<=a
  ·rw[OQ O];simp only[Ok];constructor
   ·intro h;cases h
   rintro⟨⟨h,_⟩,_⟩;omega
  rw[OP O];by_cases E:leO pr a=true
  ·rw[OQ E];constructor
   ·intro h;cases h
   rintro⟨_,_,h⟩;cases pr with
   | none=>simp[leO]at E
   | some y=>simp[leO]at E;have:=h y U a Lq;omega
  rw[OP E,ih];simp only[Ok,List.pairwise_cons];constructor
  ·rintro⟨H,I,G⟩;refine⟨⟨oa,H⟩,⟨λb S=>G a U b S,I⟩,?_⟩;rintro y rfl;simp[leO]at E;exact⟨E,λz J=>ot (G a U z J)⟩
  rintro⟨⟨_,H⟩,⟨I,G⟩,_⟩;exact⟨H,G,λy T z J=>by cases T;exact I z J⟩
theorem QbI (al:LI)(st:Int):∀(l:List Ed) (pr:Option Ed),ckE al st pr l=0↔(∀e∈l,0<=e.1/\e.1<st/\e.2.1∈al/\0<=e.2.2/\e.2.2<st)/\(l.Pairwise λx y=>x.1<y.1\/(x.1=y.1/\x.2.1<y.2.1)) /\
  ∀y,pr=some y->∀e∈l,y.1<e.1\/(y.1=e.1/\y.2.1<e.2.1)
 | [],pr=>by simp[ckE]
 | a::l,pr=>by
  have ih:=QbI al st l (some a);rw[ckE];by_cases S:a.1<0\/st<=a.1\/a.2.2<0\/st<=a.2.2
  ·rw[OQ S];simp only[Ok];constructor
   ·intro h;cases h
   rintro⟨⟨h,_⟩,_⟩;omega
  rw[OP S];by_cases G:a.2.1∉al
  ·rw[OQ G];constructor
   ·intro h;cases h
   rintro⟨h,_⟩;exact OS (h a Lq).2.2.1 G
  rw[OP G];by_cases E:edO pr a=true
  ·rw[OQ E];constructor
   ·intro h;cases h
   rintro⟨_,_,h⟩;cases pr with
   | none=>simp[edO]at E
   | some y=>simp[edO]at E;have:=h y U a Lq;omega
  rw[OP E,ih];simp only[Ok,List.pairwise_cons];have T:a.2.1∈al:=Ln.1 G;constructor
  ·rintro⟨I,J,H⟩;refine⟨⟨⟨oa,oa,T,oa,oa⟩,I⟩,⟨λb V=>H a U b V,J⟩,?_⟩;rintro y rfl;simp[edO]at E;have Y:y.1<a.1\/y.1=a.1/\y.2.1<a.2.1:=oa
   exact⟨Y,λz O=>ot (H a U z O)⟩
  rintro⟨⟨_,I⟩,⟨J,H⟩,_⟩;exact⟨I,H,λy hy z O=>by cases hy;exact J z O⟩
theorem Z0 (a:Q2):X9 a=0↔ZD a:=by
 unfold X9;by_cases E:J9 32 none a.al≠0
 ·rw[OQ E];exact⟨λh=>OS h E,λh=>OS ((XB 32 a.al none).2 ⟨h.al,h.ali,λ_ h=>by cases h⟩) E⟩
 rw[OP E];have H:=(XB 32 a.al none).1 (Ln.1 E);by_cases I:a.st<0
 ·rw[OQ I];exact⟨λh=>(by cases h),λh=>(ot h.st0)⟩
 rw[OP I];by_cases J:4096<a.st
 ·rw[OQ J];exact⟨λh=>(by cases h),λh=>(ot h.st1)⟩
 rw[OP J];by_cases G:J9 a.st none a.mr≠0
 ·rw[OQ G];exact⟨λh=>OS h G,λh=>OS ((XB a.st a.mr none).2 ⟨h.mr,h.mri,λ_ h=>by cases h⟩) G⟩
 rw[OP G,QbI];have O:=(XB a.st a.mr none).1 (Ln.1 G);exact⟨λh=>⟨H.1,H.2.1,oa,oa,O.1,O.2.1,h.1,h.2.1⟩,λh=>⟨h.ed,h.edi,λ_ h=>by cases h⟩⟩
theorem XQ:∀(l:LI) (a n:Int),Xk l->(∀x∈l,a<=x/\x<n)->(l.length:Int)<=max 0 (n - a)
 | [],a,n,_,_=>by simp;omega
 | x::l,a,n,E,G=>by
  simp only[List.pairwise_cons,Ok]at E G;have:=XQ l (x+1) n E.2 (λy H=>⟨ot (E.1 y H),(G.2 y H).2⟩);simp only[oU];omega
theorem ZD.al_le {a:Q2}(h:ZD a):a.al.length<=32:=by have:=XQ a.al 0 32 h.ali h.al;omega
theorem ZD.mr_le {a:Q2}(h:ZD a):a.mr.length<=4096:=by have:=XQ a.mr 0 a.st h.mri h.mr;have:=h.st1;omega
theorem ZD.eds {a:Q2}(h:ZD a):a.ed.Pairwise λx y=>x.1<=y.1:=h.edi.imp λh=>oa
structure Cs where
 ord:LI
 num:LI
 mk':LI
 ed:List Ed
def Z9 (l:LI)(k:Int):Int:=l.getD k.toNat 0
def Zu (i:Nat)(c:Cs)(e:Ed):Cs :=
 if Z9 c.num e.2.2<0 then⟨c.ord++[e.2.2],c.num.set e.2.2.toNat c.ord.length,c.mk',c.ed++[((i:Int),e.2.1,(c.ord.length:Int))]⟩
 else⟨c.ord,c.num,c.mk',c.ed++[((i:Int),e.2.1,Z9 c.num e.2.2)]⟩
def Yh (a:Q2)(i:Nat)(c:Cs):Cs:=if Z9 c.ord i∈a.mr then⟨c.ord,c.num,c.mk'++[(i:Int)],c.ed⟩else c
def qm (a:Q2)(i:Nat)(c:Cs):Cs:=(Z2 a.ed (Z9 c.ord i)).foldl (Zu i) (Yh a i c)
def XR (a:Q2):Nat->Nat->Cs->Cs
 | 0,_,c=>c
 | f+1,i,c=>if i<c.ord.length then XR a f (i+1) (qm a i c)else c
def YK (a:Q2):Cs:=⟨[0],(oM a.st.toNat (-1)).set 0 0,[],[]⟩
def Yc (a:Q2):Q2:=if a.st=0 then⟨a.al,0,[],[]⟩else
 let c:=XR a a.st.toNat 0 (YK a);⟨a.al,c.ord.length,c.mk',c.ed⟩
def neg (l:LI):Nat:=(l.filter (·<0)).length
theorem V9:∀(l:LI) (k:Nat) (v:Int) (h:k<l.length),l[k]<0->0<=v->neg (l.set k v)+1=neg l
 | a::l,0,v,_,E,G=>by
  have H:a<0:=E;simp[neg,H,show ¬v<0 by omega]
 | a::l,k+1,v,h,E,G=>by
  have ih:=V9 l k v (oy h) E G;unfold neg at *;simp only[List.set_cons_succ,List.filter_cons];split
  ·simp only[oU];omega
  exact ih
structure VS (st:Int)(c:Cs):Prop where
 nl:c.num.length=st.toNat
 sum:c.ord.length+neg c.num=st.toNat
 ord:∀s∈c.ord,0<=s/\s<st
 num:∀v∈c.num,v<c.ord.length
 el:c.ed.length<=1000000000
theorem VS.le {st:Int}{c:Cs}(h:VS st c):c.ord.length<=st.toNat:=by have:=h.sum;omega
theorem Uf {l:LI}{k:Int}(h:k.toNat<l.length):Z9 l k=l[k.toNat]:=by unfold Z9;simp[oP,h]
theorem QaL {st:Int}{c:Cs}{e:Ed}(h:VS st c)(J:0<=e.2.2)(O:e.2.2<st)(hl:c.ed.length+1<=1000000000):VS st (Zu i c e):=by
 have H:e.2.2.toNat<c.num.length:=by rw[h.nl];omega
 unfold Zu;split
 ·rename_i I;rw[Uf H]at I;refine⟨by simp[h.nl],?_,?_,?_,oy hl⟩
  ·have:=V9 c.num e.2.2.toNat c.ord.length H I oa;have:=h.sum;simp only[oL,oN];omega
  ·intro s E;simp only[oS,oH]at E;rcases E with E|rfl
   ·exact h.ord s E
   exact⟨J,O⟩
  intro v G;simp only[oL,oN];rcases MI G with G|rfl
  ·have:=h.num v G;omega
  omega
 exact⟨h.nl,h.sum,h.ord,h.num,oy hl⟩
theorem QaN (i:Nat)(c:Cs)(e:Ed):(Zu i c e).ed.length=c.ed.length+1:=by unfold Zu;split <;> simp
theorem Qhf {a:Q2}{st:Int}{c:Cs}(h:VS st c):VS st (Yh a i c):=by
 unfold Yh;split
 ·exact⟨h.nl,h.sum,h.ord,h.num,h.el⟩
 exact h
theorem ZU {es:List Ed}{e:Ed}(h:e∈Z2 es s):e∈es/\e.1=s:=by unfold Z2 at h;simpa using h
theorem Qel {a:Q2}(O:0<a.st):VS a.st (YK a):=by
 have H:0<a.st.toNat:=oa
 refine⟨by simp[YK],?_,?_,?_,by simp[YK]⟩
 ·have I:0<(oM a.st.toNat (-1:Int)).length:=by simpa using H
  have S:=V9 (oM a.st.toNat (-1)) 0 0 I oe (Ny _);have T:neg (oM a.st.toNat (-1))=a.st.toNat:=by
   unfold neg;rw[List.filter_eq_self.2 (by intro b J;have:=Ns J;subst this;rfl)];simp
  simp only[YK,oN];omega
 ·intro s G;simp[YK]at G;subst G;omega
 intro v E;simp only[YK,oN]at *;rcases MI E with E|rfl
 ·have:=Ns E;omega
 omega
theorem jx {a:Q2}{f:Nat}{c:Cs}(h:¬i<c.ord.length):XR a f i c=c:=by
 cases f with
 | zero=>rfl
 | succ f=>rw[XR,OP h]
theorem ZD.ed_le {a:Q2}(h:ZD a):a.ed.length<=131072:=by
 have H:Xk (a.ed.map λe=>e.1*32+e.2.1):=by
  refine MF.2 (List.Pairwise.imp_of_mem ?_ h.edi);intro x y hx I S;have E:=h.al _ (h.ed x hx).2.2.1;have G:=h.al _ (h.ed y I).2.2.1;omega
 have E:=XQ _ 0 131072 H (by
  intro v J;obtain⟨e,O,rfl⟩:=LC.1 J;have G:=h.ed e O;have T:=h.al _ G.2.2.1;have:=h.st1;omega)
 simp only[Ol]at E;omega
theorem KO (es:List Ed)(s:Int):(Z2 es s).length<=es.length:=MD _ _
structure Kt (b3 b22:Nat)(r3:OY)(wS:OX)(c:Cs)(vo vk ve:OY)(w:OX):Prop where
 st:O1 [b3,b22] wS w
 B3:Q9 w.heap b3 59 [r3,oE oF 0,vk,ve]
 B22:Q9 w.heap b22 3 (c.num.map (Value.int .i64))
 o:Qv 3 wS.heap.size w vo c.ord
 k:Qv 3 wS.heap.size w vk c.mk'
 e:YT 167 wS.heap.size w ve c.ed
 d1:Dj vo vk
 d2:Dj vo ve
 d3:Dj vk ve
theorem Kt.I {b3 b22:Nat}{r3:OY}{wS:OX}{c:Cs}{vo vk ve:OY}{w w':OX}(h:Kt b3 b22 r3 wS c vo vk ve w)(E:O1 [] w w'):Kt b3 b22 r3 wS c vo vk ve w' :=
 ⟨h.st.D E,h.B3.I E,h.B22.I E,Qq h.o E,Qq h.k E,Qq h.e E,h.d1,h.d2,h.d3⟩
section
variable {b3 b22:Nat}{r3:OY}{wS:OX}{c:Cs}{vo:OY}{w'':OX}
theorem Kt.setK (h:Kt b3 b22 r3 wS c vo vk ve w)(V:b3<wS.heap.size)(S:b22<wS.heap.size)(ne:b3≠b22){H:OY}{m:LI}(I:O1 (ob vk) w w')(J:Qv 3 wS.heap.size w' H m)
  (O:∀b∈ob H,b∈ob vk\/w.heap.size<=b) (G:O1 [b3] w' w'') (T:Q9 w''.heap b3 59 [r3,oE oF 0,H,ve]):Kt b3 b22 r3 wS ⟨c.ord,c.num,m,c.ed⟩ vo H ve w'':=by
 have hge:=Qi h.k;refine⟨(h.st.then I (λb E=>.inr (hge b E).1)).then G (λb E=>.inl (by simp at E;simp[E])),T,(h.B22.J I (Zh h.k S)).J G (by simp;omega),
  Qf (Qf h.o I h.d1) G (λb E=>by have:=(Qi h.o b E).1;simp;omega),Qf J G (λb E=>by have:=(Qi J b E).1;simp;omega),
  Qf (Qf h.e I h.d3.symm) G (λb E=>by have:=(Qi h.e b E).1;simp;omega),h.d1.grow O (Zf h.o),h.d2,(h.d3.symm.grow O (Zf h.e)).symm⟩
theorem Kt.setE (h:Kt b3 b22 r3 wS c vo vk ve w)(V:b3<wS.heap.size)(S:b22<wS.heap.size)(ne:b3≠b22){H:OY}{m:List Ed}(I:O1 (ob ve) w w')(J:YT 167 wS.heap.size w' H m)
  (O:∀b∈ob H,b∈ob ve\/w.heap.size<=b) (G:O1 [b3] w' w'') (T:Q9 w''.heap b3 59 [r3,oE oF 0,vk,H]):Kt b3 b22 r3 wS ⟨c.ord,c.num,c.mk',m⟩ vo vk H w'':=by
 have hge:=Qi h.e;refine⟨(h.st.then I (λb E=>.inr (hge b E).1)).then G (λb E=>.inl (by simp at E;simp[E])),T,(h.B22.J I (Zh h.e S)).J G (by simp;omega),
  Qf (Qf h.o I h.d2) G (λb E=>by have:=(Qi h.o b E).1;simp;omega),Qf (Qf h.k I h.d3) G (λb E=>by have:=(Qi h.k b E).1;simp;omega),
  Qf J G (λb E=>by have:=(Qi J b E).1;simp;omega),h.d1,h.d2.grow O (Zf h.o),h.d3.grow O (Zf h.k)⟩
theorem Kt.setN (h:Kt b3 b22 r3 wS c vo vk ve w)(I:b22<wS.heap.size)(ne:b3≠b22){m:LI}(G:O1 [b22] w w')(H:Q9 w'.heap b22 3 (m.map (Value.int .i64))):Kt b3 b22 r3 wS ⟨c.ord,m,c.mk',c.ed⟩ vo vk ve w' :=
 ⟨h.st.then G (λb E=>.inl (by simp at E;simp[E])),h.B3.J G (by simp;omega),H,Qf h.o G (λb E=>by have:=(Qi h.o b E).1;simp;omega),
  Qf h.k G (λb E=>by have:=(Qi h.k b E).1;simp;omega),Qf h.e G (λb E=>by have:=(Qi h.e b E).1;simp;omega),h.d1,h.d2,h.d3⟩
theorem Kt.setO (h:Kt b3 b22 r3 wS c vo vk ve w)(I:b3<wS.heap.size)(J:b22<wS.heap.size){G:OY}{m:LI}(E:O1 (ob vo) w w')(O:Qv 3 wS.heap.size w' G m)
  (H:∀b∈ob G,b∈ob vo\/w.heap.size<=b):Kt b3 b22 r3 wS ⟨m,c.num,c.mk',c.ed⟩ G vk ve w' :=
 ⟨h.st.then E (λb S=>.inr (Qi h.o b S).1),h.B3.J E (Zh h.o I),h.B22.J E (Zh h.o J),O,Qf h.k E h.d1.symm,Qf h.e E h.d2.symm,
  (h.d1.symm.grow H (Zf h.k)).symm,(h.d2.symm.grow H (Zf h.e)).symm,h.d3⟩
end
def Yq (c:Cs)(e:Ed):Cs:=if Z9 c.num e.2.2<0 then⟨c.ord++[e.2.2],c.num.set e.2.2.toNat c.ord.length,c.mk',c.ed⟩else c
theorem Qkl (c:Cs)(e:Ed):(Yq c e).num.length=c.num.length:=by unfold Yq;split <;> simp
theorem qX {c:Cs}{e:Ed}(h:e.2.2.toNat<c.num.length):Zu i c e=⟨(Yq c e).ord,(Yq c e).num,(Yq c e).mk',(Yq c e).ed++[((i:Int),e.2.1,Z9 (Yq c e).num e.2.2)]⟩:=by
 unfold Zu Yq;split
 ·simp[Z9,oP,h]
 rfl
theorem Jf {L:LN}{a:Q2}(h:ZH L w.heap va vm ve a)(Y:ZD a):
  Q3 prog 52 [.agg #[va,oE oF a.st,vm,ve]] w λr w'=>O1 [] w w'/\Kg w.heap.size w'.heap r (Yc a):=by
 have hst0:=Y.st0;have hst1:=Y.st1;refine Zq func52 ?_;refine Qc<|Qe<|QW (us:=[va,oE oF a.st,vm,ve]) U λb1 w1 gn hb1 hp=>Qe<|Qo (us:=[nS,oE oF 0,nS,nS]) U λb2 w2 hh hb2 hr=>xe ?_;have hl1:=hp.lt;have hl2:=hr.lt;refine Qc<|Qs U (hp.I hh) U U<|QM<|(Z5 ((h.al.I gn).I hh)).mono ?_;rintro r3 w3 ⟨ha,O⟩;have hz3:=ha.size;refine x (Qy ⟨(Qv.ints (L:=[]) O h.al.le oe).cells,Z⟩)<|Qe<|Qo (us:=[nS,oE oF 0,nS,nS]) rfl λb3 w4 kq kr ht =>
  Qe<|Qj (us:=[r3,oE oF 0,nS,nS]) ht U U U U ⟨(Qv.ints (L:=[]) O h.al.le oe).one,rfl,rfl,rfl,Z⟩ λw5 kt ht=>xe ?_
 have J:O1 [] w3 w5:=kq.O kt kr;have hl3:=ht.lt;have go:O1 [] w w5:=((gn.D hh).D ha).D J;refine Qd<|Qc<|Q7 U<|x (Qr (((hp.I hh).I ha).I J) U U)<|x (QY U U)<|xe<|QX rfl (λhL=>?_) (λhL=>?_)
 ·refine Qc<|Q6 ht U U<|Qe<|Qj (us:=[r3,oE oF 0,nS,nS]) ((hr.I ha).I J) U U U U ⟨(Qv.ints (L:=[]) O h.al.le oe).one,rfl,rfl,rfl,Z⟩ λw6 gp hr=>xe ?_;refine Qk ⟨[.agg #[r3,oE oF 0,nS,nS]],⟨⟨_,U,Qn U (hr.at (L:=[]) oe).cells⟩,Z⟩,go.O gp oa,?_⟩;have ku:=Qf (Qq O J) gp (λb E=>by have:=(Qi O b E).1;simp;omega);unfold Yc;rw[OQ hL];exact⟨r3,_,_,U,λL' hv=>⟨Qv.ints ku h.al.le (λb E=>ot (hv b E)),Zm.nil _ _ _,Zm.nil _ _ _⟩⟩
 have kv:0<a.st:=oa
 obtain⟨n,hn⟩:∃n:Nat,a.st=n:=⟨a.st.toNat,oa⟩;have kw:a.st.toNat=n:=oa
 refine Qh<|Qc<|Q7 U<|x (Qr (((hp.I hh).I ha).I J) U U)<|Qe<|UJ (n:=n) (OR (Value.int .i64) hn) (OR (Value.int .i64) hn) oa λb22 w7 hw hb22 hM=>Qb ?_;have hl22:=hM.lt;have kx:=go.D hw;rw[show(oM n (oE oF 0).cells.toList).flatten=((oM n 0).map (Value.int .i64)) by rw[show(oE oF 0).cells.toList=[oE oF 0] from rfl,QaW,List.map_replicate]]at hM;have kz:O1 [] w3 w7:=J.D hw;refine Qd<|Qm<|x (yU U)<|Qa<|xe<|Qg<|QD (α:=Nat) [(5,5),(25,31)] (λk=>[(25,oE oF k)]) (λk w'=>O1 [b22] w7 w'/\k<=n/\Q9 w'.heap b22 3 ((oM k (-1)++oM (n - k) 0).map (Value.int .i64))) (λk=>n - k) ol 0 La
  ⟨O1.Z _ _,Lo _,oy hM⟩ ?_
 rintro k g w8 ⟨hN,hk,hO⟩;refine Qc<|Q0 U U<|xe<|Qd<|QH U (λk0=>?_) (λk0=>?_)
 rotate_left
 ·have T:k<n:=oa
  refine Qh<|Qd<|Qg<|Qm<|Qb<|Qw<|Qa<|Qa<|x (Zv U U T)<|Qe<|J4 hO U U (by simp;omega) λw9 h7 gq=>xe ?_;refine Qw<|QS U U<|Qa<|xe<|⟨k+1,oa,La,hN.Q h7,oa,?_⟩;have e:(oM k (-1:Int)++oM (n - k) 0).set k (-1)=oM (k+1) (-1)++oM (n - (k+1)) 0:=by
   rw[List.set_append_right _ _ oe];obtain⟨m,hm⟩:∃m,n - k=m+1:=⟨n - k - 1,oa⟩;rw[hm,show n - (k+1)=m by omega,List.replicate_succ,List.replicate_succ' (n:=k)];simp
  rw[e]at gq;exact gq
 have k4:n=k:=oa
 subst k4;simp only[Nat.sub_self,List.replicate_zero,Oq]at hO;refine Qz<|Qm<|x (Zv (i:=0) U U oa)<|Qe<|J4 (i:=0) hO U U (by simp;omega) λwS h7 k5=>xe ?_;have hzS:w8.heap.size<=wS.heap.size:=h7.size;have hz8:=hN.size;have hy:O1 [b22] w7 wS:=hN.Q h7;have hP:O1 [] w wS:=kx.O hy oa;have hA:ZH [b3,b22] wS.heap va vm ve a:=(h.up (λb E=>.inr (by simp at E;omega))).I hP;have gr:Q9 wS.heap b1 59 [va,oE oF a.st,vm,ve]:=((((hp.I hh).I ha).I J).I hw).J hy (by simp;omega);have k6:Q9 wS.heap b2 59 [nS,oE oF 0,nS,nS]:=(((hr.I ha).I J).I hw).J hy (by simp;omega);have k7:Q9 wS.heap b3 59 [r3,oE oF 0,nS,nS]:=(ht.I hw).J hy (by simp;omega);have k8:Qv 3 w2.heap.size wS r3 a.al:=Qf (Qq O kz) hy (λb E=>by have:=Zf O b E;simp;omega);have k9:∀b∈ob r3,b<w3.heap.size:=Zf O;have hz:b3<wS.heap.size:=oa
 have h0:b22<wS.heap.size:=oa
 have hQ:b3≠b22:=oa
 refine Qc<|Qe<|QB (us:=[[oE oF 0]]) U U og oe ⟨rfl,rfl,Z⟩ λgs ma hR hb34 mf=>Qb ?_;have mg:Qv 3 wS.heap.size ma (.slice (some ⟨gs,0,none⟩) 1 1) [0]:=mf.own (n:=1) (sz:=1) U oa oa;refine Qd<|Qc<|Qb ?_;have hedle:=Y.ed_le;have mh:∀e∈a.ed,0<=e.1/\e.1<=1099511627776:=λe he=>ot (Y.ed e he)
 refine Qg<|QD (α:=Nat×Cs×OY×OY×OY) [(6,9),(11,11),(35,100)] (λz=>[(6,z.2.2.1),(7,oE oF z.1)])
  (λz w'=>Kt b3 b22 r3 wS z.2.1 z.2.2.1 z.2.2.2.1 z.2.2.2.2 w'/\z.1<=z.2.1.ord.length/\VS a.st z.2.1/\z.2.1.mk'.length<=z.1/\z.2.1.ed.length<=z.1*131072/\XR a (a.st.toNat - z.1) z.1 z.2.1=XR a a.st.toNat 0 (YK a))
  (λz=>a.st.toNat - z.1) ol (0,YK a,.slice (some ⟨gs,0,none⟩) 1 1,nS,nS) oz
  ⟨⟨hR.any,k7.I hR,by show Q9 _ _ _ (List.map _ ((oM a.st.toNat (-1)).set 0 0));rw[kw];exact k5.I hR,mg,QJ _ _ _ _,QJ _ _ _ _,Dj.nil' _,Dj.nil' _,Dj.nil' _⟩,Lo _,Qel kv,Lo _,Lo _,U⟩ ?_
 rintro⟨i,c,vo,vk,S⟩ g2 mi ⟨H,hi,G,mj,mn,hS⟩;simp only[]at H hi G mj mn hS;have hcle:=G.le;have hT:=Qv.ints (L:=[]) H.o oa oe;have mo:=hA.st H.st;have mq:=gr.J H.st (by simp;omega);refine Qd<|Qm<|Qa<|QI hT U<|Q0 U U<|xe<|QH rfl (λms=>?_) (λms=>?_)
 ·have mt:c=XR a a.st.toNat 0 (YK a):=by rw[<-hS,jx oa]
  refine Qz<|Qm<|QI hT U<|Q7 U<|Qe<|QE H.B3 U U oe rfl λmu h8 mv=>xe ?_;refine Qc ?_;have mw:=Qv.ints (L:=[]) H.k oa oe;have my:=YT.eds (L:=[]) H.e (ot G.el) oe;have mz:=Qv.ints (L:=[]) O h.al.le oe;refine Q6 mv U U<|Qe<|Qj (us:=[r3,oE oF c.ord.length,vk,S]) (((k6.J H.st (by simp;omega))).J h8 (by simp;omega)) U U U U ⟨mz.one,U,mw.one,my.one,Z⟩ λm2 h9 m3=>xe ?_;have gt:O1 [b3,b22] wS mu:=H.st.then h8 (λb E=>.inl (by simp at E;simp[E]));have m4:O1 [] w m2:=(hP.then gt (λb E=>.inr (by simp at E;omega))).O h9 oa;refine Qk ⟨[.agg #[r3,oE oF c.ord.length,vk,S]],⟨⟨_,U,Qn U (m3.at (L:=[]) oe).cells⟩,Z⟩,m4,?_⟩;unfold Yc;rw[OP hL];simp only[];rw[<-mt];have k1:=Qf (Qf H.k h8 (λb E=>by have:=(Qi H.k b E).1;simp;omega)) h9 (λb E=>by have:=(Qi H.k b E).1;simp;omega);have k2:=Qf (Qf H.e h8 (λb E=>by have:=(Qi H.e b E).1;simp;omega)) h9 (λb E=>by have:=(Qi H.e b E).1;simp;omega);have k3:=Qf (Qf k8 gt (λb E=>by have:=k9 b E;simp;omega)) h9 (λb E=>by have:=(Qi O b E).1;simp;omega);exact⟨r3,vk,S,U,λL' hv=>⟨Qv.ints k3 h.al.le (λb E=>ot (hv b E)),Qv.ints k1 (by show c.mk'.length<=_;omega) (λb E=>ot (hv b E)),YT.eds k2 (by show c.ed.length<=_;have:=G.el;omega) (λb E=>ot (hv b E))⟩⟩
 have T:i<c.ord.length:=oa
 refine Qh<|Qd<|Qg<|Za (α:=OY) [(8,9),(41,57)] (λz=>[]) (λz w'=>Kt b3 b22 r3 wS (Yh a i c) vo z S w') ol ?_ ?_
 ·refine Qd<|ZI [] (Xx 0 12 [6])<|p (QR U)<|pq (λ_ G=>Qr (mq.I G) U U)<|p QF<|p QF<|pii U hT U U T λa46 m5 =>
   pq (λ_ G=>QA (m5.I G) U)<|pk<|xg<|(ye (mo.mr.I (O1.C _ _)) Y.mri _).mono ?_
  rintro r14 w14 ⟨rfl,j14,rfl⟩;refine⟨O1.C _ _,?_⟩;refine p QF<|p (λ_=>Zn U U)<|p (λ_=>Zn U U)<|p ZM<|p ZM<|pe ?_;have hU:=H.I (O1.C [] mi);refine Qm<|xe ?_;have hB:Z9 c.ord i=c.ord[i]:=Uf (oy T);refine QH U (λhV=>?_) (λhV=>?_)
  ·refine Qh<|⟨vk,Z,?_⟩;unfold Yh;rw[hB,OP hV];exact hU
  refine Qw<|Qs U hU.B3 U U<|Qa<|Qe<|QB (us:=[[oE oF i]]) U U og oe ⟨rfl,rfl,Z⟩ λb55 w15 m6 hb55 m7=>?_;have h2:=hU.I m6;refine Qe<|Zb (news:=[oE oF i]) (L:=[]) h2.k U U U (m7.at oe) (by simp[Value.oneCell']) oa h2.st.size λv16 m8 m9 gu pa=>?_;have gv:Qv 3 wS.heap.size m8 v16 (c.mk'++[(i:Int)]):=Qv.snoc m9;refine Q7 U<|Qe<|QE (h2.B3.J gu (Zh h2.k hz)) U U oe (Qv.ints (L:=[]) gv (by simp;omega) oe).one λw17 pc pd=>xe ?_;refine⟨v16,Z,?_⟩;unfold Yh;rw[hB,OQ hV];exact h2.setK hz h0 hQ gu gv pa pc pd
 rintro hW g3 h3 hj;have pf:VS a.st (Yh a i c):=Qhf G;have hX:(Yh a i c).ord=c.ord:=by unfold Yh;split <;> rfl
 have pg:(Yh a i c).ed=c.ed:=by unfold Yh;split <;> rfl
 have ph:(Yh a i c).mk'.length<=i+1:=by
  unfold Yh;split
  ·simp only[oL,oN];omega
  omega
 have gw:QP [] h3.heap vo (Yh a i c).ord:=Qv.ints (L:=[]) hj.o (by rw[hX];omega) oe;rw[hX]at gw;have pj:O1 [] w h3:=hP.then hj.st (λb E=>.inr (by simp at E;omega));have pm:ZH (b3::b22::(ob vo++ob S)) h3.heap va vm ve a:=(h.up (λb E=>.inr (by
  simp only[oK,oS]at E;rcases E with rfl|rfl|E|E
  ·omega
  ·omega
  ·have:=(Qi hj.o b E).1;omega
  have:=(Qi hj.e b E).1;omega))).I pj
 have pn:=gr.J hj.st (by simp;omega);have hs:=G.ord c.ord[i] (Lk T);refine Qd<|ZI [] [oC 0,oC 1,oC 2,oC 3,oC 4,oC 7,oD 5,oC 6]<|pq (λ_ G=>ZT (pn.I G) U U)<|p QF<|p QF<|pii U gw U U T λa61 po =>
  pq (λ_ G=>QA (po.I G) U)<|p QF<|pk<|xg<|(j0 (pm.ed.I (O1.C _ _)) Y.eds mh c.ord[i] hs.1 oa).mono ?_
 rintro r19 ho ⟨pp,gx⟩;have gy:O1 [] h3 ho:=(O1.C [] h3).D pp;refine⟨gy,?_⟩;refine p (λ_=>Yv gx U)<|pe ?_;have pu:=hj.I gy;have hB:Z9 c.ord i=c.ord[i]:=Uf (oy T);have hol:=KO a.ed c.ord[i];have pw:qm a i c=(Z2 a.ed c.ord[i]).foldl (Zu i) (Yh a i c):=by unfold qm;rw[hB]
 generalize pz:Z2 a.ed c.ord[i]=os at *;have p0:∀e∈os,0<=e.2.2/\e.2.2<a.st:=λe he=>by rw[<-pz]at he;have:=Y.ed e (ZU he).1;omega
 refine Qg<|QD (α:=Nat×Cs×OY×OY) [(6,6),(11,11),(65,100)] (λz=>[(6,z.2.2.1),(65,oE oF z.1)])
  (λz w'=>Kt b3 b22 r3 wS z.2.1 z.2.2.1 hW z.2.2.2 w'/\O1 (b3::b22::(ob vo++ob S)) ho w'/\(∀b∈ob z.2.2.1,b∈ob vo\/ho.heap.size<=b)/\(∀b∈ob z.2.2.2,b∈ob S\/ho.heap.size<=b)/\z.1<=os.length/\VS a.st z.2.1/\z.2.1.mk'=(Yh a i c).mk'/\z.2.1.ed.length=c.ed.length+z.1/\c.ord.length<=z.2.1.ord.length/\(os.drop z.1).foldl (Zu i) z.2.1=qm a i c)
  (λz=>os.length - z.1) ol (0,Yh a i c,vo,S) oz
  ⟨pu,O1.Z _ _,λ_ E=>.inl E,λ_ E=>.inl E,Lo _,pf,U,by simp[pg],by simp[hX],by rw[pw];rfl⟩ ?_
 rintro⟨k,d,gz,hC⟩ g4 p1 ⟨hf,hD,hE,hY,p2,V,hZ,ga,p3,h4⟩;simp only[]at hf hD hE hY p2 V hZ ga p3 h4;refine Qc<|Q0 U U<|xe<|Qd<|QH U (λp4=>?_) (λp4=>?_)
 ·rw[Lp oa,Nv]at h4;subst h4;refine Qz<|Qw<|Qa<|QS U U<|Qb ?_;have p5:=V.le;refine⟨(i+1,qm a i c,gz,hW,hC),oh,oz,hf,oh,V,by simp only[];rw[hZ];exact ph,oh,?_⟩;simp only[];rw[<-hS];obtain⟨m,hm⟩:∃m,a.st.toNat - i=m+1:=⟨a.st.toNat - i - 1,oa⟩;rw[hm,XR,OQ T,show a.st.toNat - (i+1)=m by omega]
 have gb:k<os.length:=oa
 have p6:=Zd gb;rw[p6,L3]at h4;have g0:=p0 os[k] (Lk gb);have p7:=gx.st hD;have p5:=V.le;have hzS4:=hD.size;have hI4z:=hf.st.size;have p8:=Qv.ints (L:=[]) hf.o oa oe;obtain⟨q,hq⟩:∃q:Nat,os[k].2.2=q:=⟨os[k].2.2.toNat,oa⟩;have gc:os[k].2.2.toNat=q:=oa
 have gg:q<n:=oa
 have gh:q<d.num.length:=by rw[V.nl];omega
 have g6:Z9 d.num os[k].2.2=d.num[q]:=by rw[Uf oa];simp only[gc]
 have p9:=Zf hf.e;have qc:=Zf hf.o;refine Qh<|Qd<|Qg<|Qc<|xie p7 U U gb λa67 qo=>x (Qx qo U U)<|Qe<|Qo (us:=[oE oF 0,oE oF 0,oE oF 0]) U λg7 w21 qr q0 hg=>Qe<|Qj (us:=QC os[k]) hg U U U U oA λq1 q2 hg=>xe ?_;have g8:O1 [] p1 q1:=qr.O q2 q0;have hF:=hf.I g8;have hl11:=hg.lt;have J:=hD.D g8;refine Za (α:=OY) [(6,6),(69,85)] (λz=>[(6,z)]) (λz w'=>Kt b3 b22 r3 wS (Yq d os[k]) z hW hC w'/\O1 (b3::b22::(ob vo++ob S)) ho w'/\(∀b∈ob z,b∈ob vo\/ho.heap.size<=b)/\Q9 w'.heap g7 167 (QC os[k])) ol ?_ ?_
 ·refine Qm<|Qs U hg U U<|x (Zv U (OR (Value.int .i64) hq) gg)<|x (qF hF.B22 U gh)<|Q0 U U<|xe<|QH U (λgi=>?_) (λgi=>?_)
  ·refine Qh<|⟨gz,La,?_,J,hE,hg⟩;unfold Yq;rw[g6,OP gi];exact hF
  refine Qm<|Qs U hg U U<|Qa<|QI p8 U<|x (Zv U (OR (Value.int .i64) hq) gg)<|Qe<|J4 hF.B22 U U gh λw23 hG q3=>xe ?_;have q4:=hF.setN h0 hQ hG q3;have g9:=hg.J hG (by simp;omega);refine Qw<|Qa<|Qs U g9 U U<|Qe<|QB (us:=[[oE oF os[k].2.2]]) U U og oe ⟨rfl,rfl,Z⟩ λb84 w24 hH hb84 q6=>?_;have gj:=q4.I hH;refine Qe<|Zb (news:=[oE oF os[k].2.2]) (L:=[]) gj.o U U U (q6.at oe) (by simp[Value.oneCell']) (by show d.ord.length+1<=_;omega) gj.st.size λka za zb gk kb=>Qb ?_;have zv:Qv 3 wS.heap.size za ka (d.ord++[os[k].2.2]):=Qv.snoc zb;have hz23:=hG.size;have hz24:=hH.size;refine⟨ka,La,?_,?_,?_,(g9.I hH).J gk (λE=>ot (qc _ E))⟩
  ·unfold Yq;rw[g6,OQ gi,gc];exact gj.setO hz h0 gk zv kb
  ·refine((J.then hG (λb E=>.inl ?_)).D hH).then gk (λb E=>?_)
   ·simp at E;simp[E]
   rcases hE b E with I|I
   ·exact .inl (by simp[I])
   exact .inr I
  intro b E;rcases kb b E with I|I
  ·exact hE b I
  exact .inr oa
 rintro z0 g5 kc ⟨h5,ke,z1,kf⟩;have gl:Zu i d os[k]=⟨(Yq d os[k]).ord,(Yq d os[k]).num,(Yq d os[k]).mk',(Yq d os[k]).ed++[((i:Int),os[k].2.1,Z9 (Yq d os[k]).num os[k].2.2)]⟩:=qX oa;have z2:q<(Yq d os[k]).num.length:=by rw[Qkl];exact gh
 have z3:Z9 (Yq d os[k]).num os[k].2.2=(Yq d os[k]).num[q]:=by rw[Uf oa];simp only[gc]
 have kg:=Zh h5.e hz;have z4:=Zh h5.e h0;have kh:g7∉ob hC:=λE=>ot (p9 _ E)
 have ki:(Yq d os[k]).ed=d.ed:=by unfold Yq;split <;> rfl
 have z5:VS a.st (Zu i d os[k]):=QaL V g0.1 g0.2 (by rw[ga];omega);refine ZI (ob hC) (Xx 0 15 [11,12,14])<|p (QR U)<|pq (λ_ G=>Qr (h5.B3.J G kg) U U)<|p QF<|p (QR U)<|pq (λ_ G=>Qr (kf.J G kh) U U) <|
  p QF<|p (QR U)<|pq (λ_ G=>Qr (kf.J G kh) U U)<|p (λ_=>Zv U (OR (Value.int .i64) hq) gg) <|
  pq (λ_ G=>qF (h5.B22.J G z4) U z2)<|p (λ_=>Qy ⟨U,U,U,Z⟩)<|pk<|QB (us:=[QC ((i:Int),os[k].2.1,(Yq d os[k]).num[q])]) U U og (by exact(by decide:1*3<=1000000)) oz λb97 w27 hs27 hb97 hB97=>?_
 have h6:O1 [] kc w27:=(O1.C [] kc).D hs27;refine⟨h6.any,?_⟩;have hJ:=h5.I h6;refine pk<|Zb (news:=QC ((i:Int),os[k].2.1,(Yq d os[k]).num[q])) (L:=[]) hJ.e U U U (hB97.at oe) (λu hu=>by simp only[QC,oK,oI,or_false]at hu;rcases hu with rfl|rfl|rfl <;> rfl) (by rw[ki];have:=V.el;omega) hJ.st.size λkj w28 ho28 hK kk=>?_
 refine⟨h6.any.Q hK,?_⟩;have kn:YT 167 wS.heap.size w28 kj ((Yq d os[k]).ed++[((i:Int),os[k].2.1,(Yq d os[k]).num[q])]):=YT.snoc ho28;refine p (QR U)<|pkl (hl:=by kernel_rfl)<|QE (hJ.B3.J hK kg) U U oe (YT.eds (L:=[]) kn (by simp[ki];have:=V.el;omega) oe).one λw29 ko hB29=>pe ?_;have gm:=hJ.setE hz h0 hQ hK kn kk ko hB29;rw[<-z3]at gm;rw[<-gl]at gm;refine Qw<|QS U U<|Qa<|xe ?_;have hz26:=ke.size;have hz27:=h6.size;refine⟨(k+1,Zu i d os[k],z0,kj),oh,oz,gm,?_,z1,?_,oh,z5,?_,?_,?_,h4⟩
 ·refine(((ke.D h6)).then hK (λb E=>?_)).then ko (λb E=>.inl (by simp at E;simp[E]));rcases hY b E with I|I
  ·exact .inl (by simp[I])
  exact .inr I
 ·intro b E;rcases kk b E with I|I
  ·exact hY b I
  exact .inr oa
 ·simp only[];rw[<-hZ,gl];simp only[];unfold Yq;split <;> rfl
 ·simp only[];rw[QaN,ga];omega
 simp only[];rw[gl];simp only[];unfold Yq;split
 ·simp only[oL];omega
 omega
end Go.Lg
namespace Go.Proofs
open Go.Proofs.Tryz
open Go.Shelf
def Tryz.lays169_ren:Go.Shelf.Ren:=⟨λ|169=>189|n=>n,λ|70=>337|9=>9|0=>0|72=>339|37=>188|127=>401|3=>3|5=>5|n=>n,λ|n=>n⟩
theorem Tryz.lays169:Go.Proofs.Lays.n169 prog Tryz.lays169_ren:={
 mixed:=od
 f169:=func189.D (OR some od)
 t0:=underlying0
 a0:=isAgg0
 z0:=sizeOf0
 v0:=zeroValue0
 t3:=underlying3
 a3:=isAgg3
 z3:=sizeOf3
 v3:=zeroValue3
 t9:=underlying9
 a9:=isAgg9
 z9:=sizeOf9
 v9:=zeroValue9
 t37:=underlying188
 a37:=isAgg188
 z37:=sizeOf188
 v37:=zeroValue188
 t70:=underlying337
 a70:=isAgg337
 z70:=sizeOf337
 v70:=zeroValue337
 t72:=underlying339
 a72:=isAgg339
 z72:=sizeOf339
 v72:=zeroValue339
 t127:=underlying401
 a127:=isAgg401
 z127:=sizeOf401
 v127:=zeroValue401 }
theorem Tryz.Builder_Extra_169:Builder.Extra prog Tryz.lays169_ren:={
 sizeBuilder:=od
 liesBuilder:=od
 t5:=underlying5
 a5:=isAgg5
 z5:=sizeOf5
 v5:=zeroValue5
 infoByte:=od
 cellsByte:=od
 sizeByte:=od
 neB5:=by decide }
open Go.RowKit in
open Go.RowKit in
open Go.RowKit in
theorem Tryz.Builder_String_any (B b:Nat)(l:List UInt8)(w:OX)(h:Lib.IsBuilder 339 5 B b (Lib.byteCells l) w)(E:B<=w.heap.size):
  Calls prog 189 #[.pointer (some ⟨b,0,none⟩)] w λe w'=>e=.returned (.string ⟨l.toArray⟩)/\Below B w w':=Any.Builder_String_any Tryz.lays169 Tryz.Builder_Extra_169 B b l w h E
def Tryz.laysM171_ren:Go.Shelf.Ren:=⟨λ|171=>188|243=>253|246=>294|283=>328|284=>329|285=>330|286=>331|129=>215|317=>344|318=>345|319=>346|320=>347|337=>350|338=>351|n=>n,λ|3=>3|9=>9|2=>2|4=>4|171=>464|0=>0|53=>369|37=>188|5=>5|173=>466|212=>479|51=>367|20=>20|213=>480|46=>285|232=>483|233=>484|n=>n,λ|17=>0|18=>1|19=>2|n=>n⟩
theorem Tryz.laysM171:Go.Proofs.LaysM.n171 prog Tryz.laysM171_ren:={
 mixed:=od
 f129:=func215.D (OR some od)
 f171:=func188.D (OR some od)
 f243:=func253.D (OR some od)
 f246:=func294.D (OR some od)
 f283:=func328.D (OR some od)
 f284:=func329.D (OR some od)
 f285:=func330.D (OR some od)
 f286:=func331.D (OR some od)
 f317:=func344.D (OR some od)
 f318:=func345.D (OR some od)
 f319:=func346.D (OR some od)
 f320:=func347.D (OR some od)
 f337:=func350.D (OR some od)
 f338:=func351.D (OR some od)
 t0:=underlying0
 a0:=isAgg0
 z0:=sizeOf0
 v0:=zeroValue0
 t2:=underlying2
 a2:=isAgg2
 z2:=sizeOf2
 v2:=zeroValue2
 t3:=underlying3
 a3:=isAgg3
 z3:=sizeOf3
 v3:=zeroValue3
 t4:=underlying4
 a4:=isAgg4
 z4:=sizeOf4
 v4:=zeroValue4
 t5:=underlying5
 a5:=isAgg5
 z5:=sizeOf5
 v5:=zeroValue5
 t9:=underlying9
 a9:=isAgg9
 z9:=sizeOf9
 v9:=zeroValue9
 t20:=underlying20
 a20:=isAgg20
 z20:=sizeOf20
 v20:=zeroValue20
 t37:=underlying188
 a37:=isAgg188
 z37:=sizeOf188
 v37:=zeroValue188
 t46:=underlying285
 a46:=isAgg285
 z46:=sizeOf285
 v46:=zeroValue285
 t51:=underlying367
 a51:=isAgg367
 z51:=sizeOf367
 v51:=zeroValue367
 t53:=underlying369
 a53:=isAgg369
 z53:=sizeOf369
 v53:=zeroValue369
 t171:=underlying464
 a171:=isAgg464
 z171:=sizeOf464
 v171:=zeroValue464
 t173:=underlying466
 a173:=isAgg466
 z173:=sizeOf466
 v173:=zeroValue466
 t212:=underlying479
 a212:=isAgg479
 z212:=sizeOf479
 v212:=zeroValue479
 t213:=underlying480
 a213:=isAgg480
 z213:=sizeOf480
 t232:=underlying483
 a232:=isAgg483
 z232:=sizeOf483
 v232:=zeroValue483
 t233:=underlying484
 a233:=isAgg484
 z233:=sizeOf484
 v233:=zeroValue484
 g17:=od
 g18:=od
 g19:=od
 i0:=od
 i2:=od
 i3:=od
 i4:=od
 i5:=od
 i9:=od
 i20:=od
 i37:=od
 i46:=od
 i51:=od
 i53:=od
 i171:=od
 i173:=od
 i212:=od
 i232:=od
 i233:=od
 m17:=od
 m18:=od
 m19:=by kernel_rfl }
open Go.RowKit Go.Sort Go.Lib in
theorem Tryz.strconv_Itoa (n:Int)(E:-9223372036854775808<=n)(G:n<=9223372036854775807)(w:OX)(H:Lib.TabIs prog w "internal/strconv.uint64pow10" .u64 Lib.pow10Tab):
  Calls prog 188 #[oE oF n] w λe w'=>e=.returned (.string ⟨(Lib.itoa n).toArray⟩)/\∃k os,w'=grow (w.drewN k) os:=Any.strconv_Itoa Tryz.laysM171 n E G w H
def Tryz.lays171_ren:Go.Shelf.Ren:=⟨λ|171=>188|243=>253|246=>294|283=>328|284=>329|285=>330|286=>331|129=>215|317=>344|318=>345|319=>346|320=>347|337=>350|338=>351|n=>n,λ|3=>3|9=>9|2=>2|4=>4|171=>464|0=>0|53=>369|37=>188|5=>5|173=>466|212=>479|51=>367|20=>20|213=>480|46=>285|232=>483|233=>484|n=>n,λ|17=>0|18=>1|19=>2|n=>n⟩
theorem Tryz.lays171:Go.Proofs.Lays.n171 prog Tryz.lays171_ren:={
 mixed:=od
 f129:=func215.D (OR some od)
 f171:=func188.D (OR some od)
 f243:=func253.D (OR some od)
 f246:=func294.D (OR some od)
 f283:=func328.D (OR some od)
 f284:=func329.D (OR some od)
 f285:=func330.D (OR some od)
 f286:=func331.D (OR some od)
 f317:=func344.D (OR some od)
 f318:=func345.D (OR some od)
 f319:=func346.D (OR some od)
 f320:=func347.D (OR some od)
 f337:=func350.D (OR some od)
 f338:=func351.D (OR some od)
 t0:=underlying0
 a0:=isAgg0
 z0:=sizeOf0
 v0:=zeroValue0
 t2:=underlying2
 a2:=isAgg2
 z2:=sizeOf2
 v2:=zeroValue2
 t3:=underlying3
 a3:=isAgg3
 z3:=sizeOf3
 v3:=zeroValue3
 t4:=underlying4
 a4:=isAgg4
 z4:=sizeOf4
 v4:=zeroValue4
 t5:=underlying5
 a5:=isAgg5
 z5:=sizeOf5
 v5:=zeroValue5
 t9:=underlying9
 a9:=isAgg9
 z9:=sizeOf9
 v9:=zeroValue9
 t20:=underlying20
 a20:=isAgg20
 z20:=sizeOf20
 v20:=zeroValue20
 t37:=underlying188
 a37:=isAgg188
 z37:=sizeOf188
 v37:=zeroValue188
 t46:=underlying285
 a46:=isAgg285
 z46:=sizeOf285
 v46:=zeroValue285
 t51:=underlying367
 a51:=isAgg367
 z51:=sizeOf367
 v51:=zeroValue367
 t53:=underlying369
 a53:=isAgg369
 z53:=sizeOf369
 v53:=zeroValue369
 t171:=underlying464
 a171:=isAgg464
 z171:=sizeOf464
 v171:=zeroValue464
 t173:=underlying466
 a173:=isAgg466
 z173:=sizeOf466
 v173:=zeroValue466
 t212:=underlying479
 a212:=isAgg479
 z212:=sizeOf479
 v212:=zeroValue479
 t213:=underlying480
 a213:=isAgg480
 z213:=sizeOf480
 t232:=underlying483
 a232:=isAgg483
 z232:=sizeOf483
 v232:=zeroValue483
 t233:=underlying484
 a233:=isAgg484
 z233:=sizeOf484
 v233:=zeroValue484
 g17:=od
 g18:=od
 g19:=by kernel_rfl }
open Go.RowKit Go.Sort Go.Lib in
theorem Tryz.strconv_Itoa_small (i:Nat)(hi:i<100)(w:OX):
  Calls prog 188 #[oE oF i] w λe w'=>e=.returned (.string ⟨(Lib.decDigits i).toArray⟩)/\w'=w:=Any.strconv_Itoa_small Tryz.lays171 i hi w
end Go.Proofs
namespace Go.Lg
open Go.RowKit
section
variable {K:Fr->OX->Prop}{f:Fr}{pS:String}
theorem Yp {te:Nat}(G:P.underlying t=some (.pointer te)){x:OZ}{a:Option Addr}(hx:ev f x=.pointer a)(H:ev f y=.pointer none):
  (execOp (ev f) ⟨d,.binOp .eql t x y E,ty,pS,af,gd⟩).run P w=.ok (.value (.bool a.isNone)) w:=by
 have I:(eqGuard .eql t x y (.pointer a) (.pointer none)).run P w=.ok () w:=by simp[eqGuard]
 have key:∀m,(Op.equalIn (m+1) t (.pointer a) (.pointer none)).run P w=.ok a.isNone w:=by
  intro m;unfold Op.equalIn;cases a <;> simp[run_underlying G]
 have J:(Op.equal t (.pointer a) (.pointer none)).run P w=.ok a.isNone w:=key 9999;simp only[execOp,hx,H,Sem.run_bind,I,Result.andThen_ok,binOp,J,Sem.run_pure]
theorem QeR {te:Nat}{j:TypeInfo}(G:P.underlying t=some (.pointer te))(H:P.info? te=some j){x:OZ}{a:Addr}(hx:ev f x=.pointer (some a))(I:ev f y=.pointer (some a)):
  (execOp (ev f) ⟨d,.binOp .neq t x y E,ty,pS,af,gd⟩).run P w=.ok (.value (.bool false)) w:=by
 have J:(eqGuard .neq t x y (.pointer (some a)) (.pointer (some a))).run P w=.ok () w:=by simp[eqGuard]
 simp only[execOp,hx,I,Sem.run_bind,J,Result.andThen_ok,Lib.run_neq_ptr_same w a G H,Sem.run_pure]
theorem jX {x:OZ}{v:OY}(hx:ev f x=v)(h:(convert t E v).run P w=.ok v' w):
  (execOp (ev f) ⟨d,.convert t E x,ty,pS,af,gd⟩).run P w=.ok (.value v') w:=by
 simp[execOp,hx,h]
theorem QgT {e:Array OY->Sem OY}{x:OZ}{v:OY}{ts:Array Nat}(G:P.funcs[g]?=some fn)(H:(fn.name == "runtime.NumGoroutine")=false)
  (I:fn.body.isNone=true) (J:Extern.findNext fn=none) (O:Extern.find fn=some e) (h:(e #[ev f x]).run P w=.ok v w):
  (execOp (ev f) ⟨d,.call ⟨.value (.func g),#[x],ts⟩,ty,pS,af,gd⟩).run P w=.ok (.value v) w:=by
 have E:=run_callFunc_extern G H I J O #[ev f x] w;rw[h]at E;have S:ev f (.func g)=.func (.func g) #[] #[]:=rfl;simp[execOp,resolve,S,Deferred.ofValue,invoke,E,Result.andThen]
theorem QmB {e u:Nat}[h:Sl P t e 1 1 (.int .u8 0)](E:P.underlying u=some .string){s:OZ}{base:Nat}{v:OY}{cs:LV}(G:w.ownsRow base e 1 v n cs)(H:ev f s=v)
  {b:ByteArray} (I:ev f y=.string b) (hb:n+b.size<=1099511627776) (J:base<=w.heap.size)
  (hK:∀v' w',w'.ownsRow base e 1 v' (n+b.size) (cs++Lib.strCells b)->O1 (ob v) w w'->K (QT f d v') w'):
  XO P ⟨d,.call ⟨.builtin .append,#[s,y],#[t,u]⟩,ty,pS,af,gd⟩ f w K:=by
 obtain⟨i,hi,O,S,T⟩:=Sl.info h;obtain⟨v',w',V,Y,h3,_⟩:=Lib.run_append_own_string (P:=P) w base t u ty e i h.u E hi O S T v n cs G b (by simp only[maxLen];omega) oa J;have ha:(execOp (ev f) ⟨d,.call ⟨.builtin .append,#[s,y],#[t,u]⟩,ty,pS,af,gd⟩).run P w=.ok (.value v') w':=by
  simp[execOp,resolve,invoke,builtin,H,I,V]
 exact xv ha (hK v' w' Y (by rw[zo];exact O1.of_grown h3))
theorem QgQ {x:OZ}{u:Nat}(E:P.underlying u=some .string){b:ByteArray}(hx:ev f x=.string b):
  (execOp (ev f) ⟨d,.call ⟨.builtin .len,#[x],#[u]⟩,ty,pS,af,gd⟩).run P w=.ok (.value (oE oF b.size)) w:=by
 simp[execOp,resolve,invoke,builtin,Builtin.len_,hx,run_underlying E,goInt]
end
def Bl (p:OY)(b:Nat)(E:List UInt8)(w:OX):Prop:=∃v,Q9 w.heap b 339 [p,v]/\w.ownsRow (b+1) 5 1 v E.length (Lib.byteCells E)
def me (b:Nat):OY:=.pointer (some ⟨b,0,none⟩)
theorem QkP (h:(P.info? t).map (·.size)=some n):∃j,P.info? t=some j/\j.size=n:=by
 simpa using h
theorem jz {cs:LV}(h:Q9 w.heap b T cs):w.shape? b=some (T,cs.length):=by
 unfold Q9 at h;simp[World.shape?,h]
theorem Un {G:OX}{J:List UInt8}{p:OY}(O:O1 [] G w)(T:G.heap.size<=b)(V:p=.pointer none\/p=me b)(h:Bl p b J w):
  Q3 prog 252 [me b] w λr w'=>r=.tuple #[]/\O1 [] G w'/\Bl (me b) b J w':=by
 obtain⟨v,E,H⟩:=h;obtain⟨j,I,Y⟩:=QkP (P:=prog) (t:=339) (n:=2) od;refine Zq func252 ?_;refine Qc ?_;rcases V with rfl|rfl
 ·refine Qa<|Yl U<|Qs U E U U<|x (Yp underlying337 U U)<|xe<|yi U ?_;refine Qw<|Qa<|Qa<|x (jX (v':=me b) U (Lib.run_to_unsafe w ⟨b,0,none⟩ underlying337 underlying441 I (by rw[Y];decide) (jz E) oe)) <|
   x (QgT (v:=me b) func293 od od od (e:=Extern.AbiNoEscape.same) od U) <|
   x (jX (v':=me b) U (Lib.run_from_unsafe w ⟨b,0,none⟩ underlying441 underlying337 I (jz E) od))<|x (VB U) <|
   Q7 rfl<|Qe<|QE E U U oe rfl λw2 S ha=>xe ?_
  exact⟨[],Z,U,O.O S T,v,ha,Qf H S (λc hc=>by have:=(Qi H c hc).1;simp;omega)⟩
 refine Qa<|Yl U<|Qs U E U U<|x (Yp underlying337 U U)<|xe<|ZS U<|Qm<|Yl U<|Qs U E U U<|Qa<|x (QeR underlying337 I U U)<|xe<|ZS U<|Qh ?_;exact⟨[],Z,U,O,v,E,H⟩
theorem jJ {I:OX}{E:List UInt8}{p:OY}(h0:O1 [] I w)(T:I.heap.size<=b)(hp:p=.pointer none\/p=me b)(h:Bl p b E w)(c:UInt8)(hl:E.length+1<=1000000000):
  Q3 prog 250 [me b,.int .u8 c.toNat] w λ_ w'=>O1 [] I w'/\Bl (me b) b (E++[c]) w':=by
 refine Zq func250 ?_;refine Qc<|Qb<|Qm<|QM<|(Un h0 T hp h).mono ?_;rintro r1 w1 ⟨rfl,ha,v,J,O⟩;refine xe ?_;have hj:=J.lt;refine Qm<|Qa<|Yl U<|Qs U J U U<|Qa<|Qe<|QB (us:=[[.int .u8 c.toNat]]) U U og oe ⟨rfl,rfl,Z⟩ λb13 w2 H hk he=>?_;have hm:=H.size;have hf:=Qq O H;refine Qe<|Zb (news:=[.int .u8 c.toNat]) (L:=[]) hf U U U (he.at oe) (by simp[Value.oneCell']) oa oa λv3 w3 hg V hn=>?_;have hh:=(J.I H).J V (λG=>ot (Qi O b G).1);have S:w3.ownsRow (b+1) 5 1 v3 (E++[c]).length (Lib.byteCells (E++[c])):=by simpa[Lib.byteCells]using hg
 refine Yl rfl<|Q7 U<|Qe<|QE hh U U oe (QK (L:=[]) S (by simp;omega) oe).one λw4 Y hi=>xe ?_;refine Qc<|Qb<|Qk ⟨[.nilIface],La,(((ha.D H).then V (λc G=>.inr ?_)).O Y T),v3,hi,Qf S Y (λc G=>by have:=(Qi S c G).1;simp;omega)⟩;have:=(Qi O c G).1;omega
theorem KI {H:OX}{E:List UInt8}{p:OY}(h0:O1 [] H w)(S:H.heap.size<=b)(hp:p=.pointer none\/p=me b)(h:Bl p b E w)(s:ByteArray)(hl:E.length+s.size<=1000000000):
  Q3 prog 187 [me b,.string s] w λ_ w'=>O1 [] H w'/\Bl (me b) b (E++s.data.toList) w':=by
 refine Zq func187 ?_;refine Qc<|x Ql<|Qb<|Qm<|QM<|(Un h0 S hp h).mono ?_;rintro r1 w1 ⟨rfl,ha,v,I,J⟩;refine xe ?_;have hh:=I.lt;refine Qm<|Qa<|Yl U<|Qs U I U U<|Qa<|Qe<|QmB underlying9 J U U oa oa λv3 w3 he T=>?_;have hf:=I.J T (λG=>ot (Qi J b G).1);have V:s.size=s.data.toList.length:=rfl;have O:w3.ownsRow (b+1) 5 1 v3 (E++s.data.toList).length (Lib.byteCells (E++s.data.toList)):=by
  rw[Ll,<-V,show Lib.byteCells (E++s.data.toList)=Lib.byteCells E++Lib.strCells s by simp[Lib.byteCells,Lib.strCells_eq]];exact he
 refine Yl rfl<|Q7 U<|Qe<|QE hf U U oe (QK (L:=[]) O (by rw[Ll,<-V];omega) oe).one λw4 Y hg=>xe ?_;refine Qm<|x (QgQ underlying9 U)<|x Ql<|Qb<|Qk ⟨[oE oF s.size,.nilIface],oz,((ha.then T (λc G=>.inr ?_)).O Y S),v3,hg,Qf O Y (λc G=>by have:=(Qi O c G).1;simp;omega)⟩;have:=(Qi J c G).1;omega
theorem yK {I:OX}{H:List UInt8}{p:OY}(E:O1 [] I w)(hb:I.heap.size<=b)(T:p=.pointer none\/p=me b)(h:Bl p b H w):
  Q3 prog 189 [me b] w λr w'=>r=.string ⟨H.toArray⟩/\O1 [] I w':=by
 obtain⟨v,J,O⟩:=h;have ha:=J.lt;have S:Lib.BuilderAt 339 5 b b p (Lib.byteCells H) w:=⟨Lv _,v,J,by rw[Lib.byteCells_length];exact Zy O oa,λe=>by
  have:b∈ob v:=by rw[zo,e];simp
  have:=(Qi O b this).1;omega⟩
 unfold Q3;refine Calls.mono (Tryz.Builder_String_any b b H w (by rcases T with rfl|rfl;exact .inl S;exact .inr S) oa) ?_
 rintro e w' ⟨rfl,G⟩;exact⟨U,⟨G.os.D E.os,G.tape.D E.tape,G.output.D E.output,LH E.size G.size,λk V Y=>(G.block k oa).D (E.block k V Y)⟩⟩
def Tb (w:OX):Prop:=Lib.TabIs prog w "internal/strconv.uint64pow10" .u64 Lib.pow10Tab
theorem Qgd {name:String}{v:Array OY}(h:w.var? P name=some v)(H:O1 [] w w'):w'.var? P name=some v:=by
 unfold World.var? at *;rw[M9]at *;obtain⟨g,I,E⟩:=h;refine⟨g,I,?_⟩;cases G:w.heap[g]? with
 | none=>rw[G]at E;cases E
 | some o =>
  have J:g<w.heap.size:=(LO.1 G).1;rw[H.block g J oe];exact E
theorem Tb.I (h:Tb w)(E:O1 [] w w'):Tb w':=Qgd h E
def Kb (w:OX)(m:Int):Prop:=m<=100\/(m<=1000000/\Tb w)
theorem Kb.I {w w':OX}{m:Int}(h:Kb w m)(E:O1 [] w w'):Kb w' m:=h.imp id λh=>⟨h.1,h.2.I E⟩
theorem Kb.le {m:Int}(h:Kb w m):m<=1000000:=by rcases h with h|h <;> omega
theorem Qb8 {k:Nat}{os:xu}:O1 [] w (Sort.grow (w.drewN k) os):=by
 refine⟨U,U,U,?_,λi hi _=>?_⟩
 ·show w.heap.size<=(w.heap++os).size;simp
 show(w.heap++os)[i]?=w.heap[i]?;rw[Array.getElem?_append_left hi]
theorem QdM {m:Int}(i:Nat)(hi:(i:Int)<m)(w:OX)(E:Kb w m):Q3 prog 188 [oE oF i] w λr w'=>r=.string ⟨(Lib.decDigits i).toArray⟩/\O1 [] w w':=by
 unfold Q3;rcases E with E|E
 ·refine Calls.mono (Tryz.strconv_Itoa_small i oa w) ?_;rintro e w' ⟨rfl,rfl⟩;exact⟨U,O1.Z _ _⟩
 refine Calls.mono (Tryz.strconv_Itoa i oa oa w E.2) ?_;rintro e w' ⟨rfl,k,os,rfl⟩;refine⟨?_,Qb8⟩;unfold Lib.itoa;rw[OP oa,MJ]
def JD (l:LI):List UInt8:=l.flatMap λn=>Lib.decDigits n.toNat++[32]
theorem UV:∀(k u:Nat),u<10 ^ k->(Lib.decDigits u).length<=max 1 k
 | 0,u,h=>by
  unfold Lib.decDigits;rw[dif_pos (by simp at h;omega)];simp
 | k+1,u,h=>by
  unfold Lib.decDigits;split
  ·simp
  rename_i E;have ih:=UV k (u / 10) (by rw[Nat.pow_succ]at h;omega);rw[Ll];simp only[oN];have G:k≠0:=λe=>by subst e;simp at h;omega
  omega
theorem Bl.I {w w':OX}{p:OY}{b:Nat}{E:List UInt8}(h:Bl p b E w)(G:O1 [] w w'):Bl p b E w':=by
 obtain⟨v,H,I⟩:=h;exact⟨v,H.I G,Qq I G⟩
theorem j9 {L:LN}{v:OY}{l:LI}{m:Int}(h:QP L w.heap v l)(S:Kb w m)(Y:∀n∈l,0<=n/\n<m)(hl:l.length<=1000000):
  Q3 prog 182 [v] w λr w'=>r=.string ⟨(JD l).toArray⟩/\O1 [] w w':=by
 refine Zq func182 ?_;refine Qc<|Qb<|Qc<|Qe<|Qo (us:=[.pointer none,nS]) U λH w1 ha I hc=>xe ?_;refine Qd<|Qm<|QI h U<|Qa<|xe<|Qg<|QD (α:=Nat×OY) [(5,5),(8,16)] (λz=>[(8,oE oF z.1)]) (λz w'=>z.1<=l.length/\O1 [] w w'/\(z.2=.pointer none\/z.2=me H)/\Bl z.2 H (JD (l.take z.1)) w'/\(JD (l.take z.1)).length<=8*z.1) (λz=>l.length - z.1) ol (0,.pointer none) La
  ⟨Lo _,ha,.inl U,⟨_,hc,QJ _ _ _ _⟩,Lv _⟩ ?_
 rintro⟨k,p⟩ g w2 ⟨hk,E,J,G,he⟩;simp only[]at hk J G he;refine Qc<|Q0 U U<|xe<|Qd<|QH U (λh9=>?_) (λh9=>?_)
 ·refine Qz<|Qc ?_;rw[Lr oa]at G;refine ZO<|(yK E I J G).mono ?_;rintro r3 w3 ⟨rfl,hf⟩;refine Qb<|Qk ⟨[.string ⟨(JD l).toArray⟩],La,U,hf⟩
 have O:k<l.length:=oa
 have ho:=Y l[k] (Lk O);obtain⟨q,hq⟩:∃q:Nat,l[k]=q:=⟨l[k].toNat,oa⟩;have hg:l[k].toNat=q:=oa
 have hr:=UV 7 q (ot S.le);have T:JD (l.take (k+1))=JD (l.take k)++Lib.decDigits q++[32]:=by
  rw[Lm O];unfold JD;rw[LB,List.flatMap_singleton,hg,LA]
 refine Qh<|Qd<|Qg<|Qc<|xii (h.I E) U U O λhs hh=>x (QA hh U)<|Qb<|Qm<|Qe<|xf ?_;refine(show Q3 _ _ [oE oF l[k]] _ _ by rw[hq];exact(QdM q oa w2 (S.I E))).mono ?_;rintro r4 w4 ⟨rfl,V⟩;refine ZO<|(KI (E.D V) I J (G.I V) ⟨(Lib.decDigits q).toArray⟩ (by show _+(Lib.decDigits q).toArray.size<=_;simp;omega)).mono ?_;rintro r5 w5 ⟨hi,hj⟩;refine xe<|Qw<|ZO<|(jJ hi I (.inr U) hj 32 (by simp;omega)).mono ?_;rintro r6 w6 ⟨hm,hn⟩;refine xe<|Qw<|QS U U<|Qa<|xe<|⟨(k+1,me H),oh,La,oh,hm,.inr U,?_,?_⟩
 ·simp only[];rw[T];simpa using hn
 simp only[];rw[T];simp;omega
section
variable {K:Fr->OX->Prop}{f:Fr}{pS:String}{l:xx}{C:xt}{i0:Nat}
theorem O4 {g:α->LV}{x:OZ}{e bys:Nat}[Sl P t e sz bys z](G:∀x,(g x).length=sz){L:LN}{es:List α}{v:OY}{k:IntKind}
  (h:Zm L w.heap v es.length sz (es.flatMap g)) (H:ev f x=v) (I:ev f y=.int k i) (hi:i<es.length)
  (hK:∀a,At L w.heap a (g es[i])->XL P ops K l (QT f d (.pointer (some a))) w) (J:Ya ops f ⟨d,.indexAddr t x y,ty,pS,af,gd⟩=true:=by rfl):
  XL P ops K (⟨d,.indexAddr t x y,ty,pS,af,gd⟩::l) f w:=by
 obtain⟨a,cap,O,E⟩:=Zm.at h hi;rw[XX g sz G es i hi]at E;refine xl J (xv (Xd (H.D O) I oa oa) (hK _ ?_));simpa using E
theorem pig {g:α->LV}{x:OZ}{e bys:Nat}[Sl P t e sz bys z](E:QV ops i0=⟨d,.indexAddr t x y,ty,pS,af,gd⟩)(I:∀x,(g x).length=sz){L:LN}{es:List α}{v:OY}{k:IntKind}
  (h:Zm L H v es.length sz (es.flatMap g)) (J:ev f x=v) (O:ev f y=.int k i) (hi:i<es.length)
  (hK:∀a,At L H a (g es[i])->XP P ops C K pl (QT f d (.pointer (some a))) w) (S:Ya ops f (QV ops i0)=true:=by rfl):
  XP P ops C K ((i0,true)::pl) f w:=by
 obtain⟨a,cap,T,G⟩:=Zm.at h hi;rw[XX g sz I es i hi]at G;refine Lg.p (λw'=>by rw[E];exact Xd (J.D T) O oa oa) ?_ S;rw[E];refine hK _ ?_;simpa using G
end
theorem Zm.grow {X X' Y:LN}{v:OY}{cs:LV}(h:Zm X w.heap v n sz cs)(H:O1 Y w w')(I:∀b∈Y,b∈X)(J:∀b∈X',b∈X\/w.heap.size<=b):Zm X' w'.heap v n sz cs:=by
 have E:Zm (X++X') w.heap v n sz cs:=h.up (λb G=>by
  rcases Lc.1 G with E|E
  ·exact .inl E
  exact J b E)
 have O:=E.J H (λb G=>Lc.2 (.inl (I b G)));exact O.up (λb G=>.inl (Lc.2 (.inr G)))
structure AV where
 va:OY
 vm:OY
 ve:OY
 a:Q2
abbrev ZV (p:AV):LV:=[p.va,oE oF p.a.st,p.vm,p.ve]
structure Kf (L:LN)(H:xu)(v:OY)(ps:List AV):Prop where
 arr:Zm L H v ps.length 4 (ps.flatMap ZV)
 each:∀p∈ps,ZH L H p.va p.vm p.ve p.a
theorem Kf.I {L:LN}{w w':OX}{v:OY}{ps:List AV}(h:Kf L w.heap v ps)(E:O1 [] w w'):Kf L w'.heap v ps:=⟨h.arr.I E,λp G=>(h.each p G).I E⟩
theorem Kf.st {L:LN}{w w':OX}{v:OY}{ps:List AV}(h:Kf L w.heap v ps)(E:O1 L w w'):Kf L w'.heap v ps:=⟨h.arr.st E,λp G=>(h.each p G).st E⟩
theorem Kf.up {L L':LN}{H:xu}{v:OY}{ps:List AV}(h:Kf L H v ps)(E:∀b∈L',b∈L\/H.size<=b):Kf L' H v ps:=⟨h.arr.up E,λp G=>(h.each p G).up E⟩
abbrev TV:=OY×LI
abbrev YE (p:TV):LV:=[p.1]
structure JH (L:LN)(H:xu)(v:OY)(ps:List TV):Prop where
 arr:Zm L H v ps.length 1 (ps.flatMap YE)
 each:∀p∈ps,QP L H p.1 p.2
theorem JH.I {L:LN}{w w':OX}{v:OY}{ps:List TV}(h:JH L w.heap v ps)(E:O1 [] w w'):JH L w'.heap v ps:=⟨h.arr.I E,λp G=>(h.each p G).I E⟩
theorem JH.st {L:LN}{w w':OX}{v:OY}{ps:List TV}(h:JH L w.heap v ps)(E:O1 L w w'):JH L w'.heap v ps:=⟨h.arr.st E,λp G=>(h.each p G).st E⟩
theorem JH.up {L L':LN}{H:xu}{v:OY}{ps:List TV}(h:JH L H v ps)(E:∀b∈L',b∈L\/H.size<=b):JH L' H v ps:=⟨h.arr.up E,λp G=>(h.each p G).up E⟩
def QcZ (N:Nat)(H:xu)(v:OY)(l:List (LI)):Prop:=∃ps:List TV,ps.map (·.2)=l/\∀L:LN,(∀b∈L,b<N)->JH L H v ps
theorem QcZ.mono {v:OY}{l:List (LI)}(h:QcZ N H v l)(hM:M<=N):QcZ M H v l:=let⟨ps,E,G⟩:=h;⟨ps,E,λL I=>G L (λb J=>LT (I b J) hM)⟩
abbrev yx (e base:Nat)(w:OX)(v:OY)(ps:List TV):Prop:=w.ownsRow base e 1 v ps.length (ps.flatMap YE)
theorem yx.snoc {e base:Nat}{v:OY}{ps:List TV}{p:TV}(h:w.ownsRow base e 1 v (ps.length+1) (ps.flatMap YE++[p.1])):yx e base w v (ps++[p]):=by
 unfold yx;rw[Ll,LB];simpa using h
theorem XN {base e:Nat}{v:OY}{cs:LV}(h:w.ownsRow base e sz v n cs)(G:0<n):∃g cap,v=.slice (some ⟨g,0,none⟩) n cap:=by
 rcases h.2 with⟨_,H⟩|⟨g,cap,cur,E,_⟩
 ·omega
 exact⟨g,cap,E⟩
section
variable {K:Fr->OX->Prop}{f:Fr}{pS:String}{l:xx}
theorem Qg4 [h1:X7 P t]{x:OZ}{base e:Nat}{cs:LV}{u:OY}(h:w.ownsRow base e 1 (.slice (some ⟨g,0,none⟩) n cap) n cs)(hx:ev f x=.pointer (some ⟨g,0+i*1,none⟩))(G:ev f y=u)(hi:i<n)(H:u.oneCell'=true)
  (hK:∀w',O1 [g] w w'->w'.ownsRow base e 1 (.slice (some ⟨g,0,none⟩) n cap) n (cs.set i u)->K (QT f d undef) w'):XO P ⟨d,.store t x y,ty,pS,af,gd⟩ f w K:=by
 obtain⟨hl,h⟩:=h;rcases h with⟨I,_⟩|⟨g',cap',cur,e1,J,O,S,T,E,V⟩
 ·cases I
 cases e1
 have Y:Q9 w.heap g e cur.toList:=by unfold Q9;simpa using O
 refine QE (j:=i) Y (by rw[hx];simp) G (by simp[E];omega) H λw' hs ha=>hK w' hs ⟨oy hl,.inr ⟨g,cap,(cur.toList.set i u).toArray,rfl,J,ha,S,T,oy E,?_⟩⟩;rw[<-V];simp[List.take_set]
end
section
variable {f:Fr}{pS:String}{κ:Type}[DecidableEq κ]
theorem yT [hm:Mp P t kt et z]{enc:κ->OY}[hk:Key P kt enc]{x:OZ}{m:List (κ×OY)}{k:κ}{u:OY}(h:Yi enc w.heap b m)(hx:ev f x=.map (some b))(E:ev f y=enc k)(G:O6 m k=some u):
  (execOp (ev f) ⟨d,.lookup t x y true,ty,pS,af,gd⟩).run P w=.ok (.value (.tuple #[u,.bool true])) w:=by
 have:=KM (P:=P) (t:=t) (d:=d) (ty:=ty) (pS:=pS) (af:=af) (gd:=gd) h hx E;rw[G]at this;exact this
theorem QeS [hm:Mp P t kt et z]{enc:κ->OY}[hk:Key P kt enc]{x:OZ}{m:List (κ×OY)}{k:κ}(h:Yi enc w.heap b m)(hx:ev f x=.map (some b))(E:ev f y=enc k)(G:O6 m k=none):
  (execOp (ev f) ⟨d,.lookup t x y true,ty,pS,af,gd⟩).run P w=.ok (.value (.tuple #[z,.bool false])) w:=by
 have:=KM (P:=P) (t:=t) (d:=d) (ty:=ty) (pS:=pS) (af:=af) (gd:=gd) h hx E;rw[G]at this;exact this
end
def ckL:List Q2->Int
 | []=>0
 | a::l=>if X9 a≠0 then X9 a else ckL l
def Uz (l:List Q2):Int:=if 12<l.length then 3 else ckL l
theorem QbG:∀(l:List Q2),ckL l=0↔∀a∈l,ZD a
 | []=>by simp[ckL]
 | a::l=>by
  rw[ckL];by_cases h:X9 a=0
  ·rw[OP (oy h),QbG l];simp[(Z0 a).1 h]
  rw[OQ h];simp only[Ok];exact⟨λe=>OS e h,λe=>OS ((Z0 a).2 e.1) h⟩
def evs (l:List Q2):LI:=l.foldl (λacc a=>mrg (· || ·) acc a.al) []
def qa (m:List ((Int×Int)×OY))(es:List Ed):List ((Int×Int)×OY):=es.foldl (λm e=>O7 m (e.1,e.2.1) (oE oF e.2.2)) m
def O9:List Ed->Int->Int->Option Int
 | [],_,_=>none
 | e::l,s,v=>if e.1=s/\e.2.1=v then some e.2.2 else O9 l s v
theorem jj {l:List Ed}{v:Int}(h:∀e∈l,¬(e.1=s/\e.2.1=v)):O9 l s v=none:=by
 induction l with
 | nil=>rfl
 | cons e l ih =>
  rw[O9,OP (h e Lq)];exact ih λe E=>h e (Lj _ E)
theorem jk:∀(es:List Ed) (m:List ((Int×Int)×OY)) (s v:Int),(es.Pairwise λx y=>x.1<y.1\/(x.1=y.1/\x.2.1<y.2.1)) ->
  O6 (qa m es) (s,v)=match O9 es s v with|some t=>some (oE oF t)|none=>O6 m (s,v)
 | [],m,s,v,_=>rfl
 | e::es,m,s,v,h=>by
  simp only[List.pairwise_cons]at h;have ih:=jk es (O7 m (e.1,e.2.1) (oE oF e.2.2)) s v h.2;unfold qa at *;rw[L3,ih,O9];by_cases E:e.1=s/\e.2.1=v
  ·rw[OQ E,jj (λx hx H=>ot (h.1 x hx))];simp only[Xl];rw[OQ (by rw[E.1,E.2])]
  rw[OP E];cases O9 es s v with
  | some t=>rfl
  | none =>
   simp only[Xl];rw[OP (λG=>E (oy G))]
def YO (ev:Int):List Q2->LI->Option (LI)
 | a::bs,t::ts=>if ev∉a.al then(YO ev bs ts).map (t::·)else match O9 a.ed t ev with|none=>none|some u=>(YO ev bs ts).map (u::·)
 | _,_=>some []
def Jr:List Q2->LI->Bool
 | a::bs,t::ts=>decide (t∈a.mr) && Jr bs ts
 | _,_=>true
structure Sy where
 tup:List (LI)
 mk':LI
 ed:List Ed
def syE (aa:List Q2)(i:Nat)(t:LI)(s:Sy)(v:Int):Option Sy :=
 match YO v aa t with
 | none=>some s
 | some u=>if u∈s.tup then some ⟨s.tup,s.mk',s.ed++[((i:Int),v,(s.tup.idxOf u:Int))]⟩
  else if s.tup.length=4096 then none else some ⟨s.tup++[u],s.mk',s.ed++[((i:Int),v,(s.tup.length:Int))]⟩
def qW (aa:List Q2)(i:Nat)(t:LI):LI->Sy->Option Sy
 | [],s=>some s
 | v::vs,s=>(syE aa i t s v).bind (qW aa i t vs)
def Ye (aa:List Q2)(i:Nat)(t:LI)(s:Sy):Sy:=if Jr aa t=true then⟨s.tup,s.mk'++[(i:Int)],s.ed⟩else s
def yG (s:Sy)(i:Nat):LI:=s.tup.getD i []
def syL (aa:List Q2):Nat->Nat->Sy->Option Sy
 | 0,_,s=>some s
 | f+1,i,s=>if i<s.tup.length then(qW aa i (yG s i) (evs aa) (Ye aa i (yG s i) s)).bind (syL aa f (i+1))else some s
def yJ (aa:List Q2):Sy:=⟨[oM aa.length 0],[],[]⟩
def xd (aa:List Q2):Option (Q2×List (LI)):=
 if ∃a∈aa,a.st=0 then some (⟨evs aa,0,[],[]⟩,[])else(syL aa 4096 0 (yJ aa)).map λs=>(⟨evs aa,s.tup.length,s.mk',s.ed⟩,s.tup)
theorem Qgl {aa:List Q2}{f:Nat}{s:Sy}(h:¬i<s.tup.length):syL aa f i s=some s:=by
 cases f with
 | zero=>rfl
 | succ f=>rw[syL,OP h]
def Vt (aa:List Q2)(t:LI):Prop:=t.length=aa.length/\∀i (h:i<t.length) (E:i<aa.length),0<=t[i]/\t[i]<aa[i].st
theorem Vt.cons {a:Q2}{aa:List Q2}{u:Int}{t:LI}(E:0<=u)(G:u<a.st)(h:Vt aa t):Vt (a::aa) (u::t):=by
 refine⟨by simp[h.1],λi H I=>?_⟩;cases i with
 | zero=>exact⟨E,G⟩
 | succ i=>exact h.2 i (oy H) (oy I)
theorem Qbr {l:List Ed}{v u:Int}(h:O9 l s v=some u):(s,v,u)∈l:=by
 induction l with
 | nil=>cases h
 | cons e l ih =>
  rw[O9]at h;split at h
  ·rename_i E;obtain⟨e1,e2⟩:=E;cases h
   obtain⟨a,b,c⟩:=e;simp only[]at e1 e2;subst e1 e2;exact Lq
  exact Lj _ (ih h)
theorem JK {v:Int}:∀{aa:List Q2}{t u:LI},(∀a∈aa,ZD a)->Vt aa t->YO v aa t=some u->Vt aa u
 | [],t,u,_,h,E=>by
  cases t with
  | nil=>simp[YO]at E;subst E;exact h
  | cons x t=>have:=h.1;simp at this
 | a::aa,[],u,_,h,E=>by have:=h.1;simp at this
 | a::aa,x::t,u,H,h,E=>by
  have hx:=h.2 0 oe oe;have I:Vt aa t:=⟨by have:=h.1;simpa using this,λi O S=>h.2 (i+1) (oy O) (oy S)⟩;have J:∀a∈aa,ZD a:=λa T=>H a (Lj _ T);rw[YO]at E;split at E
  ·obtain⟨V,G,rfl⟩:=Mb.1 E;exact Vt.cons hx.1 hx.2 (JK J I G)
  split at E
  ·cases E
  rename_i q Y;obtain⟨V,G,rfl⟩:=Mb.1 E;have:=(H a Lq).ed _ (Qbr Y);exact Vt.cons this.2.2.2.1 this.2.2.2.2 (JK J I G)
structure U1 (aa:List Q2)(s:Sy):Prop where
 v:∀t∈s.tup,Vt aa t
 le:s.tup.length<=4096
theorem yH {aa:List Q2}{t:LI}{s:Sy}(h:U1 aa s):U1 aa (Ye aa i t s):=by
 unfold Ye;split
 ·exact⟨h.v,h.le⟩
 exact h
theorem Qgo {aa:List Q2}{t:LI}{s H:Sy}{v:Int}(I:∀a∈aa,ZD a)(h:U1 aa s)(G:Vt aa t)(E:syE aa i t s v=some H):U1 aa H:=by
 unfold syE at E;split at E
 ·cases E;exact h
 rename_i u J;have O:=JK I G J;split at E
 ·cases E;exact⟨h.v,h.le⟩
 split at E
 ·cases E
 cases E
 have:=h.le;refine⟨λt G=>?_,by simp;omega⟩;simp only[oS,oH]at G;rcases G with G|rfl
 ·exact h.v t G
 exact O
theorem UY (p:AV):(ZV p).length=4:=rfl
theorem VA (p:TV):(YE p).length=1:=rfl
theorem Kf.le {L:LN}{H:xu}{v:OY}{ps:List AV}(h:Kf L H v ps):ps.length<=1099511627776:=h.arr.le
theorem QiF {l:List Q2}{k:Nat}(h:k<l.length):ckL (l.drop k)=if X9 l[k]≠0 then X9 l[k]else ckL (l.drop (k+1)):=by
 rw[LD h,ckL]
theorem QeW {L:LN}{v:OY}{ps:List AV}(h:Kf L w.heap v ps):
  Q3 prog 179 [v] w λr w'=>r=oE oF (Uz (ps.map (·.a)))/\O1 [] w w':=by
 have hi:=Kf.le h;refine Zq func179 ?_;refine Qc<|Qb<|Qd<|Qm<|QI h.arr U<|x (Yg U U)<|xe<|QX rfl (λV=>?_) (λV=>?_)
 ·refine Qc<|Qb<|Qk ⟨[oE oF 3],La,?_,O1.Z _ _⟩;unfold Uz;rw[OQ (by simp;omega)];rfl
 refine Qh ?_;have Y:Uz (ps.map (·.a))=ckL (ps.map (·.a)):=by unfold Uz;rw[OP (by simp;omega)]
 rw[Y];refine Qd<|Qm<|QI h.arr U<|Qa<|xe<|Qg<|QD (α:=Nat) [(2,2),(4,5),(11,20)] (λz=>[(11,oE oF z)]) (λz w'=>z<=ps.length/\O1 [] w w'/\ckL (ps.map (·.a))=ckL ((ps.map (·.a)).drop z)) (λz=>ps.length - z) ol 0 La
  ⟨Lo _,O1.Z _ _,U⟩ ?_
 rintro k g w1 ⟨hk,E,G⟩;refine Qc<|Q0 U U<|xe<|Qd<|QH U (λha=>?_) (λha=>?_)
 ·refine Qz<|Qc<|Qb<|Qk ⟨[oE oF 0],La,?_,E⟩;rw[G,Lp (by simp;omega)];rfl
 have H:k<ps.length:=oa
 have hb:k<(ps.map (·.a)).length:=by simpa using H
 rw[QiF hb,LM]at G;refine Qh<|Qd<|Qg<|Qc<|O4 UY (h.I E).arr U U H λhj hc=>x (Qx hc U U)<|Qe<|Qo (us:=[nS,oE oF 0,nS,nS]) U λb4 w2 he hf J=>?_;have I:=h.each ps[k] (Lk H);refine Qe<|Qj (us:=ZV ps[k]) J U U U U ⟨I.al.one,U,I.mr.one,I.ed.one,Z⟩ λw3 hg J=>xe ?_;have S:O1 [] w1 w3:=he.O hg hf;refine Qc<|Q6 J U U<|QM<|(X1 ((I.I E).I S)).mono ?_;rintro r4 w4 ⟨rfl,hh⟩;refine Qb ?_;have T:=(E.D S).D hh;refine Qm<|ZB U U<|xe<|QX rfl (λO=>?_) (λO=>?_)
 ·refine Qm<|Qb<|Qk ⟨[oE oF (X9 ps[k].a)],La,?_,T⟩;rw[G,OQ O];rfl
 refine Qh<|Qw<|QS U U<|Qa<|xe<|⟨k+1,oa,La,H,T,?_⟩;rw[G,OP O]
theorem Qh5 {l:List Q2}{k:Nat}(h:k<l.length):evs (l.take (k+1))=mrg (· || ·) (evs (l.take k)) l[k].al:=by
 unfold evs;rw[Lm h,Mv];rfl
theorem Qaj (l:List Q2)(h:∀a∈l,a.al.length<=32):(evs l).length<=32*l.length:=by
 have key:∀(l:List Q2) (acc:LI),(∀a∈l,a.al.length<=32)->(l.foldl (λacc a=>mrg (· || ·) acc a.al) acc).length<=acc.length+32*l.length:=by
  intro l;induction l with
  | nil=>intro acc _;simp
  | cons a l ih =>
   intro acc h;have G:=ih (mrg (· || ·) acc a.al) (λa E=>h a (Lj _ E));have H:=j4 (· || ·) acc a.al;have I:=h a Lq;simp only[List.foldl_cons,oU];omega
 have:=key l [] h;unfold evs;simpa using this
theorem Qfk {L:LN}{v:OY}{ps:List AV}(h:Kf L w.heap v ps)(hn:ps.length<=12)(S:∀p∈ps,p.a.al.length<=32):
  Q3 prog 249 [v] w λr w'=>O1 [] w w'/\Qv 3 w.heap.size w' r (evs (ps.map (·.a))):=by
 refine Zq func249 ?_;refine Qc<|Qb<|Qc<|Qb<|Qd<|Qm<|QI h.arr U<|Qa<|xe<|Qg<|QD (α:=Nat×OY) [(3,3),(5,5),(8,16)] (λz=>[(3,z.2),(8,oE oF z.1)]) (λz w'=>z.1<=ps.length/\O1 [] w w'/\Qv 3 w.heap.size w' z.2 (evs ((ps.map (·.a)).take z.1))) (λz=>ps.length - z.1) ol (0,nS) oz
  ⟨Lo _,O1.Z _ _,QJ _ _ _ _⟩ ?_
 rintro⟨k,vo⟩ g V ⟨Y,I,G⟩;simp only[]at Y G;have hi:=Qaj ((ps.map (·.a)).take k) (λa ha=>by obtain⟨p,hp,rfl⟩:=LC.1 (LZ ha);exact S p hp);have hj:((ps.map (·.a)).take k).length<=12:=by simp;omega
 refine Qc<|Q0 U U<|xe<|Qd<|QH U (λh9=>?_) (λh9=>?_)
 ·refine Qz<|Qm<|Qb<|Qk ⟨[vo],La,I,?_⟩;rw[Lr (by simp;omega)]at G;exact G
 have E:k<ps.length:=oa
 refine Qh<|Qd<|Qg<|Qc<|O4 UY (h.I I).arr U U E λhl hb=>x (Qx hb U U)<|Qe<|Qo (us:=[nS,oE oF 0,nS,nS]) U λb5 w2 hc he J=>?_;have H:=h.each ps[k] (Lk E);have hm:=S ps[k] (Lk E);refine Qe<|Qj (us:=ZV ps[k]) J U U U U ⟨H.al.one,U,H.mr.one,H.ed.one,Z⟩ λw3 hf J=>xe ?_;have T:O1 [] V w3:=hc.O hf he;have O:=I.D T;refine Qw<|Qa<|Qs U J U U<|QM<|(QbW (Qv.ints (L:=[]) (Qq G T) oa oe) (H.al.I O) oa).mono ?_;rintro r4 w4 ⟨hg,hh⟩;refine Qb<|Qw<|QS U U<|Qa<|xe<|⟨(k+1,r4),oh,oz,E,O.D hg,?_⟩;simp only[];rw[Qh5 (oy E),LM];exact Zy hh O.size
abbrev QdA (b:Nat):LV:=[.map (some b)]
structure K4 (L:LN)(H:xu)(vl ve vs:OY)(ps:List AV)(ms:LN):Prop where
 al:Kf L H vl ps
 ev:QP L H ve (evs (ps.map (·.a)))
 ml:ms.length=ps.length
 sl:Zm L H vs ms.length 1 (ms.flatMap QdA)
 mp:∀i (h:i<ms.length) (h':i<ps.length),Yi X8 H ms[i] (qa [] ps[i].a.ed)/\ms[i]∉L
theorem K4.I {L:LN}{w w':OX}{vl ve vs:OY}{ps:List AV}{G:LN}(h:K4 L w.heap vl ve vs ps G)(E:O1 [] w w'):K4 L w'.heap vl ve vs ps G :=
 ⟨h.al.I E,h.ev.I E,h.ml,h.sl.I E,λi H I=>⟨(h.mp i H I).1.I E,(h.mp i H I).2⟩⟩
theorem K4.st {L:LN}{w w':OX}{vl ve vs:OY}{ps:List AV}{I:LN}(h:K4 L w.heap vl ve vs ps I)(E:O1 L w w'):K4 L w'.heap vl ve vs ps I :=
 ⟨h.al.st E,h.ev.st E,h.ml,h.sl.st E,λi G H=>⟨(h.mp i G H).1.J E (h.mp i G H).2,(h.mp i G H).2⟩⟩
theorem K4.up {L L':LN}{H:xu}{vl ve vs:OY}{ps:List AV}{J:LN}(h:K4 L H vl ve vs ps J)(E:∀b∈L',b∈L\/H.size<=b):K4 L' H vl ve vs ps J :=
 ⟨h.al.up E,h.ev.up E,h.ml,h.sl.up E,λi G I=>⟨(h.mp i G I).1,λS=>by rcases E _ S with O|O;exact(h.mp i G I).2 O;have:=(h.mp i G I).1.lt;omega⟩⟩
theorem QcI {m:List ((Int×Int)×OY)}{es:List Ed}{k:Nat}(h:k<es.length):qa m (es.take (k+1))=O7 (qa m (es.take k)) (es[k].1,es[k].2.1) (oE oF es[k].2.2):=by
 unfold qa;rw[Lm h,Mv];rfl
theorem Qkh {L:LN}{ps:List AV}(h:Kf L w.heap vl ps)(hn:ps.length<=12)(hD:∀p∈ps,p.a.al.length<=32)(hL:∀b∈L,b<w.heap.size):
  Q3 prog 180 [vl] w λr w'=>O1 [] w w'/\∃ve vs G,r=.agg #[vl,ve,vs]/\K4 L w'.heap vl ve vs ps G/\Qv 3 w.heap.size w' ve (evs (ps.map (·.a))):=by
 refine Zq func180 ?_;refine Qc<|Qe<|Qo (us:=[nS,nS,nS]) U λb2 w1 hu hP hv=>xe ?_;refine Qm<|Qa<|QM<|(Qfk (h.I hu) hn hD).mono ?_;rintro ve w2 ⟨Y,hc⟩;have hQ:=Qaj (ps.map (·.a)) (λa ha=>by obtain⟨p,hp,rfl⟩:=LC.1 ha;exact hD p hp);have g9:(evs (ps.map (·.a))).length<=1000:=by simp at hQ;omega
 have hw:=Qv.ints (L:=[]) hc oa oe;refine x (Qy ⟨h.arr.cells,hw.cells,Z⟩)<|Qe<|Qo (us:=[nS,nS,nS]) U λb3 w3 hR hS he =>
  Qe<|Qj (us:=[vl,ve,nS]) he U U U U ⟨h.arr.one,hw.one,U,Z⟩ λH hT he=>xe ?_
 have hU:=hu.size;have ka:=Y.size;have hf:O1 [] w2 H:=hR.O hT hS;have kb:=hv.lt;have kc:=he.lt;have hV:O1 [] w H:=(hu.D Y).D hf;have hW:=Qq hc hf;refine Qd<|Qm<|QI h.arr U<|Qa<|xe ?_;have hX:=Zf hc;refine Qg<|QD (α:=Nat×LN×OY) [(5,6),(8,8),(15,42)] (λz=>[(15,oE oF z.1)])
  (λz w'=>z.1<=ps.length/\z.2.1.length=z.1/\O1 [b3] H w'/\Q9 w'.heap b3 329 [vl,ve,z.2.2]/\w'.ownsRow H.heap.size 398 1 z.2.2 z.2.1.length (z.2.1.flatMap QdA) /\
   (∀i (h:i<z.2.1.length) (h':i<ps.length),Yi X8 w'.heap z.2.1[i] (qa [] ps[i].a.ed)/\H.heap.size<=z.2.1[i]/\z.2.1[i]∉ob z.2.2)) (λz=>ps.length - z.1) ol (0,[],nS) La
  ⟨Lo _,U,O1.Z _ _,he,QJ _ _ _ _,λi h=>by simp at h⟩ ?_
 rintro⟨k,G,vs⟩ g w5 ⟨hk,hg,I,hy,J,hh⟩;simp only[]at hk hg I hy J hh;have hl:O1 [] w w5:=hV.O I oa;have ke:=I.size;have ho:=Qi J;refine Qc<|Q0 U U<|xe<|Qd<|QH U (λhY=>?_) (λhY=>?_)
 ·have hZ:k=ps.length:=oa
  subst hZ;refine Qz<|Qc ?_;have ga:=QK (L:=[]) J oa oe;refine Q6 hy U U<|Qe<|Qj (us:=[vl,ve,vs]) (((hv.I Y).I hf).J I (by simp;omega)) U U U U ⟨h.arr.one,hw.one,ga.one,Z⟩ λw6 hr gb=>xe ?_;have hE:=hl.O hr hP;have hF:Qv 3 w1.heap.size w6 ve _:=Qf (Qf hW I (λb E=>by have:=hX b E;simp;omega)) hr (λb E=>by have:=(Qi hc b E).1;simp;omega);have hG:=Qf J hr (λb E=>by have:=(ho b E).1;simp;omega);refine Qk ⟨[.agg #[vl,ve,vs]],⟨⟨_,U,Qn U (gb.at (L:=[]) oe).cells⟩,Z⟩,hE,ve,vs,G,rfl,⟨h.I hE,Qv.ints hF oa (λb E=>ot (hL b E)),hg,QK hG oa (λb E hbL=>ou (hL b hbL) (Qi hG b E).1),λi h1 h2=>⟨?_,λhbL=>ou (hL _ hbL) (hh i h1 h2).2.1⟩⟩,Zy hF hU⟩;obtain⟨m1,m2,_⟩:=hh i h1 h2;exact m1.J hr (λE=>by
   simp only[oH]at E;have h7:=(((hv.I Y).I hf).J I (by simp;omega));rw[E]at m1;obtain⟨es,c,m4,_⟩:=m1;unfold Q9 at h7;rw[h7]at m4;cases m4)
 have hz:k<ps.length:=oa
 have O:=h.each ps[k] (Lk hz);refine Qh<|Qd<|Qg<|Qc<|O4 UY (h.I hl).arr U U hz λkf gc=>x (Qx gc U U)<|Qe<|Qo (us:=[nS,oE oF 0,nS,nS]) U λb5 w7 gg gh gi =>
  Qe<|Qj (us:=ZV ps[k]) gi U U U U ⟨O.al.one,U,O.mr.one,O.ed.one,Z⟩ λw8 gj hH=>xe ?_
 have gk:O1 [] w5 w8:=gg.O gj gh;have kg:=hH.lt;refine Qc<|Qe<|Yy X8 λbm w9 hI kh hJ=>Qb ?_;have ki:=hJ.lt;have hK:=gk.D hI;have gl:=hl.D hK;refine Qd<|Qc<|Qs U (hH.I hI) U U<|QI O.ed U<|Qa<|xe ?_;have gm:=(O.ed.up (L':=[bm]) (λb E=>.inr (by simp at E;have:=hl.size;omega))).I gl;have kj:=O.ed.le;refine Qg<|QD (α:=Nat) [(8,8),(23,35)] (λz=>[(23,oE oF z)]) (λz w'=>z<=ps[k].a.ed.length/\O1 [bm] w9 w'/\Yi X8 w'.heap bm (qa [] (ps[k].a.ed.take z))) (λz=>ps[k].a.ed.length - z) ol 0 La
  ⟨Lo _,O1.Z _ _,hJ⟩ ?_
 rintro j g2 S ⟨hj,hs,h0⟩;have kk:=hs.size;refine Qc<|Q0 U U<|xe<|Qd<|QH U (λgn=>?_) (λgn=>?_)
 ·refine Qz ?_;rw[Lr oa]at h0;have h3:O1 [] w5 S:=hK.O hs oa;have hM:Q9 S.heap b3 329 [vl,ve,vs]:=hy.I h3;refine Qw<|Qs U hM U U<|Qa<|Qe<|QB (us:=[[.map (some bm)]]) U U og oe ⟨rfl,rfl,Z⟩ λkn go ht ko gp=>?_;have h4:=h3.D ht;have gq:=Qq J h4;have kq:=h4.size;refine Qe<|Zb (news:=[.map (some bm)]) (L:=[]) gq U U U (gp.at oe) (by simp[Value.oneCell']) oa oa λh6 gr gs h8 hN=>?_;have h9:gr.ownsRow H.heap.size 398 1 h6 (G++[bm]).length ((G++[bm]).flatMap QdA):=by
   rw[Ll,LB];simpa using gs
  have gt:=(hM.I ht).J h8 (Zh J oa);refine Q7 U<|Qe<|QE gt U U oe (QK (L:=[]) h9 (by simp;omega) oe).one λgu hB gv=>xe ?_;refine Qw<|QS U U<|Qa<|xe ?_;have gw:∀b∈ob h6,H.heap.size<=b:=λb E=>(Qi h9 b E).1;have kr:S.heap.size<=go.heap.size:=ht.size;refine⟨(k+1,G++[bm],h6),oh,La,hz,by simp[hg],?_,gv,Qf h9 hB (λb E=>by have:=gw b E;simp;omega),?_⟩
  ·exact((I.D h4).then h8 (λb E=>.inr (ho b E).1)).Q hB
  intro i h1 h2;simp only[oL,oN]at h1;have keep:∀(c:Nat) (m:List ((Int×Int)×OY)),Yi X8 S.heap c m->c≠b3->c∉ob vs->Yi X8 gu.heap c m:=λc m hm gx gy =>
   ((hm.I ht).J h8 gy).J hB (oy gx)
  by_cases hi:i<G.length
  ·obtain⟨m1,m2,m3⟩:=hh i hi h2;simp only[List.getElem_append_left hi];refine⟨keep _ _ (m1.I h3) oa m3,m2,λE=>?_⟩;have kt:=m1.lt;rcases hN _ E with T|T
   ·exact m3 T
   omega
  have gz:i=G.length:=oa
  subst gz;simp only[List.getElem_append_right (Nat.le_refl _),Nat.sub_self,List.getElem_singleton];have hq:G.length=k:=hg;have e2:ps[G.length]=ps[k]:=by simp only[hq]
  rw[e2];refine⟨keep _ _ h0 oa (λE=>ot (ho _ E).2),oa,λE=>?_⟩;rcases hN _ E with T|T
  ·have:=(ho _ T).2;omega
  omega
 have hC:j<ps[k].a.ed.length:=oa
 refine Qh<|Qd<|Qg<|Qc<|xie (gm.st hs) U U hC λku g0=>x (Qx g0 U U)<|Qe<|Qo (us:=[oE oF 0,oE oF 0,oE oF 0]) U λb8 kv g3 g4 V=>Qe<|Qj (us:=QC ps[k].a.ed[j]) V U U U U oA λg5 g6 V=>xe ?_;have hO:O1 [] S g5:=g3.O g6 g4;refine Qw<|Qa<|Qs U V U U<|Qs U V U U<|x (Qy ⟨U,U,Z⟩)<|x (V5 U) <|
  X2 V rfl U<|Qe<|Xv (k:=(ps[k].a.ed[j].1,ps[k].a.ed[j].2.1)) (h0.I hO) U U λkw g7 g8=>xe ?_
 refine Qw<|QS U U<|Qa<|xe<|⟨j+1,oa,La,hC,(hs.D hO).Q g7,?_⟩;rw[QcI hC];exact g8
theorem QcD {L:LN}{ps:List AV}{ms:LN}(h:K4 L w.heap vl ve vs ps ms)(hn:ps.length<=12):
  Q3 prog 181 [.agg #[vl,ve,vs]] w λr w'=>O1 [] w w' /\
   if ∃p∈ps,p.a.st=0 then r=.tuple #[nS,.bool false]else ∃v,r=.tuple #[v,.bool true]/\Qv 3 w.heap.size w' v (oM ps.length 0):=by
 refine Zq func181 ?_;refine Qc<|Qe<|QW (us:=[vl,ve,vs]) U λb1 w1 G hj S=>x Ql<|Qb<|Qd<|Qc<|Qs U S U U<|QI h.al.arr U<|Qa<|xe<|Qg<|QD (α:=Nat) [(2,3),(5,5),(9,16)] (λz=>[(9,oE oF z)]) (λz w'=>z<=ps.length/\O1 [] w1 w'/\∀i (h:i<ps.length),i<z->ps[i].a.st≠0) (λz=>ps.length - z) ol 0 La
  ⟨Lo _,O1.Z _ _,λi _ h=>oa⟩ ?_
 rintro k g w2 ⟨hk,E,T⟩;refine Qc<|Q0 U U<|xe<|Qd<|QH U (λha=>?_) (λha=>?_)
 ·refine Qz<|Qc<|Qs U (S.I E) U U<|QI h.al.arr U<|Qe<|UJ (n:=ps.length) U U oa λhb w3 hc hl V=>x Ql<|Qb ?_;rw[show(oM ps.length (oE oF 0).cells.toList).flatten=((oM ps.length 0).map (Value.int .i64)) by rw[show(oE oF 0).cells.toList=[oE oF 0] from rfl,QaW,List.map_replicate]]at V;have hz:=(G.D E).size;refine Qk ⟨[.slice (some ⟨hb,0,none⟩) ps.length ps.length,.bool true],oz,(G.D E).D hc,?_⟩;rw[OP (by
   rintro⟨p,hp,h0⟩;obtain⟨i,hi,rfl⟩:=LP hp;exact T i hi oa h0)]
  refine⟨_,U,?_⟩;have:=V.own (n:=ps.length) (sz:=1) (base:=w.heap.size) oe oa oa;unfold Qv;rw[List.length_replicate];exact this
 have H:k<ps.length:=oa
 have I:=h.al.each ps[k] (Lk H);refine Qh<|Qd<|Qg<|Qc<|O4 UY ((h.al.I G).I E).arr U U H λhm he=>x (Qx he U U)<|Qe<|Qo (us:=[nS,oE oF 0,nS,nS]) U λb5 w4 hf hg J =>
  Qe<|Qj (us:=ZV ps[k]) J U U U U ⟨I.al.one,U,I.mr.one,I.ed.one,Z⟩ λw5 hh J=>xe ?_
 have Y:O1 [] w2 w5:=hf.O hh hg;refine Qc<|Qs U J U U<|x (QY U U)<|xe<|QX rfl (λO=>?_) (λO=>?_)
 ·refine Qc<|x Ql<|Qb<|Qk ⟨[nS,.bool false],oz,(G.D E).D Y,?_⟩;rw[OQ ⟨ps[k],Lk H,O⟩];rfl
 refine Qh<|Qw<|QS U U<|Qa<|xe<|⟨k+1,oa,La,H,E.D Y,λi hi ho=>?_⟩;by_cases e:i=k
 ·subst e;exact O
 exact T i hi oa
theorem Qcr {aa:List Q2}{ts:LI}{k:Nat}(h:k<aa.length)(E:k<ts.length):Jr (aa.drop k) (ts.drop k)=(decide (ts[k]∈aa[k].mr) && Jr (aa.drop (k+1)) (ts.drop (k+1))):=by
 rw[LD h,LD E,Jr]
theorem Qe3 {L:LN}{ps:List AV}{ms:LN}{ts:LI}(h:K4 L w.heap vl ve vs ps ms)(ht:QP L w.heap vt ts)(hl:ts.length=ps.length)(hi:∀p∈ps,Xk p.a.mr)(hn:ps.length<=12):
  Q3 prog 183 [.agg #[vl,ve,vs],vt] w λr w'=>r=.bool (Jr (ps.map (·.a)) ts)/\O1 [] w w':=by
 refine Zq func183 ?_;refine Qc<|Qe<|QW (us:=[vl,ve,vs]) U λb2 w1 hb hq he=>Qb<|Qd<|Qc<|Qs U he U U<|QI h.al.arr U<|Qa<|xe<|Qg<|QD (α:=Nat) [(4,6),(10,23)] (λz=>[(10,oE oF z)]) (λz w'=>z<=ps.length/\O1 [] w w'/\Jr (ps.map (·.a)) ts=Jr ((ps.map (·.a)).drop z) (ts.drop z)) (λz=>ps.length - z) ol 0 La
  ⟨Lo _,hb,U⟩ ?_
 rintro k g w2 ⟨hk,I,G⟩;refine Qc<|Q0 U U<|xe<|Qd<|QH U (λhf=>?_) (λhf=>?_)
 ·refine Qz<|Qc<|Qb<|Qk ⟨[.bool true],La,?_,I⟩;rw[G,Lp (by simp;omega)];rfl
 have E:k<ps.length:=oa
 have V:k<ts.length:=oa
 have H:=h.al.each ps[k] (Lk E);rw[Qcr (oy E) V,LM]at G;refine Qh<|Qd<|Qg<|Qm<|O4 UY (h.al.I I).arr U U E λhr hg=>x (Qx hg U U)<|Qe<|Qo (us:=[nS,oE oF 0,nS,nS]) U λb6 w3 hh hj J=>x Ql <|
  Qe<|Qj (us:=ZV ps[k]) J U U U U ⟨H.al.one,U,H.mr.one,H.ed.one,Z⟩ λY hm J=>xe ?_
 have ho:O1 [] w2 Y:=hh.O hm hj;have O:=I.D ho;refine Qd<|ZI [] (Xx 0 8 [6])<|p (QR U)<|pq (λ_ S=>Qr (J.I S) U U)<|p QF<|p QF<|pii U (ht.I O) U U V λhs hp =>
  pq (λ_ S=>QA (hp.I S) U)<|pk<|xg<|(JZ ((H.mr.I O).I (O1.C _ _)) (hi ps[k] (Lk E)) _).mono ?_
 rintro r5 w5 ⟨rfl,rfl⟩;refine⟨O1.C _ _,?_⟩;refine p (λ_=>ZC U)<|pe ?_;have ha:=O.D (O1.C [] Y);refine QQ rfl (λT=>?_) (λT=>?_)
 ·refine Qc<|Qb<|Qk ⟨[.bool false],La,?_,ha⟩;rw[G,show decide (ts[k]∈ps[k].a.mr)=false by simpa using T];rfl
 refine Qh<|Qw<|QS U U<|Qa<|xe<|⟨k+1,oa,La,E,ha,?_⟩;rw[G,show decide (ts[k]∈ps[k].a.mr)=true by simpa using T,OH]
theorem Qb9 {aa:List Q2}{ts:LI}{k:Nat}{v:Int}(h:k<aa.length)(E:k<ts.length):YO v (aa.drop k) (ts.drop k) =
  if v∉aa[k].al then(YO v (aa.drop (k+1)) (ts.drop (k+1))).map (ts[k]::·)else match O9 aa[k].ed ts[k] v with|none=>none|some u=>(YO v (aa.drop (k+1)) (ts.drop (k+1))).map (u::·):=by
 rw[LD h,LD E];show(if v∉aa[k].al then _ else _)=_
 split
 ·rfl
 cases O9 aa[k].ed ts[k] v <;> rfl
theorem QgU {L:LN}{ps:List AV}{ms:LN}{ts:LI}(h:K4 L w.heap vl ve vs ps ms)(ht:QP L w.heap vt ts)(hl:ts.length=ps.length)(hi:∀p∈ps,Xk p.a.al)
  (hz:∀p∈ps,p.a.ed.Pairwise λx y=>x.1<y.1\/(x.1=y.1/\x.2.1<y.2.1)) (hn:ps.length<=12) (v:Int):
  Q3 prog 184 [.agg #[vl,ve,vs],vt,oE oF v] w λr w'=>O1 [] w w' /\
   match YO v (ps.map (·.a)) ts with|none=>r=.tuple #[nS,.bool false]|some u=>∃v',r=.tuple #[v',.bool true]/\Qv 3 w.heap.size w' v' u:=by
 refine Zq func184 ?_;refine Qc<|Qe<|QW (us:=[vl,ve,vs]) U λb3 w1 ha hL hf=>x Ql<|Qb<|Qm<|QM<|(Z5 (ht.I ha)).mono ?_;rintro vx w2 ⟨hg,hr⟩;refine Qb ?_;have h0:=ha.size;have hM:=hf.lt;have hh:=ha.D hg;refine Qd<|Qc<|Qs U (hf.I hg) U U<|QI h.al.arr U<|Qa<|xe ?_;have hge:=Qi hr;have h1:K4 (ob vx) w2.heap vl ve vs ps ms:=((h.up (L':=ob vx) (λb G=>.inr (ot (hge b G).1))).I hh);have h2:QP (ob vx) w2.heap vt ts:=((ht.up (L':=ob vx) (λb G=>.inr (ot (hge b G).1))).I hh);refine Qg<|QD (α:=Nat×LI) [(6,7),(9,12),(18,49)] (λz=>[(18,oE oF z.1)])
  (λz w'=>z.1<=ps.length/\z.2.length=z.1/\O1 (ob vx) w2 w'/\Qv 3 w1.heap.size w' vx (z.2++ts.drop z.1)/\YO v (ps.map (·.a)) ts=(YO v ((ps.map (·.a)).drop z.1) (ts.drop z.1)).map (z.2++·)) (λz=>ps.length - z.1) ol (0,[]) La
  ⟨Lo _,U,O1.Z _ _,hr,oe⟩ ?_
 rintro⟨k,pre⟩ g w3 ⟨hk,T,O,S,E⟩;simp only[]at hk T S E;have hj:O1 [] w w3:=hh.then O (λb G=>.inr (ot (hge b G).1));refine Qc<|Q0 U U<|xe<|Qd<|QH U (λh3=>?_) (λh3=>?_)
 ·refine Qz<|Qm<|x Ql<|Qb<|Qk ⟨[vx,.bool true],oz,hj,?_⟩;rw[Lp (by simp;omega),Lp oa]at E;rw[Lp oa]at S;rw[E];simp only[YO,Ot];exact⟨vx,U,Zy S h0⟩
 have H:k<ps.length:=oa
 have hm:k<ts.length:=oa
 have hs:k<ms.length:=by rw[h.ml];exact H
 have V:=h.al.each ps[k] (Lk H);rw[Qb9 (oy H) hm,LM]at E;have hu:=h1.st O;have h4:=h2.st O;refine Qh<|Qd<|Qg<|Qm<|O4 UY hu.al.arr U U H λhN h5=>x (Qx h5 U U)<|Qe<|Qo (us:=[nS,oE oF 0,nS,nS]) U λhO w4 h6 h7 ho=>x Ql <|
  Qe<|Qj (us:=ZV ps[k]) ho U U U U ⟨V.al.one,U,V.mr.one,V.ed.one,Z⟩ λw5 h8 ho=>xe ?_
 have I:O1 [] w3 w5:=h6.O h8 h7;have h9:=hj.D I;refine Qd<|Qc<|Qs U ho U U<|Qa<|QM<|(JZ (V.al.I h9) (hi ps[k] (Lk H)) v).mono ?_;rintro r6 w6 ⟨rfl,rfl⟩;refine x (ZC U)<|xe ?_;have hv:=Zd hm;refine QQ rfl (λhp=>?_) (λhp=>?_)
 ·have hB:v∉ps[k].a.al:=by simpa using hp
  refine Qz<|Qw<|QS U U<|Qa<|xe<|⟨(k+1,pre++[ts[k]]),oh,La,H,by simp[T],O.D I,?_,?_⟩
  ·simp only[oT,On];rw[<-hv];exact Qq S I
  simp only[];rw[E,OQ hB,Option.map_map];congr 1;funext l;simp
 have hC:¬(v∉ps[k].a.al):=by simpa using hp
 rw[OP hC]at E;refine Qh ?_;have hD:=(hf.I hg).J O (λG=>ot (hge b3 G).1);have hw:=hu.I I;obtain⟨hE,hP⟩:=hw.mp k hs H;refine Qd<|ZI [] (Xx 0 17 [])<|p (QR U)<|pq (λ_ J=>Qr ((hD.I I).I J) U U)<|p QF<|pig U (g:=QdA) (λ_=>U) hw.sl U U hs λhQ hF =>
  pq (λ_ J=>QA (hF.I J) U)<|p QF<|p QF<|pii U (h4.I I) U U hm λhR hG=>pq (λ_ J=>QA (hG.I J) U) <|
  p QF<|p (λ_=>Qy ⟨U,U,Z⟩)<|pq (λ_ J=>KM (k:=(ts[k],v)) (hE.I J) U U)<|?_
 rw[jk ps[k].a.ed [] ts[k] v (hz ps[k] (Lk H))];have hq:O1 [] w3 { w6 with drawn:=w6.drawn+1 }:=I.D (O1.C [] w6)
 cases he:O9 ps[k].a.ed ts[k] v with
 | none =>
  rw[he]at E;refine p QF<|p (λ_=>Zn U U)<|p (λ_=>Zn U U)<|p ZM<|p ZM<|pe ?_;refine Qd<|Qm<|x (ZC U)<|xe<|yi U ?_;refine Qc<|x Ql<|Qb<|Qk ⟨[nS,.bool false],oz,hj.D hq,?_⟩;rw[E];rfl
 | some u =>
  rw[he]at E;refine p QF<|p (λ_=>Zn U U)<|p (λ_=>Zn U U)<|p ZM<|p ZM<|pe ?_;refine Qd<|Qm<|x (ZC U)<|xe<|ZS U<|Qh ?_;have hy:=Qq S hq;have hS:(pre++ts.drop k).length=ts.length:=by simp;omega
  obtain⟨gx,cx,Y⟩:=XN S oa;have hH:ob vx=[gx]:=by rw[Y];rfl
  refine Qw<|Qa<|Qa<|Qa<|x (Zv Y U oa)<|Qe<|Qg4 (u:=oE oF u) (by rw[Y]at hy;exact hy) U U oa U λw7 hI hJ=>xe ?_;refine Qw<|QS U U<|Qa<|xe ?_;have hK:(pre++ts.drop k).set k u=(pre++[u])++ts.drop (k+1):=by
   rw[hv,List.set_append_right _ _ oa,T,Nat.sub_self,List.set_cons_zero,LA];rfl
  refine⟨(k+1,pre++[u]),oh,La,H,by simp[T],(O.D hq).then hI (λb G=>.inl (by rw[hH];exact G)),?_,?_⟩
  ·simp only[];rw[<-hK];unfold Qv;rw[Me,OL,Y];exact hJ
  simp only[];rw[E,Option.map_map];congr 1;funext l;simp
theorem VX (h:n<256):(UInt8.ofNat n).toNat=n:=by
 simp[Nat.mod_eq_of_lt h]
theorem Qbx (u:Nat):(32:UInt8)∉Lib.decDigits u:=by
 induction u using Nat.strongRecOn with
 | _ u ih =>
  unfold Lib.decDigits;split
  ·intro h;simp only[oH]at h;have:=OR UInt8.toNat h;rw[VX oa]at this;have E:(32:UInt8).toNat=32:=rfl;omega
  intro h;rcases Lc.1 h with h|h
  ·exact ih _ oa h
  simp only[oH]at h;have:=OR UInt8.toNat h;rw[VX oa]at this;have E:(32:UInt8).toNat=32:=rfl;omega
def dval (l:List UInt8):Nat:=l.foldl (λa b=>a*10+(b.toNat - 48)) 0
theorem Qbv (u:Nat):dval (Lib.decDigits u)=u:=by
 induction u using Nat.strongRecOn with
 | _ u ih =>
  unfold Lib.decDigits;split
  ·simp only[dval,List.foldl_cons,List.foldl_nil];rw[VX oa];omega
  have:=ih (u / 10) oa;unfold dval at *;rw[Mv,this];simp only[List.foldl_cons,List.foldl_nil];rw[VX oa];omega
theorem Qdi:∀{a b r H:List UInt8},(32:UInt8)∉a->(32:UInt8)∉b->a++32::r=b++32::H->a=b/\r=H
 | [],[],_,_,_,_,h=>oy h
 | [],y::b,_,_,_,E,h=>by simp at h;exact OS h.1 (by intro e;exact E (by simp[e]))
 | x::a,[],_,_,G,_,h=>by simp at h;exact OS h.1 (by intro e;exact G (by simp[e]))
 | x::a,y::b,_,_,G,E,h=>by
  simp only[o8,List.cons.injEq]at h;have:=Qdi (λe=>G (Lj _ e)) (λe=>E (Lj _ e)) h.2;exact⟨by rw[h.1,this.1],this.2⟩
theorem Qbd:∀{l l':LI},(∀n∈l,0<=n)->(∀n∈l',0<=n)->JD l=JD l'->l=l'
 | [],[],_,_,_=>rfl
 | [],y::b,_,_,h=>by simp[JD]at h
 | x::a,[],_,_,h=>by simp[JD]at h
 | x::a,y::b,G,H,h=>by
  have I:Lib.decDigits x.toNat++32::JD a=Lib.decDigits y.toNat++32::JD b:=by simpa[JD]using h
  obtain⟨J,O⟩:=Qdi (Qbx _) (Qbx _) I;have T:x.toNat=y.toNat:=by rw[<-Qbv x.toNat,<-Qbv y.toNat,J]
  have S:=Qbd (λn E=>G n (Lj _ E)) (λn E=>H n (Lj _ E)) O;have V:=G x Lq;have Y:=H y Lq;rw[S,show x=y by omega]
def Kz (l:LI):ByteArray:=⟨(JD l).toArray⟩
theorem Qhq {l l':LI}(E:∀n∈l,0<=n)(G:∀n∈l',0<=n)(h:Kz l=Kz l'):l=l':=by
 refine Qbd E G ?_;have:=OR (λb:ByteArray=>b.data.toList) h;simpa[Kz]using this
def U3 (n:Nat)(m:List (ByteArray×OY))(tup:List (LI)):Prop :=
 ∀u:LI,u.length=n->(∀x∈u,0<=x)->O6 m (Kz u)=if u∈tup then some (oE oF (tup.idxOf u:Int))else none
theorem U3.add {m:List (ByteArray×OY)}{tup:List (LI)}(h:U3 n m tup){u:LI}(H:u∉tup)(I:∀x∈u,0<=x):U3 n (O7 m (Kz u) (oE oF (tup.length:Int))) (tup++[u]):=by
 intro v J G;rw[Xl];by_cases e:u=v
 ·subst e;rw[OQ rfl,OQ oe,Mu,OP H];simp
 rw[OP (λO=>e (Qhq I G O)),h v J G];by_cases E:v∈tup
 ·rw[OQ E,OQ (by simp[E]),Mu,OQ E]
 rw[OP E,OP (by simp[E,Ne.symm e])]
structure jD (N b2 b38 b37:Nat)(ve:OY)(wS:OX)(s:Sy)(m:List (ByteArray×OY))(qs:List TV)(vt vk vd:OY)(w:OX):Prop where
 st:O1 [b2,b38,b37] wS w
 A:Q9 w.heap b2 59 [ve,oE oF 0,vk,vd]
 M:Yi Jt w.heap b38 m
 t:yx 56 N w vt qs
 tb:∀b∈ob vt,b=b37\/wS.heap.size<=b
 k:Qv 3 wS.heap.size w vk s.mk'
 e:YT 167 wS.heap.size w vd s.ed
 q:qs.map (·.2)=s.tup
 el:∀p∈qs,Qv 3 N w p.1 p.2
 sep:∀p∈qs,∀b∈ob p.1,b≠b38/\b∉ob vt/\b∉ob vk/\b∉ob vd
 d1:Dj vt vk
 d2:Dj vt vd
 d3:Dj vk vd
section
variable {b38 b37:Nat}{wS:OX}{s:Sy}{m:List (ByteArray×OY)}{qs:List TV}{vd:OY}{w'':OX}
theorem jD.I (h:jD N b2 b38 b37 ve wS s m qs vt vk vd w)(E:O1 [] w w'):jD N b2 b38 b37 ve wS s m qs vt vk vd w' :=
 ⟨h.st.D E,h.A.I E,h.M.I E,Qq h.t E,h.tb,Qq h.k E,Qq h.e E,h.q,λp G=>Qq (h.el p G) E,h.sep,h.d1,h.d2,h.d3⟩
structure SyN (N b2 b38 b37:Nat)(wS:OX):Prop where
 l2:b2<N
 l38:b38<wS.heap.size
 l37:b37<wS.heap.size
 n37:N<=b37
 n38:b37<b38
 nS:N<=wS.heap.size
theorem jD.setK (h:jD N b2 b38 b37 ve wS s m qs vt vk vd w)(n:SyN N b2 b38 b37 wS){J:OY}{l:LI}(I:O1 (ob vk) w w')(S:Qv 3 wS.heap.size w' J l)
  (O:∀b∈ob J,b∈ob vk\/w.heap.size<=b) (H:O1 [b2] w' w'') (V:Q9 w''.heap b2 59 [ve,oE oF 0,J,vd]):jD N b2 b38 b37 ve wS ⟨s.tup,l,s.ed⟩ m qs vt J vd w'':=by
 have hge:=Qi h.k;have l2:=n.l2;have l38:=n.l38;have n37:=n.n37;have n38:=n.n38;have nS:=n.nS;refine⟨(h.st.then I (λb E=>.inr (hge b E).1)).then H (λb E=>.inl (by simp at E;simp[E])),V,(h.M.J I (Zh h.k oa)).J H (by simp;omega),
  Qf (Qf h.t I h.d1) H (λb E=>by have:=(Qi h.t b E).1;simp;omega),h.tb,Qf S H (λb E=>by have:=(Qi S b E).1;simp;omega),
  Qf (Qf h.e I h.d3.symm) H (λb E=>by have:=(Qi h.e b E).1;simp;omega),h.q,
  λp G=>Qf (Qf (h.el p G) I (λb E=>(h.sep p G b E).2.2.1)) H (λb E=>by have:=(Qi (h.el p G) b E).1;simp;omega),
  λp G b E=>⟨(h.sep p G b E).1,(h.sep p G b E).2.1,λY=>?_,(h.sep p G b E).2.2.2⟩,h.d1.grow O (Zf h.t),h.d2,(h.d3.symm.grow O (Zf h.e)).symm⟩
 rcases O b Y with T|T
 ·exact(h.sep p G b E).2.2.1 T
 have:=Zf (h.el p G) b E;omega
theorem jD.setE (h:jD N b2 b38 b37 ve wS s m qs vt vk vd w)(n:SyN N b2 b38 b37 wS){J:OY}{l:List Ed}(I:O1 (ob vd) w w')(S:YT 167 wS.heap.size w' J l)
  (O:∀b∈ob J,b∈ob vd\/w.heap.size<=b) (H:O1 [b2] w' w'') (V:Q9 w''.heap b2 59 [ve,oE oF 0,vk,J]):jD N b2 b38 b37 ve wS ⟨s.tup,s.mk',l⟩ m qs vt vk J w'':=by
 have hge:=Qi h.e;have l2:=n.l2;have l38:=n.l38;have n37:=n.n37;have n38:=n.n38;have nS:=n.nS;refine⟨(h.st.then I (λb E=>.inr (hge b E).1)).then H (λb E=>.inl (by simp at E;simp[E])),V,(h.M.J I (Zh h.e oa)).J H (by simp;omega),
  Qf (Qf h.t I h.d2) H (λb E=>by have:=(Qi h.t b E).1;simp;omega),h.tb,Qf (Qf h.k I h.d3) H (λb E=>by have:=(Qi h.k b E).1;simp;omega),
  Qf S H (λb E=>by have:=(Qi S b E).1;simp;omega),h.q,
  λp G=>Qf (Qf (h.el p G) I (λb E=>(h.sep p G b E).2.2.2)) H (λb E=>by have:=(Qi (h.el p G) b E).1;simp;omega),
  λp G b E=>⟨(h.sep p G b E).1,(h.sep p G b E).2.1,(h.sep p G b E).2.2.1,λY=>?_⟩,h.d1,h.d2.grow O (Zf h.t),h.d3.grow O (Zf h.k)⟩
 rcases O b Y with T|T
 ·exact(h.sep p G b E).2.2.2 T
 have:=Zf (h.el p G) b E;omega
theorem jD.setM (h:jD N b2 b38 b37 ve wS s m qs vt vk vd w)(n:SyN N b2 b38 b37 wS){H:List (ByteArray×OY)}(G:O1 [b38] w w')(J:Yi Jt w'.heap b38 H):jD N b2 b38 b37 ve wS s H qs vt vk vd w':=by
 have l2:=n.l2;have l38:=n.l38;have n37:=n.n37;have n38:=n.n38;have nS:=n.nS;exact⟨h.st.then G (λb E=>.inl (by simp at E;simp[E])),h.A.J G (by simp;omega),J,Qf h.t G (λb E=>by have:=h.tb b E;simp;omega),h.tb,
  Qf h.k G (λb E=>by have:=(Qi h.k b E).1;simp;omega),Qf h.e G (λb E=>by have:=(Qi h.e b E).1;simp;omega),h.q,
  λp I=>Qf (h.el p I) G (λb E=>by have:=(h.sep p I b E).1;simpa using this),h.sep,h.d1,h.d2,h.d3⟩
theorem jD.setT (h:jD N b2 b38 b37 ve wS s m qs vt vk vd w)(n:SyN N b2 b38 b37 wS){J:OY}{u:LI}(hx:Qv 3 wS.heap.size w vx u)(S:∀b∈ob vx,b∉ob vt/\b∉ob vk/\b∉ob vd)(H:O1 (ob vt) w w')
  (V:yx 56 N w' J (qs++[(vx,u)])) (O:∀b∈ob J,b∈ob vt\/w.heap.size<=b):jD N b2 b38 b37 ve wS ⟨s.tup++[u],s.mk',s.ed⟩ m (qs++[(vx,u)]) J vk vd w':=by
 have l2:=n.l2;have l38:=n.l38;have n37:=n.n37;have n38:=n.n38;have nS:=n.nS;have he:=h.st.size;have nott:∀c,c<w.heap.size->c∉ob vt->c∉ob J:=λc hc Y ha=>by
  rcases O c ha with I|I
  ·exact Y I
  omega
 refine⟨h.st.then H (λb E=>by have:=h.tb b E;simp;omega),h.A.J H (λE=>ot (h.tb b2 E)),h.M.J H (λE=>ot (h.tb b38 E)),V,
  λb E=>?_,Qf h.k H h.d1.symm,Qf h.e H h.d2.symm,by rw[Lt,h.q];rfl,λp G=>?_,λp G b E=>?_,(h.d1.symm.grow O (Zf h.k)).symm,(h.d2.symm.grow O (Zf h.e)).symm,h.d3⟩
 ·rcases O b E with I|I
  ·exact h.tb b I
  exact .inr oa
 ·rcases Lc.1 G with G|G
  ·exact Qf (h.el p G) H (λb E=>(h.sep p G b E).2.1)
  simp only[oH]at G;subst G;exact Zy (Qf hx H (λb E=>(S b E).1)) nS
 rcases Lc.1 G with G|G
 ·have:=h.sep p G b E;exact⟨this.1,nott b (Zf (h.el p G) b E) this.2.1,this.2.2⟩
 simp only[oH]at G;subst G;have I:=(Qi hx b E);have T:=S b E;exact⟨oa,nott b I.2 T.1,T.2⟩
end
theorem Qpx (o:Option α):o=none\/∃t,o=some t:=by cases o;exact .inl U;exact .inr ⟨_,U⟩
def zA:OY:=.agg #[nS,oE oF 0,nS,nS]
def Z8:OY:=nS
def YL (N:Nat)(H:xu)(aa:List Q2)(va vt:OY)(c:Int):Prop :=
 if Uz aa≠0 then c=Uz aa/\va=zA/\vt=Z8 else match xd aa with
  | none=>c=3/\va=zA/\vt=Z8
  | some z=>c=0/\Kg N H va z.1/\QcZ N H vt z.2
def YW (s:Sy)(u:LI):Sy:=if u∈s.tup then s else⟨s.tup++[u],s.mk',s.ed⟩
theorem Qgq (s:Sy)(u:LI):(YW s u).mk'=s.mk':=by unfold YW;split <;> rfl
theorem Qgr (s:Sy)(u:LI):(YW s u).ed=s.ed:=by unfold YW;split <;> rfl
theorem QjM {aa:List Q2}{t u:LI}{s:Sy}{v:Int}(h:YO v aa t=some u)(hl:u∈s.tup\/s.tup.length≠4096):
  syE aa i t s v=some ⟨(YW s u).tup,(YW s u).mk',(YW s u).ed++[((i:Int),v,((YW s u).tup.idxOf u:Int))]⟩:=by
 unfold syE YW;rw[h];simp only[];by_cases E:u∈s.tup
 ·simp only[OQ E]
 simp only[OP E];rw[OP (by rcases hl with G|G;exact OS G E;exact G),Mu,OP E];simp
theorem Qgp {aa:List Q2}{t u:LI}{s:Sy}{v:Int}(h:YO v aa t=some u)(E:u∉s.tup)(hl:s.tup.length=4096):syE aa i t s v=none:=by
 unfold syE;rw[h];simp only[];rw[OP E,OQ hl]
theorem Qgn {aa:List Q2}{t:LI}{s:Sy}{v:Int}(h:YO v aa t=none):syE aa i t s v=some s:=by
 unfold syE;rw[h]
theorem Qn9 {s:Sy}{qs:List TV}(E:qs.map (·.2)=s.tup)(h:i<qs.length):yG s i=qs[i].2:=by
 unfold yG;rw[<-E];simp[oP,h]
theorem Vt.bd {aa:List Q2}{t:LI}(h:Vt aa t){m:Int}(G:∀a∈aa,a.st<=m):∀x∈t,0<=x/\x<m:=by
 intro x hx;obtain⟨i,hi,rfl⟩:=LP hx;have E:i<aa.length:=by rw[<-h.1];exact hi
 have:=h.2 i hi E;have:=G aa[i] (Lk E);omega
theorem QbX {L:LN}{ps:List AV}{km:Int}(h:Kf L w.heap vl ps)(gn:Kb w km)(kg:0<km)(m9:∀p∈ps,p.a.st<=km):
  Q3 prog 123 [vl] w λr w'=>O1 [] w w'/\∃va vt c,r=.tuple #[va,vt,oE oF c]/\YL w.heap.size w'.heap (ps.map (·.a)) va vt c:=by
 refine Zq func123 ?_;generalize S:ps.map (·.a)=aa;refine Qc<|Qe<|Qo (us:=[nS,oE oF 0,nS,nS]) U λb2 w1 hQ hB go=>x Ql<|Qb ?_;have hl2:=go.lt;refine Qd<|Qm<|QM<|(QeW (h.I hQ)).mono ?_;rintro r2 w2 ⟨rfl,hq⟩;refine Qb ?_;rw[S];refine Qm<|ZB U U<|xe<|QX rfl (λh5=>?_) (λh5=>?_)
 ·refine Qc<|x (Qy Z)<|Qa<|Qe<|Qj (us:=[nS,oE oF 0,nS,nS]) (go.I hq) U U U U oB λw3 pa pc=>x Ql<|Qb<|Qk ⟨[zA,Z8,oE oF (Uz aa)],⟨⟨_,U,Qn U (pc.at (L:=[]) oe).cells⟩,rfl,rfl,Z⟩,(hQ.D hq).O pa hB,zA,Z8,Uz aa,rfl,?_⟩;unfold YL;rw[OQ h5];exact⟨U,U,U⟩
 have hr:Uz aa=0:=Ln.1 h5;have hn:ps.length<=12:=by
  unfold Uz at hr;split at hr
  ·cases hr
  rename_i h1;rw[<-S]at h1;simp at h1;exact h1
 have hC:∀a∈aa,ZD a:=by
  unfold Uz at hr;split at hr
  ·cases hr
  exact(QbG aa).1 hr
 have hR:∀p∈ps,ZD p.a:=λp G=>hC p.a (by rw[<-S];exact LJ G);have pd:∀p∈ps,p.a.al.length<=32:=λp G=>(hR p G).al_le;have pf:∀a∈aa,a.st<=km:=λa ha=>by rw[<-S]at ha;obtain⟨p,G,rfl⟩:=LC.1 ha;exact m9 p G
 have hD:aa.length=ps.length:=by rw[<-S];simp
 refine Qh<|Qm<|QM<|(Qkh (L:=[b2]) (((h.up (λb E=>.inr (by simp at E;omega))).I hQ).I hq) hn pd (λb E=>by simp at E;have:=hq.size;omega)).mono ?_;rintro r4 w4 ⟨gp,ve,vs,ms,rfl,kh,hm⟩;rw[S]at hm;have pg:=h.arr.one;have hel:=Qaj aa (λa ha=>(hC a ha).al_le);have hevl:(evs aa).length<=1000:=oa
 have hS:=Qv.ints (L:=[]) hm oa oe;refine Qe<|Qo (us:=[nS,nS,nS]) U λb6 w5 ph pj hE=>Qe<|Qj (us:=[vl,ve,vs]) hE U U U U ⟨pg,hS.one,kh.sl.one,Z⟩ λw6 pm hE=>xe ?_;have hU:O1 [] w4 w6:=ph.O pm pj;have hz2:=hq.size;have hz4:=gp.size;have hl6:=hE.lt;refine Qc ?_;have pn:=((go.I hq).I gp).I hU;refine Qs rfl hE U U<|Q7 U<|Qe<|QE pn U U oe hS.one λw7 hF po=>xe ?_;have hz7:=hF.size;have gq:O1 [] w w7:=((((hQ.D hq).D gp).D hU).O hF hB);have ki:K4 [b2] w7.heap vl ve vs ps ms:=(kh.I hU).st hF;have kj:Qv 3 w2.heap.size w7 ve (evs aa):=Qf (Qq hm hU) hF (λb E=>by have:=(Qi hm b E).1;simp;omega);have kk:=hE.J hF (by simp;omega);refine Qc<|Q6 kk U U<|QM<|(QcD ki hn).mono ?_;rintro r8 w8 ⟨hk,hV⟩;have hz8:=hk.size;have gr:=po.I hk;have hW:(∃p∈ps,p.a.st=0)↔(∃a∈aa,a.st=0):=by
  rw[<-S];constructor
  ·rintro⟨p,G,h0⟩;exact⟨p.a,LJ G,h0⟩
  rintro⟨a,ha,h0⟩;obtain⟨p,G,rfl⟩:=LC.1 ha;exact⟨p,G,h0⟩
 by_cases hz:∃p∈ps,p.a.st=0
 ·rw[OQ hz]at hV;subst hV;refine Qa<|QZ U U<|QZ U U<|x Ql<|Qb<|Qd<|Qm<|x (ZC U)<|xe<|yi U ?_;refine Qc<|Q6 gr U U<|Qe<|Qj (us:=[ve,oE oF 0,nS,nS]) gr U U U U ⟨hS.one,U,U,U,Z⟩ λw9 kn pp=>x Ql<|Qb<|Qk ⟨[.agg #[ve,oE oF 0,nS,nS],Z8,oE oF 0],⟨⟨_,U,Qn U (pp.at (L:=[]) oe).cells⟩,rfl,rfl,Z⟩,(gq.D hk).O kn hB,_,Z8,0,rfl,?_⟩;unfold YL;rw[OP h5];unfold xd;rw[OQ (hW.1 hz)];have pu:=Qf (Qq kj hk) kn (λb E=>by have:=(Qi hm b E).1;simp;omega);refine⟨U,⟨ve,_,_,U,λL' hl=>⟨Qv.ints pu (by show(evs aa).length<=_;omega) (λb E=>ot (hl b E)),Zm.nil _ _ _,Zm.nil _ _ _⟩⟩,[],U,λL' hl=>⟨Zm.nil _ _ _,λp G=>by cases G⟩⟩
 rw[OP hz]at hV;obtain⟨vf,rfl,gs⟩:=hV;have ko:=Qv.ints (L:=[]) gs (by simp;omega) oe;refine Qa<|QZ U U<|QZ U U<|x Ql<|Qb<|Qd<|Qm<|x (ZC U)<|xe<|ZS rfl<|Qh<|Qm<|Qe<|QB (us:=[[vf]]) U U og oe ⟨ko.cells,rfl,Z⟩ λV w10 gt hb37 kq=>Qb ?_;have hl37:=kq.lt;refine Qc<|Qe<|Yy Jt λhg w11 hX hb38 kr=>?_;have hl38:=kr.lt;refine Qa<|QM<|(j9 ((ko.I gt).I hX) (gn.I ((gq.D hk).D (gt.D hX))) (λn hn=>ot (Ns hn)) (by simp;omega)).mono ?_;rintro r12 pw ⟨rfl,hY⟩;have hz12:=hY.size;refine Qe<|XY (k:=Kz (oM ps.length 0)) (kr.I hY) U U λwS gu pz=>Qa<|Qb ?_;have hzS:=gu.size;have p0:O1 [] w8 pw:=(gt.D hX).D hY;have h6:O1 [] w8 wS:=p0.O gu oa;have hZ:O1 [] w wS:=(gq.D hk).D h6;have p1:∀b∈[b2,hg,V],b∈[b2]\/w8.heap.size<=b:=λb E=>by
  simp only[oK,oI,or_false]at E;rcases E with rfl|rfl|rfl
  ·exact .inl oe
  ·exact .inr oa
  exact .inr oa
 have gv:K4 [b2,hg,V] wS.heap vl ve vs ps ms:=((ki.I hk).up p1).I h6;have gw:Q9 wS.heap b6 329 [vl,ve,vs]:=(kk.I hk).I h6;have p2:Qv 3 w2.heap.size wS ve (evs aa):=Qq (Qq kj hk) h6;have p3:=Zf hm;have p4:=Qi gs;have hG:SyN w1.heap.size b2 hg V wS:=⟨oa,oa,oa,oa,oa,oa⟩;have p5:jD w1.heap.size b2 hg V ve wS (yJ aa) (O7 [] (Kz (oM ps.length 0)) (oE oF 0)) [(vf,oM ps.length 0)] (.slice (some ⟨V,0,none⟩) 1 1) Z8 Z8 wS:=by
  refine⟨O1.Z _ _,gr.I h6,pz,?_,λb E=>by simp[ob]at E;exact .inl E,QJ _ _ _ _,QJ _ _ _ _,by simp[yJ,hD],λp G=>?_,λp G b E=>?_,Dj.nil' _,Dj.nil' _,Dj.nil' _⟩
  ·exact(((kq.I hX).I hY).J gu (by simp;omega)).own (n:=1) (sz:=1) U oa oa
  ·simp only[oH]at G;subst G;exact Zy (Qq gs h6) oa
  simp only[oH]at G;subst G;have:=p4 b E;refine⟨oa,?_,by simp[ob,Z8],by simp[ob,Z8]⟩;simp[ob];omega
 have p6:U3 ps.length (O7 [] (Kz (oM ps.length 0)) (oE oF 0)) (yJ aa).tup:=by
  have kg:U3 ps.length [] []:=λu _ _=>U;have:=kg.add (u:=oM ps.length 0) oe (λx hx=>ot (Ns hx));simpa[yJ,hD]using this
 have p7:U1 aa (yJ aa):=by
  refine⟨λt ht=>?_,by simp[yJ]⟩;simp only[yJ,oH]at ht;subst ht;refine⟨oe,λi h1 h2=>?_⟩;have h3:=(hC aa[i] (Lk h2)).st0;have h4:aa[i].st≠0:=λe=>hz (hW.2 ⟨aa[i],Lk h2,e⟩);simp only[List.getElem_replicate];omega
 generalize hT:syL aa 4096 0 (yJ aa)=T;have p8:∀s,T=some s->xd aa=some (⟨evs aa,s.tup.length,s.mk',s.ed⟩,s.tup):=λs hs=>by
  unfold xd;rw[OP (λe=>hz (hW.2 e)),hT,hs];rfl
 have p9:T=none->xd aa=none:=λhs=>by unfold xd;rw[OP (λe=>hz (hW.2 e)),hT,hs];rfl
 refine Qd<|Qc<|Qb ?_;have gx:b6∉[b2,hg,V]:=by simp;omega
 refine Qg<|QD (α:=Nat×Sy×List (ByteArray×OY)×List TV×OY×OY×OY) [(3,4),(10,10),(12,16),(42,111)] (λz=>[(3,z.2.2.2.2.1),(10,oE oF z.1)])
  (λz w'=>jD w1.heap.size b2 hg V ve wS z.2.1 z.2.2.1 z.2.2.2.1 z.2.2.2.2.1 z.2.2.2.2.2.1 z.2.2.2.2.2.2 w'/\U1 aa z.2.1/\U3 ps.length z.2.2.1 z.2.1.tup/\z.1<=z.2.1.tup.length/\z.2.1.mk'.length<=z.1/\z.2.1.ed.length<=z.1*1000/\syL aa (4096 - z.1) z.1 z.2.1=T)
  (λz=>4096 - z.1) ol (0,yJ aa,_,_,_,Z8,Z8) oz ⟨p5,p7,p6,Lo _,Lo _,Lo _,hT⟩ ?_
 rintro⟨i,s,m,qs,vt,vk,vd⟩ g ga ⟨I,gb,kt,hi,qc,ku,gy⟩;simp only[]at I gb kt hi qc ku gy;have hle:=gb.le;have qo:qs.length=s.tup.length:=by rw[<-I.q];simp
 have kv:∀p∈qs,Vt aa p.2:=λp G=>gb.v p.2 (by rw[<-I.q];exact LJ G);have kw:∀p∈qs,p.2.length<=12:=λp G=>ot (kv p G).1
 have gz:=QK (L:=[]) I.t oa oe;refine Qd<|Qm<|Qa<|QI gz U<|Q0 U U<|xe<|QH rfl (λqr=>?_) (λqr=>?_)
 ·have q0:T=some s:=by rw[<-gy,Qgl oa]
  refine Qz<|Qm<|QI gz U<|Q7 U<|Qe<|QE I.A U U oe rfl λw15 q1 kx=>xe ?_;refine Qc ?_;have q2:=Qv.ints (L:=[]) I.k oa oe;have q3:=YT.eds (L:=[]) I.e oa oe;refine Q6 kx U U<|Qa<|Qe<|Qj (us:=[ve,oE oF qs.length,vk,vd]) kx U U U U ⟨hS.one,U,q2.one,q3.one,Z⟩ λg0 q4 q6=>x Ql<|Qb ?_;have h7:O1 [b2] ga g0:=q1.Q q4;have za:O1 [] w g0:=(hZ.then I.st (λb E=>.inr (by simp at E;omega))).O h7 hB;refine Qk ⟨[.agg #[ve,oE oF qs.length,vk,vd],vt,oE oF 0],⟨⟨_,U,Qn U (q6.at (L:=[]) oe).cells⟩,rfl,rfl,Z⟩,za,_,vt,0,rfl,?_⟩;unfold YL;rw[OP h5,p8 s q0];have e1:(qs.length:Int)=s.tup.length:=by rw[qo]
  have k0:Qv 3 w2.heap.size g0 ve (evs aa):=Qf (Qf p2 I.st (λb E=>by have:=(Qi hm b E).1;have:=p3 b E;simp;omega)) h7 (λb E=>by have:=(Qi hm b E).1;simp;omega);have k1:=Qf I.k h7 (λb E=>by have:=(Qi I.k b E).1;simp;omega);have k2:=Qf I.e h7 (λb E=>by have:=(Qi I.e b E).1;simp;omega);have k3:=Qf I.t h7 (λb E=>by have:=(Qi I.t b E).1;simp;omega);refine⟨U,⟨ve,vk,vd,by rw[e1],λL' hl=>⟨Qv.ints k0 (by show(evs aa).length<=_;omega) (λb E=>ot (hl b E)),Qv.ints k1 (by show s.mk'.length<=_;omega) (λb E=>ot (hl b E)),YT.eds k2 (by show s.ed.length<=_;omega) (λb E=>ot (hl b E))⟩⟩,qs,I.q,λL' hl=>⟨?_,λp G=>?_⟩⟩
  ·exact QK k3 oa (λb E hbL=>ou (Qi I.t b E).1 (hl b hbL))
  exact Qv.ints (Qf (I.el p G) h7 (λb E=>by have:=(Qi (I.el p G) b E).1;simp;omega)) (ot (kw p G)) (λb E=>ot (hl b E))
 have zb:i<s.tup.length:=oa
 have Y:i<qs.length:=oa
 have kz:=Qn9 I.q Y;have h8:=kv (qs[i]'Y) (Lk Y);obtain⟨t,g2⟩:∃t,(qs[i]'Y).2=t:=⟨_,U⟩;rw[g2]at kz h8;refine Qh ?_;have zv:(qW aa i t (evs aa) (Ye aa i t s)).bind (syL aa (4096 - (i+1)) (i+1))=T:=by
  rw[<-gy];obtain⟨f,hf⟩:∃f,4096 - i=f+1:=⟨4096 - i - 1,oa⟩;rw[hf,syL,OQ zb,kz,show 4096 - (i+1)=f by omega]
 have z0:=gv.st I.st;have z1:K4 [] ga.heap vl ve vs ps ms:=z0.up (λ_ E=>by cases E);have z2:=gw.J I.st gx;have z3:QP [] ga.heap (qs[i]'Y).1 t:=by rw[<-g2];exact Qv.ints (I.el (qs[i]'Y) (Lk Y)) (ot (kw (qs[i]'Y) (Lk Y))) oe
 refine Qd<|Qg<|Za (α:=OY) [(48,59)] (λz=>[]) (λz w'=>jD w1.heap.size b2 hg V ve wS (Ye aa i t s) m qs vt z vd w') ol ?_ ?_
 ·refine Qd<|ZI [] (Xx 0 6 [5])<|pq (λ_ hc=>ZT (z2.I hc) U U)<|p QF<|p QF<|pig U VA gz U U Y λa51 z4 =>
   pq (λ_ hc=>QA (z4.I hc) U)<|pk<|xg<|(Qe3 (z1.I (O1.C _ _)) (z3.I (O1.C _ _)) (by rw[h8.1,hD]) (λp G=>(hR p G).mri) hn).mono ?_
  rintro r17 w17 ⟨rfl,z5⟩;have k4:=(O1.C [] ga).D z5;refine⟨k4,?_⟩;refine pe ?_;have g5:=I.I k4;refine QQ U (λhH=>?_) (λhH=>?_)
  rotate_left
  ·refine Qh<|⟨vk,Z,?_⟩;rw[S]at hH;unfold Ye;rw[OP (by rw[hH];simp)];exact g5
  refine Qw<|Qs U g5.A U U<|Qa<|Qe<|QB (us:=[[oE oF i]]) U U og oe ⟨rfl,rfl,Z⟩ λb57 w18 hs18 hb57 hB57=>?_;have hJ:=g5.I hs18;refine Qe<|Zb (news:=[oE oF i]) (L:=[]) hJ.k U U U (hB57.at oe) (by simp[Value.oneCell']) oa hJ.st.size λk5 w19 ho19 k6 hn19=>?_;have k7:Qv 3 wS.heap.size w19 k5 (s.mk'++[(i:Int)]):=Qv.snoc ho19;refine Q7 U<|Qe<|QE (hJ.A.J k6 (Zh hJ.k oa)) U U oe (Qv.ints (L:=[]) k7 (by simp;omega) oe).one λw20 hs20 hB20=>xe ?_;refine⟨k5,Z,?_⟩;rw[S]at hH;unfold Ye;rw[OQ hH];exact hJ.setK hG k6 k7 hn19 hs20 hB20
 rintro gc g3 w21 k8;have hsk2:U1 aa (Ye aa i t s):=yH gb;have htup2:(Ye aa i t s).tup=s.tup:=by unfold Ye;split <;> rfl
 have hed2:(Ye aa i t s).ed=s.ed:=by unfold Ye;split <;> rfl
 have hmk2:(Ye aa i t s).mk'.length<=i+1:=by
  unfold Ye;split
  ·simp only[oL,oN];omega
  omega
 have k9:QP [b2,hg,V] wS.heap ve (evs aa):=by have:=gv.ev;rw[S]at this;exact this
 refine Qc<|Qs U (gw.J k8.st gx) U U<|QI k9 U<|Qa<|xe<|Qg<|QD (α:=Nat×Sy×List (ByteArray×OY)×List TV×OY×OY) [(3,4),(12,16),(63,111)] (λz=>[(3,z.2.2.2.2.1),(63,oE oF z.1)])
  (λz w'=>jD w1.heap.size b2 hg V ve wS z.2.1 z.2.2.1 z.2.2.2.1 z.2.2.2.2.1 gc z.2.2.2.2.2 w'/\U1 aa z.2.1/\U3 ps.length z.2.2.1 z.2.1.tup/\z.1<=(evs aa).length/\z.2.1.mk'=(Ye aa i t s).mk'/\z.2.1.ed.length<=i*1000+z.1 /\
   (∃h:i<z.2.2.2.1.length,(z.2.2.2.1[i]'h).2=t)/\(qW aa i t ((evs aa).drop z.1) z.2.1).bind (syL aa (4096 - (i+1)) (i+1))=T)
  (λz=>(evs aa).length - z.1) ol (0,Ye aa i t s,m,qs,vt,vd) oz
  ⟨k8,hsk2,by rw[htup2];exact kt,Lo _,U,by rw[hed2];simpa using ku,⟨Y,g2⟩,zv⟩ ?_
 rintro⟨j,H,m4,hh,gg,gh⟩ g4 hK ⟨O,hL,hv,hj,gi,ma,⟨ho,h9⟩,he⟩;simp only[]at O hL hv hj gi ma he ho h9;have mf:hh.length=H.tup.length:=by rw[<-O.q];simp
 have hle4:=hL.le;refine Qc<|Q0 U U<|xe<|Qd<|QH U (λh64=>?_) (λh64=>?_)
 ·rw[Lp oa,qW]at he;refine Qz<|Qw<|Qa<|QS U U<|Qb<|⟨(i+1,H,m4,hh,gg,gc,gh),oh,oz,O,hL,hv,oh,by simp only[];rw[gi];exact hmk2,oh,he⟩
 have gj:j<(evs aa).length:=oa
 rw[Zd gj,qW]at he;obtain⟨v,mg⟩:∃v,(evs aa)[j]=v:=⟨_,U⟩;rw[mg]at he;refine Qh<|Qd<|Qg<|Qc ?_;have hveI4:=k9.st O.st;refine xii hveI4 U U gj λa65 mh=>?_;rw[mg]at mh;refine x (QA mh U)<|Qb ?_;have hM22:=(gv.st O.st).up (L':=[]) (λ_ E=>by cases E);have hB622:=gw.J O.st gx;have htA4:=QK (L:=[]) O.t oa oe;have htI4:QP [] hK.heap (hh[i]'ho).1 t:=by rw[<-h9];exact Qv.ints (O.el (hh[i]'ho) (Lk ho)) (by rw[h9,h8.1];omega) oe
 refine Qd<|ZI [] (Xx 0 12 [6])<|pq (λ_ hc=>ZT (hB622.I hc) U U)<|p QF<|p QF<|pig U VA htA4 U U ho λa71 h71 =>
  pq (λ_ hc=>QA (h71.I hc) U)<|p QF<|pk<|xg<|(QgU (hM22.I (O1.C _ _)) (htI4.I (O1.C _ _)) (by rw[h8.1,hD]) (λp G=>(hR p G).ali) (λp G=>(hR p G).edi) hn _).mono ?_
 rintro r23 w23 ⟨hs23,hM⟩;rw[S]at hM;have mi:=(O1.C [] hK).D hs23;refine⟨mi,?_⟩;have hN:=O.I mi;have hz22:=O.st.size;rcases Qpx (YO v aa t)with hw|⟨u,hw⟩
 ·rw[hw]at hM;subst hM;rw[Qgn hw]at he;refine p QF<|p (λ_=>Zn U U)<|p (λ_=>Zn U U)<|p ZM<|p ZM<|pe ?_;refine Qd<|Qm<|x (ZC U)<|xe<|yi U ?_;refine Qz<|Qw<|QS U U<|Qa<|xe ?_;exact⟨(j+1,H,m4,hh,gg,gh),oh,oz,hN,hL,hv,gj,gi,oh,⟨ho,h9⟩,he⟩
 rw[hw]at hM;obtain⟨vx,rfl,g8⟩:=hM;have mj:=JK hC h8 hw;have mn:u.length=ps.length:=by rw[mj.1,hD]
 have g9:=mj.bd pf;have ka:∀x∈u,0<=x:=λx hx=>(g9 x hx).1;refine p QF<|p (λ_=>Zn U U)<|p (λ_=>Zn U U)<|p ZM<|p ZM<|pe ?_;refine Qd<|Qm<|x (ZC U)<|xe<|ZS U<|Qh ?_;have gk:=Qv.ints (L:=[]) g8 oa oe;have mo:=Qi g8;refine Za (α:=Unit) [(15,16),(79,85)] (λz=>[(15,oE oF (if u∈H.tup then(H.tup.idxOf u:Int)else 0)),(16,.bool (decide (u∈H.tup)))]) (λz w'=>O1 [] w23 w') ol ?_ ?_
 ·refine Qw<|Qa<|Qa<|QM<|(j9 gk (gn.I (hZ.then hN.st (λb E=>.inr (by simp at E;omega)))) g9 oa).mono ?_;rintro r24 w24 ⟨rfl,gl⟩;by_cases J:u∈H.tup
  ·refine x (yT (k:=Kz u) ((hN.I gl).M) U U (by rw[hv u mn ka,OQ J]))<|Qa<|QZ rfl rfl<|QZ rfl rfl<|x Ql<|Qb<|⟨(),⟨OR (Value.int .i64) (OQ J).symm,OR Value.bool (OT J).symm,Z⟩,gl⟩
  refine x (QeS (k:=Kz u) ((hN.I gl).M) U U (by rw[hv u mn ka,OP J]))<|Qa<|QZ rfl rfl<|QZ rfl rfl<|x Ql<|Qb<|⟨(),⟨OR (Value.int .i64) (OP J).symm,OR Value.bool (OV J).symm,Z⟩,gl⟩
 rintro _ g6 w25 kb;have hA:=hN.I kb;have hx25:=Qq g8 kb;have hxA25:=gk.I kb;have hadd:∀b∈ob vx,b∉ob gg/\b∉ob gc/\b∉ob gh:=λb E=>by
  have h1:=(mo b E).1;have h1':hK.heap.size<=b:=h1;exact⟨λhO=>ot (Zf O.t b hO),λhO=>ot (Zf O.k b hO),λhO=>ot (Zf O.e b hO)⟩
 refine Za (α:=List (ByteArray×OY)×List TV×OY) [(3,4),(15,15),(86,101)] (λz=>[(3,z.2.2),(15,oE oF ((YW H u).tup.idxOf u:Int))])
  (λz w'=>jD w1.heap.size b2 hg V ve wS (YW H u) z.1 z.2.1 z.2.2 gc gh w'/\(u∈H.tup\/H.tup.length≠4096)/\U3 ps.length z.1 (YW H u).tup/\∃h:i<z.2.1.length,(z.2.1[i]'h).2=t) ol ?_ ?_
 ·refine Qm<|x (ZC U)<|xe<|QQ U (λkc=>?_) (λkc=>?_)
  rotate_left
  ·have J:u∈H.tup:=by simpa using kc
   refine Qh ?_;have e1:YW H u=H:=by unfold YW;rw[OQ J]
   have e2:(if u∈H.tup then(H.tup.idxOf u:Int)else 0)=((YW H u).tup.idxOf u:Int):=by rw[e1,OQ J]
   refine⟨(m4,hh,gg),⟨U,OR (Value.int .i64) e2,Z⟩,?_,.inl J,?_,ho,h9⟩
   ·rw[e1];exact hA
   rw[e1];exact hv
  have J:u∉H.tup:=by simpa using kc
  have mq:=QK (L:=[]) hA.t oa oe;refine Qd<|Qm<|QI mq U<|x (QY U U)<|xe<|QX U (λh90=>?_) (λh90=>?_)
  ·refine Qc<|x (Qy Z)<|Qe<|Qj (us:=[nS,oE oF 0,nS,nS]) hA.A U U U U oB λw26 gm hB26=>x Ql<|Qb<|Qk ⟨[zA,Z8,oE oF 3],⟨⟨_,U,Qn U (hB26.at (L:=[]) oe).cells⟩,rfl,rfl,Z⟩,(hZ.then hA.st (λb E=>.inr (by simp at E;omega))).O gm hB,zA,Z8,3,U,?_⟩;unfold YL;rw[Qgp hw J oa]at he;rw[OP h5,p9 he.symm];exact⟨rfl,U,U⟩
  have hl4:H.tup.length≠4096:=oa
  refine Qh<|Qm<|QI mq U<|Qb<|Qm<|Qa<|QM<|(j9 hxA25 (gn.I (hZ.then hA.st (λb E=>.inr (by simp at E;omega)))) g9 oa).mono ?_;rintro r26 w26 ⟨rfl,gm⟩;have mt:=hA.I gm;refine Qa<|Qe<|Xv (k:=Kz u) mt.M U U λw27 mu hm27=>xe ?_;have hI8:=mt.setM hG mu hm27;have hx27:=Qf (Qq hx25 gm) mu (λb E=>by have:=(mo b E).1;have h1':hK.heap.size<=b:=this;simp;omega);refine Qw<|Qa<|Qa<|Qe<|QB (us:=[[vx]]) U U og oe ⟨gk.cells,rfl,Z⟩ λb100 w28 mv hb100 hB100=>?_;have ke:=hI8.I mv;refine Qe<|Zb (news:=[vx]) (L:=[]) ke.t U U U (hB100.at oe) (λy hy=>by simp only[oH]at hy;subst hy;exact gk.one) oa (ou ke.st.size hG.nS) λmw w29 ho29 hs29 hn29=>Qb ?_;have hk29:yx 56 w1.heap.size w29 mw (hh++[(vx,u)]):=yx.snoc ho29;have hIA:=ke.setT hG (u:=u) (Zy (Qq hx27 mv) (by show wS.heap.size<=hK.heap.size;omega)) hadd hs29 hk29 hn29;have e1:YW H u=⟨H.tup++[u],H.mk',H.ed⟩:=by unfold YW;rw[OP J]
  have e2:(hh.length:Int)=((YW H u).tup.idxOf u:Int):=by
   rw[e1];simp only[];rw[Mu,OP J,<-mf];simp
  refine⟨(O7 m4 (Kz u) (oE oF (hh.length:Int)),hh++[(vx,u)],mw),⟨U,OR (Value.int .i64) e2,Z⟩,?_,.inr hl4,?_,by simp;omega,?_⟩
  ·rw[e1];exact hIA
  ·rw[e1];simp only[];rw[mf];exact hv.add J ka
  simp only[];rw[MT ho];exact h9
 rintro⟨m5,qs5,vt5⟩ g7 w30 ⟨kf,hlim,my,mz,m2⟩;simp only[]at kf my mz m2;have hed5:(YW H u).ed.length<=i*1000+j:=by rw[Qgr];exact ma
 have m3:=QjM (aa:=aa) (i:=i) (s:=H) hw hlim;have hsk5:=Qgo hC hL h8 m3;rw[m3]at he;refine Qw<|Qs U kf.A U U<|Qa<|Qa<|Qa<|x (Qy ⟨U,U,U,Z⟩)<|Qe<|QB (us:=[QC ((i:Int),v,((YW H u).tup.idxOf u:Int))]) U U og (by exact(by decide:1*3<=1000000)) oz λb108 w31 hs31 hb108 hB108=>?_;have hP:=kf.I hs31;refine Qe<|Zb (news:=QC ((i:Int),v,((YW H u).tup.idxOf u:Int))) (L:=[]) hP.e U U U (hB108.at oe) (λy hy=>by simp only[QC,oK,oI,or_false]at hy;rcases hy with rfl|rfl|rfl <;> rfl) oa hP.st.size λm6 w32 ho32 m7 hn32=>?_
 have m8:YT 167 wS.heap.size w32 m6 ((YW H u).ed++[((i:Int),v,((YW H u).tup.idxOf u:Int))]):=YT.snoc ho32;refine Q7 U<|Qe<|QE (hP.A.J m7 (Zh hP.e oa)) U U oe (YT.eds (L:=[]) m8 (by simp;omega) oe).one λw33 hs33 hB33=>xe ?_;have hI12:=hP.setE hG m7 m8 hn32 hs33 hB33;refine Qw<|QS U U<|Qa<|xe<|⟨(j+1,_,m5,qs5,vt5,m6),oh,oz,hI12,hsk5,my,gj,?_,?_,⟨mz,m2⟩,he⟩
 ·simp only[];rw[Qgq];exact gi
 simp only[oL,oN];omega
structure VV where
 en:LI
 dis:LI
 mk':Bool
 ps:Bool
def Qnr:VV:=⟨[],[],false,false⟩
def Qmh (l:LI)(v:Int):LI:=mrg (· || ·) l [v]
def QpL (p s:Q2)(x y:Int)(c:VV)(v:Int):VV :=
 match O9 p.ed x v with
 | none=>c
 | some _=>match O9 s.ed y v with
  | some _=>⟨Qmh c.en v,c.dis,c.mk',c.ps⟩
  | none=>⟨c.en,Qmh c.dis v,c.mk',c.ps⟩
def QpM (p s:Q2)(x y:Int)(c:VV):VV:=⟨c.en,c.dis,decide (y∈s.mr),c.ps || decide (x∈p.mr)⟩
def QpK (p s:Q2)(x y:Int)(c:VV):VV:=s.al.foldl (QpL p s x y) (QpM p s x y c)
def px (q:LI):Int:=q.getD 0 0
def py (q:LI):Int:=q.getD 1 0
def QpJ (p s:Q2)(l:List VV)(q:LI):List VV:=l.set (py q).toNat (QpK p s (px q) (py q) (l.getD (py q).toNat Qnr))
def ctls (p s:Q2)(pairs:List (LI)):List VV:=pairs.foldl (QpJ p s) (oM s.st.toNat Qnr)
def occs (n:Nat)(pairs:List (LI)):List Bool:=pairs.foldl (λo q=>o.set (py q).toNat true) (oM n false)
def meets (a b:LI):LI:=mrg (· && ·) a b
def QoK (a b:VV):Bool:=decide ((meets a.en b.dis).length+(meets b.en a.dis).length=0) && (!a.ps || !b.ps || a.mk' == b.mk')
def O2 (l:LI)(i:Nat):Int:=l.getD i 0
def Qhe (cl:LI)(x y:Nat):LI:=cl.map λc=>if c=O2 cl y then O2 cl x else c
def lget (l:List VV)(i:Nat):VV:=l.getD i Qnr
def to0 (s:Q2)(x:Nat)(v:Int):Int:=match O9 s.ed x v with|some u=>u|none=>0
def clE (s:Q2)(x y:Nat)(z:LI×Bool)(v:Int):LI×Bool :=
 if O2 z.1 (to0 s x v).toNat≠O2 z.1 (to0 s y v).toNat then(Qhe z.1 (to0 s x v).toNat (to0 s y v).toNat,true)else z
def clY (s:Q2)(l:List VV)(x:Nat)(z:LI×Bool)(y:Nat):LI×Bool :=
 if O2 z.1 x<0\/O2 z.1 x≠O2 z.1 y then z else(meets (lget l x).en (lget l y).en).foldl (clE s x y) z
def clX (s:Q2)(l:List VV)(n:Nat)(z:LI×Bool)(x:Nat):LI×Bool:=(oQ (x+1) (n - (x+1))).foldl (clY s l x) z
def pass (s:Q2)(l:List VV)(cl:LI):LI×Bool:=(oQ 0 cl.length).foldl (clX s l cl.length) (cl,false)
def Qiy (s:Q2)(l:List VV):Nat->LI->LI
 | 0,cl=>cl
 | f+1,cl=>if(pass s l cl).2=true then Qiy s l f (pass s l cl).1 else(pass s l cl).1
def Qln (l:List VV)(cl:LI):Bool :=
 (oQ 0 cl.length).all λx=>(oQ 0 x).all λy=>!(decide (0<=O2 cl x/\O2 cl x=O2 cl y) && !QoK (lget l x) (lget l y))
def Qpi (s:Q2)(l:List VV)(cl:LI)(x y:Nat):LI :=
 if O2 cl x<0\/O2 cl y<0\/O2 cl x=O2 cl y then cl else
  let d:=Qiy s l (cl.length*cl.length+1) (Qhe cl x y)
  if Qln l d=true then d else cl
def Qph (s:Q2)(l:List VV)(n:Nat)(cl:LI)(x:Nat):LI:=(oQ (x+1) (n - (x+1))).foldl (λc y=>Qpi s l c x y) cl
def QpP (o:List Bool):LI:=(oQ 0 o.length).map λi=>if o.getD i false=true then(i:Int)else -1
def QpO (s:Q2)(l:List VV)(cl:LI):LI:=(oQ 0 cl.length).foldl (Qph s l cl.length) cl
def Qpz (z:LI×LI)(c:Int):LI×LI :=
 if c∈z.1 then(z.1,z.2++[(z.1.idxOf c:Int) - 1])else(z.1++[c],z.2++[(z.1.length:Int) - 1])
def nums (cl:LI):LI:=(cl.foldl Qpz ([-1],[])).2
def QoR (p s:Q2)(pairs:List (LI)):LI:=nums (QpO s (ctls p s pairs) (QpP (occs s.st.toNat pairs)))
theorem xD {α:Type}(g:α->LV)(sz:Nat)(G:∀x,(g x).length=sz):∀(l:List α) (i j:Nat) (h:i<l.length) (y:α) (u:OY),j<sz->g y=(g l[i]).set j u ->
  (l.flatMap g).set (i*sz+j) u=(l.set i y).flatMap g
 | x::l,0,j,h,y,u,H,E=>by
  simp only[List.getElem_cons_zero]at E;simp only[OK,oX,Oa,List.set_cons_zero];rw[List.set_append_left _ _ (by rw[G];exact H),E]
 | x::l,i+1,j,h,y,u,H,E=>by
  simp only[List.getElem_cons_succ]at E;simp only[Oa,List.set_cons_succ];rw[List.set_append_right _ _ (by rw[G,Mo];omega),G,show(i+1)*sz+j - sz=i*sz+j by rw[Mo];omega,xD g sz G l i j (oy h) y u H E]
section
variable {f:Fr}{all:xx}{C:xt}{K:Fr->OX->Prop}
def zL (all:Array Oper)(i j:Nat)(E G:xo):xo->Array Bool->Bool
 | [],ls=>Region.ready .any all ls == [i,j] && Y6 all E (ls.setIfInBounds i true) && Y6 all G (ls.setIfInBounds j true)
 | (k,q)::pl,ls=>q && (Region.ready .any all ls).contains k && Region.free .any all ls k && zL all i j E G pl (ls.setIfInBounds k true)
def QhL (all:xx)(pl:xo)(i j:Nat)(E G:xo):Bool :=
 Region.noSelect all.toArray && pl.length+1+E.length == all.length && E.length == G.length && zL all.toArray i j E G pl (oV all.length false)
def Fk (P:O0)(all:xx)(C:xt)(K:Fr->OX->Prop)(i j:Nat)(G H:xo)(f:Fr)(w:OX):Prop :=
 (Ya all f (QV all i)=true/\XO P (QV all i) f w λE w'=>C w'/\XP P all C K G E w') /\
 (Ya all f (QV all j)=true/\XO P (QV all j) f w λE w'=>C w'/\XP P all C K H E w')
theorem VQ {i j:Nat}{G V:xo}(hl:G.length=V.length)(H:Region.noSelect all.toArray=true):∀(pl:xo) (ls:Array Bool) (f:Fr) (w:OX),ls.size=all.length->C w->zL all.toArray i j G V pl ls=true ->
  XP P all C (Fk P all C K i j G V) pl f w->XA P all C K (pl.length+(1+G.length)) ls f w
 | [],ls,f,w,ha,I,J,h=>by
  simp only[zL,oJ,beq_iff_eq]at J;obtain⟨⟨O,h1⟩,h2⟩:=J;simp only[XP]at h;rw[Nb,LQ,M4];refine XC (λh0=>(by rw[h0]at O;cases O)) ?_;rw[O];intro k hk o E;have S:(ls.setIfInBounds k true).size=all.length:=by simpa using ha
  simp only[oK,oI,or_false]at hk;rcases hk with rfl|rfl
  ·have:=h.1;rw[Zj E]at this;rw[this.1,cond_true];exact this.2.mono λv w' hx=>⟨.inr (.inr hx.1),ZN H G _ _ _ S (.inl hx.1) h1 hx.2⟩
  have:=h.2;rw[Zj E]at this;rw[this.1,cond_true,hl];exact this.2.mono λv w' hx=>⟨.inr (.inr hx.1),ZN H V _ _ _ S (.inl hx.1) h2 hx.2⟩
 | (T,q)::pl,ls,f,w,ha,I,J,h=>by
  simp only[zL,oJ]at J;obtain⟨⟨⟨rfl,O⟩,hf⟩,hc⟩:=J;simp only[XP]at h;have hb:T∈Region.ready .any all.toArray ls:=by simpa using O
  have e:(oO ((T,true)::pl))+(1+G.length)=(pl.length+(1+G.length))+1:=by simp;omega
  rw[e];cases E:all[T]? with
  | none =>
   exfalso;obtain⟨_,o,hi,_⟩:=mem_ready.1 hb;simp[E]at hi
  | some o =>
   rw[Zj E]at h;have he:∀(j:Nat) (o:Oper) cs b,all[j]?=some o->o.op≠.select cs b:=λj o cs b hj=>Region.noSelect_spec H j o cs b (oy hj);have hh:=λj oj hj=>Region.free_spec (ops:=all.toArray) (md:=.any) (i:=T) (oi:=o) (listed:=ls) (oy E) hf j oj (oy hj);have S:(ls.setIfInBounds T true).size=all.length:=by simpa using ha
   cases Y:Ya all f o with
   | false =>
    rw[Y]at h;exact Xb (v:=undef) (D:=λw=>UH o=true->C w) E (λ_ h=>h) he _ ls f w (λ_=>I) hh hb (.inr ⟨Y,U⟩) (VQ hl H pl _ _ _ S I hc h)
   | true =>
    rw[Y]at h;simp only[cond_true]at h;obtain⟨v,hv,hx⟩:=h;exact Xb (v:=v) (D:=λw=>UH o=true->C w) E (λ_ h=>h) he _ ls f w (λ_=>I) hh hb (.inl ⟨Y,hv⟩) (VQ hl H pl _ _ _ S I hc hx)
theorem QlH {Q:Exit->Fr->OX->Prop}(C:xt)(pl:xo)(i j:Nat)(G H:xo)(J:P.follows .mixedOrders=true)(O:XI n all=true)(E:QhL all pl i j G H=true)
  (S:C { w with drawn:=w.drawn+1 }) (h:XP P all C (Fk P all C (λf w=>Q .normal f w) i j G H) pl f { w with drawn:=w.drawn+1 }):W P n (.region id all.toArray true) Q f w:=by
 simp only[QhL,oJ,beq_iff_eq]at E;obtain⟨⟨⟨T,hl⟩,V⟩,E⟩:=E;refine JB C J O ?_;have I:=VQ V T pl _ _ _ oe S E h;rw[<-OG,hl]at I;exact I
end
theorem ZG {l:LI}(h:i<l.length):l[i]=O2 l i:=by simp[O2,oP,h]
section
variable {l:xx}{K:Fr->OX->Prop}{f:Fr}{pS:String}{C:xt}{i0:Nat}
theorem xic {x:OZ}{e bys:Nat}[Sl P t e 1 bys z]{L:LN}{li:LI}{v:OY}{k:IntKind}
  (h:QP L w.heap v li) (E:ev f x=v) (G:ev f y=.int k i) (hi:i<li.length)
  (hK:∀a,At L w.heap a [oE oF (O2 li i)]->XL P ops K l (QT f d (.pointer (some a))) w) (H:Ya ops f ⟨d,.indexAddr t x y,ty,pS,af,gd⟩=true:=by rfl):
  XL P ops K (⟨d,.indexAddr t x y,ty,pS,af,gd⟩::l) f w :=
 xii h E G hi (λa I=>hK a (by rw[<-ZG hi];exact I)) H
theorem pic {x:OZ}{e bys:Nat}[Sl P t e 1 bys z]{L:LN}{li:LI}{v:OY}{k:IntKind}
  (E:QV ops i0=⟨d,.indexAddr t x y,ty,pS,af,gd⟩) (h:QP L H v li) (G:ev f x=v) (I:ev f y=.int k i) (hi:i<li.length)
  (hK:∀a,At L H a [oE oF (O2 li i)]->XP P ops C K pl (QT f d (.pointer (some a))) w) (J:Ya ops f (QV ops i0)=true:=by rfl):XP P ops C K ((i0,true)::pl) f w :=
 pii E h G I hi (λa O=>hK a (by rw[<-ZG hi];exact O)) J
end
theorem QgH {a:Nat}(h:a<n):oQ a (n - a)=a::oQ (a+1) (n - (a+1)):=by
 rw[show n - a=(n - (a+1))+1 by omega,M2]
theorem Qj3 {a:Nat}(h:n<=a):oQ a (n - a)=[]:=by rw[show n - a=0 by omega];rfl
section
variable {f:Fr}{pS:String}{κ:Type}[DecidableEq κ]
end
theorem Qdg {aa:List Q2}{i:Nat}{t:LI}(G:∀a∈aa,ZD a)(H:Vt aa t):∀(vs:LI) (s E:Sy),U1 aa s->qW aa i t vs s=some E->U1 aa E
 | [],s,E,h,e=>by cases e;exact h
 | v::vs,s,E,h,e=>by
  rw[qW]at e;obtain⟨I,J,O⟩:=M9.1 e;exact Qdg G H vs I E (Qgo G h H J) O
theorem Qgk {aa:List Q2}(G:∀a∈aa,ZD a):∀(f i:Nat) (s E:Sy),U1 aa s->syL aa f i s=some E->U1 aa E
 | 0,i,s,E,h,e=>by cases e;exact h
 | f+1,i,s,E,h,e=>by
  rw[syL]at e;split at e
  ·rename_i hi;obtain⟨H,I,J⟩:=M9.1 e;have O:Vt aa (yG s i):=h.v _ (by unfold yG;simp[oP,hi]);exact Qgk G f _ H E (Qdg G O _ _ _ (yH h) I) J
  cases e;exact h
theorem Qmn {aa:List Q2}(H:∀a∈aa,ZD a)(I:¬∃a∈aa,a.st=0):U1 aa (yJ aa):=by
 refine⟨λt E=>?_,by simp[yJ]⟩;simp only[yJ,oH]at E;subst E;refine⟨oe,λi J G=>?_⟩;have O:=(H aa[i] (Lk G)).st0;have S:aa[i].st≠0:=λe=>I ⟨aa[i],Lk G,e⟩;simp only[List.getElem_replicate];omega
theorem qD {aa:List Q2}(E:∀a∈aa,ZD a){z:Q2×List (LI)}(h:xd aa=some z):(∀t∈z.2,Vt aa t)/\z.2.length<=4096:=by
 unfold xd at h;split at h
 ·cases h;simp
 rename_i G;obtain⟨s,H,rfl⟩:=Mb.1 h;have:=Qgk E _ _ _ _ (Qmn E G) H;exact⟨this.v,this.le⟩
def opC (p s:Q2):Int:=if X9 p≠0 then X9 p else if X9 s≠0 then X9 s else if mrg (λp q=>p && !q) s.al p.al=[]then 0 else 9
def opE (p s:Q2):Int:=if opC p s≠0 then opC p s else match xd [p,s]with|none=>3|some _=>0
def opQ (p s:Q2):List (LI):=match xd [p,s]with|none=>[]|some z=>z.2
def Qon (l:LI):Int:=(l.drop 1).foldl max (O2 l 0)
theorem Uy {v:OY}{a:Q2}(h:Kg N w.heap v a)(G:b<N)(H:O1 [b] w w'):Kg N w'.heap v a:=by
 obtain⟨va,vm,ve,I,J⟩:=h;refine⟨va,vm,ve,I,λL O=>?_⟩;exact((J (b::L) (λc E=>by rcases Li.1 E with rfl|E;exact G;exact O c E)).st (H.mono oe)).up (λc E=>.inl (Lj _ E))
theorem Qi7 {v:OY}{l:List (LI)}(h:QcZ N w.heap v l)(G:b<N)(H:O1 [b] w w'):QcZ N w'.heap v l:=by
 obtain⟨ps,I,J⟩:=h;refine⟨ps,I,λL O=>?_⟩;exact((J (b::L) (λc E=>by rcases Li.1 E with rfl|E;exact G;exact O c E)).st (H.mono oe)).up (λc E=>.inl (Lj _ E))
theorem VT {v:OY}{a:Q2}(h:Kg N H v a):∃us,v=.agg us.toArray/\us.length=4/\Zp us:=by
 obtain⟨va,vm,ve,E,G⟩:=h;have:=G [] oe;exact⟨[va,oE oF a.st,vm,ve],E,U,this.al.one,U,this.mr.one,this.ed.one,Z⟩
theorem Qav {L:LN}{a:Q2}(h:ZH L w.heap va vm ve a):
  Q3 prog 199 [.agg #[va,oE oF a.st,vm,ve]] w λr w'=>O1 [] w w'/\∃v,r=.tuple #[v,oE oF (X9 a)]/\(X9 a≠0->v=zA)/\(X9 a=0->Kg w.heap.size w'.heap v (Yc a)):=by
 refine Zq func199 ?_;refine Qc<|Qe<|QW (us:=[va,oE oF a.st,vm,ve]) U λb1 w1 T hl V=>Qe<|Qo (us:=[nS,oE oF 0,nS,nS]) U λb2 w2 G hm H=>Qb ?_;have I:=T.D G;refine Qd<|Qc<|Q6 (V.I G) U U<|QM<|(X1 (h.I I)).mono ?_;rintro r3 w3 ⟨rfl,E⟩;refine Qb ?_;have hn:=T.size;refine Qm<|ZB U U<|xe<|QX rfl (λJ=>?_) (λJ=>?_)
 ·refine Qc<|x (Qy Z)<|Qa<|Qe<|Qj (us:=[nS,oE oF 0,nS,nS]) (H.I E) U U U U oB λw4 hf hg=>Qb<|Qk ⟨[zA,oE oF (X9 a)],⟨⟨_,U,Qn U (hg.at (L:=[]) oe).cells⟩,rfl,Z⟩,(I.D E).O hf oa,zA,rfl,λ_=>rfl,λe=>OS e J⟩
 have O:X9 a=0:=Ln.1 J;have hh:=(Z0 a).1 O;have ho:=H.lt;have S:=I.D E;refine Qh<|Qc<|Q6 ((V.I G).I E) U U<|QM<|(Jf (h.I S) hh).mono ?_;rintro v w5 ⟨Y,hF⟩;obtain⟨us,ha,hb,hi⟩:=VT hF;have hp:=E.size;have hj:=S.size;refine Qe<|Qj (us:=us) ((H.I E).I Y) U ha hb U hi λw6 he hk =>
  Qb<|Qk ⟨[.agg us.toArray,oE oF 0],⟨⟨_,U,Qn hb (hk.at (L:=[]) oe).cells⟩,rfl,Z⟩,(S.D Y).O he oa,v,by rw[O,ha];rfl,λe=>OS O e,λ_=>?_⟩
 exact(Uy hF oa he).mono hj
end Go.Lg
namespace Go.Lg
abbrev xr:=Fr->xt
end Go.Lg
