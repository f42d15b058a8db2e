/- Merged out of 44 texts. -/
import Derived.Orders
import Derived.Below
import Derived.WalkKit
import Derived.Laws.AppendOwn
import Derived.Laws.Rows
import Derived.Laws.Tables
import Derived.Great.BuildSlice
import Derived.Deep.OwnRows
import Derived.MapKept
import Derived.Test.YtpfnhheoeaiomaaGreatDoorProg
import Derived.Shelf.SlBodiesH
import Derived.Shelf.SlBodiesN
import Derived.Shelf.SlGeneric
import Derived.Laws.StructEq
import Derived.Shelf.Strings.Builder1
import Derived.Shelf.Small.Bits
import Derived.Shelf.Strings.BuilderF
import Derived.Shelf.Strings.BuilderK
import Derived.Shelf.Strconv.Itoa0
import Derived.Shelf.Strconv.Itoa1
import Derived.Shelf.LaysM
import Derived.Shelf.Strconv.Itoa2
import Derived.Shelf.Strconv.Itoa3
import Derived.Shelf.Strings.BuilderCap
import Derived.Lib.Builder
import Derived.Laws.Externs
set_option maxHeartbeats 40000000
set_option maxRecDepth 100000
set_option linter.all false
abbrev Eq.D:=@Eq.trans
abbrev Iff.D:=@Iff.trans
abbrev List.Perm.D:=@List.Perm.trans
namespace Go
abbrev sL (b n c:Nat):Value:=.slice (some ⟨b,0,none⟩) n c
abbrev sP (b:Nat):Value:=.pointer (some ⟨b,0,none⟩)
instance:CoeOut World Nat:=⟨λw=>w.heap.size⟩
instance:CoeOut World (Array Obj):=⟨λw=>w.heap⟩
abbrev sS (n:Int):Value:=.int .i64 n
abbrev sT (l:List Value):Value:=.agg l.toArray
abbrev xt:=Option (Nat×Bool)
abbrev xu:=List (Nat×Bool)
abbrev xw:=List (Nat×Nat)
abbrev xx:=List (Int×Int)
abbrev xA:=World→Prop
abbrev xC:=Array Obj
abbrev xD:=Array Edge
abbrev xE:=List Oper
abbrev xF:=Option Nat
theorem oo{p q:Prop}(a:q)(h:q→p:=by intro _;omega):p:=h a
theorem oq{p q r:Prop}(a:q)(b:r)(h:q→r→p:=by intro _ _;omega):p:=h a b
theorem ot{p q r s:Prop}(a:q)(b:r)(c:s)(h:q→r→s→p:=by intro _ _ _;omega):p:=h a b c
theorem ou{p q:Prop}(a:q)(h:q→p:=by intro h;simpa using h):p:=h a
theorem oa{p:Prop}(h:p:=by omega):p:=h
theorem oc{p:Prop}(h:p:=by kernel_rfl):p:=h
theorem od{p:Prop}(h:p:=by simp):p:=h
theorem oe{p:Prop}(h:p:=by simp only[];omega):p:=h
theorem og{p:Prop}(h:p:=by decide):p:=h
theorem oh{p:Prop}(h:p:=by rfl):p:=h
theorem ol{p:Prop}(h:p:=by simp only[List.mem_singleton];omega):p:=h
theorem om{p:Prop}(h:p:=by simp[Value.oneCell']):p:=h
abbrev oz(j:Nat):Nat×Bool:=(j,true)
abbrev oA(j:Nat):Nat×Bool:=(j,false)
abbrev OU:=@if_neg
abbrev OV:=@if_pos
abbrev OW:=@congrArg
abbrev OX:=@absurd
abbrev OY:=@decide_eq_true
abbrev OZ:=@of_decide_eq_true
abbrev O0:=@decide_eq_false
abbrev O1:=@of_decide_eq_false
end Go
open Go
open Go.Value renaming int->oB
open Go.IntKind renaming i64->oC
open _root_.List renaming mem_singleton->oF,replicate->oG,not_mem_nil->oH,range->oJ,mem_cons->oK,length_singleton->oL,length_append->oM,getD->oN,range'->oO,length_cons->oQ,getElem?_toArray->oR,map_cons->oS,flatMap_cons->oT,getElem?_eq_getElem->oU,mem_append->oW,cons_append->oZ,all_cons->Ob,size_toArray->Od,append_assoc->Of,append_nil->Oi,all_eq_true->Ok,forall_mem_cons->On,nil_append->Oo,getElem_replicate->Oq,getElem_cons_zero->Ot,singleton_append->Ov,length_map->Ow,range'_succ->Oz,filter_cons->OA,pairwise_cons->OB,length_drop->OF,length_take->OG,map->OT
open _root_.Bool renaming and_eq_true->oI,or_eq_false_iff->oY,not_eq_true'->Oe,true_and->OK
open _root_.Array renaming replicate->oP
open _root_.Nat renaming zero_add->oX,add_mul->Ou,add_zero->Ox,le_refl->OE,pow_succ->OH,one_mul->OL,lt_or_ge->OM,sub_zero->ON,mul_one->OR,beq->OS
open _root_.Int renaming toNat_natCast->Oy
open _root_.Option renaming map_some->OD
open Go renaming World->O2,Value->O3,Operand->O4,Program->O5
open Go.Proofs Go.Proofs.Tryz
open Go.Proofs.Tryz renaming prog->sV
variable {w w':O2}{n i t sz base T j N E m g id B kt ty G et gp U off:Nat}{α β:Type}{y:O4}{va ve vm z vt vs vk vx v' vb vo:O3}{P:O5}{s:Int}{fn:Func}{d:xF}{pS:String}{af:xD}{gd:xt}{k':IntKind}{at_:Array Nat}{ops:xE}
namespace Go
abbrev nS:O3:=.slice none 0 0
abbrev LI:=List Int
abbrev LN:=List Nat
abbrev LV:=List O3
theorem O.{u}{α:Sort u}{a:α}:a=a:=rfl
theorem Z:True:=trivial
theorem La.{u}{α:Sort u}{a:α}:a=a/\True:=⟨rfl,trivial⟩
abbrev Lb:=@List.mem_singleton
abbrev Lc:=@List.length_append
abbrev Le:=@List.mem_append
abbrev Lh:=@List.mem_cons_self
abbrev Lj:=@List.mem_cons_of_mem
abbrev Lk:=@List.mem_cons
abbrev Ll:=@List.take_succ_eq_append_getElem
abbrev Lm:=@List.getElem_mem
abbrev Ln:=@List.length_map
abbrev Lo:=@Nat.zero_le
abbrev Lp:=@Nat.le_refl
abbrev Lr:=@List.take_of_length_le
abbrev Ls:=@List.eq_nil_of_length_eq_zero
abbrev Lt:=@Decidable.not_not
abbrev Lu:=@List.drop_of_length_le
abbrev Lv:=@List.length_singleton
abbrev Lx:=@List.mem_map
abbrev Ly:=@List.map_append
abbrev Lz:=@Nat.le_trans
abbrev LA:=@List.append_assoc
abbrev LB:=@List.not_mem_nil
abbrev LC:=@List.length_take
abbrev LD:=@List.getElem?_eq_getElem
abbrev LE:=@Bool.and_eq_true
abbrev LF:=@List.flatMap_append
abbrev LG:=@List.mem_append_left
abbrev LH:=@List.append_nil
abbrev LJ:=@List.mem_filter
abbrev LK:=@List.length_filter_le
abbrev LL:=@List.mem_map_of_mem
abbrev LM:=@List.flatMap_cons
abbrev LO:=@Array.getElem?_eq_some_iff
abbrev LP:=@List.length_cons
abbrev LQ:=@List.foldl_cons
abbrev LR:=@List.getElem_of_mem
abbrev LS:=@List.map_cons
abbrev LT:=@List.filter_append
abbrev LU:=@Nat.lt_of_lt_of_le
abbrev LW:=@Nat.zero_add
abbrev LX:=@List.getElem?_append_left
abbrev LY:=@List.size_toArray
abbrev LZ:=@List.getElem?_take
abbrev L2:=@List.mem_of_mem_take
abbrev L3:=@List.ext_getElem
abbrev L4:=@List.filter_cons
abbrev L5:=@List.pairwise_cons
abbrev L6:=@Nat.le_of_ble_eq_true
abbrev L7:=@List.idxOf_lt_length_of_mem
abbrev L8:=@List.mem_range'_1
abbrev L9:=@List.pairwise_map
abbrev Ma:=@List.idxOf_append
abbrev Mb:=@List.length_range
abbrev Mc:=@List.mem_flatMap
abbrev Md:=@Option.map_eq_some_iff
abbrev Me:=@List.drop_eq_getElem_cons
abbrev Mf:=@List.nodup_append
abbrev Mg:=@List.pairwise_iff_getElem
abbrev Mh:=@List.all_eq_true
abbrev Mi:=@List.getElem?_toArray
abbrev Mj:=@List.range'_1_concat
abbrev Mk:=@List.pairwise_append
abbrev Ml:=@Option.bind_eq_some_iff
abbrev Mm:=@List.getElem?_eq_some_iff
abbrev Mn:=@List.foldl_append
abbrev Mo:=@List.length_drop
abbrev Mq:=@List.cons_append
abbrev Mr:=@List.filterMap_cons
abbrev Ms:=@List.getElem_append_left
abbrev Mt:=@List.mem_of_getElem?
abbrev Mu:=@List.getElem?_append_right
abbrev Mv:=@List.getElem?_eq_none
abbrev Mw:=@List.getElem_range
abbrev Mx:=@List.nodup_nil
abbrev My:=@List.getElem?_map
abbrev Mz:=@List.nil_append
abbrev MA:=@List.getD_eq_getElem?_getD
abbrev MB:=@List.map_map
abbrev MC:=@Int.le_refl
abbrev MD:=@List.filter_sublist
abbrev ME:=@Nat.add_mul
abbrev MF:=@List.mem_filterMap
abbrev MG:=@Array.getElem?_append
abbrev MH:=@List.take_append_drop
abbrev MI:=@List.mem_range
abbrev MJ:=@Array.size_modify
abbrev MK:=@Int.toNat_natCast
abbrev ML:=@List.all_cons
abbrev MM:=@Array.getElem?_eq_getElem
abbrev MN:=@List.getElem?_drop
abbrev MO:=@List.filter_eq_nil_iff
abbrev MP:=@List.filter_nil
abbrev MQ:=@List.getElem_map
abbrev MR:=@Array.getElem?_toList
abbrev MS:=@List.mem_append_right
abbrev MT:=@Nat.mul_le_mul_right
abbrev MU:=@List.mem_of_mem_drop
abbrev MV:=@Bool.false_ne_true
abbrev MW:=@List.getElem?_set_ne
abbrev MX:=@Bool.or_eq_false_iff
abbrev MY:=@Nat.add_comm
abbrev MZ:=@Array.getElem?_modify
abbrev M0:=@List.length_set
abbrev M1:=@Nat.add_zero
abbrev M2:=@Nat.min_eq_left
abbrev M4:=@List.headD_cons
abbrev M5:=@Nat.add_sub_cancel_left
abbrev M6:=@List.getElem_set
abbrev M7:=@List.pairwise_singleton
abbrev M8:=@List.pairwise_lt_range'
abbrev M9:=@List.getElem_take
abbrev Na:=@List.flatMap_singleton
abbrev Nb:=@Bool.not_eq_true'
abbrev Nc:=@Nat.mul_le_mul
abbrev Nd:=@List.tail_cons
abbrev Nf:=@List.mergeSort_perm
abbrev Ng:=@List.take_succ_cons
abbrev Nh:=@List.range_succ
abbrev Ni:=@List.getElem_append_right
abbrev Nj:=@Bool.false_eq_true
abbrev Nk:=@List.any_eq_true
abbrev Nl:=@List.map_nil
abbrev Nm:=@Option.isSome_iff_exists
abbrev Nn:=@Nat.pow_le_pow_right
abbrev Np:=@Nat.exists_eq_succ_of_ne_zero
abbrev Nq:=@List.forall_mem_cons
abbrev Nr:=@List.ext_getElem?
abbrev Ns:=@List.getElem_replicate
abbrev Nt:=@List.getElem_cons_zero
abbrev Nu:=@Array.getD_eq_getD_getElem?
abbrev Nv:=@List.range'_succ
abbrev Nw:=@List.map_singleton
abbrev Nx:=@List.singleton_append
abbrev Ny:=@List.mem_or_eq_of_mem_set
abbrev Nz:=@Nat.not_lt_zero
abbrev NA:=@Array.size_append
abbrev NB:=@List.filter_congr
abbrev NC:=@List.map_set
abbrev ND:=@List.eq_of_mem_replicate
abbrev NE:=@List.filter_eq_self
abbrev NF:=@List.take_zero
abbrev NG:=@List.take_append
abbrev NH:=@List.flatMap_nil
abbrev NI:=@List.zipIdx_cons
abbrev NJ:=@List.foldl_nil
abbrev NK:=@List.drop_zero
abbrev NL:=@Nat.mod_eq_of_lt
abbrev NM:=@Nat.one_mul
abbrev NN:=@Option.map_some
theorem ov.{u,v}{α:Sort u}{β:Sort v}{a:α}{b:β}:a=a/\b=b/\True:=⟨rfl,rfl,trivial⟩
theorem ox.{u,v,w}{α:Sort u}{β:Sort v}{γ:Sort w}{a:α}{b:β}{c:γ}:a=a/\b=b/\c=c/\True:=⟨rfl,rfl,rfl,trivial⟩
theorem oy.{u,v,w,x}{α:Sort u}{β:Sort v}{γ:Sort w}{δ:Sort x}{a:α}{b:β}{c:γ}{d:δ}:a=a/\b=b/\c=c/\d=d/\True:=⟨rfl,rfl,rfl,rfl,trivial⟩
end Go
namespace Go.Lg
open Go.RowKit
abbrev Fr:=Nat->O3
def upd (f:Fr)(d:Nat)(v:O3):Fr:=λt=>bif OS t d then v else f t
def ev (f:Fr):O4->O3
 | .tmp t=>f t
 | .const v=>v
 | .global g=>.pointer (some ⟨g,0,none⟩)
 | .func g=>.func (.func g) #[] #[]
def QP (f:Fr):xF->O3->Fr
 | some d,v=>upd f d v
 | none,_=>f
structure Rel (n:Nat)(a:Act)(f:Fr):Prop where
 size:a.tmps.size=n
 defers:a.defers=[]
 get:∀t,a.tmps.getD t undef=f t
theorem X1 (f:Fr)(d:Nat)(v:O3):upd f d v d=v:=by simp[upd]
theorem J6 (f:Fr){d:Nat}(v:O3)(h:t≠d):upd f d v t=f t:=by
 have:OS t d=false:=by
  cases e:OS t d with
  | false=>rfl
  | true=>exact OX (Nat.eq_of_beq_eq_true e) h
 simp[upd,this]
theorem Rel.eval {n:Nat}{a:Act}{f:Fr}(h:Rel n a f):a.eval=ev f:=by
 funext x;cases x with
 | tmp t=>exact h.get t
 | _=>rfl
theorem Rel.put {n:Nat}{a:Act}{f:Fr}(h:Rel n a f){dst:xF}(hd:∀d,dst=some d->d<n)(v:O3):Rel n (a.put dst v) (QP f dst v):=by
 cases dst with
 | none=>exact h
 | some d =>
  have E:d<a.tmps.size:=by rw[h.size];exact hd d O
  refine⟨by simp[Act.put,h.size],h.defers,λt=>?_⟩;by_cases e:t=d
  ·subst e;rw[QP,X1];simp[Act.put,E]
  rw[QP,J6 _ _ e,<-h.get t];simp[Act.put,Array.getElem?_setIfInBounds_ne (Ne.symm e)]
def Yn (l:xE)(t:Nat):Bool:=l.any λo=>match o.dst with|some d=>OS d t|none=>false
def wrs:Code->Nat->Bool
 | .region _ ops _,t=>Yn ops.toList t
 | .seq a b,t=>wrs a t || wrs b t
 | .cond _ a b,t=>wrs a t || wrs b t
 | .block _ a,t=>wrs a t
 | .loop a,t=>wrs a t
 | .skip,_| .exit _,_| .label _,_| .goto _,_| .ret,_=>false
 | _,_=>true
def J8 (D:xw)(t:Nat):Bool:=match D with
 | []=>false
 | (lo,hi)::D=>bif (Nat.ble lo t && Nat.ble t hi) then true else J8 D t
def inD (D:xw)(d:xF):Bool:=match d with|none=>true|some d=>J8 D d
def Qfn (D:xw)(l:xE):Bool:=l.all λo=>inD D o.dst
def wr (D:xw):Code->Bool
 | .region _ ops _=>Qfn D ops.toList
 | .seq a b=>wr D a && wr D b
 | .cond _ a b=>wr D a && wr D b
 | .block _ a=>wr D a
 | .loop a=>wr D a
 | .skip| .exit _| .label _| .goto _| .ret=>true
 | _=>false
theorem jC {D:xw}{l:xE}(h:Qfn D l=true)(ht:J8 D t=false):Yn l t=false:=by
 unfold Qfn at h;unfold Yn;rw[List.any_eq_false];intro o G;have E:=Mh.1 h o G;cases hd:o.dst with
 | none=>simp
 | some d =>
  rw[hd]at E;simp only[inD]at E;intro e;have:=Nat.eq_of_beq_eq_true e;subst this;rw[E]at ht;cases ht
theorem KY {D:xw}{t:Nat}(ht:J8 D t=false):∀c:Code,wr D c=true->wrs c t=false
 | .region _ ops _,h=>jC h ht
 | .seq a b,h=>by simp only[wr,oI]at h;simp[wrs,KY ht a h.1,KY ht b h.2]
 | .cond _ a b,h=>by simp only[wr,oI]at h;simp[wrs,KY ht a h.1,KY ht b h.2]
 | .block _ a,h=>KY ht a (by simpa[wr]using h)
 | .loop a,h=>KY ht a (by simpa[wr]using h)
 | .skip,_=>rfl
 | .exit _,_=>rfl
 | .label _,_=>rfl
 | .goto _,_=>rfl
 | .ret,_=>rfl
 | .rangeFunc ..,h=>by simp[wr]at h
 | .scope _,h=>by simp[wr]at h
 | .refuse _,h=>by simp[wr]at h
def mix (D:xw)(f g:Fr):Fr:=λt=>bif J8 D t then g t else f t
theorem Vb {D:xw}{f g:Fr}(h:∀t,J8 D t=false->g t=f t):mix D f g=g:=by
 funext t;unfold mix;cases e:J8 D t with
 | false=>exact(h t e).symm
 | true=>rfl
def VR (S:List (Nat×O3))(f:Fr):Fr:=match S with
 | []=>f
 | (t,v)::S=>upd (VR S f) t v
def Xa (f:Fr):List (Nat×O3)->Prop
 | []=>True
 | (t,v)::S=>f t=v/\Xa f S
theorem XG {f:Fr}:∀{S:List (Nat×O3)},Xa f S->VR S f=f
 | [],_=>rfl
 | (t,v)::S,h=>by
  funext s;simp only[VR,XG h.2];by_cases e:s=t
  ·subst e;rw[X1];exact h.1.symm
  exact J6 _ _ e
def W (P:O5)(n:Nat)(c:Code)(Q:Exit->Fr->O2->Prop)(f:Fr)(w:O2):Prop :=
 ∀a,Rel n a f->c.wp P (λe E w'=>∃f',Rel n E f'/\(∀t,wrs c t=false->f' t=f t)/\Q e f' w') a w
def thn (K:Fr->O2->Prop)(Q:Exit->Fr->O2->Prop):Exit->Fr->O2->Prop
 | .normal,f,w=>K f w
 | e,f,w=>Q e f w
def blk (id:Nat)(Q:Exit->Fr->O2->Prop):Exit->Fr->O2->Prop
 | .exit i,f,w=>bif OS i id then Q .normal f w else Q (.exit i) f w
 | e,f,w=>Q e f w
section
variable {Q:Exit->Fr->O2->Prop}{f:Fr}
theorem W.S {c:Code}{Q':Exit->Fr->O2->Prop}(h:W P n c Q f w)(E:∀e f w,Q e f w->Q' e f w):W P n c Q' f w :=
 λa G=>wp_mono (h a G) λ_ _ _ ⟨I,J,T,U⟩=>⟨I,J,T,E _ _ _ U⟩
theorem W.keeps {c:Code}(h:W P n c Q f w):W P n c (λe E w'=>(∀t,wrs c t=false->E t=f t)/\Q e E w') f w :=
 λa I=>wp_mono (h a I) λ_ _ _ ⟨E,J,G,T⟩=>⟨E,J,G,G,T⟩
theorem Qf (h:Q .normal f w):W P n .skip Q f w:=λ_ E=>wp_skip ⟨f,E,λ_ _=>O,h⟩
theorem Qt (h:Q (.exit i) f w):W P n (.exit i) Q f w:=λ_ E=>wp_exit ⟨f,E,λ_ _=>O,h⟩
theorem Qj (h:Q .ret f w):W P n .ret Q f w:=λ_ E=>wp_ret ⟨f,E,λ_ _=>O,h⟩
theorem Qd {x y:Code}(h:W P n x (thn (λf w=>W P n y Q f w) Q) f w):W P n (.seq x y) Q f w:=by
 intro a J;refine wp_seq (wp_mono (h a J) ?_);rintro e T w' ⟨E,G,U,I⟩;have k1:∀t,wrs (.seq x y) t=false->E t=f t:=λt ht=>U t (by simp only[wrs,oY]at ht;exact ht.1);cases e with
 | normal =>
  refine wp_mono (I T G) λ_ _ _ ⟨V,g1,Y,g3⟩=>⟨V,g1,λt ht=>(Y t ?_).D (k1 t ht),g3⟩;simp only[wrs,oY]at ht;exact ht.2
 | exit id=>exact⟨E,G,k1,I⟩
 | goto l=>exact⟨E,G,k1,I⟩
 | ret=>exact⟨E,G,k1,I⟩
 | panic ch=>exact⟨E,G,k1,I⟩
 | outgrown=>exact⟨E,G,k1,I⟩
theorem QW {x y:Code}(D:xw)(S:α->List (Nat×O3))(I:α->O2->Prop)(hD:wr D x=true)
  (T:W P n x (thn (λG w'=>∃z,Xa G (S z)/\I z w') Q) f w)
  (U:∀z g w',I z w'->W P n y Q (VR (S z) (mix D f g)) w'):W P n (.seq x y) Q f w:=by
 refine Qd (T.keeps.S ?_);rintro e G w' ⟨V,E⟩;cases e with
 | normal =>
  obtain⟨z,Y,hi⟩:=E;have J:=U z G w' hi;rw[Vb (λt ht=>V t (KY ht x hD)),XG Y]at J;exact J
 | exit id=>exact E
 | goto l=>exact E
 | ret=>exact E
 | panic ch=>exact E
 | outgrown=>exact E
theorem Q6 {c:O4}{x y:Code}{t:Bool}(hc:ev f c=.bool t)(ht:t=true->W P n x Q f w)(G:t=false->W P n y Q f w):
  W P n (.cond c x y) Q f w:=by
 intro a E;have I:a.eval c=.bool t:=by rw[E.eval];exact hc
 refine wp_cond_split I (λe=>wp_mono (ht e a E) ?_) (λe=>wp_mono (G e a E) ?_) <;>
  (rintro e Y w' ⟨J,T,U,V⟩
   refine⟨J,T,λt ht=>U t ?_,V⟩;simp only[wrs,oY]at ht
   first|exact ht.1|exact ht.2)
theorem Zg {c:O4}{x y:Code}{p:Prop}[Decidable p](hc:ev f c=.bool (decide p))(ht:p->W P n x Q f w)(E:¬p->W P n y Q f w):
  W P n (.cond c x y) Q f w :=
 Q6 hc (λe=>ht (OZ e)) (λe=>E (O1 e))
theorem Zp {c:O4}{x y:Code}{p:Prop}[Decidable p](hc:ev f c=.bool (decide p))(E:¬p->W P n y Q f w)(ht:p->W P n x Q f w):
  W P n (.cond c x y) Q f w:=Zg hc ht E
theorem jd {c:O4}{x y:Code}(hc:ev f c=.bool true)(h:W P n x Q f w):W P n (.cond c x y) Q f w:=Q6 hc (λ_=>h) (λe=>by cases e)
theorem Zw {c:O4}{x y:Code}(hc:ev f c=.bool false)(h:W P n y Q f w):W P n (.cond c x y) Q f w:=Q6 hc (λe=>by cases e) (λ_=>h)
theorem Qn {c:Code}(h:W P n c (blk id Q) f w):W P n (.block id c) Q f w:=by
 intro a J;refine wp_block (wp_mono (h a J) ?_);rintro e U w' ⟨G,I,T,E⟩;have k1:∀t,wrs (.block id c) t=false->G t=f t:=λt ht=>T t (by simpa[wrs]using ht);cases e with
 | exit i =>
  simp only[Exit.inBlock];simp only[blk]at E;by_cases hi:i=id
  ·subst hi;simp only[Nat.beq_refl,cond_true]at E;simp only[if_true];exact⟨G,I,k1,E⟩
  have hb:OS i id=false:=by
   cases e:OS i id with
   | false=>rfl
   | true=>exact OX (Nat.eq_of_beq_eq_true e) hi
  rw[hb]at E;rw[OU hi];exact⟨G,I,k1,E⟩
 | normal=>exact⟨G,I,k1,E⟩
 | goto l=>exact⟨G,I,k1,E⟩
 | ret=>exact⟨G,I,k1,E⟩
 | panic ch=>exact⟨G,I,k1,E⟩
 | outgrown=>exact⟨G,I,k1,E⟩
theorem Qqh {c:Code}(D:xw)(S:α->List (Nat×O3))(I:α->O2->Prop)(m:α->Nat)(hD:wr D c=true)(z:α)
  (h0:Xa f (S z)) (hI:I z w)
  (round:∀x g w',I x w'->W P n c (thn (λG V=>∃T,m T<m x/\Xa G (S T)/\I T V) Q) (VR (S x) (mix D f g)) w'):W P n (.loop c) Q f w:=by
 intro a ha;refine wp_loop_ghost (λ(x:α) U w'=>∃G,Rel n U G/\(∀t,wrs c t=false->G t=f t)/\Xa G (S x)/\I x w') m z ⟨f,ha,λ_ _=>O,h0,hI⟩ ?_;rintro x U w' ⟨G,h1,Y,h3,h4⟩;have h5:=round x G w' h4;rw[Vb (λt ht=>Y t (KY ht c hD)),XG h3]at h5;refine wp_mono (h5 U h1) ?_;rintro e he V ⟨E,g1,g2,J⟩;have k1:∀t,wrs c t=false->E t=f t:=λt ht=>(g2 t ht).D (Y t ht);have k2:∀t,wrs (.loop c) t=false->E t=f t:=λt ht=>k1 t (by simpa[wrs]using ht);cases e with
 | normal=>obtain⟨T,hm,hs,hi⟩:=J;exact⟨T,hm,E,g1,k1,hs,hi⟩
 | exit id=>exact⟨E,g1,k2,J⟩
 | goto l=>exact⟨E,g1,k2,J⟩
 | ret=>exact⟨E,g1,k2,J⟩
 | panic ch=>exact⟨E,g1,k2,J⟩
 | outgrown=>exact⟨E,g1,k2,J⟩
 where
 wp_loop_ghost {α:Type} {P:O5} {c:Code} {Q:Exit->Act->O2->Prop} {a:Act} {w:O2} (J:α->Act->O2->Prop) (m:α->Nat) (z:α) (h₀:J z a w)
   (round:∀x a w,J x a w->c.wp P (Exit.then (λa' w'=>∃x',m x'<m x/\J x' a' w') Q) a w):(Code.loop c).wp P Q a w:=by
  intro b k cs
  have key:∀i x a w,m x=i->J x a w ->
    ∃e a' w',Q e a' w'/\Arrives P (lone (b.at a (.code c::.inLoop c::k)) cs w) b k cs e a' w':=by
   intro i
   induction i using Nat.strongRecOn with
   | _ i ih =>
    intro x a w hx hJ
    obtain⟨e,a₁,w₁,hq,harr⟩:=round x a w hJ b (.inLoop c::k) cs
    cases e with
    | normal =>
     obtain⟨x',hlt,hJ'⟩:=hq
     obtain⟨e₂,a₂,w₂,hq₂,harr₂⟩:=ih (m x') (hx ▸ hlt) x' a₁ w₁ rfl hJ'
     exact⟨e₂,a₂,w₂,hq₂,.of_steps (Steps.trans harr (.one step_inLoop)) harr₂⟩
    | exit id=>exact⟨_,a₁,w₁,hq,.pass (x:=.inLoop c) rfl (λ_ _=>.inl od) harr⟩
    | goto l=>exact⟨_,a₁,w₁,hq,.pass (x:=.inLoop c) rfl (λ_ _=>.inl od) harr⟩
    | ret=>exact⟨_,a₁,w₁,hq,.pass (x:=.inLoop c) rfl (λ_ _=>.inl od) harr⟩
    | panic ch=>exact⟨_,a₁,w₁,hq,.pass (x:=.inLoop c) rfl (λ_ _=>.inl od) harr⟩
    | outgrown=>exact⟨_,a₁,w₁,hq,.pass (x:=.inLoop c) rfl (λ_ _=>.inl od) harr⟩
  obtain⟨e,a',w',hq,harr⟩:=key _ z a w rfl h₀
  exact⟨e,a',w',hq,.of_steps (.one step_loop) harr⟩
end
def upF (P:O5)(dst:xF)(f:Fr)(K:Fr->O2->Prop):Result Next->Prop
 | .ok (.value v) w'=>K (QP f dst v) w'
 | .ok .skip w'=>K (QP f dst undef) w'
 | .ok (.enter g args) w'=>Calls P g args w' λe E=>match e with| .returned v=>K (QP f dst v) E|_=>False
 | _=>False
def XO (P:O5)(o:Oper)(f:Fr)(w:O2)(K:Fr->O2->Prop):Prop:=upF P o.dst f K ((execOp (ev f) o).run P w)
def Z9 (ops:xE)(f:Fr)(o:Oper):Bool:=match o.guard with
 | none=>true
 | some (j,want)=>match (ops[j]?).bind (·.dst) with
  | some d=>(match f d with| .bool b=>bif want then b else !b|_=>false)
  | none=>false
def XL (P:O5)(ops:xE)(K:Fr->O2->Prop):xE->Fr->O2->Prop
 | [],f,w=>K f w
 | o::l,f,w=>bif Z9 ops f o then XO P o f w (XL P ops K l) else XL P ops K l (QP f o.dst undef) w
theorem U6 {l:xE}{a:Act}{f:Fr}(h:Rel n a f)(I:∀o∈l,∀d,o.dst=some d->d<n)(o:Oper):Region.wanted o (yielded l.toArray a.tmps)=Z9 l f o:=by
 unfold Region.wanted Z9;cases o.guard with
 | none=>rfl
 | some p =>
  obtain⟨j,want⟩:=p;simp only[yielded,oR];cases J:(l[j]?) with
  | none=>simp
  | some o' =>
   cases hd:o'.dst with
   | none=>simp[hd]
   | some d =>
    have E:d<a.tmps.size:=by rw[h.size];exact I o' (Mt J) d hd
    have G:=h.get d;simp only[Option.bind_some,hd,Array.getElem?_eq_getElem E];simp[E]at G;rw[G];cases f d <;> simp
    cases want <;> simp
theorem Qoq {o:Oper}{a:Act}{f:Fr}{K:Fr->O2->Prop}{K':Act->O2->Prop}{Q:Exit->Act->O2->Prop}(h:Rel n a f)
  (hK:∀v w',K (QP f o.dst v) w'->K' (a.put o.dst v) w') (hx:XO P o f w K):o.wp P a w K' Q:=by
 unfold XO at hx;unfold Oper.wp;rw[h.eval];generalize (execOp (ev f) o).run P w=r at hx;cases r with
 | ok nx w' =>
  cases nx <;> simp only[upF]at hx <;> simp only[Oper.upon]
  case value v=>exact hK v w' hx
  case skip=>exact hK _ w' hx
  case enter g args =>
   refine Calls.mono hx λe G E=>?_;cases e with
   | returned v=>exact hK v G E
   | panicked c=>exact E.elim
   | outgrown=>exact E.elim
 | halt x w'=>exact hx.elim
theorem XO.S {P:O5}{o:Oper}{f:Fr}{w:O2}{K K':Fr->O2->Prop}(hK:∀v w',K (QP f o.dst v) w'->K' (QP f o.dst v) w')(hx:XO P o f w K):XO P o f w K':=by
 unfold XO at *;generalize (execOp (ev f) o).run P w=r at *;cases r with
 | ok nx w' =>
  cases nx <;> simp only[upF]at hx ⊢
  case value v=>exact hK v w' hx
  case skip=>exact hK _ w' hx
  case enter g args =>
   refine Calls.mono hx λe G E=>?_;cases e with
   | returned v=>exact hK v G E
   | panicked c=>exact E.elim
   | outgrown=>exact E.elim
 | halt x w'=>exact hx.elim
def Xx (n:Nat)(l:xE):Bool:=l.all λo=>match o.dst with|some d=>Nat.blt d n|none=>true
theorem XN {l:xE}(h:Xx n l=true):∀o∈l,∀d,o.dst=some d->d<n:=by
 intro o E d hd;have:=Mh.1 h o E;simp only[hd,Nat.blt_eq]at this;exact this
theorem Jw {l:xE}{o:Oper}(E:o∈l)(h:Yn l t=false):o.dst≠some t:=by
 intro e;have:=List.any_eq_false.1 h o E;simp[e]at this
theorem Xc {f:Fr}{dst:xF}(h:dst≠some t)(v:O3):QP f dst v t=f t:=by
 cases dst with
 | none=>rfl
 | some d=>exact J6 _ _ (λe=>h (by rw[e]))
section
variable {Q:Exit->Fr->O2->Prop}{f:Fr}
theorem Qor {all:xE}(G:∀o∈all,∀d,o.dst=some d->d<n)(f0:Fr):
  ∀(l:xE) (k:Nat) (a:Act) (f:Fr) (w:O2),(∀j,l[j]?=all[k+j]?)->Rel n a f->(∀t,Yn all t=false->f t=f0 t) ->
   XL P all (λf w=>Q .normal f w) l f w ->
   wpOps P all.toArray (λe V w'=>∃f',Rel n V f'/\(∀t,Yn all t=false->f' t=f0 t)/\Q e f' w') (oO k l.length) a w
 | [],_,a,f,w,_,E,I,h=>⟨f,E,I,h⟩
 | o::l,k,a,f,w,hl,E,I,h=>by
  have T:all[k]?=some o:=by simpa using(hl 0).symm
  have J:o∈all:=Mt T;have ih:=λa f w=>Qor G f0 l (k+1) a f w (λj=>by have:=hl (j+1);simpa[Nat.add_assoc,Nat.add_comm 1 j]using this);have next:∀v,(∀t,Yn all t=false->QP f o.dst v t=f0 t):=λv t ht=>(Xc (Jw J ht) v).D (I t ht);simp only[oQ,Oz,wpOps,oR,T];rw[U6 E G o];simp only[XL]at h;cases U:Z9 all f o with
  | false =>
   rw[U]at h;exact ih _ _ _ (E.put (G o J) _) (next _) h
  | true =>
   rw[U]at h;exact .inl (Qoq E (λv w' hx=>ih _ _ _ (E.put (G o J) v) (next v) hx) h)
theorem Qdz {l:xE}(E:Xx n l=true)(h:XL P l (λf w=>Q .normal f w) l f w):W P n (.region id l.toArray false) Q f w:=by
 intro a G;refine wp_region ?_;have:=Qor (XN E) f l 0 a f w od G (λ_ _=>rfl) h;simpa[List.range_eq_range',wrs]using this
end
def jt (o:Oper):Bool:=match o.op with
 | .move _| .assign _| .pick .. | .alloc _| .box .. | .build .. | .buildSlice .. | .store .. | .nilCheck _| .binOp .. | .unOp .. | .makeFunc .. | .makeMap .. | .makeSlice .. | .fieldAddr .. | .field .. | .indexAddr .. | .index .. | .extract .. | .insert .. | .mapUpdate ..=>false
 | .slice ..=>false
 | .call ⟨.builtin .append,_,_⟩=>false
 | .call ⟨.builtin .min,_,_⟩=>false
 | .call ⟨.builtin .max,_,_⟩=>false
 | .call ⟨.builtin .len,_,_⟩=>false
 | .call ⟨.value _,_,_⟩=>false
 | _=>true
def Vd (all:xE)(j:Nat):Bool:=match all[j]? with
 | none=>false
 | some o=>(oJ all.length).all λi=>match all[i]? with
  | none=>true
  | some oi=>!jt oi || i == j || o.after.any λe=>Region.binds .any e && e.on == i
def XA (P:O5)(all:xE)(C:xA)(K:Fr->O2->Prop):Nat->Array Bool->Fr->O2->Prop
 | 0,ls,f,w=>Region.ready .any all.toArray ls=[]/\K f w
 | k+1,ls,f,w=>(Region.ready .any all.toArray ls=[]->K f w) /\
  ∀i∈Region.ready .any all.toArray ls,∀o,all[i]?=some o ->
   bif Z9 all f o then XO P o f w (λE w'=>(Vd all i=true\/w'=w\/C w')/\XA P all C K k (ls.setIfInBounds i true) E w') else XA P all C K k (ls.setIfInBounds i true) (QP f o.dst undef) w
section
variable {f:Fr}{all:xE}{C:xA}{K:Fr->O2->Prop}
theorem QgK {Q:Exit->Act->O2->Prop}(G:∀o∈all,∀d,o.dst=some d->d<n)(f0:Fr)
  (I:∀a f w,Rel n a f->(∀t,Yn all t=false->f t=f0 t)->K f w->Q .normal a w):
  ∀(k:Nat) (ls:Array Bool) (a:Act) (f:Fr) (w:O2),Rel n a f->(∀t,Yn all t=false->f t=f0 t)->XA P all C K k ls f w->wpAny P .any all.toArray Q k ls a w
 | 0,_,a,f,w,E,J,h=>⟨h.1,I a f w E J h.2⟩
 | k+1,ls,a,f,w,E,J,h=>by
  refine⟨λh0=>I a f w E J (h.1 h0),λi hi=>?_⟩;unfold wpOp;simp only[oR];cases U:all[i]? with
  | none =>
   exfalso;obtain⟨_,o,ha,_⟩:=mem_ready.1 hi;simp[U]at ha
  | some o =>
   have V:o∈all:=Mt U;have T:=h.2 i hi o U;have next:∀v,(∀t,Yn all t=false->QP f o.dst v t=f0 t):=λv t ht=>(Xc (Jw V ht) v).D (J t ht);simp only[];rw[U6 E G o];cases Y:Z9 all f o with
   | false =>
    rw[Y]at T;exact QgK G f0 I k _ _ _ _ (E.put (G o V) _) (next _) T
   | true =>
    rw[Y]at T;exact .inl (Qoq E (λv w' hx=>QgK G f0 I k _ _ _ _ (E.put (G o V) v) (next v) hx.2) T)
theorem qm (f:Fr){x y:xF}(v u:O3)(h:∀d,x=some d->y≠some d):QP (QP f x v) y u=QP (QP f y u) x v:=by
 cases x with
 | none=>rfl
 | some d =>
  cases y with
  | none=>rfl
  | some e =>
   have I:d≠e:=λJ=>h d O (J ▸ O);funext t;simp only[QP];by_cases E:t=d
   ·subst E;rw[J6 _ _ I,X1,X1]
   by_cases G:t=e
   ·subst G;rw[X1,J6 _ _ E,X1]
   rw[J6 _ _ G,J6 _ _ E,J6 _ _ E,J6 _ _ G]
theorem Qnu {f:Fr}{dst:xF}{v:O3}{x:O4}(h:∀d,dst=some d->x≠.tmp d):ev (QP f dst v) x=ev f x:=by
 cases dst with
 | none=>rfl
 | some d =>
  cases x with
  | tmp t=>exact J6 _ _ (λe=>h d O (by rw[e]))
  | _=>rfl
theorem JX {o:Oper}(E:∀cs b,o.op≠.select cs b)(f:Fr)(dst:xF)(v:O3)(h:∀d,dst=some d->d∉o.looksAt all.toArray):
  execOp (ev (QP f dst v)) o=execOp (ev f) o :=
 execOp_congr o E λx hx=>Qnu λd hd G=>h d hd (by
  subst G;exact LG _ (MF.2 ⟨.tmp d,ou hx,rfl⟩))
theorem UL (o:Oper)(f:Fr)(dst:xF)(v:O3)(h:∀d,dst=some d->d∉o.looksAt all.toArray):Z9 all (QP f dst v) o=Z9 all f o:=by
 unfold Z9;cases E:o.guard with
 | none=>rfl
 | some gw =>
  obtain⟨g,want⟩:=gw;simp only[];cases ht:(all[g]?).bind (·.dst) with
  | none=>rfl
  | some t =>
   have G:dst≠some t:=λe=>h t e (by simp[Oper.looksAt,E,ht]);simp only[];rw[Xc G]
def QgO (P:O5)(all:xE)(D:xA)(o:Oper)(v:O3)(f:Fr):Prop :=
 (Z9 all f o=true/\∀w,D w->(execOp (ev f) o).run P w=.ok (.value v) w)\/(Z9 all f o=false/\v=undef)
theorem QmX {oi oj:Oper}(hi:all[i]?=some oi)(G:all[j]?=some oj)(I:jt oi=true)(J:j≠i)(hl:Vd all j=true)(T:∀e∈oj.after,Region.binds .any e=true->e.on≠i):False:=by
 simp only[Vd,G,Ok,List.mem_range]at hl;have U:i<all.length:=(Mm.1 hi).1;have E:=hl i U;simp only[hi,I,Bool.not_true,Bool.false_or,Bool.or_eq_true,beq_iff_eq,Array.any_eq_true',oI]at E;rcases E with E|⟨e,V,hb,Y⟩
 ·exact J E.symm
 exact T e V hb Y
theorem Kv {oi:Oper}{v:O3}{D:xA}(hi:all[i]?=some oi)(hD:∀w,(jt oi=true->C w)->D w)(ha:∀(j:Nat) (o:Oper) cs b,all[j]?=some o->o.op≠.select cs b):
  ∀(fuel:Nat) (ls:Array Bool) (f:Fr) (w:O2),(jt oi=true->C w) ->
   (∀j oj,all[j]?=some oj->j≠i->ls.getD j true=false->(∀e∈oj.after,Region.binds .any e=true->e.on≠i)->oi.apart all.toArray oj=true) ->
   i∈Region.ready .any all.toArray ls->QgO P all D oi v f ->
   XA P all C K fuel (ls.setIfInBounds i true) (QP f oi.dst v) w->XA P all C K (fuel+1) ls f w:=by
 have hf:∀(fuel:Nat) (ls:Array Bool) (f:Fr) (w:O2),(jt oi=true->C w)->QgO P all D oi v f->XA P all C K fuel (ls.setIfInBounds i true) (QP f oi.dst v) w->∀o,all[i]?=some o ->
   bif Z9 all f o then XO P o f w (λf' w'=>(Vd all i=true\/w'=w\/C w')/\XA P all C K fuel (ls.setIfInBounds i true) f' w') else XA P all C K fuel (ls.setIfInBounds i true) (QP f o.dst undef) w:=by
  intro fuel ls f w hC U H o ho;rw[hi]at ho;cases ho
  rcases U with⟨V,hv⟩|⟨V,rfl⟩
  ·rw[V];simp only[cond_true,XO,hv w (hD w hC),upF];exact⟨.inr (.inl Z),H⟩
  rw[V];exact H
 intro fuel;induction fuel with
 | zero =>
  intro ls f w hC _ J U H;refine⟨λh=>(by rw[h]at J;cases J),λj hj=>?_⟩;by_cases I:j=i
  ·subst I;exact hf _ _ _ _ hC U H
  have:=ready_mono hj I;rw[H.1]at this;cases this
 | succ fuel ih =>
  intro ls f w hC hh J U H;refine⟨λh=>(by rw[h]at J;cases J),λj hj=>?_⟩;by_cases I:j=i
  ·subst I;exact hf _ _ _ _ hC U H
  intro oj Y;have E:=H.2 j (ready_mono hj I) oj Y;obtain⟨hm,G,hn,hw⟩:=mem_ready.1 hj;have hz:G=oj:=by rw[Mi,Y]at hn;exact(Option.some.inj hn).symm
  subst hz;have hp:∀e∈G.after,Region.binds .any e=true->e.on≠i:=λe T hb h2=>by
   have E:=hw e T hb;have h0:=(mem_ready.1 J).1;rw[h2]at E;rcases OM i ls.size with h'|h'
   ·simp[h']at h0 E;rw[h0]at E;cases E
   simp[Array.getElem?_eq_none h']at E
  obtain⟨a1,a2,a3⟩:=Oper.apart_spec (hh j G Y I hm hp);have h3:∀k ok,all[k]?=some ok->k≠i->(ls.setIfInBounds j true).getD k true=false ->
    (∀e∈ok.after,Region.binds .any e=true->e.on≠i)->oi.apart all.toArray ok=true:=λk ok hk h4 hq h5=>by
   refine hh k ok hk h4 ?_ h5;by_cases hs:j=k
   ·subst hs;exact hm
   rw[getD_set_ne true hs]at hq;exact hq
  have keep:∀u,QgO P all D oi v (QP f G.dst u):=λu=>by
   unfold QgO at *;rw[UL oi f G.dst u a3,JX (all:=all) (ha i oi · · hi) f G.dst u a3];exact U
  have dOf:∀w',(Vd all j=true\/w'=w\/C w')->(jt oi=true->C w'):=λw' hl hu=>by
   rcases hl with hl|rfl|hl
   ·exact(QmX hi Y hu I hl hp).elim
   ·exact hC hu
   exact hl
  have go:∀u w',(jt oi=true->C w')->XA P all C K fuel ((ls.setIfInBounds i true).setIfInBounds j true) (QP (QP f oi.dst v) G.dst u) w' ->
    XA P all C K (fuel+1) (ls.setIfInBounds j true) (QP f G.dst u) w':=λu w' h6 hx=>by
   refine ih _ _ _ h6 h3 (ready_mono J (Ne.symm I)) (keep u) ?_;rw[Array.setIfInBounds_comm _ _ I,<-qm f v u a2];exact hx
  rw[UL G f oi.dst v a1]at E;cases V:Z9 all f G with
  | false=>rw[V]at E;exact go _ _ hC E
  | true =>
   rw[V]at E;simp only[cond_true]at E ⊢;unfold XO at *;rw[JX (all:=all) (ha j G · · Y) f oi.dst v a1]at E;generalize (execOp (ev f) G).run P w=r at *;cases r with
   | ok nx w' =>
    cases nx <;> simp only[upF]at E ⊢
    case value u=>exact⟨E.1,go _ _ (dOf _ E.1) E.2⟩
    case skip=>exact⟨E.1,go _ _ (dOf _ E.1) E.2⟩
    case enter g args =>
     refine Calls.mono E λe h7 T=>?_;cases e with
     | returned u=>exact⟨T.1,go _ _ (dOf _ T.1) T.2⟩
     | panicked c=>exact T.elim
     | outgrown=>exact T.elim
   | halt x w'=>exact E.elim
def Xo (all:Array Oper):xu->Array Bool->Bool
 | [],ls=>(Region.ready .any all ls).isEmpty
 | (i,true)::pl,ls=>(Region.ready .any all ls).contains i && Region.free .any all ls i && Xo all pl (ls.setIfInBounds i true)
 | (i,false)::pl,ls=>Region.ready .any all ls == [i] && Xo all pl (ls.setIfInBounds i true)
def yd (all:xE)(pl:xu):Bool:=Region.noSelect all.toArray && pl.length == all.length && Xo all.toArray pl (oP all.length false)
def QR:xE->Nat->Oper
 | [],_=>default
 | o::_,0=>o
 | _::l,i+1=>QR l i
theorem ZG {l:xE}{o:Oper}(h:l[i]?=some o):QR l i=o:=by
 induction l generalizing i with
 | nil=>simp at h
 | cons a l ih=>cases i with
  | zero=>simp at h;subst h;rfl
  | succ i=>exact ih (ou h)
def XP (P:O5)(all:xE)(C:xA)(K:Fr->O2->Prop):xu->Fr->O2->Prop
 | [],f,w=>K f w
 | (i,q)::pl,f,w=>bif Z9 all f (QR all i) then
    (bif q then ∃v,(∀w',(jt (QR all i)=true->C w')->(execOp (ev f) (QR all i)).run P w'=.ok (.value v) w')/\XP P all C K pl (QP f (QR all i).dst v) w
     else XO P (QR all i) f w λE w'=>(Vd all i=true\/w'=w\/C w')/\XP P all C K pl E w')
   else XP P all C K pl (QP f (QR all i).dst undef) w
def Qdw (all:xE)(ls:Array Bool):Prop:=∀i o,all[i]?=some o->jt o=true->ls.getD i false=true
theorem Qdw.set {ls:Array Bool}(h:Qdw all ls)(i:Nat):Qdw all (ls.setIfInBounds i true):=λj o E G=>getD_set_true (h j o E G)
theorem Yq (V:Region.noSelect all.toArray=true):∀(pl:xu) (ls:Array Bool) (f:Fr) (w:O2),ls.size=all.length->(C w\/Qdw all ls)->Xo all.toArray pl ls=true->XP P all C K pl f w ->
  XA P all C K pl.length ls f w
 | [],ls,f,w,_,_,I,h=>⟨by simpa[Xo]using I,h⟩
 | (i,true)::pl,ls,f,w,Y,hC,I,h=>by
  simp only[Xo,oI]at I;obtain⟨⟨T,hf⟩,ha⟩:=I;simp only[XP]at h;have U:i∈Region.ready .any all.toArray ls:=by simpa using T
  cases E:all[i]? with
  | none =>
   exfalso;obtain⟨_,o,h5,_⟩:=mem_ready.1 U;simp[E]at h5
  | some o =>
   rw[ZG E]at h;have hu:∀(j:Nat) (o:Oper) cs b,all[j]?=some o->o.op≠.select cs b:=λj o cs b hj=>Region.noSelect_spec V j o cs b (ou hj);have hw:=λj oj hj=>Region.free_spec (ops:=all.toArray) (md:=.any) (i:=i) (oi:=o) (listed:=ls) (ou E) hf j oj (ou hj);have hy:=(mem_ready.1 U).1;have hz:jt o=true->C w:=λhm=>hC.resolve_right (λhn=>by
    have G:=hn i o E hm;have hq:i<ls.size:=by rw[Y];exact(Mm.1 E).1
    simp[hq]at hy G;rw[hy]at G;cases G)
   have h2:C w\/Qdw all (ls.setIfInBounds i true):=hC.imp id (λh=>h.set i);have hh:(ls.setIfInBounds i true).size=all.length:=by simpa using Y
   cases J:Z9 all f o with
   | false =>
    rw[J]at h;exact Kv (v:=undef) (D:=λw=>jt o=true->C w) E (λ_ h=>h) hu pl.length ls f w hz hw U (.inr ⟨J,O⟩) (Yq V pl _ _ _ hh h2 ha h)
   | true =>
    rw[J]at h;simp only[cond_true]at h;obtain⟨v,hv,hx⟩:=h;exact Kv (v:=v) (D:=λw=>jt o=true->C w) E (λ_ h=>h) hu pl.length ls f w hz hw U (.inl ⟨J,hv⟩) (Yq V pl _ _ _ hh h2 ha hx)
 | (i,false)::pl,ls,f,w,Y,hC,I,h=>by
  simp only[Xo,oI,beq_iff_eq]at I;obtain⟨T,ha⟩:=I;refine⟨λh0=>(by rw[h0]at T;cases T),?_⟩;have U:i∈Region.ready .any all.toArray ls:=by rw[T];simp
  rw[T];intro j hj o E;have:j=i:=by simpa using hj
  subst this;have hh:(ls.setIfInBounds j true).size=all.length:=by simpa using Y
  simp only[XP,ZG E]at h;cases J:Z9 all f o with
  | false=>rw[J]at h;exact Yq V pl _ _ _ hh (hC.imp id (λh=>h.set j)) ha h
  | true =>
   rw[J]at h;simp only[cond_true,cond_false]at h ⊢;refine h.S λv w' hx=>⟨hx.1,Yq V pl _ _ _ hh ?_ ha hx.2⟩;rcases hx.1 with hl|rfl|hc
   ·right;intro k ok hk hm;by_cases h3:k=j
    ·subst h3;have hq:k<ls.size:=by rw[Y];exact(Mm.1 hk).1
     simp[hq]
    simp only[Vd,E,Ok,List.mem_range]at hl;have G:=hl k (Mm.1 hk).1;simp only[hk,hm,Bool.not_true,Bool.false_or,Bool.or_eq_true,beq_iff_eq,Array.any_eq_true',oI]at G;rcases G with G|⟨e,he,hb,h6⟩
    ·exact OX G h3
    obtain⟨_,o',h4,hn⟩:=mem_ready.1 U;have:o'=o:=by rw[Mi,E]at h4;exact(Option.some.inj h4).symm
    subst this;have:=hn e he hb;rw[h6]at this;exact getD_set_true this
   ·exact hC.imp id (λh=>h.set j)
   exact .inl hc
theorem V9 {Q:Exit->Fr->O2->Prop}(C:xA)(pl:xu)(J:P.follows .mixedOrders=true)(T:Xx n all=true)(G:yd all pl=true)
  (hC:C { w with drawn:=w.drawn+1 }) (h:XP P all C (λf w=>Q .normal f w) pl f { w with drawn:=w.drawn+1 }):W P n (.region id all.toArray true) Q f w:=by
 intro a U;simp only[yd,oI,beq_iff_eq]at G;obtain⟨⟨V,hl⟩,G⟩:=G;refine wp_region_any J ?_;have I:=Yq V pl _ _ _ od (.inl hC) G h;rw[hl]at I;have Y:=QgK (n:=n) (Q:=λe a' w'=>∃E,Rel n a' E/\(∀t,Yn all t=false->E t=f t)/\Q e E w') (XN T) f
  (λa E w hr hk hq=>⟨E,hr,hk,hq⟩) _ _ a f _ U (λ_ _=>O) I
 simpa[wrs]using Y
theorem JJ {Q:Exit->Fr->O2->Prop}(C:xA)(G:P.follows .mixedOrders=true)(I:Xx n all=true)
  (h:XA P all C (λf w=>Q .normal f w) all.length (oP all.length false) f { w with drawn:=w.drawn+1 }):W P n (.region id all.toArray true) Q f w:=by
 intro a J;refine wp_region_any G ?_;have T:=QgK (n:=n) (Q:=λe U w'=>∃E,Rel n U E/\(∀t,Yn all t=false->E t=f t)/\Q e E w') (XN I) f
  (λa E w V Y hq=>⟨E,V,Y,hq⟩) _ _ a f _ J (λ_ _=>O) h
 simpa[wrs]using T
end
theorem J2 {all:xE}{C:xA}{K:Fr->O2->Prop}{k:Nat}{ls:Array Bool}{f:Fr}(E:Region.ready .any all.toArray ls=[]->K f w)
  (h:∀i∈Region.ready .any all.toArray ls,∀o,all[i]?=some o ->
   bif Z9 all f o then XO P o f w (λG w'=>(Vd all i=true\/w'=w\/C w')/\XA P all C K k (ls.setIfInBounds i true) G w') else XA P all C K k (ls.setIfInBounds i true) (QP f o.dst undef) w):XA P all C K (k+1) ls f w:=⟨E,h⟩
attribute [irreducible] W XL XP XO XA
theorem sX {α:Type}{x:Option α}{f:α->Bool}(h:x.map f=some true):∃d,x=some d/\f d=true:=by cases x with |none=>cases h |some d=>exact⟨d,rfl,Option.some.inj h⟩
class Sl (P:O5)(t:Nat)(e sz bys:outParam Nat)(z:outParam O3):Prop where
 u:P.underlying t=some (.slice e):=by first|kernel_rfl|decide|rfl|exact sX (by kernel_rfl)
 i:(P.info? e).map (λi=>(i.zero,i.size,i.bytes))=some (some z,sz,bys):=by first|kernel_rfl|decide|rfl|exact sX (by kernel_rfl)
 zs:z.cells.size=sz:=by first|kernel_rfl|decide|rfl|exact sX (by kernel_rfl)
 pos:0<sz:=by first|kernel_rfl|decide|rfl|exact sX (by kernel_rfl)
def Qrv (P:O5)(t j:Nat):xF:=match P.underlying t with
 | some (.struct fs)=>match fs[j]? with
  | some fd=>match P.info? fd.type with
   | some i=>if i.size=0 then none else some fd.offset
   | none=>none
  | none=>none
 | _=>none
class Zb (P:O5)(t j:Nat)(off:outParam Nat):Prop where
 h:Qrv P t j=some off:=by first|kernel_rfl|decide|rfl|exact sX (by kernel_rfl)
class XS (P:O5)(t:Nat):Prop where
 u:∃d,P.underlying t=some d/\(match d with| .struct _| .array ..=>false|_=>true)=true:=by first|kernel_rfl|decide|rfl|exact sX (by kernel_rfl)
 i:(P.info? t).map (·.size)=some 1:=by first|kernel_rfl|decide|rfl|exact sX (by kernel_rfl)
class Ag (P:O5)(t:Nat)(sz:outParam Nat):Prop where
 u:∃d,P.underlying t=some d/\(match d with| .struct _| .array ..=>true|_=>false)=true:=by first|kernel_rfl|decide|rfl|exact sX (by kernel_rfl)
 i:(P.info? t).map (·.size)=some sz:=by first|kernel_rfl|decide|rfl|exact sX (by kernel_rfl)
class Ze (P:O5)(t:Nat)(z:outParam O3):Prop where
 i:(P.info? t).map (·.zero)=some (some z):=by first|kernel_rfl|decide|rfl|exact sX (by kernel_rfl)
class Fu (P:O5)(g:Nat)(fn:outParam Func):Prop where
 f:P.funcs[g]?=some fn
 b:fn.body.isNone=false
 nm:(fn.name == "runtime.NumGoroutine")=false
section
variable {K:Fr->O2->Prop}{f:Fr}
theorem xe (h:K f w):XL P ops K [] f w:=by simp only[XL];exact h
theorem xl {o:Oper}{l:xE}(E:Z9 ops f o=true)(h:XO P o f w (XL P ops K l)):XL P ops K (o::l) f w:=by
 simp only[XL,E,cond_true];exact h
theorem xs {o:Oper}{l:xE}(E:Z9 ops f o=false)(h:XL P ops K l (QP f o.dst undef) w):XL P ops K (o::l) f w:=by
 simp only[XL,E,cond_false];exact h
theorem xv {o:Oper}{v:O3}(E:(execOp (ev f) o).run P w=.ok (.value v) w')(h:K (QP f o.dst v) w'):XO P o f w K:=by
 simp only[XO,E,upF];exact h
theorem xk {o:Oper}(E:(execOp (ev f) o).run P w=.ok .skip w')(h:K (QP f o.dst undef) w'):XO P o f w K:=by
 simp only[XO,E,upF];exact h
theorem x {o:Oper}{l:xE}{v:O3}(E:(execOp (ev f) o).run P w=.ok (.value v) w)(h:XL P ops K l (QP f o.dst v) w)(G:Z9 ops f o=true:=by rfl):XL P ops K (o::l) f w :=
 xl G (xv E h)
theorem xb {o:Oper}{l:xE}{q:Prop}[Decidable q](E:(execOp (ev f) o).run P w=.ok (.value (.bool (decide q))) w)(ht:q->XL P ops K l (QP f o.dst (.bool true)) w)(I:¬q->XL P ops K l (QP f o.dst (.bool false)) w)
  (G:Z9 ops f o=true:=by rfl):XL P ops K (o::l) f w:=by
 by_cases h:q
 ·rw[OY h]at E;exact x E (ht h) G
 rw[O0 h]at E;exact x E (I h) G
variable {C:xA}
theorem pe (h:K f w):XP P ops C K [] f w:=by simp only[XP];exact h
theorem pq {pl:xu}{v:O3}(E:∀w',C w'->(execOp (ev f) (QR ops i)).run P w'=.ok (.value v) w')(h:XP P ops C K pl (QP f (QR ops i).dst v) w)
  (hd:jt (QR ops i)=true:=by rfl) (G:Z9 ops f (QR ops i)=true:=by rfl):XP P ops C K ((i,true)::pl) f w:=by
 simp only[XP,G,cond_true];exact⟨v,λw' hc=>E w' (hc hd),h⟩
theorem p {pl:xu}{v:O3}(E:∀w',(execOp (ev f) (QR ops i)).run P w'=.ok (.value v) w')(h:XP P ops C K pl (QP f (QR ops i).dst v) w)
  (G:Z9 ops f (QR ops i)=true:=by rfl):XP P ops C K ((i,true)::pl) f w:=by
 simp only[XP,G,cond_true];exact⟨v,λw' _=>E w',h⟩
theorem ps {q:Bool}{pl:xu}(h:XP P ops C K pl (QP f (QR ops i).dst undef) w)
  (E:Z9 ops f (QR ops i)=false:=by rfl):XP P ops C K ((i,q)::pl) f w:=by
 simp only[XP,E,cond_false];exact h
theorem pb {pl:xu}{q:Prop}[Decidable q](E:∀w',(execOp (ev f) (QR ops i)).run P w'=.ok (.value (.bool (decide q))) w')(ht:q->XP P ops C K pl (QP f (QR ops i).dst (.bool true)) w)(I:¬q->XP P ops C K pl (QP f (QR ops i).dst (.bool false)) w)
  (G:Z9 ops f (QR ops i)=true:=by rfl):XP P ops C K ((i,true)::pl) f w:=by
 by_cases h:q
 ·rw[OY h]at E;exact p E (ht h) G
 rw[O0 h]at E;exact p E (I h) G
theorem pk {pl:xu}(h:XO P (QR ops i) f w λE w'=>C w'/\XP P ops C K pl E w')
  (G:Z9 ops f (QR ops i)=true:=by rfl):XP P ops C K ((i,false)::pl) f w:=by
 simp only[XP,G,cond_true,cond_false];exact h.S λ_ _ hx=>⟨.inr (.inr hx.1),hx.2⟩
theorem pkl {pl:xu}(h:XO P (QR ops i) f w λE w'=>XP P ops C K pl E w')
  (hl:Vd ops i=true:=by rfl) (G:Z9 ops f (QR ops i)=true:=by rfl):XP P ops C K ((i,false)::pl) f w:=by
 simp only[XP,G,cond_true,cond_false];exact h.S λ_ _ hx=>⟨.inl hl,hx⟩
end
section
variable {f:Fr}
theorem VX {x:O4}:(execOp (ev f) ⟨d,.move x,ty,pS,af,gd⟩).run P w=.ok (.value (ev f x)) w:=by simp[execOp]
theorem Qe {x:O4}:(execOp (ev f) ⟨d,.assign x,ty,pS,af,gd⟩).run P w=.ok (.value (ev f x)) w:=by simp[execOp]
theorem VV {c a b:O4}{t:Bool}(h:ev f c=.bool t):(execOp (ev f) ⟨d,.pick c a b,ty,pS,af,gd⟩).run P w=.ok (.value (bif t then ev f a else ev f b)) w:=by
 cases t <;> simp[execOp,h,asBool]
theorem Q0 {x:O4}{vs:LV}{v:O3}(h:ev f x=.tuple vs.toArray)(E:vs[j]?=some v):(execOp (ev f) ⟨d,.extract x j,ty,pS,af,gd⟩).run P w=.ok (.value v) w:=by
 simp[execOp,h,Instr.extract,E]
theorem Qc7 {op:BinOp}{t:TypeId}{x:O4}{k:IntKind}{a b:Int}:(eqGuard op t x y (.int k a) (.int k' b)).run P w=.ok () w:=by
 simp only[eqGuard];split <;> simp
theorem Kh {op:BinOp}{x:O4}{k:IntKind}{a b:Int}{v:O3}(hx:ev f x=.int k a)(G:ev f y=.int k' b)
  (h:(binOp op t (.int k a) (.int k' b)).run P w=.ok v w):(execOp (ev f) ⟨d,.binOp op t x y E,ty,pS,af,gd⟩).run P w=.ok (.value v) w:=by
 simp[execOp,hx,G,Qc7,h]
def inK (k:IntKind)(n:Int):Prop:=match k with
 | .i64=>-9223372036854775808<=n/\n<=9223372036854775807
 | .u8=>0<=n/\n<=255
 | .u16=>0<=n/\n<=65535
 | .u32=>0<=n/\n<=4294967295
 | .u64=>0<=n/\n<=18446744073709551615
 | .i32=>-2147483648<=n/\n<=2147483647
 | _=>False
theorem XX {k:IntKind}{n:Int}(h:inK k n):k.wrap n=n:=by
 cases k <;> simp only[inK]at h <;> simp only[IntKind.wrap,IntKind.bits,IntKind.signed] <;> first|exact h.elim|(simp;omega)
theorem Xt {x:O4}{k:IntKind}{a b:Int}(hx:ev f x=.int k a)(G:ev f y=.int k b)(h:inK k (a+b)):
  (execOp (ev f) ⟨d,.binOp .add t x y E,ty,pS,af,gd⟩).run P w=.ok (.value (.int k (a+b))) w:=Kh hx G (by simp[binOp,Op.intArith,XX h])
theorem JB {x:O4}{k:IntKind}{a b:Int}(hx:ev f x=.int k a)(G:ev f y=.int k b)(h:inK k (a - b)):
  (execOp (ev f) ⟨d,.binOp .sub t x y E,ty,pS,af,gd⟩).run P w=.ok (.value (.int k (a - b))) w:=Kh hx G (by simp[binOp,Op.intArith,XX h])
theorem QfO {x:O4}{k:IntKind}{a b:Int}(hx:ev f x=.int k a)(G:ev f y=.int k b)(h:inK k (a*b)):
  (execOp (ev f) ⟨d,.binOp .mul t x y E,ty,pS,af,gd⟩).run P w=.ok (.value (.int k (a*b))) w:=Kh hx G (by simp[binOp,Op.intArith,XX h])
theorem YB {x:O4}{k:IntKind}{a b:Int}(hx:ev f x=.int k a)(G:ev f y=.int k b):
  (execOp (ev f) ⟨d,.binOp .lss t x y E,ty,pS,af,gd⟩).run P w=.ok (.value (.bool (decide (a<b)))) w:=Kh hx G (by simp[binOp,Op.intCmp])
theorem X3 {x:O4}{k:IntKind}{a b:Int}(hx:ev f x=.int k a)(G:ev f y=.int k b):
  (execOp (ev f) ⟨d,.binOp .leq t x y E,ty,pS,af,gd⟩).run P w=.ok (.value (.bool (decide (a<=b)))) w:=Kh hx G (by simp[binOp,Op.intCmp])
theorem Z8 {x:O4}{k:IntKind}{a b:Int}(hx:ev f x=.int k a)(G:ev f y=.int k b):
  (execOp (ev f) ⟨d,.binOp .gtr t x y E,ty,pS,af,gd⟩).run P w=.ok (.value (.bool (decide (b<a)))) w:=Kh hx G (by simp[binOp,Op.intCmp])
theorem Yf {x:O4}{k:IntKind}{a b:Int}(hx:ev f x=.int k a)(G:ev f y=.int k b):
  (execOp (ev f) ⟨d,.binOp .geq t x y E,ty,pS,af,gd⟩).run P w=.ok (.value (.bool (decide (b<=a)))) w:=Kh hx G (by simp[binOp,Op.intCmp])
theorem Zc {x:O4}{k:IntKind}{a b:Int}(hx:ev f x=.int k a)(G:ev f y=.int k b):
  (execOp (ev f) ⟨d,.binOp .eql t x y E,ty,pS,af,gd⟩).run P w=.ok (.value (.bool (decide (a=b)))) w :=
 Kh hx G (by simp[binOp,Op.intCmp];by_cases h:a=b <;> simp[h])
theorem Jd {x:O4}{k:IntKind}{a b:Int}(hx:ev f x=.int k a)(G:ev f y=.int k b):
  (execOp (ev f) ⟨d,.binOp .neq t x y E,ty,pS,af,gd⟩).run P w=.ok (.value (.bool (decide (¬a=b)))) w :=
 Kh hx G (by simp[binOp,Op.intCmp];by_cases h:a=b <;> simp[h])
theorem Zj {x:O4}{b:Bool}(hx:ev f x=.bool b):(execOp (ev f) ⟨d,.unOp .not t x,ty,pS,af,gd⟩).run P w=.ok (.value (.bool (!b))) w:=by
 simp[execOp,hx,Op.unary]
theorem Ut {x:O4}{e bys:Nat}[h:Sl P t e sz bys z]{a:Option Addr}{c:Nat}(hx:ev f x=.slice a n c):
  (execOp (ev f) ⟨d,.call ⟨.builtin .len,#[x],#[t]⟩,ty,pS,af,gd⟩).run P w=.ok (.value (sS n)) w:=by
 simp[execOp,resolve,invoke,builtin,Builtin.len_,hx,run_underlying h.u,goInt]
theorem Sl.info {e bys:Nat}(h:Sl P t e sz bys z):∃i,P.info? e=some i/\i.zero=some z/\i.size=sz/\i.bytes=bys:=by
 have:=h.i;cases hi:P.info? e with
 | none=>simp[hi]at this
 | some i=>simp[hi]at this;exact⟨i,O,this.1,this.2.1,this.2.2⟩
theorem XZ {x:O4}{e bys:Nat}[h:Sl P t e sz bys z]{a:Addr}{c:Nat}{k:IntKind}{i:Int}(hx:ev f x=.slice (some a) n c)(E:ev f y=.int k i)(G:0<=i)(I:i<n):
  (execOp (ev f) ⟨d,.indexAddr t x y,ty,pS,af,gd⟩).run P w=.ok (.value (.pointer (some (a.add (i.toNat*sz))))) w:=by
 obtain⟨ii,hi,_,J,_⟩:=Sl.info h;simp[execOp,hx,E,Instr.indexAt,asIntOf,run_underlying h.u,G,I,sizeOf,typeInfo,hi,J]
theorem Qae [h:XS P t]:(isAgg t).run P w=.ok false w:=by
 obtain⟨d,E,hd⟩:=h.u;unfold isAgg;cases d <;> simp at hd <;> simp[run_underlying E]
theorem Qj6 [h:Ag P t sz]:(isAgg t).run P w=.ok true w:=by
 obtain⟨d,E,hd⟩:=h.u;unfold isAgg;cases d <;> simp at hd <;> simp[run_underlying E]
theorem Xn [h:XS P t]{a:Addr}{v:O3}(hc:w.cell? a=some v):(loadVar t a).run P w=.ok v w:=by
 simp[loadVar,Qae,hc]
theorem zY [h:XS P t]:(sizeOf t).run P w=.ok 1 w:=by
 have:=h.i;cases hi:P.info? t with
 | none=>simp[hi]at this
 | some i=>simp[hi]at this;simp[sizeOf,typeInfo,hi,this]
theorem qb [h:Ag P t sz]:(sizeOf t).run P w=.ok sz w:=by
 have:=h.i;cases hi:P.info? t with
 | none=>simp[hi]at this
 | some i=>simp[hi]at this;simp[sizeOf,typeInfo,hi,this]
theorem JV {a:Addr}:∀(vs:LV) (i:Nat) (acc:Array O3),(∀j v,vs[j]?=some v->w.cell? (a.add (i+j))=some v)->(loadCellsFrom a i vs.length acc).run P w=.ok (acc++vs.toArray) w
 | [],_,acc,_=>by simp[loadCellsFrom]
 | v::vs,i,acc,h=>by
  have E:=h 0 v O;simp only[Ox]at E;simp[loadCellsFrom,E,(JV vs (i+1) (acc.push v) (λj u G=>by have:=h (j+1) u (ou G);simpa[Nat.add_assoc,Nat.add_comm 1 j]using this))]
theorem ZQ [h:Ag P t sz]{a:Addr}{vs:LV}(hl:vs.length=sz)(hc:∀j v,vs[j]?=some v->w.cell? (a.add j)=some v):(loadVar t a).run P w=.ok (sT vs) w:=by
 have:=JV (P:=P) (w:=w) (a:=a) vs 0 #[] (ou hc);subst hl;simp[loadVar,Qj6,qb (sz:=vs.length),loadCells,this]
theorem QiW [h:XS P t]{x:O4}{a:Addr}{v:O3}(hx:ev f x=.pointer (some a))(hc:w.cell? a=some v):
  (execOp (ev f) ⟨d,.load t x,ty,pS,af,gd⟩).run P w=.ok (.value v) w:=by
 simp[execOp,hx,Instr.loadAt,Instr.sureAddr,Xn hc]
theorem zv [h:Ag P t sz]{x:O4}{a:Addr}{vs:LV}(hx:ev f x=.pointer (some a))(hl:vs.length=sz)(hc:∀j v,vs[j]?=some v->w.cell? (a.add j)=some v):
  (execOp (ev f) ⟨d,.load t x,ty,pS,af,gd⟩).run P w=.ok (.value (sT vs)) w:=by
 simp[execOp,hx,Instr.loadAt,Instr.sureAddr,ZQ hl hc]
theorem ZF [h:Zb P t j off]{x:O4}{a:Addr}(hx:ev f x=.pointer (some a)):
  (execOp (ev f) ⟨d,.fieldAddr t x j,ty,pS,af,gd⟩).run P w=.ok (.value (.pointer (some (a.add off)))) w:=by
 have E:=h.h;unfold Qrv at E;cases I:P.underlying t with
 | none=>simp[I]at E
 | some dd =>
  cases dd <;> simp[I]at E
  rename_i fs;cases G:fs[j]? with
  | none=>simp[G]at E
  | some fd =>
   cases hi:P.info? fd.type with
   | none=>simp[G,hi]at E
   | some i =>
    simp[G,hi]at E;simp[execOp,hx,Instr.fieldAt,run_underlying I,G,Instr.sureAddr,fieldPlace,sizeOf,typeInfo,hi,E]
theorem VW {x:O4}{a:Addr}(hx:ev f x=.pointer (some a)):(execOp (ev f) ⟨d,.nilCheck x,ty,pS,af,gd⟩).run P w=.ok (.value (.pointer (some a))) w:=by
 simp[execOp,hx]
theorem Zl {fn:Fn}{l l':List O4}:(execOp (ev f) ⟨d,.makeFunc fn l.toArray l'.toArray,ty,pS,af,gd⟩).run P w=.ok (.value (.func fn (l.map (ev f)).toArray (l'.map (ev f)).toArray)) w:=by
 simp[execOp,Instr.makeFunc]
end
def QU (P:O5)(g:Nat)(args:LV)(w:O2)(R:O3->O2->Prop):Prop :=
 Calls P g args.toArray w λe w'=>match e with| .returned v=>R v w'|_=>False
theorem QU.S {P:O5}{g:Nat}{args:LV}{w:O2}{R R':O3->O2->Prop}(h:QU P g args w R)(G:∀v w',R v w'->R' v w'):QU P g args w R' :=
 Calls.mono h λe w' E=>by cases e <;> first|exact G _ _ E|exact E
theorem xc {f:Fr}{K:Fr->O2->Prop}{x:O4}{l:List O4}
    {first capt:LV} [hF:Fu P g fn] (hx:ev f x=.func (.func g) first.toArray capt.toArray) (h:QU P g (first++l.map (ev f)++capt) w λv w'=>K (QP f d v) w'):
  XO P ⟨d,.call ⟨.value x,l.toArray,at_⟩,ty,pS,af,gd⟩ f w K:=by
 have E:(execOp (ev f) ⟨d,.call ⟨.value x,l.toArray,at_⟩,ty,pS,af,gd⟩).run P w=.ok (.enter g (first++l.map (ev f)++capt).toArray) w:=by
  have G:¬fn.name = "runtime.NumGoroutine" := by simpa using hF.nm
  have I:¬fn.body=none:=by have:=hF.b;intro e;rw[e]at this;cases this
  simp[execOp,resolve,hx,Deferred.ofValue,invoke,callFunc,hF.f,G,I]
 simp only[XO,E,upF];exact h
theorem xf {f:Fr}{K:Fr->O2->Prop}{l:List O4}
    [hF:Fu P g fn] (h:QU P g (l.map (ev f)) w λv w'=>K (QP f d v) w'):
  XO P ⟨d,.call ⟨.value (.func g),l.toArray,at_⟩,ty,pS,af,gd⟩ f w K :=
 xc (first:=[]) (capt:=[]) (g:=g) (fn:=fn) O (ou h)
def ent:LV->Fr
 | [],_=>undef
 | v::_,0=>v
 | _::l,t+1=>ent l t
def U2 (P:O5)(f:Fr)(w:O2):List ResultVar->LV->Prop
 | [],[]=>True
 | .tmp t::rs,v::vs=>f t=v/\U2 P f w rs vs
 | .cell a t::rs,v::vs=>(∃ad,f a=.pointer (some ad)/\(loadVar t ad).run P w=.ok v w)/\U2 P f w rs vs
 | _,_=>False
def tup:LV->O3
 | [v]=>v
 | vs=>.tuple vs.toArray
def rq (P:O5)(rs:List ResultVar)(R:O3->O2->Prop):Exit->Fr->O2->Prop
 | .ret,f,w=>∃vs,U2 P f w rs vs/\R (tup vs) w
 | .normal,f,w=>∃vs,U2 P f w rs vs/\R (tup vs) w
 | _,_,_=>False
theorem JU {P:O5}{n:Nat}{a:Act}{f:Fr}{w:O2}(G:Rel n a f)(g:ResultVar->Sem O3)(g1:∀t,g (.tmp t)=pure (a.tmps.getD t undef))
  (I:∀ad t,g (.cell ad t)=(do loadVar t (<-asAddr (a.tmps.getD ad undef)))):∀(rs:List ResultVar) (vs:LV),U2 P f w rs vs->(rs.mapM g).run P w=.ok vs w
 | [],[],_=>od
 | [],_::_,h=>h.elim
 | .tmp t::rs,[],h=>h.elim
 | .cell _ _::rs,[],h=>h.elim
 | .tmp t::rs,v::vs,h=>by
  have ih:=JU G g g1 I rs vs h.2;have E:=G.get t;rw[h.1]at E;simp only[List.mapM_cons,Sem.run_bind,Sem.run_pure,Result.andThen_ok,ih,E,g1]
 | .cell ad t::rs,v::vs,h=>by
  have ih:=JU G g g1 I rs vs h.2;obtain⟨⟨J,T,U⟩,_⟩:=h;have E:=G.get ad;rw[T]at E;have V:(asAddr (.pointer (some J))).run P w=.ok J w:=rfl;simp only[List.mapM_cons,Sem.run_bind,I,E,V,Sem.run_pure,Result.andThen_ok,U,ih]
theorem QU.of_W {c:Code}{args:LV}{R:O3->O2->Prop}{rs:List ResultVar}
  (J:P.funcs[g]?=some fn) (hb:fn.body=some c) (T:fn.ntmps=n) (U:fn.results=rs.toArray) (hl:args.length<=n)
  (h:W P n c (rq P rs R) (ent args) w):QU P g args w R:=by
 unfold W at h;refine calls_of_wp J hb (wp_mono (h _ ?_) ?_)
 ·refine⟨by simp[T];omega,O,λt=>?_⟩;have key:∀(l:LV) (t:Nat),l[t]?.getD undef=ent l t:=by
   intro l;induction l with
   | nil=>intro t;rfl
   | cons v l ih=>intro t;cases t with|zero=>rfl|succ t=>simpa[ent]using ih t
  rw[<-key];simp only[Array.getD_eq_getD_getElem?,Array.getElem?_append,Od,oR];by_cases ht:t<args.length
  ·simp[ht]
  simp[ht,Array.getElem?_replicate];split <;> rfl
 rintro e G w' ⟨V,I,_,E⟩;have fin:(∃vs,U2 P V w' rs vs/\R (tup vs) w')->G.defers=[]/\∃v,(results fn G.tmps).run P w'=.ok v w'/\R v w':=by
  rintro⟨vs,Y,hR⟩;refine⟨I.defers,tup vs,?_,hR⟩;simp only[results,U,List.mapM_toArray,Sem.run_bind,Sem.run_map];rw[JU I _ (λ_=>rfl) (λ_ _=>rfl) rs vs Y];cases vs with
  | nil=>rfl
  | cons v vs=>cases vs with|nil=>rfl|cons u us=>rfl
 cases e with
 | normal=>exact fin E
 | ret=>exact fin E
 | exit id=>exact E.elim
 | goto l=>exact E.elim
 | panic c=>exact E.elim
 | outgrown=>exact E.elim
attribute [irreducible] QU
theorem Jb (f:P.funcs[g]?=some fn)(b:fn.body.isNone=false:=by kernel_rfl)(nm:(fn.name == "runtime.NumGoroutine")=false:=by kernel_rfl):Fu P g fn:=⟨f,b,nm⟩
theorem Qc {f:Fr}{Q:Exit->Fr->O2->Prop}{l:xE}{y:Code}(h:XL P l (λf w=>thn (λf w=>W P n y Q f w) Q .normal f w) l f w)(E:Xx n l=true:=by rfl):W P n (.seq (.region id l.toArray false) y) Q f w:=Qd (Qdz E h)
theorem Qr {f:Fr}{Q:Exit->Fr->O2->Prop}{l:xE}(h:XL P l (λf w=>Q .normal f w) l f w)(E:Xx n l=true:=by rfl):W P n (.region id l.toArray false) Q f w:=Qdz E h
section
variable {K:Fr->O2->Prop}{f:Fr}{l:xE}
theorem Qa (h:XL P ops K l (QP f d (ev f y)) w)(E:Z9 ops f ⟨d,.move y,ty,pS,af,gd⟩=true:=by rfl):XL P ops K (⟨d,.move y,ty,pS,af,gd⟩::l) f w:=x VX h E
theorem QB {I:Nat}{E G:O4}{k:IntKind}{a b:Int}(hx:ev f E=.int k a)(J:ev f G=.int k b)(h:XL P ops K l (QP f d (.int k (a+b))) w)(T:inK k (a+b):=by exact⟨oa,oa⟩)
  (U:Z9 ops f ⟨d,.binOp .add t E G I,ty,pS,af,gd⟩=true:=by rfl):XL P ops K (⟨d,.binOp .add t E G I,ty,pS,af,gd⟩::l) f w:=x (Xt hx J T) h U
theorem Qb (h:K (QP f d (ev f y)) w)(E:Z9 ops f ⟨d,.assign y,ty,pS,af,gd⟩=true:=by rfl):XL P ops K [⟨d,.assign y,ty,pS,af,gd⟩] f w:=x Qe (xe h) E
end
section
variable {C:xA}{K:Fr->O2->Prop}{f:Fr}{l:xE}
theorem Qo {o:Oper}(h:XO P o f w (XL P ops K l))(E:Z9 ops f o=true:=by rfl):XL P ops K (o::l) f w:=xl E h
theorem Kd {o:Oper}(h:XL P ops K l (QP f o.dst undef) w)(E:Z9 ops f o=false:=by rfl):XL P ops K (o::l) f w:=xs E h
theorem QO {E:O4}{vs:LV}{v:O3}(G:ev f E=.tuple vs.toArray)(I:vs[j]?=some v)(h:XL P ops K l (QP f d v) w)(J:Z9 ops f ⟨d,.extract E j,ty,pS,af,gd⟩=true:=by rfl):XL P ops K (⟨d,.extract E j,ty,pS,af,gd⟩::l) f w:=x (Q0 G I) h J
theorem QC {c a b:O4}{t:Bool}(E:ev f c=.bool t)(h:XL P ops K l (QP f d (bif t then ev f a else ev f b)) w)(G:Z9 ops f ⟨d,.pick c a b,ty,pS,af,gd⟩=true:=by rfl):XL P ops K (⟨d,.pick c a b,ty,pS,af,gd⟩::l) f w:=x (VV E) h G
theorem ZN {I:Nat}{E G:O4}{k:IntKind}{a b:Int}(hx:ev f E=.int k a)(J:ev f G=.int k b)(h:XL P ops K l (QP f d (.bool (decide (¬a=b)))) w)(T:Z9 ops f ⟨d,.binOp .neq t E G I,ty,pS,af,gd⟩=true:=by rfl):XL P ops K (⟨d,.binOp .neq t E G I,ty,pS,af,gd⟩::l) f w:=x (Jd hx J) h T
theorem ZW {I:Nat}{E G:O4}{k:IntKind}{a b:Int}(hx:ev f E=.int k a)(J:ev f G=.int k b)(h:XL P ops K l (QP f d (.bool (decide (a<b)))) w)(T:Z9 ops f ⟨d,.binOp .lss t E G I,ty,pS,af,gd⟩=true:=by rfl):XL P ops K (⟨d,.binOp .lss t E G I,ty,pS,af,gd⟩::l) f w:=x (YB hx J) h T
theorem Z7 {E:O4}{a:Addr}(hx:ev f E=.pointer (some a))(h:XL P ops K l (QP f d (.pointer (some a))) w)(G:Z9 ops f ⟨d,.nilCheck E,ty,pS,af,gd⟩=true:=by rfl):XL P ops K (⟨d,.nilCheck E,ty,pS,af,gd⟩::l) f w:=x (VW hx) h G
theorem Zm {c:Code}{args:LV}{R:O3->O2->Prop}{rs:List ResultVar}(E:P.funcs[g]?=some fn)(h:W P n c (rq P rs R) (ent args) w)(hb:fn.body=some c:=by rfl)(G:fn.ntmps=n:=by rfl)(I:fn.results=rs.toArray:=by rfl)(hl:Nat.ble args.length n=true:=by rfl):QU P g args w R:=QU.of_W E hb G I (L6 hl) h
def Xj:Nat->Nat->LN->List (Nat×Bool)
 | _,0,_=>[]
 | i,n+1,fs=>(i,!fs.contains i)::Xj (i+1) n fs
def fuB (P:O5)(g:Nat):Bool:=match P.funcs[g]? with|some fn=>!fn.body.isNone && !(fn.name == "runtime.NumGoroutine")|none=>false
theorem fuE (h:fuB P g=true):∃fn,Fu P g fn:=by
 unfold fuB at h;split at h
 ·next fn E=>simp only[oI,Oe]at h;exact⟨fn,E,h.1,h.2⟩
 cases h
theorem xg {f:Fr}{K:Fr->O2->Prop}{l:List O4}(h:QU P g (l.map (ev f)) w λv w'=>K (QP f d v) w')(E:fuB P g=true:=by kernel_rfl):XO P ⟨d,.call ⟨.value (.func g),l.toArray,at_⟩,ty,pS,af,gd⟩ f w K:=(fuE E).elim λ_ _=>xf h
theorem Qw {l':List O4}(h:QU P g (l'.map (ev f)) w λv w'=>XL P ops K l (QP f d v) w')(E:fuB P g=true:=by kernel_rfl)(G:Z9 ops f ⟨d,.call ⟨.value (.func g),l'.toArray,at_⟩,ty,pS,af,gd⟩=true:=by rfl):XL P ops K (⟨d,.call ⟨.value (.func g),l'.toArray,at_⟩,ty,pS,af,gd⟩::l) f w:=xl G (xg h E)
theorem KX {l':List O4}[Fu P g fn](h:QU P g (l'.map (ev f)) w λv w'=>XL P ops K l (QP f d v) w')(E:Z9 ops f ⟨d,.call ⟨.value (.func g),l'.toArray,at_⟩,ty,pS,af,gd⟩=true:=by rfl):XL P ops K (⟨d,.call ⟨.value (.func g),l'.toArray,at_⟩,ty,pS,af,gd⟩::l) f w:=xl E (xf h)
theorem Qy {E:O4}:∀w',(execOp (ev f) ⟨d,.move E,ty,pS,af,gd⟩).run P w'=.ok (.value (ev f E)) w':=λ_=>VX
theorem ZI {E:O4}:∀w',(execOp (ev f) ⟨d,.assign E,ty,pS,af,gd⟩).run P w'=.ok (.value (ev f E)) w':=λ_=>Qe
theorem YU {c a b:O4}{t:Bool}(h:ev f c=.bool t):∀w',(execOp (ev f) ⟨d,.pick c a b,ty,pS,af,gd⟩).run P w'=.ok (.value (bif t then ev f a else ev f b)) w':=λ_=>VV h
theorem YN {E:O4}{a:Addr}(hx:ev f E=.pointer (some a)):∀w',(execOp (ev f) ⟨d,.nilCheck E,ty,pS,af,gd⟩).run P w'=.ok (.value (.pointer (some a))) w':=λ_=>VW hx
theorem Ql {Q:Exit->Fr->O2->Prop}{c:Code}(h:XL P (⟨d,.move y,ty,pS,af,gd⟩::l) (λf w=>thn (λf w=>W P n c Q f w) Q .normal f w) l (QP f d (ev f y)) w)(E:Z9 (⟨d,.move y,ty,pS,af,gd⟩::l) f ⟨d,.move y,ty,pS,af,gd⟩=true:=by rfl)(G:Xx n (⟨d,.move y,ty,pS,af,gd⟩::l)=true:=by rfl):W P n (.seq (.region id (⟨d,.move y,ty,pS,af,gd⟩::l).toArray false) c) Q f w:=Qc (Qa h E) G
theorem Zk {Q:Exit->Fr->O2->Prop}{I:Nat}{E G:O4}{k:IntKind}{a b:Int}{J T c3:Code}(hx:ev f E=.int k a)(U:ev f G=.int k b)(V:¬a<b->W P n T (thn (λf w=>W P n c3 Q f w) Q) (QP f (some j) (.bool (decide (a<b)))) w)(Y:a<b->W P n J (thn (λf w=>W P n c3 Q f w) Q) (QP f (some j) (.bool (decide (a<b)))) w)(hg:Z9 [⟨some j,.binOp .lss t E G I,ty,pS,af,gd⟩] f ⟨some j,.binOp .lss t E G I,ty,pS,af,gd⟩=true:=by rfl)(hn:Xx n [⟨some j,.binOp .lss t E G I,ty,pS,af,gd⟩]=true:=by rfl):W P n (.seq (.region id #[⟨some j,.binOp .lss t E G I,ty,pS,af,gd⟩] false) (.seq (.cond (.tmp j) J T) c3)) Q f w:=Qc (ZW hx U (xe (Qd (Zp (by simp[ev,QP,upd]) V Y))) hg) hn
theorem YP {o o2:Oper}(h:XL P ops K l (QP (QP f o.dst undef) o2.dst undef) w)(E:Z9 ops (QP f o.dst undef) o2=false:=by rfl)(G:Z9 ops f o=false:=by rfl):XL P ops K (o::o2::l) f w:=Kd (Kd h E) G
theorem ZA {o o2 o3:Oper}(h:XL P ops K l (QP (QP (QP f o.dst undef) o2.dst undef) o3.dst undef) w)(E:Z9 ops (QP (QP f o.dst undef) o2.dst undef) o3=false:=by rfl)(G:Z9 ops (QP f o.dst undef) o2=false:=by rfl)(I:Z9 ops f o=false:=by rfl):XL P ops K (o::o2::o3::l) f w:=Kd (YP h E G) I
theorem pkk {pl:xu}(h:XO P (QR ops i) f w λE w'=>XP P ops C K pl E w')(hl:Vd ops i=true:=by kernel_rfl)(G:Z9 ops f (QR ops i)=true:=by rfl):XP P ops C K ((i,false)::pl) f w:=pkl h hl G
theorem QX {Q:Exit->Fr->O2->Prop}{c:Code}(D:xw)(S:α->List (Nat×O3))(I:α->O2->Prop)(m:α->Nat)(z:α)(E:Xa f (S z))(hI:I z w)(round:∀x g w',I x w'->W P n c (thn (λG J=>∃x',m x'<m x/\Xa G (S x')/\I x' J) (blk id Q)) (VR (S x) (mix D f g)) w')(hD:wr D c=true:=by rfl):W P n (.block id (.loop c)) Q f w:=Qn (Qqh D S I m hD z E hI round)
end
structure O6 (L:LN)(w w':O2):Prop where
 os:w'.os=w.os
 tape:w'.tape=w.tape
 output:w'.output=w.output
 size:w.heap.size<=↑w'
 block:∀k,k<↑w->k∉L->w'.heap[k]?=w.heap[k]?
abbrev sW (w w':World):Prop:=O6 [] w w'
theorem O6.Y (L:LN)(w:O2):O6 L w w:=⟨rfl,rfl,rfl,Lp _,λ_ _ _=>rfl⟩
theorem O6.X (L:LN)(w:O2):O6 L w { w with drawn:=w.drawn+1 }:=⟨rfl,rfl,rfl,Lp _,λ_ _ _=>rfl⟩
theorem O6.S {L L':LN}(h:O6 L w w')(E:∀b∈L,b∈L'):O6 L' w w' :=
 ⟨h.os,h.tape,h.output,h.size,λk G I=>h.block k G (λJ=>I (E k J))⟩
theorem O6.any {L:LN}(h:sW w w'):O6 L w w':=h.S (λ_ hb=>by cases hb)
theorem O6.O {L L':LN}{E:O2}(h:O6 L E w)(k:O6 L' w w')(J:∀b∈L',b∈L\/↑E<=b):O6 L E w' :=
 ⟨k.os.D h.os,k.tape.D h.tape,k.output.D h.output,Lz h.size k.size,λi hi G =>
  (k.block i (LU hi h.size) (λT=>by rcases J i T with I|I;exact G I;omega)).D (h.block i hi G)⟩
theorem O6.D {L:LN}{E:O2}(h:O6 L E w)(k:sW w w'):O6 L E w':=h.O k (λ_ hb=>by cases hb)
theorem O6.V {L:LN}{E:O2}(h:O6 L E w)(k:O6 L w w'):O6 L E w':=h.O k (λ_ hb=>.inl hb)
theorem O6.below (h:sW w w'):Below ↑w w w':=⟨h.os,h.tape,h.output,h.size,λk E=>h.block k E od⟩
theorem O6.of_below (h:Below ↑w w w'):sW w w':=⟨h.os,h.tape,h.output,h.size,λk E _=>h.block k E⟩
theorem O6.of_grown {row:xF}(h:w.grownBy w' row):O6 row.toList w w' :=
 ⟨h.os,h.tape,h.output,h.size,λk E G=>h.block k E (λe=>G (by simp[<-e]))⟩
theorem QbK (w:O2)(o:Obj)(k:Nat)(h:k<↑w):(w.alloc o).heap[k]?=w.heap[k]?:=by
 show(w.heap.push o)[k]?=_;rw[Array.getElem?_push,OU oa]
theorem Vk (w:O2)(o:Obj):(w.alloc o).heap[w.heap.size]?=some o:=by
 show(w.heap.push o)[w.heap.size]?=_;simp
theorem zM (w:O2)(o:Obj):(w.alloc o).heap.size=w.heap.size+1:=by show(w.heap.push o).size=_;simp
theorem O6.alloc (w:O2)(o:Obj):sW w (w.alloc o):=⟨rfl,rfl,rfl,by rw[zM];omega,λk E _=>QbK w o k E⟩
theorem O6.setRow (w:O2)(g:Nat)(cs:Array O3):O6 [g] w (w.setRow g cs):=
 ⟨rfl,rfl,rfl,by simp[World.setRow],λk _ E=>setRow_other w g k cs (λe=>E (by simp[e]))⟩
def cel (H:xC)(a:Addr):Option O3:=match H[a.block]? with
 | some (.cells c _ _)=>if a.spot.isSome then none else c[a.off]?
 | _=>none
theorem Ju (w:O2)(a:Addr):w.cell? a=cel ↑w a:=rfl
structure At (L:LN)(H:xC)(a:Addr)(us:LV):Prop where
 out:∀u∈us,a.block∉L
 lt:∀u∈us,a.block<H.size
 cell:∀j u,us[j]?=some u->cel H (a.add j)=some u
theorem YE (a:Addr)(j:Nat):(a.add j).block=a.block:=by unfold Addr.add;split <;> rfl
theorem Qk7 {L:LN}(h:O6 L w w'){a:Addr}(E:a.block∉L)(hl:a.block<↑w):cel ↑w' a=cel ↑w a:=by
 unfold cel;rw[h.block _ hl E]
theorem At.J {L X:LN}{a:Addr}{us:LV}(h:At L ↑w a us)(G:O6 X w w')(hX:∀b∈X,b∈L):At L ↑w' a us :=
 ⟨h.out,λu E=>LU (h.lt u E) G.size,λj u E=>by
  have I:=Mt E;rw[Qk7 (L:=X) G (by rw[YE];exact λhx=>h.out u I (hX _ hx)) (by rw[YE];exact h.lt u I)];exact h.cell j u E⟩
theorem At.I {L:LN}{a:Addr}{us:LV}(h:At L ↑w a us)(E:sW w w'):At L ↑w' a us:=h.J E (λ_ hb=>by cases hb)
theorem At.st {L:LN}{a:Addr}{us:LV}(h:At L ↑w a us)(E:O6 L w w'):At L ↑w' a us:=h.J E (λ_ hb=>hb)
theorem At.one {L:LN}{a:Addr}{u:O3}(h:At L ↑w a [u]):w.cell? a=some u:=by
 have:=h.cell 0 u O;simp only[Addr.add,if_true]at this;exact this
theorem At.cells {L:LN}{a:Addr}{us:LV}(h:At L ↑w a us):∀j v,us[j]?=some v->w.cell? (a.add j)=some v:=h.cell
theorem Addr.add_add (a:Addr)(i j:Nat):(a.add i).add j=a.add (i+j):=by
 unfold Addr.add;by_cases hi:i=0
 ·subst hi;simp
 by_cases E:j=0
 ·subst E;simp
 simp[hi,E,Nat.add_assoc]
theorem At.fld {L:LN}{H:xC}{a:Addr}{us:LV}(h:At L H a us)(j:Nat)(u:O3)(E:us[j]?=some u):At L H (a.add j) [u]:=
 ⟨λ_ _=>by rw[YE];exact h.out u (Mt E),λ_ _=>by rw[YE];exact h.lt u (Mt E),λi v G=>by
  cases i with
  | zero=>simp at G;subst G;rw[Addr.add_add,M1];exact h.cell j u E
  | succ i=>simp at G⟩
theorem At.up {L L':LN}{H:xC}{a:Addr}{us:LV}(h:At L H a us)(I:∀b∈L',b∈L\/H.size<=b):At L' H a us :=
 ⟨λu E J=>by rcases I _ J with G|G;exact h.out u E G;have:=h.lt u E;omega,h.lt,h.cell⟩
def Zu (L:LN)(H:xC)(v:O3)(n sz:Nat)(cs:LV):Prop :=
 cs.length=n*sz/\n<=1099511627776/\((v=nS/\n=0)\/∃a cap,v=.slice (some a) n cap/\n<=cap/\At L H a cs)
theorem Zu.J {L X:LN}{w w':O2}{v:O3}{n sz:Nat}{cs:LV}(h:Zu L ↑w v n sz cs)(E:O6 X w w')(hX:∀b∈X,b∈L):Zu L ↑w' v n sz cs :=
 ⟨h.1,h.2.1,h.2.2.imp id λ⟨a,cap,G,I,J⟩=>⟨a,cap,G,I,J.J E hX⟩⟩
theorem Zu.I {L:LN}{v:O3}{cs:LV}(h:Zu L ↑w v n sz cs)(E:sW w w'):Zu L ↑w' v n sz cs:=h.J E (λ_ hb=>by cases hb)
theorem Zu.st {L:LN}{v:O3}{cs:LV}(h:Zu L ↑w v n sz cs)(E:O6 L w w'):Zu L ↑w' v n sz cs:=h.J E (λ_ hb=>hb)
theorem Zu.up {L L':LN}{H:xC}{v:O3}{n sz:Nat}{cs:LV}(h:Zu L H v n sz cs)(E:∀b∈L',b∈L\/H.size<=b):Zu L' H v n sz cs :=
 ⟨h.1,h.2.1,h.2.2.imp id λ⟨a,cap,G,I,J⟩=>⟨a,cap,G,I,J.up E⟩⟩
theorem Zu.nil (L:LN)(H:xC)(sz:Nat):Zu L H (nS) 0 sz []:=⟨od,oa,.inl ⟨rfl,rfl⟩⟩
theorem Zu.shape {L:LN}{H:xC}{v:O3}{cs:LV}(h:Zu L H v n sz cs):∃a cap,v=.slice a n cap:=by
 rcases h.2.2 with⟨E,G⟩|⟨a,cap,E,_⟩
 ·exact⟨none,0,by rw[E,G]⟩
 exact⟨some a,cap,E⟩
theorem Zu.one {L:LN}{H:xC}{v:O3}{cs:LV}(h:Zu L H v n sz cs):v.oneCell'=true:=by obtain⟨a,cap,rfl⟩:=h.shape;rfl
theorem Zu.cells {L:LN}{H:xC}{v:O3}{n sz:Nat}{cs:LV}(h:Zu L H v n sz cs):v.cells=#[v]:=by obtain⟨a,cap,rfl⟩:=h.shape;rfl
theorem Zu.le {L:LN}{H:xC}{v:O3}{cs:LV}(h:Zu L H v n sz cs):n<=1099511627776:=h.2.1
theorem Zu.at {L:LN}{H:xC}{v:O3}{n sz:Nat}{cs:LV}(h:Zu L H v n sz cs){i:Nat}(hi:i<n):
  ∃a cap,v=.slice (some a) n cap/\At L H (a.add (i*sz)) ((cs.drop (i*sz)).take sz):=by
 rcases h.2.2 with⟨_,J⟩|⟨a,cap,I,_,G⟩
 ·omega
 refine⟨a,cap,I,λu E=>by rw[YE];exact G.out u (MU (L2 E)),λu E=>by rw[YE];exact G.lt u (MU (L2 E)),λj u E=>?_⟩;rw[Addr.add_add];refine G.cell _ u ?_;rw[LZ]at E;split at E
 ·simpa using E
 cases E
abbrev Qu (L:LN)(H:xC)(v:O3)(l:LI):Prop:=Zu L H v l.length 1 (l.map (.int .i64))
theorem Qu.at {L:LN}{H:xC}{v:O3}{l:LI}(h:Qu L H v l){i:Nat}(hi:i<l.length):
  ∃a cap,v=.slice (some a) l.length cap/\At L H (a.add (i*1)) [sS l[i]]:=by
 obtain⟨a,cap,G,E⟩:=Zu.at h hi;refine⟨a,cap,G,?_⟩;have:((l.map (Value.int .i64)).drop (i*1)).take 1=[sS l[i]]:=by
  rw[OR,Me (ou hi)];simp
 rw[this]at E;exact E
def QK (H:xC)(b T:Nat)(cs:LV):Prop:=H[b]?=some (.cells cs.toArray T (0,0))
theorem QK.lt {H:xC}{b:Nat}{cs:LV}(h:QK H b T cs):b<H.size:=(LO.1 h).1
theorem QK.J {X:LN}{b:Nat}{cs:LV}(h:QK ↑w b T cs)(E:O6 X w w')(hb:b∉X):QK ↑w' b T cs:=by
 unfold QK;rw[E.block b h.lt hb];exact h
theorem QK.I {b:Nat}{cs:LV}(h:QK ↑w b T cs)(E:sW w w'):QK ↑w' b T cs:=h.J E od
theorem QK.cell {H:xC}{b:Nat}{cs:LV}(h:QK H b T cs)(j:Nat):cel H ⟨b,j,none⟩=cs[j]?:=by
 unfold QK at h;simp[cel,h]
theorem Qf9 (b j:Nat):(⟨b,0,none⟩:Addr).add j=⟨b,j,none⟩:=by unfold Addr.add;split <;> simp_all
theorem X5 (b i j:Nat):(⟨b,i,none⟩:Addr).add j=⟨b,i+j,none⟩:=by unfold Addr.add;split <;> simp_all
theorem QK.at {L:LN}{H:xC}{b:Nat}{cs:LV}(h:QK H b T cs)(hb:b∉L):At L H ⟨b,0,none⟩ cs :=
 ⟨λ_ _=>hb,λ_ _=>h.lt,λj u E=>by rw[Qf9,h.cell];exact E⟩
theorem QK.arr {L:LN}{H:xC}{b:Nat}{cs:LV}(h:QK H b T cs)(hb:b∉L){cap:Nat}(hl:cs.length=n*sz)(E:n<=1099511627776)(hc:n<=cap):
  Zu L H (sL b n cap) n sz cs:=⟨hl,E,.inr ⟨_,_,O,hc,h.at hb⟩⟩
def ob:O3->LN
 | .slice (some a) _ _=>[a.block]
 | _=>[]
theorem Qa3 (v:O3):ob v=v.ownBlock.toList:=by
 cases v <;> try rfl
 rename_i a _ _;cases a <;> rfl
theorem Qg {X:LN}{e:Nat}{v:O3}{cs:LV}(h:w.ownsRow base e sz v n cs)(I:O6 X w w')(hX:∀b∈ob v,b∉X):w'.ownsRow base e sz v n cs:=by
 refine⟨h.1,h.2.imp id λ⟨g,cap,cur,E,J,G,T⟩=>⟨g,cap,cur,E,J,?_,T⟩⟩;rw[I.block g (LO.1 G).1 (hX g (by rw[E];simp[ob]))];exact G
theorem Qm {e:Nat}{v:O3}{cs:LV}(h:w.ownsRow base e sz v n cs)(E:sW w w'):w'.ownsRow base e sz v n cs:=Qg h E (λ_ _=>od)
theorem Qi {e:Nat}{v:O3}{cs:LV}(h:w.ownsRow base e sz v n cs):∀b∈ob v,base<=b/\b<w.heap.size:=by
 intro b hb;rcases h.2 with⟨E,_⟩|⟨g,cap,cur,E,G,I,_⟩
 ·subst E;simp[ob]at hb
 subst E;simp[ob]at hb;subst hb;exact⟨G,(LO.1 I).1⟩
theorem Za {base' e:Nat}{v:O3}{cs:LV}(h:w.ownsRow base e sz v n cs)(hb:base'<=base):w.ownsRow base' e sz v n cs :=
 ⟨h.1,h.2.imp id λ⟨g,cap,cur,E,G,I⟩=>⟨g,cap,cur,E,Lz hb G,I⟩⟩
theorem QN {L:LN}{e:Nat}{v:O3}{cs:LV}(h:w.ownsRow base e sz v n cs)(J:n<=1099511627776)(T:∀b∈ob v,b∉L):Zu L ↑w v n sz cs:=by
 refine⟨h.1,J,?_⟩;rcases h.2 with E|⟨g,cap,cur,E,Y,I,U,h5,h6,V⟩
 ·exact .inl E
 refine .inr ⟨_,_,E,U,λ_ _=>T g (by rw[E];simp[ob]),λ_ _=>(LO.1 I).1,λj u G=>?_⟩;rw[Qf9];unfold cel;simp only[I];rw[<-V,LZ]at G;split at G
 ·simpa using G
 cases G
theorem QL (w:O2)(base e sz:Nat):w.ownsRow base e sz (nS) 0 []:=World.ownsRow_nil w base e sz
theorem QK.own {b:Nat}{cs:LV}(h:QK ↑w b T cs)(hl:cs.length=n*sz)(E:n<=1099511627776)(hb:base<=b):w.ownsRow base T sz (sL b n n) n cs :=
 ⟨hl,.inr ⟨b,n,cs.toArray,O,hb,h,Lp _,by simp only[maxLen];omega,by simp[hl],by simp[<-hl]⟩⟩
section
variable {K:Fr->O2->Prop}{f:Fr}{l:xE}
theorem Y1 {x:O4}{e bys:Nat}[Sl P t e E bys z]{L:LN}{cs:LV}{v:O3}{H:xC}(h:Zu L H v n sz cs)(G:ev f x=v):
  (execOp (ev f) ⟨d,.call ⟨.builtin .len,#[x],#[t]⟩,ty,pS,af,gd⟩).run P w=.ok (.value (sS n)) w:=by
 obtain⟨a,cap,I⟩:=h.shape;exact Ut (G.D I)
theorem xi {x:O4}{e bys:Nat}[Sl P t e sz bys z]{L:LN}{cs:LV}{v:O3}{k:IntKind}
  (h:Zu L ↑w v n sz cs) (E:ev f x=v) (G:ev f y=.int k i) (hi:i<n)
  (hK:∀a,At L ↑w a ((cs.drop (i*sz)).take sz)->XL P ops K l (QP f d (.pointer (some a))) w) (I:Z9 ops f ⟨d,.indexAddr t x y,ty,pS,af,gd⟩=true:=by rfl):
  XL P ops K (⟨d,.indexAddr t x y,ty,pS,af,gd⟩::l) f w:=by
 obtain⟨a,cap,J,T⟩:=h.at hi;refine xl I (xv (XZ (E.D J) G oa oa) (hK _ ?_));simpa using T
theorem xii {x:O4}{e bys:Nat}[Sl P t e 1 bys z]{L:LN}{li:LI}{v:O3}{k:IntKind}
  (h:Qu L ↑w v li) (E:ev f x=v) (G:ev f y=.int k i) (hi:i<li.length)
  (hK:∀a,At L ↑w a [sS li[i]]->XL P ops K l (QP f d (.pointer (some a))) w) (I:Z9 ops f ⟨d,.indexAddr t x y,ty,pS,af,gd⟩=true:=by rfl):
  XL P ops K (⟨d,.indexAddr t x y,ty,pS,af,gd⟩::l) f w:=by
 obtain⟨a,cap,J,T⟩:=Qu.at h hi;refine xl I (xv (XZ (E.D J) G oa oa) (hK _ ?_));simpa using T
theorem Qq [XS P t]{x:O4}{a:Addr}{L:LN}{u:O3}(h:At L ↑w a [u])(hx:ev f x=.pointer (some a)):
  (execOp (ev f) ⟨d,.load t x,ty,pS,af,gd⟩).run P w=.ok (.value u) w:=QiW hx h.one
theorem QF [Ag P t sz]{x:O4}{a:Addr}{L:LN}{us:LV}(h:At L ↑w a us)(hx:ev f x=.pointer (some a))(hl:us.length=sz):
  (execOp (ev f) ⟨d,.load t x,ty,pS,af,gd⟩).run P w=.ok (.value (sT us)) w:=zv hx hl h.cells
theorem Qk [XS P t]{x:O4}{b:Nat}{cs:LV}{u:O3}(h:QK ↑w b T cs)(hx:ev f x=.pointer (some ⟨b,j,none⟩))(E:cs[j]?=some u):
  (execOp (ev f) ⟨d,.load t x,ty,pS,af,gd⟩).run P w=.ok (.value u) w:=QiW hx (by rw[Ju,h.cell];exact E)
theorem Zi [Ag P t sz]{x:O4}{b:Nat}{cs:LV}(h:QK ↑w b T cs)(hx:ev f x=sP b)(hl:cs.length=sz):
  (execOp (ev f) ⟨d,.load t x,ty,pS,af,gd⟩).run P w=.ok (.value (sT cs)) w:=zv hx hl (h.at (L:=[]) od).cells
theorem Uu [Zb P t j off]{x:O4}{b o:Nat}(hx:ev f x=.pointer (some ⟨b,o,none⟩)):
  (execOp (ev f) ⟨d,.fieldAddr t x j,ty,pS,af,gd⟩).run P w=.ok (.value (.pointer (some ⟨b,o+off,none⟩))) w:=by
 rw[<-X5];exact ZF hx
end
section
variable {K:Fr->O2->Prop}{f:Fr}
theorem qP {x:O4}{us:LV}(hx:(ev f x).cells=us.toArray)
  (hK:∀b w',sW w w'->↑w<=b->QK ↑w' b t us->K (QP f d (sP b)) w'):XO P ⟨d,.box t x,ty,pS,af,gd⟩ f w K:=by
 have E:(execOp (ev f) ⟨d,.box t x,ty,pS,af,gd⟩).run P w=.ok (.value (.pointer (some ⟨↑w,0,none⟩))) (w.alloc (.cells us.toArray t)):=by
  simp[execOp,Instr.box,newVar,newRow,hx]
 exact xv E (hK _ _ (O6.alloc w _) (Lp _) (Vk w _))
theorem YW [h:Ze P t z]{us:LV}(G:z.cells=us.toArray)
  (hK:∀b w',sW w w'->↑w<=b->QK ↑w' b t us->K (QP f d (sP b)) w'):XO P ⟨d,.alloc t,ty,pS,af,gd⟩ f w K:=by
 have I:(execOp (ev f) ⟨d,.alloc t,ty,pS,af,gd⟩).run P w=.ok (.value (.pointer (some ⟨↑w,0,none⟩))) (w.alloc (.cells us.toArray t)):=by
  have hi:=h.i;cases E:P.info? t with
  | none=>simp[E]at hi
  | some i =>
   simp[E]at hi;simp[execOp,Instr.alloc,newVar,newRow,zeroValue,typeInfo,E,hi,G]
 exact xv I (hK _ _ (O6.alloc w _) (Lp _) (Vk w _))
def zN (sz:Nat):LV->List (LV)->Prop
 | [],[]=>True
 | v::vs,u::us=>v.cells=u.toArray/\u.length=sz/\zN sz vs us
 | _,_=>False
theorem yJ {sz:Nat}:∀(vs:LV) (us:List (LV)) (E:Nat) (pre rest:LV),zN sz vs us->pre.length=E*sz->rest.length=vs.length*sz ->
  Instr.fill (λi=>some (i*sz,sz)) (pre++rest).toArray ((vs.zipIdx E).map λx=>(x.2,x.1))=some (pre++us.flatten).toArray
 | [],[],E,pre,rest,_,_,G=>by
  have:rest=[]:=Ls (ou G);subst this;simp[Instr.fill]
 | [],_::_,_,_,_,h,_,_=>h.elim
 | _::_,[],_,_,_,h,_,_=>h.elim
 | v::vs,u::us,E,pre,rest,h,I,G=>by
  obtain⟨J,T,V⟩:=h;have ha:sz<=rest.length:=by rw[G];simp[Ou]
  have ih:=yJ vs us (E+1) (pre++u) (rest.drop sz) V (by simp[I,T,Ou]) (by simp only[OF,G,oQ,Ou,OL];omega);simp only[List.zipIdx_cons,oS];unfold Instr.fill;have Y:v.cells.size=sz:=by rw[J];simp[T]
  simp only[Y];rw[OU (by simp;omega)];have key:v.cells.zipIdx.foldl (λcs (x:O3×Nat)=>cs.setIfInBounds (E*sz+x.2) x.1) (pre++rest).toArray=(pre++u++rest.drop sz).toArray:=by
   rw[<-Array.foldl_toList,Array.toList_zipIdx,J];obtain⟨g1,g2⟩:=Great.foldl_set (E*sz) u 0 (pre++rest).toArray;apply Array.ext';apply Nr;intro k;simp only[Array.getElem?_toList];rw[(g2 k)];simp only[Ox,Od,oM,oR];split
   ·rename_i hc;rw[LA,Mu oa,LX oa,<-I]
   rename_i hc;by_cases U:k<pre.length
   ·rw[LA,LX U,LX U]
   rw[LA,Mu oa,Mu oa];by_cases he:k<pre.length+sz
   ·exfalso;apply hc;omega
   rw[Mu oa,MN];congr 1;omega
  have hf:=ih;rw[LA pre u]at key;rw[show(v.cells.zipIdx.foldl (λcs (x:O3×Nat)=>cs.setIfInBounds (E*sz+x.2) x.1) (pre++rest).toArray)=(pre++u++rest.drop sz).toArray by rw[key,LA]];rw[ih];simp
theorem jB (f:Fr):∀(ps:List (Nat×O4)) (i:Nat),ps.map (·.1)=oO i ps.length->(ps.map λx=>(x.1,ev f x.2))=((ps.map λx=>ev f x.2).zipIdx i).map λx=>(x.2,x.1)
 | [],_,_=>rfl
 | p::ps,i,h=>by
  simp only[oS,oQ,Oz,List.cons.injEq]at h;simp only[oS,List.zipIdx_cons];rw[jB f ps (i+1) h.2,h.1]
theorem Yo {e bys:Nat}[h:Sl P t e sz bys z]{parts:List (Nat×O4)}{us:List (LV)}(G:parts.map (·.1)=oO 0 n)(I:parts.length=n)(J:0<n)(hs:n*sz<=1000000)
  (hc:zN sz (parts.map λx=>ev f x.2) us)
  (hK:∀b w',sW w w'->↑w<=b->QK ↑w' b e us.flatten->K (QP f d (sL b n n)) w'):XO P ⟨d,.buildSlice t n parts.toArray,ty,pS,af,gd⟩ f w K:=by
 obtain⟨ie,T,U,E,_⟩:=Sl.info h;subst I;have hm:0<parts.length*sz:=Nat.mul_pos J h.pos;have V:Instr.fill (λi=>some (i*ie.size,ie.size)) ((Array.range (parts.length*ie.size)).map (z.cells[· % z.cells.size]!)) (parts.toArray.map λ(i,x)=>(i,ev f x)).toList=some us.flatten.toArray:=by
  rw[E];have:=yJ (parts.map λx=>ev f x.2) us 0 [] ((Array.range (parts.length*sz)).map (z.cells[· % z.cells.size]!)).toList hc od od;simp only[Oo,Array.toArray_toList]at this;rw[<-this,<-jB f parts 0 G];simp
 have Y:(execOp (ev f) ⟨d,.buildSlice t parts.length parts.toArray,ty,pS,af,gd⟩).run P w=.ok (.value (.slice (some ⟨↑w,0,none⟩) parts.length parts.length)) (w.alloc (.cells us.flatten.toArray e)):=by
  have:=run_buildSlice (P:=P) w t e parts.length (parts.toArray.map λ(i,x)=>(i,ev f x)) us.flatten.toArray ie z h.u T U (by rw[E];omega) (by rw[E];omega) V;simp only[execOp,Sem.run_bind,this,Result.andThen_ok,Sem.run_pure]
 exact xv Y (hK _ _ (O6.alloc w _) (Lp _) (Vk w _))
theorem js {e:Nat}{bys:Nat}[h:Sl P t e sz bys z]{v:O3}{cs:LV}(G:w.ownsRow base e sz v n cs)
  {a:Addr} {c:Nat} {news:LV} (hl:news.length=m*sz) (V:∀j u,news[j]?=some u->w.cell? (a.add j)=some u) (h1:∀u∈news,u.oneCell'=true)
  (hb:n+m<=1099511627776) (hu:bys<=128) (hf:base<=↑w):
  ∃v' w',(Builtin.append_ #[t,t] ty #[v,.slice (some a) m c]).run P w=.ok v' w'/\w'.ownsRow base e sz v' (n+m) (cs++news)/\O6 (ob v) w w'/\(∀b∈ob v',b∈ob v\/↑w<=b):=by
 obtain⟨i,hi,hz,J,ha⟩:=Sl.info h;have he:(n+m)*bys<=140737488355328:=Lz (Nc hb hu) oa;have hh:n+m<=maxLen:=by simp only[maxLen];omega
 by_cases hg:∃g cap cur,v=sL g n cap/\w.heap[g]?=some (.cells cur e (0,0))/\n+m<=cap
 ·obtain⟨v',w',U,ho,hv,_⟩:=run_append_own (P:=P) w base t ty e i z sz bys h.u hi hz J ha h.zs h.pos v n cs G a m c news hl V h1 hh he hf;refine⟨v',w',U,ho,by rw[Qa3];exact O6.of_grown hv,?_⟩;obtain⟨g,cap,cur,rfl,hj,T⟩:=hg;rcases G.2 with⟨h2,_⟩|⟨g2,cap2,hp,h2,h3,h4,h5,h6,h7,h8⟩
  ·cases h2
  cases h2
  have hw:n*i.size+news.length<=hp.size:=by rw[hl,h7,J,<-ME];exact MT _ T
  rw[(run_append_room (P:=P) w t ty e i h.u hi g n cap hp h4 a m c news (by rw[J];exact hl) V h1 T hw)]at U;cases U
  intro b E;exact .inl E
 have new:∀(old:Nat),old<n+m->∀I,I=(Obj.cells (cs.toArray++news.toArray++Builtin.zeroCells z.cells (grownCap w (n+m) old e - (n+m))) e) ->
   (w.drew.alloc I).ownsRow base e sz (.slice (some ⟨↑w,0,none⟩) (n+m) (grownCap w (n+m) old e)) (n+m) (cs++news):=by
  intro old ho I hy;subst hy;have hge:=grownCap_ge w (n+m) old e;have hq:grownCap w (n+m) old e<=maxLen:=grownCap_le_maxLen w (n+m) old e hh;have hs:(cs++news).length=(n+m)*sz:=by rw[Lc,G.1,hl,ME]
  refine⟨hs,.inr ⟨↑w,_,_,O,hf,Vk w.drew _,hge,hq,?_,?_⟩⟩
  ·simp only[Array.size_append,Od,size_zeroCells,h.zs,G.1,hl,<-Ou];congr 1;omega
  simp only[Array.toList_append,Of];rw[<-LA,<-hs];exact List.take_left
 have stp:∀I,O6 (ob v) w (w.drew.alloc I):=λI=>⟨O,O,O,by rw[zM];exact Nat.le_succ _,λk hk _=>QbK w.drew I k hk⟩;have fin:∀(b:Nat),b∈ob (.slice (some ⟨↑w,0,none⟩) (n+m) 0)->b∈ob v\/↑w<=b:=λb E=>by simp[ob]at E;omega
 rcases G.2 with⟨rfl,rfl⟩|⟨g,cap,cur,rfl,hB,hj,hC,hq,hD,hE⟩
 ·have hx:cs=[]:=Ls (ou G.1);subst hx;by_cases hm:m=0
  ·subst hm;have Y:news=[]:=Ls (ou hl);subst Y;refine⟨nS,w,?_,QL _ _ _ _,O6.Y _ _,λb E=>by simp[ob]at E⟩;simp[Builtin.append_,run_underlying h.u,sizeOf,typeInfo,hi,Builtin.lenOf,Builtin.firstCells,loadCells,loadCellsFrom]
  have U:=run_append_nil (P:=P) w t ty e i z h.u hi hz a m c news (by rw[J];exact hl) V oa oa (by rw[ha];have h0:=he;simp only[oX]at h0;omega);have Y:=new 0 oa _ O;simp only[oX,Oo,Array.empty_append]at Y ⊢;exact⟨_,_,U,Y,stp _,λb E=>fin b E⟩
 have T:cap<n+m:=by
  rcases OM cap (n+m) with h9|hge
  ·exact h9
  exact OX ⟨g,cap,cur,O,hj,hge⟩ hg
 have hA:∀j u,cs[j]?=some u->w.cell? ((⟨g,0,none⟩:Addr).add j)=some u:=G.cells (g:=g) O;exact⟨_,_,(run_append_grow (P:=P) w t ty e i z h.u hi hz ⟨g,0,none⟩ n cap cs (by rw[J];exact G.1) hA a m c news (by rw[J];exact hl) V T oa (growslice_fits T (by rw[ha];exact he))),new cap T _ O,stp _,λb E=>fin b E⟩
theorem Q2 {e bys:Nat}[h:Sl P t e sz bys z]{s:O4}{v:O3}{cs:LV}(E:w.ownsRow base e sz v n cs)(G:ev f s=v)
  {a:Addr} {c:Nat} {news:LV} (I:ev f y=.slice (some a) m c) (hl:news.length=m*sz) {L:LN} (J:At L ↑w a news) (T:∀u∈news,u.oneCell'=true)
  (hb:n+m<=1099511627776) (U:base<=↑w)
  (hK:∀v' w',w'.ownsRow base e sz v' (n+m) (cs++news)->O6 (ob v) w w'->(∀b∈ob v',b∈ob v\/↑w<=b)->K (QP f d v') w') (V:bys<=128:=by decide):
  XO P ⟨d,.call ⟨.builtin .append,#[s,y],#[t,t]⟩,ty,pS,af,gd⟩ f w K:=by
 obtain⟨v',w',Y,h2,h3,h4⟩:=js (P:=P) (t:=t) (ty:=ty) E hl J.cells T hb V U (c:=c);have ha:(execOp (ev f) ⟨d,.call ⟨.builtin .append,#[s,y],#[t,t]⟩,ty,pS,af,gd⟩).run P w=.ok (.value v') w':=by
  simp[execOp,resolve,invoke,builtin,G,I,Y]
 exact xv ha (hK v' w' h2 h3 h4)
end
def Qqc (P:O5)(t:Nat):Option (LV×LN):=match P.info? t,P.underlying t with
 | some it,some (.struct fs)=>match it.zero,fs.toList.mapM (λf=>(P.info? f.type).bind λi=>if i.size=1 then some f.offset else none) with
  | some (.agg zs),some offs=>some (zs.toList,offs)
  | _,_=>none
 | some it,some (.array n e)=>match it.zero,P.info? e with
  | some (.agg zs),some ie=>if ie.size=1 then some (zs.toList,oJ n) else none
  | _,_=>none
 | _,_=>none
class Bs (P:O5)(t:Nat)(zs:outParam (LV))(offs:outParam (LN)):Prop where
 h:Qqc P t=some (zs,offs):=by first|kernel_rfl|decide|rfl|exact sX (by kernel_rfl)
 b:offs.all (·<zs.length)=true:=by first|kernel_rfl|decide|rfl|exact sX (by kernel_rfl)
def bld (offs:LN)(zs:LV):List (Nat×O3)->LV
 | []=>zs
 | (j,v)::ps=>bld offs (zs.set (offs.getD j 0) v) ps
def Qn1:LV->Prop
 | []=>True
 | v::vs=>v.cells=#[v]/\Qn1 vs
theorem yI {place:Nat->Option (Nat×Nat)}{offs:LN}(G:∀j,j<offs.length->place j=some (offs.getD j 0,1)):∀(ps:List (Nat×O3)) (zs:LV),Qn1 (ps.map (·.2))->ps.all (λp=>p.1<offs.length)=true ->
  (∀o∈offs,o<zs.length)->Instr.fill place zs.toArray ps=some (bld offs zs ps).toArray
 | [],zs,_,_,_=>rfl
 | (j,v)::ps,zs,I,E,J=>by
  simp only[Ob,oI,decide_eq_true_eq]at E;have U:offs.getD j 0<zs.length:=J _ (by simp[oN,oU E.1]);unfold Instr.fill;simp only[(G j E.1)];have hc:v.cells=#[v]:=I.1;simp only[hc];rw[OU (by rw[show(#[v]:Array O3).size=1 from rfl,LY];simp only[ne_eq,not_true,decide_false,Bool.false_or,decide_eq_true_eq];omega)];have:(#[v]:Array O3).zipIdx.foldl (λcs (x:O3×Nat)=>cs.setIfInBounds (offs.getD j 0+x.2) x.1) zs.toArray=(zs.set (offs.getD j 0) v).toArray:=by
   simp[Array.zipIdx]
  rw[this];exact yI G ps _ I.2 E.2 (λo T=>by rw[M0];exact J o T)
theorem Qe0 {zs:LV}{offs:LN}(h:Qqc P t=some (zs,offs))(hb:offs.all (·<zs.length)=true)(ps:List (Nat×O3))(V:Qn1 (ps.map (·.2)))(Y:ps.all (λp=>p.1<offs.length)=true):
  P.built t ps=some (bld offs zs ps).toArray:=by
 have h3:∀o∈offs,o<zs.length:=λo ho=>ou (Mh.1 hb o ho)
 unfold Qqc at h;unfold Program.built;cases hi:P.info? t with
 | none=>simp[hi]at h
 | some it =>
  cases hu:P.underlying t with
  | none=>simp[hi,hu]at h
  | some dd =>
   simp only[hi,hu]at h;cases dd <;> simp only[]at h <;> try (cases h)
   case struct fs =>
    cases E:it.zero with
    | none=>simp[E]at h
    | some z =>
     cases z <;> simp only[E]at h <;> try (cases h)
     rename_i za;cases J:fs.toList.mapM (λf=>(P.info? f.type).bind λi=>if i.size=1 then some f.offset else none) with
     | none=>simp[J]at h
     | some offs' =>
      simp only[J,Option.some.injEq,Prod.mk.injEq]at h;obtain⟨rfl,rfl⟩:=h;have key:∀(l:List Field) (offs:LN),l.mapM (λf=>(P.info? f.type).bind λi=>if i.size=1 then some f.offset else none)=some offs ->
        l.mapM (λf=>(P.info? f.type).map λi=>(f.offset,i.size))=some (offs.map λo=>(o,1)):=by
       intro l;induction l with
       | nil=>intro offs h;simp at h;subst h;rfl
       | cons f l ih =>
        intro offs h;simp only[List.mapM_cons]at h ⊢;cases T:P.info? f.type with
        | none=>simp[T]at h
        | some i =>
         by_cases G:i.size=1
         ·simp only[T,Option.bind_some,G,if_true,Option.bind_eq_bind]at h;cases hl:l.mapM (λf=>(P.info? f.type).bind λi=>if i.size=1 then some f.offset else none) with
          | none=>simp[hl]at h
          | some os =>
           simp[hl]at h;subst h;simp[ih os hl,G]
         simp[T,G]at h
      simp only[E,(key _ _ J),Value.cells];rw[<-yI (place:=λj=>((offs'.map λo=>(o,1)).toArray)[j]?) (λj I=>by simp[oU I,oN]) ps za.toList V Y h3]
   case array n e =>
    cases E:it.zero with
    | none=>simp[E]at h
    | some z =>
     cases z <;> simp only[E]at h <;> try (cases h)
     rename_i za;cases U:P.info? e with
     | none=>simp[U]at h
     | some ie =>
      simp only[U]at h;split at h
      ·rename_i G;simp only[Option.some.injEq,Prod.mk.injEq]at h;obtain⟨rfl,rfl⟩:=h;simp only[E,U,Value.cells];rw[<-yI (place:=λi=>some (i*ie.size,ie.size)) (λj I=>by simp at I;simp[G,oN,I]) ps za.toList V Y h3]
      cases h
theorem QD {f:Fr}{zs:LV}{offs:LN}[h:Bs P t zs offs]{parts:List (Nat×O4)}
  (E:Qn1 (parts.map λx=>ev f x.2)) (G:parts.all (λp=>p.1<offs.length)=true:=by rfl):
  (execOp (ev f) ⟨d,.build t parts.toArray,ty,pS,af,gd⟩).run P w=.ok (.value (.agg (bld offs zs (parts.map λx=>(x.1,ev f x.2))).toArray)) w:=by
 simp only[execOp,Sem.run_bind,(run_build (P:=P) w t (parts.toArray.map λ(i,x)=>(i,ev f x)) _ (by simpa using(Qe0 h.h h.b (parts.map λx=>(x.1,ev f x.2)) (by rw[List.map_map];exact E) (by rw[List.all_map];exact G)))),Result.andThen_ok,Sem.run_pure]
section
variable {K:Fr->O2->Prop}{f:Fr}{l:xE}
theorem Q9 [Zb P t j off]{E:O4}{b o:Nat}(hx:ev f E=.pointer (some ⟨b,o,none⟩))(h:XL P ops K l (QP f d (.pointer (some ⟨b,o+off,none⟩))) w)(G:Z9 ops f ⟨d,.fieldAddr t E j,ty,pS,af,gd⟩=true:=by rfl):XL P ops K (⟨d,.fieldAddr t E j,ty,pS,af,gd⟩::l) f w:=x (Uu hx) h G
theorem ZD [XS P t]{E:O4}{b:Nat}{cs:LV}{u:O3}(G:QK ↑w b T cs)(hx:ev f E=.pointer (some ⟨b,j,none⟩))(I:cs[j]?=some u)(h:XL P ops K l (QP f d u) w)(J:Z9 ops f ⟨d,.load t E,ty,pS,af,gd⟩=true:=by rfl):XL P ops K (⟨d,.load t E,ty,pS,af,gd⟩::l) f w:=x (Qk G hx I) h J
theorem Q3 [Ag P t sz]{E:O4}{b:Nat}{cs:LV}(G:QK ↑w b T cs)(hx:ev f E=sP b)(hl:cs.length=sz)(h:XL P ops K l (QP f d (sT cs)) w)(I:Z9 ops f ⟨d,.load t E,ty,pS,af,gd⟩=true:=by rfl):XL P ops K (⟨d,.load t E,ty,pS,af,gd⟩::l) f w:=x (Zi G hx hl) h I
theorem QG {E:O4}{e bys:Nat}[Sl P t e G bys z]{L:LN}{cs:LV}{v:O3}{H:xC}(hA:Zu L H v n sz cs)(I:ev f E=v)(h:XL P ops K l (QP f d (sS n)) w)(J:Z9 ops f ⟨d,.call ⟨.builtin .len,#[E],#[t]⟩,ty,pS,af,gd⟩=true:=by rfl):XL P ops K (⟨d,.call ⟨.builtin .len,#[E],#[t]⟩,ty,pS,af,gd⟩::l) f w:=x (Y1 hA I) h J
theorem QH [Zb P t j off]{E:O4}{b o:Nat}(hx:ev f E=.pointer (some ⟨b,o,none⟩)):∀w',(execOp (ev f) ⟨d,.fieldAddr t E j,ty,pS,af,gd⟩).run P w'=.ok (.value (.pointer (some ⟨b,o+off,none⟩))) w':=λ_=>Uu hx
theorem Qs [Zb P t j off]{E:O4}{b o:Nat}[XS P G]{d2:xF}{J:Nat}{pS2:String}{U:xD}{V:xt}{I:O4}{cs:LV}{u:O3}(hx:ev f E=.pointer (some ⟨b,o,none⟩))(Y:QK ↑w b T cs)(hy:ev (QP f d (.pointer (some ⟨b,o+off,none⟩))) I=.pointer (some ⟨b,i,none⟩))(hj:cs[i]?=some u)(h:XL P ops K l (QP (QP f d (.pointer (some ⟨b,o+off,none⟩))) d2 u) w)
  (hg:Z9 ops f ⟨d,.fieldAddr t E j,ty,pS,af,gd⟩=true:=by rfl) (ha:Z9 ops (QP f d (.pointer (some ⟨b,o+off,none⟩))) ⟨d2,.load G I,J,pS2,U,V⟩=true:=by rfl):XL P ops K (⟨d,.fieldAddr t E j,ty,pS,af,gd⟩::⟨d2,.load G I,J,pS2,U,V⟩::l) f w:=Q9 hx (ZD Y hy hj h ha) hg
theorem Q8 {e bys:Nat}[Sl P t e sz bys z]{parts:List (Nat×O4)}{K:Fr->O2->Prop}(us:List (LV))(hK:∀b w',sW w w'->↑w<=b->QK ↑w' b e us.flatten->K (QP f d (sL b n n)) w')(E:parts.map (·.1)=oO 0 n:=by rfl)(G:parts.length=n:=by rfl)(I:0<n:=by decide)(J:n*sz<=1000000:=by decide)(hc:zN sz (parts.map λx=>ev f x.2) us:=by first|exact(ov)|exact(oy)):XO P ⟨d,.buildSlice t n parts.toArray,ty,pS,af,gd⟩ f w K:=Yo E G I J hc hK
theorem Zf {E:O4}(us:LV)(hK:∀b w',sW w w'->↑w<=b->QK ↑w' b t us->XL P ops K l (QP f d (sP b)) w')(hx:(ev f E).cells=us.toArray:=by rfl)(G:Z9 ops f ⟨d,.box t E,ty,pS,af,gd⟩=true:=by rfl):XL P ops K (⟨d,.box t E,ty,pS,af,gd⟩::l) f w:=xl G (qP hx hK)
end
section
variable {κ:Type}[DecidableEq κ]
def xh:List (κ×O3)->κ->Option O3
 | [],_=>none
 | (k',v)::m,k=>if k'=k then some v else xh m k
def xj:List (κ×O3)->κ->O3->List (κ×O3)
 | [],k,v=>[(k,v)]
 | (k',v')::m,k,v=>if k'=k then(k',v)::m else(k',v')::xj m k v
theorem Jt (m:List (κ×O3))(k k':κ)(v:O3):xh (xj m k v) k'=if k=k' then some v else xh m k':=by
 induction m with
 | nil=>simp[xh,xj]
 | cons p m ih =>
  obtain⟨q,u⟩:=p;simp only[xj];by_cases h:q=k
  ·subst h;simp[xh];by_cases E:q=k' <;> simp[E]
  simp only[h,if_false,xh,ih];by_cases E:q=k'
  ·subst E;simp[Ne.symm h]
  simp[E]
def fnd (k:κ):List κ->List MapEntry->Nat->Option (Nat×O3)
 | q::ks,e::es,i=>if k=q then some (i,e.val) else fnd k ks es (i+1)
 | _,_,_=>none
end
class Key (P:O5)(kt:Nat){κ:Type}[DecidableEq κ](enc:κ->O3):Prop where
 check:∀(w:O2) (em:Bool) (k:κ),(Instr.checkKey em 10000 kt (enc k)).run P w=.ok () w
 find:∀(w:O2) (k:κ) (ks:List κ) (es:List MapEntry),es.map (·.key)=ks.map enc->(Instr.findKey kt (enc k) es).run P w=.ok (fnd k ks es 0) w
 same:∀k,Instr.sameBits 10000 (enc k) (enc k)=true
abbrev XJ (n:Int):O3:=sS n
abbrev Yp (p:Int×Int):O3:=.agg #[sS p.1,sS p.2]
abbrev XB (s:ByteArray):O3:=.string s
theorem Qm1 (G:P.underlying kt=some (.int .i64)):Key P kt XJ:=by
 refine⟨λw em k=>?_,λw k ks es h=>?_,λk=>by simp[Instr.sameBits]⟩
 ·have hck:∀n,(Instr.checkKey em (n+1) kt (XJ k)).run P w=.ok () w:=λn=>by simp[Instr.checkKey,run_underlying G]
  exact hck 9999
 have key:∀(ks:LI) (es:List MapEntry) (i:Nat),es.map (·.key)=ks.map XJ->Instr.findNow (.int .i64) (XJ k) es i=some (fnd k ks es i):=by
  intro ks;induction ks with
  | nil=>intro es i h;simp at h;subst h;rfl
  | cons q ks ih =>
   intro es i h;cases es with
   | nil=>simp at h
   | cons e es =>
    simp only[oS,List.cons.injEq]at h;simp only[Instr.findNow,h.1,Instr.sameNow,XJ,if_true,fnd];by_cases E:k=q
    ·subst E;simp
    have:(k == q)=false:=by simpa using E
    simp[E,this,(ih es (i+1) h.2)]
 simp[Instr.findKey,run_underlying G,key ks es 0 h]
theorem Qm0 (G:P.underlying kt=some .string):Key P kt XB:=by
 refine⟨λw em k=>?_,λw k ks es h=>?_,λk=>by simp[Instr.sameBits,(MapKept.bytes_beq k k).2 rfl]⟩
 ·have hck:∀n,(Instr.checkKey em (n+1) kt (XB k)).run P w=.ok () w:=λn=>by simp[Instr.checkKey,run_underlying G]
  exact hck 9999
 have key:∀(ks:List ByteArray) (es:List MapEntry) (i:Nat),es.map (·.key)=ks.map XB->Instr.findNow .string (XB k) es i=some (fnd k ks es i):=by
  intro ks;induction ks with
  | nil=>intro es i h;simp at h;subst h;rfl
  | cons q ks ih =>
   intro es i h;cases es with
   | nil=>simp at h
   | cons e es =>
    simp only[oS,List.cons.injEq]at h;simp only[Instr.findNow,h.1,Instr.sameNow,XB,fnd];by_cases E:k=q
    ·subst E;simp[(MapKept.bytes_beq k k).2 rfl]
    have:(k == q)=false:=by
     cases hb:(k == q) with
     | false=>rfl
     | true=>exact OX ((MapKept.bytes_beq k q).1 hb) E
    simp[E,this,(ih es (i+1) h.2)]
 simp[Instr.findKey,run_underlying G,key ks es 0 h]
theorem z6 {e:Nat}(hu:P.underlying kt=some (.array 2 e))(J:P.underlying e=some (.int .i64))(E:(P.info? e).map (·.size)=some 1)(w:O2)(p q:Int×Int):
  (Op.equal kt (Yp p) (Yp q)).run P w=.ok (decide (p=q)) w:=by
 obtain⟨a,b⟩:=p;obtain⟨c,d⟩:=q;cases hi:P.info? e with
 | none=>simp[hi]at E
 | some ie =>
  simp[hi]at E;have T:∀w,(isAgg e).run P w=.ok false w:=λw=>by simp[isAgg,run_underlying J]
  have G:∀(x y:Int) (w:O2),(part e #[sS x,sS y] 0).run P w=.ok (sS x) w:=λx y w=>by simp[part,T]
  have U:∀(x y:Int) (w:O2),(part e #[sS x,sS y] 1).run P w=.ok (sS y) w:=λx y w=>by simp[part,T]
  have I:∀(m:Nat) (x y:Int) (w:O2),(Op.equalIn (m+1) e (sS x) (sS y)).run P w=.ok (x == y) w:=λm x y w=>by simp[Op.equalIn,run_underlying J]
  simp only[Op.equal,Op.maxDepth,Yp];unfold Op.equalIn;simp only[Sem.run_bind,run_underlying hu,Result.andThen_ok,sizeOf,typeInfo,run_program,hi,Sem.run_pure,E];simp only[Std.Legacy.Range.forIn_eq_forIn_range',Std.Legacy.Range.size,ON,Nat.add_sub_cancel,Nat.div_one,Oz,List.range'_zero,List.forIn_cons,List.forIn_nil,Nat.zero_mul,OL,oX];by_cases V:a=c
  ·subst V;by_cases Y:b=d
   ·subst Y;simp[G,U,I]
   simp[G,U,I,Y]
  simp[G,I,V]
theorem QcR {e:Nat}(E:P.underlying kt=some (.array 2 e))(I:P.underlying e=some (.int .i64))(G:(P.info? e).map (·.size)=some 1):Key P kt Yp:=by
 refine⟨λw em k=>?_,λw k ks es h=>?_,λk=>?_⟩
 ·obtain⟨a,b⟩:=k;cases hi:P.info? e with
  | none=>simp[hi]at G
  | some ie =>
   simp[hi]at G;have T:∀w,(isAgg e).run P w=.ok false w:=λw=>by simp[isAgg,run_underlying I]
   have V:∀(x y:Int) (w:O2),(part e #[sS x,sS y] 0).run P w=.ok (sS x) w:=λx y w=>by simp[part,T]
   have Y:∀(x y:Int) (w:O2),(part e #[sS x,sS y] 1).run P w=.ok (sS y) w:=λx y w=>by simp[part,T]
   have hck:∀(m:Nat) (x:Int) (w:O2),(Instr.checkKey em (m+1) e (sS x)).run P w=.ok () w:=λm x w=>by simp[Instr.checkKey,run_underlying I]
   simp only[Yp];unfold Instr.checkKey;simp only[Sem.run_bind,run_underlying E,Result.andThen_ok,sizeOf,typeInfo];simp[Std.Legacy.Range.forIn_eq_forIn_range',Std.Legacy.Range.size,Oz,hi,G,V,Y,hck]
 ·have ha:∀es i,es.map (·.key)=ks.map Yp->Instr.findNow (.array 2 e) (Yp k) es i=none\/es=[]:=by
   intro es i h;cases es with
   | nil=>exact .inr O
   | cons e es=>left;simp[Instr.findNow,Instr.sameNow]
  have ask:∀(ks:xx) (es:List MapEntry) (i:Nat),es.map (·.key)=ks.map Yp->(Instr.findAsking kt (Yp k) es i).run P w=.ok (fnd k ks es i) w:=by
   intro ks;induction ks with
   | nil=>intro es i h;simp at h;subst h;simp[Instr.findAsking,fnd]
   | cons q ks ih =>
    intro es i h;cases es with
    | nil=>simp at h
    | cons e es =>
     simp only[oS,List.cons.injEq]at h;simp only[Instr.findAsking,h.1,Sem.run_bind,z6 E I G,Result.andThen_ok,fnd];by_cases U:k=q
     ·subst U;simp
     simp[U,(ih es (i+1) h.2)]
  rcases ha es 0 h with J|J
  ·simp[Instr.findKey,run_underlying E,J,ask ks es 0 h]
  subst J;have:ks=[]:=by simpa using h.symm
  subst this;simp[Instr.findKey,run_underlying E,Instr.findNow,fnd]
 simp[Instr.sameBits]
class Mp (P:O5)(t:Nat)(kt et:outParam Nat)(z:outParam O3):Prop where
 u:P.underlying t=some (.map kt et):=by first|kernel_rfl|decide|rfl|exact sX (by kernel_rfl)
 z:(P.info? et).map (·.zero)=some (some z):=by first|kernel_rfl|decide|rfl|exact sX (by kernel_rfl)
def ZU {κ:Type}(enc:κ->O3)(H:xC)(b:Nat)(m:List (κ×O3)):Prop :=
 ∃es clock,H[b]?=some (.map es clock)/\es.toList.map (λe=>(e.key,e.val))=m.map (λp=>(enc p.1,p.2))
section
variable {κ:Type}{enc:κ->O3}
theorem ZU.lt {H:xC}{b:Nat}{m:List (κ×O3)}(h:ZU enc H b m):b<H.size:=by
 obtain⟨es,c,E,_⟩:=h;exact(LO.1 E).1
theorem ZU.J {X:LN}{b:Nat}{m:List (κ×O3)}(h:ZU enc ↑w b m)(E:O6 X w w')(hb:b∉X):ZU enc ↑w' b m:=by
 have hl:=h.lt;obtain⟨es,c,G,I⟩:=h;exact⟨es,c,by rw[E.block b hl hb];exact G,I⟩
theorem ZU.I {b:Nat}{m:List (κ×O3)}(h:ZU enc ↑w b m)(E:sW w w'):ZU enc ↑w' b m:=h.J E od
theorem Qbd {m:List (κ×O3)}{es:List MapEntry}(h:es.map (λe=>(e.key,e.val))=m.map (λp=>(enc p.1,p.2))):es.map (·.key)=(m.map (·.1)).map enc:=by
 have:=OW (OT Prod.fst) h;simp only[List.map_map]at this ⊢;exact this
variable [DecidableEq κ]
theorem UN {k:κ}:∀{m:List (κ×O3)}{es:List MapEntry}{i:Nat},es.map (λe=>(e.key,e.val))=m.map (λp=>(enc p.1,p.2))->xh m k=none->fnd k (m.map (·.1)) es i=none
 | [],es,i,h,_=>by simp[fnd]
 | (q,u)::m,[],i,h,_=>by simp at h
 | (q,u)::m,e::es,i,h,E=>by
  simp only[oS,List.cons.injEq]at h;simp only[xh]at E;by_cases G:q=k
  ·simp[G]at E
  simp only[G,if_false]at E;simp only[oS,fnd,Ne.symm G,if_false];exact UN h.2 E
theorem UM {k:κ}{u:O3}:∀{m:List (κ×O3)}{es:List MapEntry}{i:Nat},es.map (λe=>(e.key,e.val))=m.map (λp=>(enc p.1,p.2))->xh m k=some u ->
  ∃j,fnd k (m.map (·.1)) es i=some (i+j,u)/\j<es.length/\(∃e,es[j]?=some e/\e.key=enc k) /\
   ∀v,(es.modify j λe=>{ e with key:=enc k,val:=v }).map (λe=>(e.key,e.val))=(xj m k v).map (λp=>(enc p.1,p.2))
 | [],es,i,_,h=>by simp[xh]at h
 | (q,x)::m,[],i,h,_=>by simp at h
 | (q,x)::m,e::es,i,h,E=>by
  simp only[oS,List.cons.injEq,Prod.mk.injEq]at h;simp only[xh]at E;by_cases G:q=k
  ·subst G;simp at E;subst E;refine⟨0,by simp[fnd,h.1.2],od,⟨e,rfl,h.1.1⟩,λv=>?_⟩;simp[xj,h.2]
  simp only[G,if_false]at E;obtain⟨j,I,V,⟨e',J,T⟩,U⟩:=UM (i:=i+1) h.2 E;refine⟨j+1,?_,by simp;omega,⟨e',ou J,T⟩,λv=>?_⟩
  ·simp only[oS,fnd,Ne.symm G,if_false,I];congr 2;omega
  simp only[xj,G,if_false,List.modify_succ_cons,oS,U v,h.1]
end
section
variable {K:Fr->O2->Prop}{f:Fr}{κ:Type}[DecidableEq κ]
omit [DecidableEq κ] in
theorem Z1 (enc:κ->O3)
  (hK:∀b w',sW w w'->↑w<=b->ZU enc ↑w' b []->K (QP f d (.map (some b))) w'):XO P ⟨d,.makeMap t none,ty,pS,af,gd⟩ f w K:=by
 have E:(execOp (ev f) ⟨d,.makeMap t none,ty,pS,af,gd⟩).run P w=.ok (.value (.map (some ↑w))) (w.alloc (.map #[] 0)):=by
  simp[execOp,Instr.makeMap]
 exact xv E (hK _ _ (O6.alloc w _) (Lp _) ⟨#[],0,Vk w _,O⟩)
theorem XY {b:Nat}{es:Array MapEntry}{c:Nat}(h:w.heap[b]?=some (.map es c)):(getObj b).run P w=.ok (.map es c) w:=by
 simp[getObj,Sem.run,h]
theorem VL {b:Nat}{es E:Array MapEntry}{c:Nat}(h:w.heap[b]?=some (.map es c)):(setObj b (.map E G)).run P w=.ok () { w with heap:=w.heap.setIfInBounds b (.map E G) }:=by
 simp[setObj,Sem.run,h]
theorem K6 [hm:Mp P t kt et z]{enc:κ->O3}[G:Key P kt enc]{x:O4}{b:Nat}{m:List (κ×O3)}{k:κ}(h:ZU enc ↑w b m)(hx:ev f x=.map (some b))(J:ev f y=enc k):
  (execOp (ev f) ⟨d,.lookup t x y true,ty,pS,af,gd⟩).run P w=.ok (.value (match xh m k with|some u=>.tuple #[u,.bool true]|none=>.tuple #[z,.bool false])) w:=by
 obtain⟨es,c,T,E⟩:=h;have U:(zeroValue et).run P w=.ok z w:=by
  have:=hm.z;cases hi:P.info? et with
  | none=>simp[hi]at this
  | some i=>simp[hi]at this;simp[zeroValue,typeInfo,hi,this]
 simp only[execOp,Sem.run_bind,Instr.lookup,run_underlying hm.u,Result.andThen_ok,hx,J,XY T,Sem.run_pure,G.check,(G.find w k (m.map (·.1)) es.toList (Qbd E))];cases I:xh m k with
 | none=>rw[UN E I];simp[U]
 | some u =>
  obtain⟨j,V,_⟩:=UM (i:=0) E I;rw[V];simp
theorem Jr [hm:Mp P t kt et z]{enc:κ->O3}[G:Key P kt enc]{x:O4}{b:Nat}{m:List (κ×O3)}{k:κ}(h:ZU enc ↑w b m)(hx:ev f x=.map (some b))(J:ev f y=enc k):
  (execOp (ev f) ⟨d,.lookup t x y false,ty,pS,af,gd⟩).run P w=.ok (.value (match xh m k with|some u=>u|none=>z)) w:=by
 obtain⟨es,c,T,E⟩:=h;have U:(zeroValue et).run P w=.ok z w:=by
  have:=hm.z;cases hi:P.info? et with
  | none=>simp[hi]at this
  | some i=>simp[hi]at this;simp[zeroValue,typeInfo,hi,this]
 simp only[execOp,Sem.run_bind,Instr.lookup,run_underlying hm.u,Result.andThen_ok,hx,J,XY T,Sem.run_pure,G.check,(G.find w k (m.map (·.1)) es.toList (Qbd E))];cases I:xh m k with
 | none=>rw[UN E I];simp[U]
 | some u =>
  obtain⟨j,V,_⟩:=UM (i:=0) E I;rw[V];simp
theorem zZ [hm:Mp P t kt et z]{enc:κ->O3}[J:Key P kt enc]{b:Nat}{m:List (κ×O3)}{k:κ}{u:O3}(h:ZU enc ↑w b m):
  ∃w',(Instr.mapUpdate t (.map (some b)) (enc k) u).run P w=.ok () w'/\O6 [b] w w'/\ZU enc ↑w' b (xj m k u):=by
 have hl:=h.lt;obtain⟨es,c,T,G⟩:=h;have E:=J.find w k (m.map (·.1)) es.toList (Qbd G);have stp:∀V Y,O6 [b] w { w with heap:=w.heap.setIfInBounds b (.map V Y) }:=λV Y =>
  ⟨rfl,rfl,rfl,od,λi hi hn=>by
   have:b≠i:=λe=>hn (by simp[e]);simp[Array.getElem?_setIfInBounds_ne this]⟩
 cases I:xh m k with
 | none =>
  rw[UN G I]at E;refine⟨_,?_,stp (es.push { key:=enc k,val:=u,born:=c }) (c+1),es.push { key:=enc k,val:=u,born:=c },c+1,?_,?_⟩
  ·simp only[Instr.mapUpdate,Sem.run_bind,run_underlying hm.u,Result.andThen_ok,XY T,J.check,E,VL T]
  ·simp[hl]
  have ha:xj m k u=m++[(k,u)]:=by
   clear G E;induction m with
   | nil=>rfl
   | cons p m ih =>
    obtain⟨q,x⟩:=p;by_cases U:q=k
    ·simp[xh,U]at I
    simp only[xh,U,if_false]at I;simp[xj,U,ih I]
  simp[ha,G]
 | some u0 =>
  obtain⟨j,hj,hs,⟨e,he,hh⟩,ho⟩:=UM (i:=0) G I;rw[hj]at E;simp only[oX]at E;have hp:∀w,(Instr.keyThatStays (enc k) (enc k)).run P w=.ok (enc k) w:=λw=>by simp[Instr.keyThatStays,J.same]
  have hr:((es[j]?).map (·.key)).getD (enc k)=enc k:=by
   have:es[j]?=some e:=by simpa using he
   simp[this,hh]
  refine⟨_,?_,stp (es.modify j λe=>{ e with key:=enc k,val:=u }) c,es.modify j λe=>{ e with key:=enc k,val:=u },c,?_,?_⟩
  ·simp only[Instr.mapUpdate,Sem.run_bind,run_underlying hm.u,Result.andThen_ok,XY T,J.check,E,hr,hp,VL T]
  ·simp[hl]
  rw[Array.toList_modify];exact ho u
theorem YR [hm:Mp P t kt et z]{enc:κ->O3}[hk:Key P kt enc]{x v:O4}{b:Nat}{m:List (κ×O3)}{k:κ}(h:ZU enc ↑w b m)(hx:ev f x=.map (some b))(E:ev f y=enc k)
  (hK:∀w',O6 [b] w w'->ZU enc ↑w' b (xj m k (ev f v))->K (QP f d undef) w'):XO P ⟨d,.mapUpdate t x y v,ty,pS,af,gd⟩ f w K:=by
 obtain⟨w',G,I,J⟩:=zZ (P:=P) (t:=t) (k:=k) (u:=ev f v) h;exact xk (w':=w') (by simp[execOp,hx,E,G]) (hK w' I J)
theorem Yu [hm:Mp P t kt et z]{enc:κ->O3}[hk:Key P kt enc]{x v:O4}{b:Nat}{m:List (κ×O3)}{k:κ}(h:ZU enc ↑w b m)(hx:ev f x=.map (some b))(E:ev f y=enc k)
  (hK:∀w',O6 [b] w w'->ZU enc ↑w' b (xj m k (ev f v))->K (QP f d undef) w'):XO P ⟨d,.insert t x y v,ty,pS,af,gd⟩ f w K:=by
 obtain⟨w',G,I,J⟩:=zZ (P:=P) (t:=t) (k:=k) (u:=ev f v) h;exact xk (w':=w') (by simp[execOp,hx,E,G]) (hK w' I J)
end
section
variable {K:Fr->O2->Prop}{f:Fr}{l:xE}
theorem JA {b:Nat}{cs E:LV}(h:QK ↑w b T cs):QK (w.setRow b E.toArray).heap b T E:=setRow_heap w b cs.toArray E.toArray T (0,0) h
theorem VK (cs:LV)(j:Nat)(u:O3)(h:j<cs.length):cs.take j++[u]++cs.drop (j+1)=cs.set j u:=by
 rw[List.set_eq_take_append_cons_drop,OV h];simp
theorem Qv [h1:XS P t]{x:O4}{b:Nat}{cs:LV}{u:O3}(E:QK ↑w b T cs)(hx:ev f x=.pointer (some ⟨b,j,none⟩))(J:ev f y=u)(U:j<cs.length)(G:u.oneCell'=true)
  (hK:∀w',O6 [b] w w'->QK ↑w' b T (cs.set j u)->K (QP f d undef) w'):XO P ⟨d,.store t x y,ty,pS,af,gd⟩ f w K:=by
 have hc:u.cells=#[u]:=by cases u <;> first|rfl|cases G
 have I:=run_storeCells_at P b j T [u] 0 cs.toArray w E (by simp;omega) (by simp[G]);simp only[Ox,oL,VK cs j u U]at I;refine xk (w':=w.setRow b (cs.set j u).toArray) ?_ (hK _ (O6.setRow _ _ _) (JA E));simp[execOp,hx,J,Instr.storeAt,Instr.sureAddr,storeVar,zY,hc,I]
def ZL:LV->Prop
 | []=>True
 | u::us=>u.oneCell'=true/\ZL us
theorem ZL.all:∀{us:LV},ZL us->∀u∈us,u.oneCell'=true
 | [],_,u,E=>by cases E
 | v::us,h,u,E=>by
  rcases Lk.1 E with rfl|E
  ·exact h.1
  exact ZL.all h.2 u E
theorem Zx [h1:Ag P t sz]{x:O4}{b:Nat}{cs us:LV}(E:QK ↑w b T cs)(hx:ev f x=sP b)(I:ev f y=sT us)(hl:us.length=sz)(J:cs.length=sz)(U:ZL us)
  (hK:∀w',O6 [b] w w'->QK ↑w' b T us->K (QP f d undef) w'):XO P ⟨d,.store t x y,ty,pS,af,gd⟩ f w K:=by
 have G:=run_storeCells_at P b 0 T us 0 cs.toArray w E (by simp;omega) U.all;have e:(cs.take 0++us++cs.drop us.length)=us:=by rw[hl,<-J];simp
 simp only[Ox,oX,e]at G;refine xk (w':=w.setRow b us.toArray) ?_ (hK _ (O6.setRow _ _ _) (JA E));subst hl;simp[execOp,hx,I,Instr.storeAt,Instr.sureAddr,storeVar,qb (sz:=us.length),Value.cells,G]
theorem QE {x:O4}{e bys:Nat}[h:Sl P t e sz bys z]{b o c:Nat}{k:IntKind}(hx:ev f x=.slice (some ⟨b,o,none⟩) n c)(E:ev f y=.int k i)(G:i<n):
  (execOp (ev f) ⟨d,.indexAddr t x y,ty,pS,af,gd⟩).run P w=.ok (.value (.pointer (some ⟨b,o+i*sz,none⟩))) w:=by
 have:=XZ (P:=P) (w:=w) (d:=d) (ty:=ty) (pS:=pS) (af:=af) (gd:=gd) (t:=t) hx E oa oa;rw[X5]at this;simpa using this
theorem QmC {e bys:Nat}[h:Sl P t e sz bys z]{x:O4}{k:IntKind}(hx:ev f x=.int k n)(J:ev f y=.int k' n)(T:bys*n<=281474976710656)(hn:n<=1099511627776)
  (hK:∀b w',sW w w'->↑w<=b->QK ↑w' b e (oG n z.cells.toList).flatten->K (QP f d (sL b n n)) w'):
  XO P ⟨d,.makeSlice t x y,ty,pS,af,gd⟩ f w K:=by
 obtain⟨i,hi,U,V,Y⟩:=Sl.info h;have hb:i.bytes*n<=281474976710656:=by rw[Y];exact T
 have ha:(i.bytes:Int)*(n:Int)<=281474976710656:=by
  have h:((i.bytes*n:Nat):Int)<=281474976710656:=oa
  rwa [Int.natCast_mul]at h
 have G:=run_make (P:=P) w t e i z h.u hi U k k' n n oa (MC _) ha oa;simp only[Oy]at G;have he:madeCells z.cells (n*i.size)=(oG n z.cells.toList).flatten.toArray:=by
  have hf:z.cells.size=i.size:=by rw[h.zs,V]
  apply Array.ext';apply Nr;intro j;simp only[madeCells,<-hf,Array.toList_map,Array.toList_range,List.getElem?_map];have hg:∀n,(oG n z.cells.toList).flatten.length=n*z.cells.size:=λn=>od
  have key:∀n j,j<n*z.cells.size->(oG n z.cells.toList).flatten[j]?=some z.cells[j % z.cells.size]!:=by
   intro n;induction n with
   | zero=>intro j E;omega
   | succ n ih =>
    intro j E;rw[List.replicate_succ,List.flatten_cons];by_cases I:j<z.cells.size
    ·rw[LX (ou I),NL I];simp[I]
    rw[Mu (by simp;omega)];have:=ih (j - z.cells.size) (by rw[ME]at E;omega);rw[Array.length_toList,this];rw[<-Nat.mod_eq_sub_mod oa]
  by_cases E:j<n*z.cells.size
  ·rw[key n j E];simp[E]
  rw[Mv (ou (Nat.le_of_not_lt E)),List.getElem?_eq_none (by rw[hg];omega)];rfl
 rw[he]at G;refine xv (w':=w.alloc (.cells (oG n z.cells.toList).flatten.toArray e)) (v:=.slice (some ⟨↑w,0,none⟩) n n) ?_ (hK _ _ (O6.alloc w _) (Lp _) (Vk w _));simp[execOp,hx,J,G]
theorem Y2 {e bys:Nat}[h:Sl P t e sz bys z]{x:O4}{k:IntKind}(hx:ev f x=.int k n)(G:ev f y=.int k' n)(E:n<=1099511627776)
  (hK:∀b w',sW w w'->↑w<=b->QK ↑w' b e (oG n z.cells.toList).flatten->K (QP f d (sL b n n)) w') (I:bys<=128:=by decide):
  XO P ⟨d,.makeSlice t x y,ty,pS,af,gd⟩ f w K:=QmC hx G (Lz (Nc I E) oa) E hK
theorem YA {k:IntKind}{y:Nat}{c:BoundsCode}(h:i<=y):(Instr.sliceBound (.int k i) y c).run P w=.ok i w:=by
 simp[Instr.sliceBound,asIntOf,h]
theorem Zu.cut {L:LN}{H:xC}{a:Addr}{cap:Nat}{cs:LV}(h:Zu L H (.slice (some a) n cap) n sz cs){lo hi:Nat}(U:lo<=hi)(V:hi<=n):
  Zu L H (.slice (if cap=lo then some a else some (a.add (lo*sz))) (hi - lo) (cap - lo)) (hi - lo) sz ((cs.drop (lo*sz)).take ((hi - lo)*sz)):=by
 obtain⟨J,Y,T⟩:=h;rcases T with⟨G,_⟩|⟨a',cap',G,h7,I⟩
 ·cases G
 cases G
 refine⟨?_,oa,.inr ?_⟩
 ·simp only[OG,OF,J,<-Nat.sub_mul];rw[M2];exact MT _ oa
 split
 ·rename_i hc;have:hi - lo=0:=oa
  refine⟨a,cap - lo,by rw[this],oa,λu E=>?_,λu E=>?_,λj u E=>?_⟩
  ·simp[this]at E
  ·simp[this]at E
  simp[this]at E
 refine⟨a.add (lo*sz),cap - lo,O,oa,λu E=>by rw[YE];exact I.out u (MU (L2 E)),λu E=>by rw[YE];exact I.lt u (MU (L2 E)),λj u E=>?_⟩;rw[Addr.add_add];rw[LZ]at E;split at E
 ·exact I.cell _ u (ou E)
 cases E
theorem QfN {e bys:Nat}[h:Sl P t e sz bys z]{x y1 y2:O4}{L:LN}{v:O3}{cs:LV}{H:xC}{k:IntKind}{lo hi:Nat}(hA:Zu L H v n sz cs)(hx:ev f x=v)(hl:ev f y1=.int k lo)(G:ev f y2=.int k' hi)
  (I:lo<=hi) (J:hi<=n):∃v',Zu L H v' (hi - lo) sz ((cs.drop (lo*sz)).take ((hi - lo)*sz))/\∀w,(execOp (ev f) ⟨d,.slice t x (some y1) (some y2) none,ty,pS,af,gd⟩).run P w=.ok (.value v') w:=by
 obtain⟨i,hi',_,T,_⟩:=Sl.info h;rcases hA.2.2 with⟨E,U⟩|⟨a,cap,E,hc,V⟩
 ·have e1:hi=0:=oa
  have e2:lo=0:=oa
  subst e1 e2;refine⟨nS,⟨od,oa,.inl ⟨rfl,rfl⟩⟩,λw=>?_⟩;simp[execOp,hx,E,hl,G,Instr.sliceAt,Instr.slice,run_underlying h.u,Instr.sliceBounds,Instr.sliceBound,asIntOf,sizeOf,typeInfo,hi']
 subst E;refine⟨_,hA.cut I J,λw=>?_⟩;have e1:(Instr.sliceBound (.int k' hi) cap .sliceAcap).run P w=.ok hi w:=YA oa;have e2:(Instr.sliceBound (.int k lo) hi .sliceB).run P w=.ok lo w:=YA oa;simp[execOp,hx,hl,G,Instr.sliceAt,Instr.slice,run_underlying h.u,Instr.sliceBounds,e1,e2,sizeOf,typeInfo,hi',T]
theorem QiS {e bys:Nat}[h:Sl P t e sz bys z]{x y1:O4}{L:LN}{v:O3}{cs:LV}{H:xC}{k:IntKind}{lo:Nat}(hA:Zu L H v n sz cs)(hx:ev f x=v)(hl:ev f y1=.int k lo)
  (G:lo<=n):∃v',Zu L H v' (n - lo) sz (cs.drop (lo*sz))/\∀w,(execOp (ev f) ⟨d,.slice t x (some y1) none none,ty,pS,af,gd⟩).run P w=.ok (.value v') w:=by
 obtain⟨i,hi',_,J,_⟩:=Sl.info h;rcases hA.2.2 with⟨E,T⟩|⟨a,cap,E,hc,U⟩
 ·have e2:lo=0:=oa
  subst e2 T;have:cs=[]:=Ls (ou hA.1);subst this;refine⟨nS,⟨od,oa,.inl ⟨rfl,rfl⟩⟩,λw=>?_⟩;simp[execOp,hx,E,hl,Instr.sliceAt,Instr.slice,run_underlying h.u,Instr.sliceBounds,Instr.sliceBound,asIntOf,sizeOf,typeInfo,hi']
 subst E;have I:=hA.cut G (Lp n);have e:(cs.drop (lo*sz)).take ((n - lo)*sz)=cs.drop (lo*sz):=Lr (by rw[Mo,hA.1,<-Nat.sub_mul];exact Lp _);rw[e]at I;refine⟨_,I,λw=>?_⟩;have e2:(Instr.sliceBound (.int k lo) n .sliceB).run P w=.ok lo w:=YA G;simp[execOp,hx,hl,Instr.sliceAt,Instr.slice,run_underlying h.u,Instr.sliceBounds,e2,sizeOf,typeInfo,hi',J]
theorem QiT {e bys:Nat}[h:Sl P t e sz bys z]{x y2:O4}{L:LN}{v:O3}{cs:LV}{H:xC}{k:IntKind}{hi:Nat}(hA:Zu L H v n sz cs)(hx:ev f x=v)(G:ev f y2=.int k hi)
  (J:hi<=n):∃v',Zu L H v' hi sz (cs.take (hi*sz))/\∀w,(execOp (ev f) ⟨d,.slice t x none (some y2) none,ty,pS,af,gd⟩).run P w=.ok (.value v') w:=by
 obtain⟨i,hi',_,T,_⟩:=Sl.info h;rcases hA.2.2 with⟨E,U⟩|⟨a,cap,E,hc,V⟩
 ·have e2:hi=0:=oa
  subst e2;refine⟨nS,⟨od,oa,.inl ⟨rfl,rfl⟩⟩,λw=>?_⟩;simp[execOp,hx,E,G,Instr.sliceAt,Instr.slice,run_underlying h.u,Instr.sliceBounds,Instr.sliceBound,asIntOf,sizeOf,typeInfo,hi']
 subst E;have I:=hA.cut (Lo hi) J;simp only[Nat.zero_mul,List.drop_zero,ON]at I;refine⟨_,I,λw=>?_⟩;have e2:(Instr.sliceBound (.int k hi) cap .sliceAcap).run P w=.ok hi w:=YA oa;simp[execOp,hx,G,Instr.sliceAt,Instr.slice,run_underlying h.u,Instr.sliceBounds,e2,sizeOf,typeInfo,hi']
end
section
variable {K:Fr->O2->Prop}{C:xA}{f:Fr}{w0:O2}{pl:xu}{i0:Nat}
theorem pi {x:O4}{e bys:Nat}[Sl P t e sz bys z]{L:LN}{cs:LV}{v:O3}{H:xC}{k:IntKind}
  (E:QR ops i0=⟨d,.indexAddr t x y,ty,pS,af,gd⟩) (h:Zu L H v n sz cs) (G:ev f x=v) (I:ev f y=.int k i) (hi:i<n)
  (hK:∀a,At L H a ((cs.drop (i*sz)).take sz)->XP P ops C K pl (QP f d (.pointer (some a))) w) (J:Z9 ops f (QR ops i0)=true:=by rfl):
  XP P ops C K ((i0,true)::pl) f w:=by
 obtain⟨a,cap,T,U⟩:=h.at hi;refine Lg.p (λw'=>by rw[E];exact XZ (G.D T) I oa oa) ?_ J;rw[E];refine hK _ ?_;simpa using U
theorem pii {x:O4}{e bys:Nat}[Sl P t e 1 bys z]{L:LN}{li:LI}{v:O3}{H:xC}{k:IntKind}
  (E:QR ops i0=⟨d,.indexAddr t x y,ty,pS,af,gd⟩) (h:Qu L H v li) (G:ev f x=v) (I:ev f y=.int k i) (hi:i<li.length)
  (hK:∀a,At L H a [sS li[i]]->XP P ops C K pl (QP f d (.pointer (some a))) w) (J:Z9 ops f (QR ops i0)=true:=by rfl):
  XP P ops C K ((i0,true)::pl) f w:=by
 obtain⟨a,cap,T,U⟩:=Qu.at h hi;refine Lg.p (λw'=>by rw[E];exact XZ (G.D T) I oa oa) ?_ J;rw[E];refine hK _ ?_;simpa using U
end
abbrev Ed:=Int×Int×Int
def Qp (e:Ed):LV:=[sS e.1,sS e.2.1,sS e.2.2]
abbrev U4 (L:LN)(H:xC)(v:O3)(es:List Ed):Prop:=Zu L H v es.length 3 (es.flatMap Qp)
theorem Jl {α:Type}(g:α->LV)(sz:Nat)(E:∀x,(g x).length=sz):∀(l:List α) (i:Nat) (h:i<l.length),((l.flatMap g).drop (i*sz)).take sz=g l[i]
 | x::l,0,_=>by simp[E]
 | x::l,i+1,h=>by
  have:=Jl g sz E l i (ou h);simp only[oT,List.getElem_cons_succ];rw[<-this,ME,NM,MY,List.drop_append,E];simp[Nat.add_sub_cancel_left,List.drop_eq_nil_of_le,E]
theorem Vg (g:α->LV)(sz:Nat)(E:∀x,(g x).length=sz)(l:List α):(l.flatMap g).length=l.length*sz:=by
 induction l with
 | nil=>simp
 | cons x l ih=>simp[ih,E,Ou,Nat.add_comm]
theorem JY (e:Ed):(Qp e).length=3:=rfl
structure Qz where
 al:LI
 st:Int
 mr:LI
 ed:List Ed
structure Zr (L:LN)(H:xC)(va vm ve:O3)(a:Qz):Prop where
 al:Qu L H va a.al
 mr:Qu L H vm a.mr
 ed:U4 L H ve a.ed
def Qs7 (L:LN)(H:xC)(v:O3)(a:Qz):Prop:=∃va vm ve,v=.agg #[va,sS a.st,vm,ve]/\Zr L H va vm ve a
theorem Zr.I {L:LN}{w w':O2}{va vm ve:O3}{a:Qz}(h:Zr L ↑w va vm ve a)(E:sW w w'):Zr L ↑w' va vm ve a:=⟨h.al.I E,h.mr.I E,h.ed.I E⟩
theorem Zr.st {L:LN}{w w':O2}{va vm ve:O3}{a:Qz}(h:Zr L ↑w va vm ve a)(E:O6 L w w'):Zr L ↑w' va vm ve a:=⟨h.al.st E,h.mr.st E,h.ed.st E⟩
theorem Zr.up {L L':LN}{H:xC}{va vm ve:O3}{a:Qz}(h:Zr L H va vm ve a)(E:∀b∈L',b∈L\/H.size<=b):Zr L' H va vm ve a:=⟨h.al.up E,h.mr.up E,h.ed.up E⟩
section
variable {f:Fr}
class Ik (P:O5)(t:Nat)(k:outParam IntKind):Prop where
 u:P.underlying t=some (.int k):=by first|kernel_rfl|decide|rfl|exact sX (by kernel_rfl)
theorem Yc {k:IntKind}[h:Ik P t k][h':Ik P E k']{x:O4}{n:Int}{G:IntKind}(hx:ev f x=.int G n)(I:inK k' n):
  (execOp (ev f) ⟨d,.convert t E x,ty,pS,af,gd⟩).run P w=.ok (.value (.int k' n)) w:=by
 simp[execOp,hx,convert,run_underlying h.u,run_underlying h'.u,Conv.intToInt,XX I]
theorem QqX {x:O4}{a b:Int}{k:IntKind}{ts:Array Nat}(hx:ev f x=.int k a)(E:ev f y=.int k b):
  (execOp (ev f) ⟨d,.call ⟨.builtin .max,#[x,y],ts⟩,ty,pS,af,gd⟩).run P w=.ok (.value (.int k (max a b))) w:=by
 simp[execOp,resolve,invoke,builtin,Builtin.max_,Builtin.max2,hx,E];split <;> omega
class Bk (P:O5)(t:Nat):Prop where
 u:P.underlying t=some .bool
class St (P:O5)(t:Nat):Prop where
 u:P.underlying t=some .string
end
theorem QY {l:List α}{k:Nat}(h:k<l.length):l.drop k=l[k]::l.drop (k+1):=Me h
theorem U4.at {L:LN}{H:xC}{v:O3}{es:List Ed}(h:U4 L H v es){i:Nat}(hi:i<es.length):
  ∃a cap,v=.slice (some a) es.length cap/\At L H (a.add (i*3)) (Qp es[i]):=by
 obtain⟨a,cap,G,E⟩:=Zu.at h hi;rw[Jl Qp 3 JY es i hi]at E;exact⟨a,cap,G,E⟩
section
variable {K:Fr->O2->Prop}{f:Fr}{l:xE}{C:xA}{pl:xu}{i0:Nat}
theorem xie {x:O4}{e bys:Nat}[Sl P t e 3 bys z]{L:LN}{es:List Ed}{v:O3}{k:IntKind}
  (h:U4 L ↑w v es) (E:ev f x=v) (G:ev f y=.int k i) (hi:i<es.length)
  (hK:∀a,At L ↑w a (Qp es[i])->XL P ops K l (QP f d (.pointer (some a))) w) (I:Z9 ops f ⟨d,.indexAddr t x y,ty,pS,af,gd⟩=true:=by rfl):
  XL P ops K (⟨d,.indexAddr t x y,ty,pS,af,gd⟩::l) f w:=by
 obtain⟨a,cap,J,T⟩:=U4.at h hi;refine xl I (xv (XZ (E.D J) G oa oa) (hK _ ?_));simpa using T
theorem pie {x:O4}{e bys:Nat}[Sl P t e 3 bys z]{L:LN}{es:List Ed}{v:O3}{H:xC}{k:IntKind}
  (E:QR ops i0=⟨d,.indexAddr t x y,ty,pS,af,gd⟩) (h:U4 L H v es) (G:ev f x=v) (I:ev f y=.int k i) (hi:i<es.length)
  (hK:∀a,At L H a (Qp es[i])->XP P ops C K pl (QP f d (.pointer (some a))) w) (J:Z9 ops f (QR ops i0)=true:=by rfl):
  XP P ops C K ((i0,true)::pl) f w:=by
 obtain⟨a,cap,T,U⟩:=U4.at h hi;refine Lg.p (λw'=>by rw[E];exact XZ (G.D T) I oa oa) ?_ J;rw[E];refine hK _ ?_;simpa using U
end
section
variable {f:Fr}
theorem Qcr {x:O4}{k:IntKind}{a:Int}(hx:ev f x=.int k a)(G:ev f y=.int k' n)(I:n<=k.bits):
  (execOp (ev f) ⟨d,.binOp .shr t x y E,ty,pS,af,gd⟩).run P w=.ok (.value (.int k (a / 2 ^ n))) w:=by
 refine Kh hx G ?_;have J:¬((n:Int)<0):=oa
 simp only[binOp,Op.shift,J,if_false,Oy,Nat.min_eq_left I,Sem.run_pure];rw[Int.fdiv_eq_ediv_of_nonneg _ (Int.le_of_lt (Int.pow_pos og))]
class S3 (P:O5)(t:Nat):Prop where
 u:∃f0 f1 f2,P.underlying t=some (.struct #[f0,f1,f2])/\f0.name ≠ "_" /\ f1.name ≠ "_" /\ f2.name ≠ "_" /\ f0.offset=0/\f1.offset=1/\f2.offset=2 /\
  P.underlying f0.type=some (.int .i64)/\P.underlying f1.type=some (.int .i64)/\P.underlying f2.type=some (.int .i64)
 s:P.stoodInHeld t=false
 g:P.eqGuardType P.depth t=false
end
theorem O6.Q {L:LN}{w0:O2}{b:Nat}(h:O6 L w0 w)(k:O6 [b] w w')(hb:↑w0<=b):O6 L w0 w':=h.O k (λc hc=>.inr (by simp at hc;omega))
section
variable {K:Fr->O2->Prop}{f:Fr}
theorem Qmg {e bys:Nat}[h:Sl P t e sz bys z]{x:O4}{a:Option Addr}{c:Nat}(hx:ev f x=.slice a n c)(G:ev f y=nS):
  (execOp (ev f) ⟨d,.binOp .eql t x y E,ty,pS,af,gd⟩).run P w=.ok (.value (.bool a.isNone)) w:=by
 have I:(eqGuard .eql t x y (.slice a n c) (nS)).run P w=.ok () w:=by simp[eqGuard]
 have key:∀m,(Op.equalIn (m+1) t (.slice a n c) (nS)).run P w=.ok a.isNone w:=by
  intro m;unfold Op.equalIn;cases a <;> simp[run_underlying h.u]
 have J:(Op.equal t (.slice a n c) (nS)).run P w=.ok a.isNone w:=key 9999;simp only[execOp,hx,G,Sem.run_bind,I,Result.andThen_ok,binOp,J,Sem.run_pure]
theorem Qej {e bys:Nat}[h:Sl P t e sz bys z]
  (hK:∀b w',sW w w'->↑w<=b->QK ↑w' b e []->K (QP f d (sL b 0 0)) w'):XO P ⟨d,.buildSlice t 0 #[],ty,pS,af,gd⟩ f w K:=by
 obtain⟨ie,E,I,J,_⟩:=Sl.info h;have G:(execOp (ev f) ⟨d,.buildSlice t 0 #[],ty,pS,af,gd⟩).run P w=.ok (.value (.slice (some ⟨↑w,0,none⟩) 0 0)) (w.alloc (.cells #[] e)):=by
  simp[execOp,Instr.buildSlice,run_underlying h.u,sizeOf,typeInfo,E,Instr.fill,newRow];have e0:Array.map (λ_=>(default:O3)) (Array.range 0)=#[]:=by apply Array.ext';simp
  rw[e0]
 exact xv G (hK _ _ (O6.alloc w _) (Lp _) (Vk w _))
end
abbrev Qh (e base:Nat)(w:O2)(v:O3)(l:LI):Prop:=w.ownsRow base e 1 v l.length (l.map (.int .i64))
theorem Qh.ints {e:Nat}{v:O3}{l:LI}{L:LN}(h:Qh e base w v l)(E:l.length<=1099511627776)(G:∀b∈L,b<base):Qu L ↑w v l :=
 QN h E (λb hb I=>oq (Qi h b hb).1 (G b I))
theorem Uy (l:LI):∀u∈l.map (Value.int .i64),u.oneCell'=true:=by
 intro u E;obtain⟨n,_,rfl⟩:=Lx.1 E;rfl
section
variable {P:O5}{ops:xE}{K:Fr->O2->Prop}{f:Fr}{w:O2}{d:xF}{ty:Nat}{pS:String}{af:xD}{gd:xt}{l:xE}{C:xA}{pl:xu}{i0:Nat}
 {t e sz bys:Nat} {z:O3} {x y1 y2:O4} {L:LN} {v:O3} {n:Nat} {cs:LV} {H:xC} {k k':IntKind} {lo hi:Nat}
theorem QoX [h:Sl P t e sz bys z](E:QR ops i0=⟨d,.slice t x (some y1) none none,ty,pS,af,gd⟩)(hA:Zu L H v n sz cs)(hx:ev f x=v)(hl:ev f y1=.int k lo)(G:lo<=n)(hK:∀v',Zu L H v' (n - lo) sz (cs.drop (lo*sz))->XP P ops C K pl (QP f d v') w)
  (I:Z9 ops f (QR ops i0)=true:=by rfl):XP P ops C K ((i0,true)::pl) f w:=by
 obtain⟨v',J,T⟩:=QiS (P:=P) (d:=d) (ty:=ty) (pS:=pS) (af:=af) (gd:=gd) (t:=t) hA hx hl G;exact Lg.p (λw'=>by rw[E];exact T w') (by rw[E];exact hK v' J) I
theorem Qsk [h:Sl P t e sz bys z](hA:Zu L H v n sz cs)(hx:ev f x=v)(hl:ev f y1=.int k lo)(E:ev f y2=.int k' hi)(G:lo<=hi)(I:hi<=n)(hK:∀v',Zu L H v' (hi - lo) sz ((cs.drop (lo*sz)).take ((hi - lo)*sz))->XL P ops K l (QP f d v') w)
  (J:Z9 ops f ⟨d,.slice t x (some y1) (some y2) none,ty,pS,af,gd⟩=true:=by rfl):XL P ops K (⟨d,.slice t x (some y1) (some y2) none,ty,pS,af,gd⟩::l) f w:=by
 obtain⟨v',T,U⟩:=QfN (P:=P) (d:=d) (ty:=ty) (pS:=pS) (af:=af) (gd:=gd) (t:=t) hA hx hl E G I;exact xl J (xv (U w) (hK v' T))
theorem QoB [h:Sl P t e sz bys z](hA:Zu L H v n sz cs)(hx:ev f x=v)(E:ev f y2=.int k hi)(G:hi<=n)(hK:∀v',Zu L H v' hi sz (cs.take (hi*sz))->XL P ops K l (QP f d v') w)
  (I:Z9 ops f ⟨d,.slice t x none (some y2) none,ty,pS,af,gd⟩=true:=by rfl):XL P ops K (⟨d,.slice t x none (some y2) none,ty,pS,af,gd⟩::l) f w:=by
 obtain⟨v',J,T⟩:=QiT (P:=P) (d:=d) (ty:=ty) (pS:=pS) (af:=af) (gd:=gd) (t:=t) hA hx E G;exact xl I (xv (T w) (hK v' J))
end
theorem Qu.drop {L:LN}{H:xC}{v:O3}{l:LI}{lo:Nat}(h:Zu L H v (l.length - lo) 1 ((l.map (Value.int .i64)).drop (lo*1))):Qu L H v (l.drop lo):=by
 rw[OR,<-List.map_drop]at h;have e:(l.drop lo).length=l.length - lo:=Mo;unfold Qu;rw[e];exact h
theorem Qh.snoc {e:Nat}{v:O3}{l:LI}{n:Int}(h:w.ownsRow base e 1 v (l.length+1) (l.map (Value.int .i64)++[sS n])):Qh e base w v (l++[n]):=by
 unfold Qh;rw[Lc,Ly];exact h
def Dj (u v:O3):Prop:=∀b∈ob u,b∉ob v
theorem Dj.symm {u v:O3}(h:Dj u v):Dj v u:=λb hb E=>h b E hb
theorem Dj.nil (v:O3):Dj (nS) v:=λb hb=>by simp[ob]at hb
theorem Dj.nil' (v:O3):Dj v (nS):=(Dj.nil v).symm
theorem Dj.grow {u v:O3}(h:Dj u v)(G:∀b∈ob v',b∈ob v\/N<=b)(I:∀b∈ob u,b<N):Dj u v' :=
 λb hb J=>by rcases G b J with E|E;exact h b hb E;have:=I b hb;omega
theorem QV {e:Nat}{v:O3}{cs:LV}(h:w.ownsRow base e sz v n cs):∀b∈ob v,b<w.heap.size:=λb hb=>(Qi h b hb).2
theorem QJ {e:Nat}{v:O3}{cs:LV}(h:w.ownsRow base e sz v n cs){b:Nat}(hb:b<base):b∉ob v:=λE=>oo (Qi h b E).1
abbrev Yd (e base:Nat)(w:O2)(v:O3)(l:List Ed):Prop:=w.ownsRow base e 3 v l.length (l.flatMap Qp)
theorem Yd.snoc {e:Nat}{v:O3}{l:List Ed}{n:Ed}(h:w.ownsRow base e 3 v (l.length+1) (l.flatMap Qp++Qp n)):Yd e base w v (l++[n]):=by
 unfold Yd;rw[Lc,LF];simpa using h
theorem Yd.eds {e:Nat}{v:O3}{l:List Ed}{L:LN}(h:Yd e base w v l)(E:l.length<=1099511627776)(G:∀b∈L,b<base):U4 L ↑w v l :=
 QN h E (λb hb I=>oq (Qi h b hb).1 (G b I))
def Xb (N:Nat)(H:xC)(v:O3)(a:Qz):Prop:=∃va vm ve,v=.agg #[va,sS a.st,vm,ve]/\∀L:LN,(∀b∈L,b<N)->Zr L H va vm ve a
theorem Xb.v {N:Nat}{H:xC}{v:O3}{a:Qz}(h:Xb N H v a){L:LN}(E:∀b∈L,b<N):Qs7 L H v a:=let⟨va,vm,ve,G,I⟩:=h;⟨va,vm,ve,G,I L E⟩
theorem Xb.I {N:Nat}{w w':O2}{v:O3}{a:Qz}(h:Xb N ↑w v a)(E:sW w w'):Xb N ↑w' v a:=let⟨va,vm,ve,G,I⟩:=h;⟨va,vm,ve,G,λL J=>(I L J).I E⟩
theorem Xb.S {M:Nat}{H:xC}{v:O3}{a:Qz}(h:Xb N H v a)(E:M<=N):Xb M H v a:=let⟨va,vm,ve,G,I⟩:=h;⟨va,vm,ve,G,λL J=>I L (λb hb=>LU (J b hb) E)⟩
section
variable {K:Fr->O2->Prop}{f:Fr}
theorem zw [XS P t]{x:O4}{b:Nat}{l:LI}(h:QK ↑w b T (l.map (.int .i64)))(hx:ev f x=.pointer (some ⟨b,0+i*1,none⟩))(hi:i<l.length):
  (execOp (ev f) ⟨d,.load t x,ty,pS,af,gd⟩).run P w=.ok (.value (sS l[i])) w:=Qk h hx (by simp[hi])
theorem Kk [h1:XS P t]{x:O4}{b:Nat}{l:LI}{u:Int}(E:QK ↑w b T (l.map (.int .i64)))(hx:ev f x=.pointer (some ⟨b,0+i*1,none⟩))(G:ev f y=sS u)(hi:i<l.length)
  (hK:∀w',O6 [b] w w'->QK ↑w' b T ((l.set i u).map (.int .i64))->K (QP f d undef) w'):XO P ⟨d,.store t x y,ty,pS,af,gd⟩ f w K:=by
 refine Qv E hx G (ou hi) rfl λw' I J=>hK w' I ?_;rw[NC];simpa using J
end
theorem Qcp (n:Nat)(u:O3):(oG n [u]).flatten=oG n u:=by
 induction n with
 | zero=>rfl
 | succ n ih=>simp[List.replicate_succ,ih]
section
variable {K:Fr->O2->Prop}{f:Fr}{l:xE}
theorem Q5 [Ag P t sz]{E G:O4}{b:Nat}{cs:LV}(us:LV)(I:QK ↑w b T cs)(J:ZL us)(hK:∀w',O6 [b] w w'->QK ↑w' b T us->XL P ops K l (QP f d undef) w')(hx:ev f E=sP b:=by rfl)(U:ev f G=sT us:=by rfl)(hl:us.length=sz:=by rfl)(V:cs.length=sz:=by rfl)(Y:Z9 ops f ⟨d,.store t E G,ty,pS,af,gd⟩=true:=by rfl):XL P ops K (⟨d,.store t E G,ty,pS,af,gd⟩::l) f w:=xl Y (Zx I hx U hl V J hK)
theorem QT [Ze P t z](us:LV)(hK:∀b w',sW w w'->↑w<=b->QK ↑w' b t us->XL P ops K l (QP f d (sP b)) w')(E:z.cells=us.toArray:=by rfl)(G:Z9 ops f ⟨d,.alloc t,ty,pS,af,gd⟩=true:=by rfl):XL P ops K (⟨d,.alloc t,ty,pS,af,gd⟩::l) f w:=xl G (YW E hK)
theorem JN {ad b:Nat}{us:LV}[Ag P t sz](E:QK ↑w b T us)(G:f ad=sP b:=by rfl)(I:us.length=sz:=by rfl):∃a,f ad=.pointer (some a)/\(loadVar t a).run P w=.ok (sT us) w:=⟨_,G,ZQ I (E.at (L:=[]) od).cells⟩
theorem qo {K:Fr->O2->Prop}[Ag P t sz]{E G:O4}{b:Nat}{cs:LV}(us:LV)(I:QK ↑w b T cs)(J:ZL us)(hK:∀w',O6 [b] w w'->QK ↑w' b T us->K (QP f d undef) w')(hx:ev f E=sP b:=by rfl)(U:ev f G=sT us:=by rfl)(hl:us.length=sz:=by rfl)(V:cs.length=sz:=by rfl):XO P ⟨d,.store t E G,ty,pS,af,gd⟩ f w K:=Zx I hx U hl V J hK
end
abbrev Ys (l:LI):Prop:=l.Pairwise (·<·)
def yq:Option Int->Int->Bool
 | none,_=>false
 | some b,a=>decide (a<=b)
def J9 (n:Int):Option Int->LI->Int
 | _,[]=>0
 | pr,a::l=>if a<0\/n<=a then 2 else if yq pr a=true then 5 else J9 n (some a) l
def pv {α:Type}(l:List α)(k:Nat):Option α:=if k=0 then none else l[k - 1]?
theorem KD {l:List α}{k:Nat}(h:k<l.length):pv l (k+1)=some l[k]:=by simp[pv,h]
def edO:Option Ed->Ed->Bool
 | none,_=>false
 | some y,a=>decide (a.1<y.1\/(a.1=y.1/\a.2.1<=y.2.1))
def ckE (al:LI)(st:Int):Option Ed->List Ed->Int
 | _,[]=>0
 | pr,a::l=>if a.1<0\/st<=a.1\/a.2.2<0\/st<=a.2.2 then 2 else if a.2.1∉al then 9 else if edO pr a=true then 5 else ckE al st (some a) l
def Jc (a:Qz):Int :=
 if J9 32 none a.al≠0 then J9 32 none a.al else if a.st<0 then 2 else if 4096<a.st then 3 else if J9 a.st none a.mr≠0 then J9 a.st none a.mr else ckE a.al a.st none a.ed
def Jj:LI->LI->Bool
 | [],_=>false
 | _::_,[]=>true
 | a::_,b::_=>decide (a<=b)
def tl (c:Bool)(l:LI):LI:=bif c then l.tail else l
def hx (a b:LI):Int:=bif Jj b a then b.headD 0 else a.headD 0
def jv (keep:Bool->Bool->Bool):Nat->LI->LI->LI
 | 0,_,_=>[]
 | n+1,a,b=>if a=[]/\b=[]then[]else(bif keep (Jj a b) (Jj b a) then[hx a b]else[])++jv keep n (tl (Jj a b) a) (tl (Jj b a) b)
def mrg (keep:Bool->Bool->Bool)(a b:LI):LI:=jv keep (a.length+b.length) a b
theorem yy {a b:LI}(h:¬(a=[]/\b=[])):(tl (Jj a b) a).length+(tl (Jj b a) b).length<a.length+b.length:=by
 cases a with
 | nil=>cases b with
  | nil=>simp at h
  | cons y b=>simp[Jj,tl]
 | cons x a=>cases b with
  | nil=>simp[Jj,tl]
  | cons y b =>
   simp only[Jj,tl];by_cases E:x<=y <;> by_cases G:y<=x <;> simp[E,G] <;> omega
theorem j5 (keep:Bool->Bool->Bool):∀(n:Nat) (a b:LI),a.length+b.length<=n->jv keep n a b=mrg keep a b:=by
 have key:∀(n m:Nat) (a b:LI),a.length+b.length<=n->a.length+b.length<=m->jv keep n a b=jv keep m a b:=by
  intro n;induction n with
  | zero =>
   intro m a b E _;have G:a=[]:=Ls oa;have hb:b=[]:=Ls oa;subst G hb;cases m <;> simp[jv]
  | succ n ih =>
   intro m a b E I;by_cases h:a=[]/\b=[]
   ·obtain⟨rfl,rfl⟩:=h;cases m <;> simp[jv]
   have J:=yy h;cases m with
   | zero=>omega
   | succ m=>rw[jv,jv,OU h,OU h,ih m _ _ oa oa]
 intro n a b h;exact key n _ a b h (Lp _)
theorem KG (keep:Bool->Bool->Bool):mrg keep [] []=[]:=rfl
theorem Ko (keep:Bool->Bool->Bool){a b:LI}(h:¬(a=[]/\b=[])):
  mrg keep a b=(bif keep (Jj a b) (Jj b a) then[hx a b]else[])++mrg keep (tl (Jj a b) a) (tl (Jj b a) b):=by
 have E:=yy h;rw[<-j5 keep (a.length+b.length - 1+1) a b oa,jv,OU h,j5 keep _ _ _ oa]
theorem Qel (keep:Bool->Bool->Bool):∀(n:Nat) (a b:LI),a.length+b.length<=n->(mrg keep a b).length<=a.length+b.length:=by
 intro n;induction n with
 | zero =>
  intro a b h;have E:a=[]:=Ls oa;have hb:b=[]:=Ls oa;subst E hb;simp[KG]
 | succ n ih =>
  intro a b G;by_cases h:a=[]/\b=[]
  ·obtain⟨rfl,rfl⟩:=h;simp[KG]
  have I:=yy h;rw[Ko keep h];have:=ih (tl (Jj a b) a) (tl (Jj b a) b) oa;cases keep (Jj a b) (Jj b a) <;> simp <;> omega
theorem zC (keep:Bool->Bool->Bool)(a b:LI):(mrg keep a b).length<=a.length+b.length:=Qel keep _ a b (Lp _)
theorem yR (q:α->Bool)(es:List α)(lo hi:Nat)(J:lo<=hi)(T:hi<=es.length)(I:∀m (E:m<es.length),m<lo->q es[m]=false)(hb:∀m (E:m<es.length),lo<=m->m<hi->q es[m]=true)
  (hc:∀m (E:m<es.length),hi<=m->q es[m]=false):(es.drop lo).take (hi - lo)=es.filter q:=by
 have e1:es=es.take lo++((es.drop lo).take (hi - lo)++es.drop hi):=by
  conv=>lhs;rw[<-MH lo es]
  congr 1;conv=>lhs;rw[<-MH (hi - lo) (es.drop lo)]
  rw[List.drop_drop];congr 2;omega
 have f1:(es.take lo).filter q=[]:=by
  rw[MO];intro a G;obtain⟨m,E,rfl⟩:=LR G;rw[LC]at E;rw[M9,I m oa oa];simp
 have f3:(es.drop hi).filter q=[]:=by
  rw[MO];intro a G;obtain⟨m,E,rfl⟩:=LR G;rw[Mo]at E;rw[List.getElem_drop,hc (hi+m) oa oa];simp
 have f2:((es.drop lo).take (hi - lo)).filter q=(es.drop lo).take (hi - lo):=by
  rw[NE];intro a G;obtain⟨m,E,rfl⟩:=LR G;rw[LC,Mo]at E;rw[M9,List.getElem_drop];exact hb (lo+m) oa oa oa
 conv=>rhs;rw[e1]
 rw[LT,LT,f1,f2,f3];simp
def QM (es:List Ed)(s:Int):List Ed:=es.filter λe=>decide (e.1=s)
structure QS (a:Qz):Prop where
 al:∀e∈a.al,0<=e/\e<32
 ali:Ys a.al
 st0:0<=a.st
 st1:a.st<=4096
 mr:∀s∈a.mr,0<=s/\s<a.st
 mri:Ys a.mr
 ed:∀e∈a.ed,0<=e.1/\e.1<a.st/\e.2.1∈a.al/\0<=e.2.2/\e.2.2<a.st
 edi:a.ed.Pairwise λx y=>x.1<y.1\/(x.1=y.1/\x.2.1<y.2.1)
theorem Xk (n:Int):∀(l:LI) (pr:Option Int),J9 n pr l=0↔(∀x∈l,0<=x/\x<n)/\Ys l/\∀y,pr=some y->∀x∈l,y<x
 | [],pr=>by simp[J9]
 | a::l,pr=>by
  rw[J9];by_cases U:a<0\/n<=a
  ·rw[OV U];simp only[On];constructor
   ·intro h;cases h
   rintro⟨⟨h,_⟩,_⟩;omega
  rw[OU U];by_cases E:yq pr a=true
  ·rw[OV E];constructor
   ·intro h;cases h
   rintro⟨_,_,h⟩;cases pr with
   | none=>simp[yq]at E
   | some y=>simp[yq]at E;have:=h y O a Lh;omega
  rw[OU E,(Xk n l (some a))];simp only[On,OB];constructor
  ·rintro⟨I,J,G⟩;refine⟨⟨oa,I⟩,⟨λb hb=>G a O b hb,J⟩,?_⟩;rintro y rfl;simp[yq]at E;exact⟨E,λz T=>oo (G a O z T)⟩
  rintro⟨⟨_,I⟩,⟨J,G⟩,_⟩;exact⟨I,G,λy V z T=>by cases V;exact J z T⟩
theorem Qdk (al:LI)(st:Int):∀(l:List Ed) (pr:Option Ed),ckE al st pr l=0↔(∀e∈l,0<=e.1/\e.1<st/\e.2.1∈al/\0<=e.2.2/\e.2.2<st)/\(l.Pairwise λx y=>x.1<y.1\/(x.1=y.1/\x.2.1<y.2.1)) /\
  ∀y,pr=some y->∀e∈l,y.1<e.1\/(y.1=e.1/\y.2.1<e.2.1)
 | [],pr=>by simp[ckE]
 | a::l,pr=>by
  rw[ckE];by_cases V:a.1<0\/st<=a.1\/a.2.2<0\/st<=a.2.2
  ·rw[OV V];simp only[On];constructor
   ·intro h;cases h
   rintro⟨⟨h,_⟩,_⟩;omega
  rw[OU V];by_cases G:a.2.1∉al
  ·rw[OV G];constructor
   ·intro h;cases h
   rintro⟨h,_⟩;exact OX (h a Lh).2.2.1 G
  rw[OU G];by_cases E:edO pr a=true
  ·rw[OV E];constructor
   ·intro h;cases h
   rintro⟨_,_,h⟩;cases pr with
   | none=>simp[edO]at E
   | some y=>simp[edO]at E;have:=h y O a Lh;omega
  rw[OU E,(Qdk al st l (some a))];simp only[On,OB];have Y:a.2.1∈al:=Lt.1 G;constructor
  ·rintro⟨J,T,I⟩;refine⟨⟨⟨oa,oa,Y,oa,oa⟩,J⟩,⟨λb hb=>I a O b hb,T⟩,?_⟩;rintro y rfl;simp[edO]at E;have ha:y.1<a.1\/y.1=a.1/\y.2.1<a.2.1:=oa
   exact⟨ha,λz U=>oo (I a O z U)⟩
  rintro⟨⟨_,J⟩,⟨T,I⟩,_⟩;exact⟨J,I,λy hy z U=>by cases hy;exact T z U⟩
theorem Zz (a:Qz):Jc a=0↔QS a:=by
 unfold Jc;by_cases E:J9 32 none a.al≠0
 ·rw[OV E];exact⟨λh=>OX h E,λh=>OX ((Xk 32 a.al none).2 ⟨h.al,h.ali,λ_ h=>by cases h⟩) E⟩
 rw[OU E];have I:=(Xk 32 a.al none).1 (Lt.1 E);by_cases J:a.st<0
 ·rw[OV J];exact⟨λh=>(by cases h),λh=>(oo h.st0)⟩
 rw[OU J];by_cases T:4096<a.st
 ·rw[OV T];exact⟨λh=>(by cases h),λh=>(oo h.st1)⟩
 rw[OU T];by_cases G:J9 a.st none a.mr≠0
 ·rw[OV G];exact⟨λh=>OX h G,λh=>OX ((Xk a.st a.mr none).2 ⟨h.mr,h.mri,λ_ h=>by cases h⟩) G⟩
 rw[OU G,Qdk];have U:=(Xk a.st a.mr none).1 (Lt.1 G);exact⟨λh=>⟨I.1,I.2.1,oa,oa,U.1,U.2.1,h.1,h.2.1⟩,λh=>⟨h.ed,h.edi,λ_ h=>by cases h⟩⟩
theorem XK:∀(l:LI) (a n:Int),Ys l->(∀x∈l,a<=x/\x<n)->(l.length:Int)<=max 0 (n - a)
 | [],a,n,_,_=>by simp;omega
 | x::l,a,n,E,G=>by
  simp only[OB,On]at E G;have:=XK l (x+1) n E.2 (λy I=>⟨oo (E.1 y I),(G.2 y I).2⟩);simp only[oQ];omega
theorem QS.al_le {a:Qz}(h:QS a):a.al.length<=32:=by have:=XK a.al 0 32 h.ali h.al;omega
theorem QS.mr_le {a:Qz}(h:QS a):a.mr.length<=4096:=by have:=XK a.mr 0 a.st h.mri h.mr;have:=h.st1;omega
theorem QS.eds {a:Qz}(h:QS a):a.ed.Pairwise λx y=>x.1<=y.1:=h.edi.imp λh=>oa
structure Cs where
 ord:LI
 num:LI
 mk':LI
 ed:List Ed
def ZZ (l:LI)(k:Int):Int:=l.getD k.toNat 0
def Zs (i:Nat)(c:Cs)(e:Ed):Cs :=
 if ZZ c.num e.2.2<0 then⟨c.ord++[e.2.2],c.num.set e.2.2.toNat c.ord.length,c.mk',c.ed++[((i:Int),e.2.1,(c.ord.length:Int))]⟩
 else⟨c.ord,c.num,c.mk',c.ed++[((i:Int),e.2.1,ZZ c.num e.2.2)]⟩
def Ym (a:Qz)(i:Nat)(c:Cs):Cs:=if ZZ c.ord i∈a.mr then⟨c.ord,c.num,c.mk'++[(i:Int)],c.ed⟩else c
def zb (a:Qz)(i:Nat)(c:Cs):Cs:=(QM a.ed (ZZ c.ord i)).foldl (Zs i) (Ym a i c)
def Xg (a:Qz):Nat->Nat->Cs->Cs
 | 0,_,c=>c
 | f+1,i,c=>if i<c.ord.length then Xg a f (i+1) (zb a i c) else c
def Z3 (a:Qz):Cs:=⟨[0],(oG a.st.toNat (-1)).set 0 0,[],[]⟩
def YG (a:Qz):Qz:=if a.st=0 then⟨a.al,0,[],[]⟩else
 let c:=Xg a a.st.toNat 0 (Z3 a);⟨a.al,c.ord.length,c.mk',c.ed⟩
def neg (l:LI):Nat:=(l.filter (·<0)).length
theorem UB:∀(l:LI) (k:Nat) (v:Int) (h:k<l.length),l[k]<0->0<=v->neg (l.set k v)+1=neg l
 | a::l,0,v,_,E,G=>by
  have I:a<0:=E;simp[neg,I,show ¬v<0 by omega]
 | a::l,k+1,v,h,E,G=>by
  have ih:=UB l k v (ou h) E G;unfold neg at *;simp only[List.set_cons_succ,OA];split
  ·simp only[oQ];omega
  exact ih
structure Ud (st:Int)(c:Cs):Prop where
 nl:c.num.length=st.toNat
 sum:c.ord.length+neg c.num=st.toNat
 ord:∀s∈c.ord,0<=s/\s<st
 num:∀v∈c.num,v<c.ord.length
 el:c.ed.length<=1000000000
theorem Ud.le {st:Int}{c:Cs}(h:Ud st c):c.ord.length<=st.toNat:=by have:=h.sum;omega
theorem UK {l:LI}{k:Int}(h:k.toNat<l.length):ZZ l k=l[k.toNat]:=by unfold ZZ;simp[oN,h]
theorem Qca {st:Int}{c:Cs}{e:Ed}(h:Ud st c)(T:0<=e.2.2)(U:e.2.2<st)(hl:c.ed.length+1<=1000000000):Ud st (Zs i c e):=by
 have I:e.2.2.toNat<c.num.length:=by rw[h.nl];omega
 unfold Zs;split
 ·rename_i J;rw[UK I]at J;refine⟨by simp[h.nl],?_,?_,?_,ou hl⟩
  ·have:=UB c.num e.2.2.toNat c.ord.length I J oa;have:=h.sum;simp only[oM,oL];omega
  ·intro s E;simp only[oW,oF]at E;rcases E with E|rfl
   ·exact h.ord s E
   exact⟨T,U⟩
  intro v G;simp only[oM,oL];rcases Ny G with G|rfl
  ·have:=h.num v G;omega
  omega
 exact⟨h.nl,h.sum,h.ord,h.num,ou hl⟩
theorem Qcc (i:Nat)(c:Cs)(e:Ed):(Zs i c e).ed.length=c.ed.length+1:=by unfold Zs;split <;> simp
theorem QjI {a:Qz}{st:Int}{c:Cs}(h:Ud st c):Ud st (Ym a i c):=by
 unfold Ym;split
 ·exact⟨h.nl,h.sum,h.ord,h.num,h.el⟩
 exact h
theorem Zt {es:List Ed}{e:Ed}(h:e∈QM es s):e∈es/\e.1=s:=by unfold QM at h;simpa using h
theorem QgF {a:Qz}(T:0<a.st):Ud a.st (Z3 a):=by
 have I:0<a.st.toNat:=oa
 refine⟨by simp[Z3],?_,?_,?_,by simp[Z3]⟩
 ·have J:0<(oG a.st.toNat (-1:Int)).length:=by simpa using I
  have U:=UB (oG a.st.toNat (-1)) 0 0 J od (MC _);have V:neg (oG a.st.toNat (-1))=a.st.toNat:=by
   unfold neg;rw[NE.2 (by intro b hb;have:=ND hb;subst this;rfl)];simp
  simp only[Z3,oL];omega
 ·intro s G;simp[Z3]at G;subst G;omega
 intro v E;simp only[Z3,oL]at *;rcases Ny E with E|rfl
 ·have:=ND E;omega
 omega
theorem Qar {a:Qz}{f:Nat}{c:Cs}(h:¬i<c.ord.length):Xg a f i c=c:=by
 cases f with
 | zero=>rfl
 | succ f=>rw[Xg,OU h]
theorem QS.ed_le {a:Qz}(h:QS a):a.ed.length<=131072:=by
 have I:Ys (a.ed.map λe=>e.1*32+e.2.1):=by
  refine L9.2 (List.Pairwise.imp_of_mem ?_ h.edi);intro x y hx J V;have E:=h.al _ (h.ed x hx).2.2.1;have G:=h.al _ (h.ed y J).2.2.1;omega
 have E:=XK _ 0 131072 I (by
  intro v T;obtain⟨e,U,rfl⟩:=Lx.1 T;have G:=h.ed e U;have Y:=h.al _ G.2.2.1;have:=h.st1;omega)
 simp only[Ow]at E;omega
theorem Yg (es:List Ed)(s:Int):(QM es s).length<=es.length:=LK _ _
section
variable {K:Fr->O2->Prop}{f:Fr}{l:xE}{C:xA}{pl:xu}{i0:Nat}
theorem O9 {g:α->LV}{x:O4}{e bys:Nat}[Sl P t e sz bys z](G:∀x,(g x).length=sz){L:LN}{es:List α}{v:O3}{k:IntKind}
  (h:Zu L ↑w v es.length sz (es.flatMap g)) (I:ev f x=v) (J:ev f y=.int k i) (hi:i<es.length)
  (hK:∀a,At L ↑w a (g es[i])->XL P ops K l (QP f d (.pointer (some a))) w) (T:Z9 ops f ⟨d,.indexAddr t x y,ty,pS,af,gd⟩=true:=by rfl):
  XL P ops K (⟨d,.indexAddr t x y,ty,pS,af,gd⟩::l) f w:=by
 obtain⟨a,cap,U,E⟩:=Zu.at h hi;rw[Jl g sz G es i hi]at E;refine xl T (xv (XZ (I.D U) J oa oa) (hK _ ?_));simpa using E
theorem pig {g:α->LV}{x:O4}{e bys:Nat}[Sl P t e sz bys z](E:QR ops i0=⟨d,.indexAddr t x y,ty,pS,af,gd⟩)(I:∀x,(g x).length=sz){L:LN}{es:List α}{v:O3}{H:xC}{k:IntKind}
  (h:Zu L H v es.length sz (es.flatMap g)) (J:ev f x=v) (T:ev f y=.int k i) (hi:i<es.length)
  (hK:∀a,At L H a (g es[i])->XP P ops C K pl (QP f d (.pointer (some a))) w) (U:Z9 ops f (QR ops i0)=true:=by rfl):
  XP P ops C K ((i0,true)::pl) f w:=by
 obtain⟨a,cap,V,G⟩:=Zu.at h hi;rw[Jl g sz I es i hi]at G;refine Lg.p (λw'=>by rw[E];exact XZ (J.D V) T oa oa) ?_ U;rw[E];refine hK _ ?_;simpa using G
end
theorem Zu.grow {X X' Y:LN}{v:O3}{cs:LV}(h:Zu X ↑w v n sz cs)(G:O6 Y w w')(I:∀b∈Y,b∈X)(hX:∀b∈X',b∈X\/↑w<=b):Zu X' ↑w' v n sz cs:=by
 have E:Zu (X++X') ↑w v n sz cs:=h.up (λb hb=>by
  rcases Le.1 hb with E|E
  ·exact .inl E
  exact hX b E)
 exact(E.J G (λb hb=>Le.2 (.inl (I b hb)))).up (λb hb=>.inl (Le.2 (.inr hb)))
structure AV where
 va:O3
 vm:O3
 ve:O3
 a:Qz
abbrev ZJ (p:AV):LV:=[p.va,sS p.a.st,p.vm,p.ve]
structure X7 (L:LN)(H:xC)(v:O3)(ps:List AV):Prop where
 arr:Zu L H v ps.length 4 (ps.flatMap ZJ)
 each:∀p∈ps,Zr L H p.va p.vm p.ve p.a
theorem X7.I {L:LN}{w w':O2}{v:O3}{ps:List AV}(h:X7 L ↑w v ps)(E:sW w w'):X7 L ↑w' v ps:=⟨h.arr.I E,λp G=>(h.each p G).I E⟩
theorem X7.st {L:LN}{w w':O2}{v:O3}{ps:List AV}(h:X7 L ↑w v ps)(E:O6 L w w'):X7 L ↑w' v ps:=⟨h.arr.st E,λp G=>(h.each p G).st E⟩
theorem X7.up {L L':LN}{H:xC}{v:O3}{ps:List AV}(h:X7 L H v ps)(E:∀b∈L',b∈L\/H.size<=b):X7 L' H v ps:=⟨h.arr.up E,λp G=>(h.each p G).up E⟩
abbrev TV:=O3×LI
abbrev YK (p:TV):LV:=[p.1]
structure JQ (L:LN)(H:xC)(v:O3)(ps:List TV):Prop where
 arr:Zu L H v ps.length 1 (ps.flatMap YK)
 each:∀p∈ps,Qu L H p.1 p.2
theorem JQ.I {L:LN}{w w':O2}{v:O3}{ps:List TV}(h:JQ L ↑w v ps)(E:sW w w'):JQ L ↑w' v ps:=⟨h.arr.I E,λp G=>(h.each p G).I E⟩
theorem JQ.st {L:LN}{w w':O2}{v:O3}{ps:List TV}(h:JQ L ↑w v ps)(E:O6 L w w'):JQ L ↑w' v ps:=⟨h.arr.st E,λp G=>(h.each p G).st E⟩
theorem JQ.up {L L':LN}{H:xC}{v:O3}{ps:List TV}(h:JQ L H v ps)(E:∀b∈L',b∈L\/H.size<=b):JQ L' H v ps:=⟨h.arr.up E,λp G=>(h.each p G).up E⟩
def QdB (N:Nat)(H:xC)(v:O3)(l:List (LI)):Prop:=∃ps:List TV,ps.map (·.2)=l/\∀L:LN,(∀b∈L,b<N)->JQ L H v ps
theorem QdB.S {M:Nat}{H:xC}{v:O3}{l:List (LI)}(h:QdB N H v l)(E:M<=N):QdB M H v l:=let⟨ps,G,I⟩:=h;⟨ps,G,λL J=>I L (λb hb=>LU (J b hb) E)⟩
abbrev zk (e base:Nat)(w:O2)(v:O3)(ps:List TV):Prop:=w.ownsRow base e 1 v ps.length (ps.flatMap YK)
theorem zk.snoc {e:Nat}{v:O3}{ps:List TV}{p:TV}(h:w.ownsRow base e 1 v (ps.length+1) (ps.flatMap YK++[p.1])):zk e base w v (ps++[p]):=by
 unfold zk;rw[Lc,LF];simpa using h
theorem qn {e:Nat}{v:O3}{cs:LV}(h:w.ownsRow base e sz v n cs)(G:0<n):∃g cap,v=sL g n cap:=by
 rcases h.2 with⟨_,I⟩|⟨g,cap,cur,E,_⟩
 ·omega
 exact⟨g,cap,E⟩
section
variable {K:Fr->O2->Prop}{f:Fr}{l:xE}
theorem QcF [h1:XS P t]{x:O4}{e cap:Nat}{cs:LV}{u:O3}(h:w.ownsRow base e 1 (sL g n cap) n cs)(hx:ev f x=.pointer (some ⟨g,0+i*1,none⟩))(G:ev f y=u)(hi:i<n)(I:u.oneCell'=true)
  (hK:∀w',O6 [g] w w'->w'.ownsRow base e 1 (sL g n cap) n (cs.set i u)->K (QP f d undef) w'):XO P ⟨d,.store t x y,ty,pS,af,gd⟩ f w K:=by
 obtain⟨hl,h⟩:=h;rcases h with⟨J,_⟩|⟨g',cap',cur,e1,hb,T,U,V,E,Y⟩
 ·cases J
 cases e1
 have hB:QK ↑w g e cur.toList:=by unfold QK;simpa using T
 refine Qv (j:=i) hB (by rw[hx];simp) G (by simp[E];omega) I λw' hs ha=>hK w' hs ⟨ou hl,.inr ⟨g,cap,(cur.toList.set i u).toArray,rfl,hb,ha,U,V,ou E,?_⟩⟩;rw[<-Y];simp[List.take_set]
end
section
variable {f:Fr}{κ:Type}[DecidableEq κ]
theorem qg [hm:Mp P t kt et z]{enc:κ->O3}[hk:Key P kt enc]{x:O4}{b:Nat}{m:List (κ×O3)}{k:κ}{u:O3}(h:ZU enc ↑w b m)(hx:ev f x=.map (some b))(E:ev f y=enc k)(G:xh m k=some u):
  (execOp (ev f) ⟨d,.lookup t x y true,ty,pS,af,gd⟩).run P w=.ok (.value (.tuple #[u,.bool true])) w:=by
 have:=K6 (P:=P) (t:=t) (d:=d) (ty:=ty) (pS:=pS) (af:=af) (gd:=gd) h hx E;rw[G]at this;exact this
theorem jV [hm:Mp P t kt et z]{enc:κ->O3}[hk:Key P kt enc]{x:O4}{b:Nat}{m:List (κ×O3)}{k:κ}(h:ZU enc ↑w b m)(hx:ev f x=.map (some b))(E:ev f y=enc k)(G:xh m k=none):
  (execOp (ev f) ⟨d,.lookup t x y true,ty,pS,af,gd⟩).run P w=.ok (.value (.tuple #[z,.bool false])) w:=by
 have:=K6 (P:=P) (t:=t) (d:=d) (ty:=ty) (pS:=pS) (af:=af) (gd:=gd) h hx E;rw[G]at this;exact this
end
def ckL:List Qz->Int
 | []=>0
 | a::l=>if Jc a≠0 then Jc a else ckL l
def KT (l:List Qz):Int:=if 12<l.length then 3 else ckL l
theorem UW:∀(l:List Qz),ckL l=0↔∀a∈l,QS a
 | []=>by simp[ckL]
 | a::l=>by
  rw[ckL];by_cases h:Jc a=0
  ·rw[OU (ou h),UW l];simp[(Zz a).1 h]
  rw[OV h];simp only[On];exact⟨λe=>OX e h,λe=>OX ((Zz a).2 e.1) h⟩
def evs (l:List Qz):LI:=l.foldl (λacc a=>mrg (· || ·) acc a.al) []
def KS (m:List ((Int×Int)×O3))(es:List Ed):List ((Int×Int)×O3):=es.foldl (λm e=>xj m (e.1,e.2.1) (sS e.2.2)) m
def xo:List Ed->Int->Int->Option Int
 | [],_,_=>none
 | e::l,s,v=>if e.1=s/\e.2.1=v then some e.2.2 else xo l s v
theorem VB {l:List Ed}{v:Int}(h:∀e∈l,¬(e.1=s/\e.2.1=v)):xo l s v=none:=by
 induction l with
 | nil=>rfl
 | cons e l ih =>
  rw[xo,OU (h e Lh)];exact ih λe E=>h e (Lj _ E)
theorem qB:∀(es:List Ed) (m:List ((Int×Int)×O3)) (s v:Int),(es.Pairwise λx y=>x.1<y.1\/(x.1=y.1/\x.2.1<y.2.1)) ->
  xh (KS m es) (s,v)=match xo es s v with|some t=>some (sS t)|none=>xh m (s,v)
 | [],m,s,v,_=>rfl
 | e::es,m,s,v,h=>by
  simp only[OB]at h;have ih:=qB es (xj m (e.1,e.2.1) (sS e.2.2)) s v h.2;unfold KS at *;rw[LQ,ih,xo];by_cases E:e.1=s/\e.2.1=v
  ·rw[OV E,VB (λx hx I=>oo (h.1 x hx))];simp only[Jt];rw[OV (by rw[E.1,E.2])]
  rw[OU E];cases xo es s v with
  | some t=>rfl
  | none =>
   simp only[Jt];rw[OU (λG=>E (ou G))]
def QZ (ev:Int):List Qz->LI->Option (LI)
 | a::bs,t::ts=>if ev∉a.al then(QZ ev bs ts).map (t::·) else match xo a.ed t ev with|none=>none|some u=>(QZ ev bs ts).map (u::·)
 | _,_=>some []
def JH:List Qz->LI->Bool
 | a::bs,t::ts=>decide (t∈a.mr) && JH bs ts
 | _,_=>true
structure Sy where
 tup:List (LI)
 mk':LI
 ed:List Ed
def syE (aa:List Qz)(i:Nat)(t:LI)(s:Sy)(v:Int):Option Sy :=
 match QZ v aa t with
 | none=>some s
 | some u=>if u∈s.tup then some ⟨s.tup,s.mk',s.ed++[((i:Int),v,(s.tup.idxOf u:Int))]⟩
  else if s.tup.length=4096 then none else some ⟨s.tup++[u],s.mk',s.ed++[((i:Int),v,(s.tup.length:Int))]⟩
def VS (aa:List Qz)(i:Nat)(t:LI):LI->Sy->Option Sy
 | [],s=>some s
 | v::vs,s=>(syE aa i t s v).bind (VS aa i t vs)
def ZY (aa:List Qz)(i:Nat)(t:LI)(s:Sy):Sy:=if JH aa t=true then⟨s.tup,s.mk'++[(i:Int)],s.ed⟩else s
def Jq (s:Sy)(i:Nat):LI:=s.tup.getD i []
def syL (aa:List Qz):Nat->Nat->Sy->Option Sy
 | 0,_,s=>some s
 | f+1,i,s=>if i<s.tup.length then(VS aa i (Jq s i) (evs aa) (ZY aa i (Jq s i) s)).bind (syL aa f (i+1)) else some s
def zT (aa:List Qz):Sy:=⟨[oG aa.length 0],[],[]⟩
def xp (aa:List Qz):Option (Qz×List (LI)):=
 if ∃a∈aa,a.st=0 then some (⟨evs aa,0,[],[]⟩,[]) else(syL aa 4096 0 (zT aa)).map λs=>(⟨evs aa,s.tup.length,s.mk',s.ed⟩,s.tup)
theorem Qiu {aa:List Qz}{f:Nat}{s:Sy}(h:¬i<s.tup.length):syL aa f i s=some s:=by
 cases f with
 | zero=>rfl
 | succ f=>rw[syL,OU h]
def Vt (aa:List Qz)(t:LI):Prop:=t.length=aa.length/\∀i (h:i<t.length) (E:i<aa.length),0<=t[i]/\t[i]<aa[i].st
theorem Vt.cons {a:Qz}{aa:List Qz}{u:Int}{t:LI}(E:0<=u)(G:u<a.st)(h:Vt aa t):Vt (a::aa) (u::t):=by
 refine⟨by simp[h.1],λi I J=>?_⟩;cases i with
 | zero=>exact⟨E,G⟩
 | succ i=>exact h.2 i (ou I) (ou J)
theorem YS {l:List Ed}{v u:Int}(h:xo l s v=some u):(s,v,u)∈l:=by
 induction l with
 | nil=>cases h
 | cons e l ih =>
  rw[xo]at h;split at h
  ·rename_i E;obtain⟨e1,e2⟩:=E;cases h
   obtain⟨a,b,c⟩:=e;subst e1 e2;exact Lh
  exact Lj _ (ih h)
theorem Xs {v:Int}:∀{aa:List Qz}{t u:LI},(∀a∈aa,QS a)->Vt aa t->QZ v aa t=some u->Vt aa u
 | [],t,u,_,h,E=>by
  cases t with
  | nil=>simp[QZ]at E;subst E;exact h
  | cons x t=>have:=h.1;simp at this
 | a::aa,[],u,_,h,E=>by have:=h.1;simp at this
 | a::aa,x::t,u,I,h,E=>by
  have hx:=h.2 0 od od;have ht:Vt aa t:=⟨by have:=h.1;simpa using this,λi T U=>h.2 (i+1) (ou T) (ou U)⟩;have J:∀a∈aa,QS a:=λa V=>I a (Lj _ V);rw[QZ]at E;split at E
  ·obtain⟨Y,G,rfl⟩:=Md.1 E;exact Vt.cons hx.1 hx.2 (Xs J ht G)
  split at E
  ·cases E
  rename_i q hq;obtain⟨Y,G,rfl⟩:=Md.1 E;have:=(I a Lh).ed _ (YS hq);exact Vt.cons this.2.2.2.1 this.2.2.2.2 (Xs J ht G)
structure qH (aa:List Qz)(s:Sy):Prop where
 v:∀t∈s.tup,Vt aa t
 le:s.tup.length<=4096
theorem jI {aa:List Qz}{t:LI}{s:Sy}(h:qH aa s):qH aa (ZY aa i t s):=by
 unfold ZY;split
 ·exact⟨h.v,h.le⟩
 exact h
theorem Qiy {aa:List Qz}{t:LI}{s G:Sy}{v:Int}(I:∀a∈aa,QS a)(h:qH aa s)(ht:Vt aa t)(E:syE aa i t s v=some G):qH aa G:=by
 unfold syE at E;split at E
 ·cases E;exact h
 rename_i u J;split at E
 ·cases E;exact⟨h.v,h.le⟩
 split at E
 ·cases E
 cases E
 have:=h.le;refine⟨λt ht=>?_,by simp;omega⟩;simp only[oW,oF]at ht;rcases ht with ht|rfl
 ·exact h.v t ht
 exact(Xs I ht J)
structure Uf where
 en:LI
 dis:LI
 mk':Bool
 ps:Bool
def QpY:Uf:=⟨[],[],false,false⟩
def QoC (l:LI)(v:Int):LI:=mrg (· || ·) l [v]
def QsU (p s:Qz)(x y:Int)(c:Uf)(v:Int):Uf :=
 match xo p.ed x v with
 | none=>c
 | some _=>match xo s.ed y v with
  | some _=>⟨QoC c.en v,c.dis,c.mk',c.ps⟩
  | none=>⟨c.en,QoC c.dis v,c.mk',c.ps⟩
def QsV (p s:Qz)(x y:Int)(c:Uf):Uf:=⟨c.en,c.dis,decide (y∈s.mr),c.ps || decide (x∈p.mr)⟩
def QsT (p s:Qz)(x y:Int)(c:Uf):Uf:=s.al.foldl (QsU p s x y) (QsV p s x y c)
def px (q:LI):Int:=q.getD 0 0
def py (q:LI):Int:=q.getD 1 0
def QsS (p s:Qz)(l:List Uf)(q:LI):List Uf:=l.set (py q).toNat (QsT p s (px q) (py q) (l.getD (py q).toNat QpY))
def ctls (p s:Qz)(pairs:List (LI)):List Uf:=pairs.foldl (QsS p s) (oG s.st.toNat QpY)
def occs (n:Nat)(pairs:List (LI)):List Bool:=pairs.foldl (λo q=>o.set (py q).toNat true) (oG n false)
def meets (a b:LI):LI:=mrg (· && ·) a b
def Qry (a b:Uf):Bool:=decide ((meets a.en b.dis).length+(meets b.en a.dis).length=0) && (!a.ps || !b.ps || a.mk' == b.mk')
def O7 (l:LI)(i:Nat):Int:=l.getD i 0
def QjH (cl:LI)(x y:Nat):LI:=cl.map λc=>if c=O7 cl y then O7 cl x else c
def lget (l:List Uf)(i:Nat):Uf:=l.getD i QpY
def to0 (s:Qz)(x:Nat)(v:Int):Int:=match xo s.ed x v with|some u=>u|none=>0
def clE (s:Qz)(x y:Nat)(z:LI×Bool)(v:Int):LI×Bool :=
 if O7 z.1 (to0 s x v).toNat≠O7 z.1 (to0 s y v).toNat then(QjH z.1 (to0 s x v).toNat (to0 s y v).toNat,true) else z
def clY (s:Qz)(l:List Uf)(x:Nat)(z:LI×Bool)(y:Nat):LI×Bool :=
 if O7 z.1 x<0\/O7 z.1 x≠O7 z.1 y then z else(meets (lget l x).en (lget l y).en).foldl (clE s x y) z
def clX (s:Qz)(l:List Uf)(n:Nat)(z:LI×Bool)(x:Nat):LI×Bool:=(oO (x+1) (n - (x+1))).foldl (clY s l x) z
def pass (s:Qz)(l:List Uf)(cl:LI):LI×Bool:=(oO 0 cl.length).foldl (clX s l cl.length) (cl,false)
def Qk0 (s:Qz)(l:List Uf):Nat->LI->LI
 | 0,cl=>cl
 | f+1,cl=>if(pass s l cl).2=true then Qk0 s l f (pass s l cl).1 else(pass s l cl).1
def QnA (l:List Uf)(cl:LI):Bool :=
 (oO 0 cl.length).all λx=>(oO 0 x).all λy=>!(decide (0<=O7 cl x/\O7 cl x=O7 cl y) && !Qry (lget l x) (lget l y))
def Qsm (s:Qz)(l:List Uf)(cl:LI)(x y:Nat):LI :=
 if O7 cl x<0\/O7 cl y<0\/O7 cl x=O7 cl y then cl else
  let d:=Qk0 s l (cl.length*cl.length+1) (QjH cl x y)
  if QnA l d=true then d else cl
def Qsl (s:Qz)(l:List Uf)(n:Nat)(cl:LI)(x:Nat):LI:=(oO (x+1) (n - (x+1))).foldl (λc y=>Qsm s l c x y) cl
def QsX (o:List Bool):LI:=(oO 0 o.length).map λi=>if o.getD i false=true then(i:Int) else -1
def QsW (s:Qz)(l:List Uf)(cl:LI):LI:=(oO 0 cl.length).foldl (Qsl s l cl.length) cl
def QsI (z:LI×LI)(c:Int):LI×LI :=
 if c∈z.1 then(z.1,z.2++[(z.1.idxOf c:Int) - 1]) else(z.1++[c],z.2++[(z.1.length:Int) - 1])
def nums (cl:LI):LI:=(cl.foldl QsI ([-1],[])).2
def QrD (p s:Qz)(pairs:List (LI)):LI:=nums (QsW s (ctls p s pairs) (QsX (occs s.st.toNat pairs)))
end Go.Lg
namespace Go.Proofs
open Go.Proofs.Tryz
open Go.Lg
instance:Sl sV 32 183 4 4 (.agg #[.int .u8 0,.int .u8 0,.int .u8 0,.int .u8 0]):={}
instance:Sl sV 41 94 5 32 (.agg #[.string ByteArray.empty,.bool false,.bool false,.bool false,sS 0]):={}
instance:Sl sV 42 81 5 96 (.agg #[.string ByteArray.empty,nS,sS 0,nS,nS]):={}
instance:Sl sV 43 186 2 40 (.agg #[.string ByteArray.empty,nS]):={}
instance:Sl sV 44 191 3 48 (.agg #[.string ByteArray.empty,nS,sS 0]):={}
instance:Sl sV 47 3 1 8 (sS 0):={}
instance:Sl sV 51 179 3 24 (.agg #[sS 0,sS 0,sS 0]):={}
instance:Sl sV 54 47 1 24 (nS):={}
instance:Sl sV 64 53 4 80 (.agg #[nS,sS 0,nS,nS]):={}
instance:Sl sV 86 5 1 1 (.int .u8 0):={}
instance:Sl sV 87 173 4 32 (.agg #[sS 0,sS 0,sS 0,sS 0]):={}
instance:Sl sV 119 123 2 24 (.agg #[.string ByteArray.empty,.nilFunc]):={}
instance:Sl sV 135 55 1 8 (sS 0):={}
instance:Sl sV 144 323 4 32 (.agg #[sS 0,sS 0,sS 0,sS 0]):={}
instance:Sl sV 184 188 2 16 (.agg #[sS 0,sS 0]):={}
instance:Sl sV 189 193 2 16 (.agg #[sS 0,sS 0]):={}
instance:Sl sV 199 51 1 24 (nS):={}
instance:Sl sV 223 249 1 8 (.map none):={}
instance:Sl sV 240 239 3 56 (.agg #[sS 0,nS,nS]):={}
instance:Sl sV 254 253 4 32 (.agg #[sS 0,sS 0,sS 0,sS 0]):={}
instance:Sl sV 270 334 1 8 (.nilFunc):={}
instance:Sl sV 301 4 1 1 (.bool false):={}
instance:Sl sV 356 355 3 24 (.agg #[sS 0,sS 0,sS 0]):={}
instance:Sl sV 362 361 3 72 (.agg #[nS,nS,nS]):={}
instance:Sl sV 383 382 2 32 (.agg #[nS,sS 0]):={}
instance:Zb sV 28 0 0:={}
instance:Zb sV 28 1 1:={}
instance:Zb sV 28 2 2:={}
instance:Zb sV 36 0 0:={}
instance:Zb sV 36 1 5:={}
instance:Zb sV 36 2 6:={}
instance:Zb sV 36 3 9:={}
instance:Zb sV 36 4 90:={}
instance:Zb sV 36 5 91:={}
instance:Zb sV 36 6 93:={}
instance:Zb sV 36 7 147:={}
instance:Zb sV 36 8 148:={}
instance:Zb sV 36 9 151:={}
instance:Zb sV 38 0 0:={}
instance:Zb sV 38 1 152:={}
instance:Zb sV 46 0 0:={}
instance:Zb sV 46 1 1:={}
instance:Zb sV 46 2 2:={}
instance:Zb sV 46 3 3:={}
instance:Zb sV 46 4 4:={}
instance:Zb sV 53 0 0:={}
instance:Zb sV 53 1 1:={}
instance:Zb sV 53 2 2:={}
instance:Zb sV 53 3 3:={}
instance:Zb sV 59 0 0:={}
instance:Zb sV 59 1 1:={}
instance:Zb sV 59 2 2:={}
instance:Zb sV 59 3 3:={}
instance:Zb sV 59 4 4:={}
instance:Zb sV 59 5 5:={}
instance:Zb sV 59 6 6:={}
instance:Zb sV 59 7 7:={}
instance:Zb sV 81 0 0:={}
instance:Zb sV 81 1 1:={}
instance:Zb sV 89 0 0:={}
instance:Zb sV 89 1 4:={}
instance:Zb sV 89 2 5:={}
instance:Zb sV 89 3 6:={}
instance:Zb sV 89 4 7:={}
instance:Zb sV 94 0 0:={}
instance:Zb sV 94 1 1:={}
instance:Zb sV 94 2 2:={}
instance:Zb sV 94 3 3:={}
instance:Zb sV 94 4 4:={}
instance:Zb sV 113 0 0:={}
instance:Zb sV 113 1 5:={}
instance:Zb sV 113 2 9:={}
instance:Zb sV 113 3 10:={}
instance:Zb sV 118 0 0:={}
instance:Zb sV 118 1 8:={}
instance:Zb sV 123 1 1:={}
instance:Zb sV 146 0 0:={}
instance:Zb sV 146 1 1:={}
instance:Zb sV 146 2 2:={}
instance:Zb sV 148 0 0:={}
instance:Zb sV 148 1 3:={}
instance:Zb sV 148 2 4:={}
instance:Zb sV 148 3 8:={}
instance:Zb sV 163 0 0:={}
instance:Zb sV 163 1 1:={}
instance:Zb sV 163 2 2:={}
instance:Zb sV 166 0 0:={}
instance:Zb sV 166 1 5:={}
instance:Zb sV 166 2 9:={}
instance:Zb sV 166 3 10:={}
instance:Zb sV 166 4 14:={}
instance:Zb sV 166 5 15:={}
instance:Zb sV 166 6 18:={}
instance:Zb sV 173 0 0:={}
instance:Zb sV 179 0 0:={}
instance:Zb sV 179 1 1:={}
instance:Zb sV 179 2 2:={}
instance:Zb sV 186 0 0:={}
instance:Zb sV 186 1 1:={}
instance:Zb sV 188 0 0:={}
instance:Zb sV 188 1 1:={}
instance:Zb sV 191 0 0:={}
instance:Zb sV 191 1 1:={}
instance:Zb sV 191 2 2:={}
instance:Zb sV 193 0 0:={}
instance:Zb sV 193 1 1:={}
instance:Zb sV 201 0 0:={}
instance:Zb sV 201 1 1:={}
instance:Zb sV 201 2 2:={}
instance:Zb sV 201 3 3:={}
instance:Zb sV 225 0 0:={}
instance:Zb sV 225 1 1:={}
instance:Zb sV 225 2 2:={}
instance:Zb sV 236 0 0:={}
instance:Zb sV 236 1 4:={}
instance:Zb sV 236 2 5:={}
instance:Zb sV 236 3 6:={}
instance:Zb sV 239 0 0:={}
instance:Zb sV 239 1 1:={}
instance:Zb sV 239 2 2:={}
instance:Zb sV 251 0 0:={}
instance:Zb sV 251 1 1:={}
instance:Zb sV 251 2 2:={}
instance:Zb sV 253 0 0:={}
instance:Zb sV 253 1 2:={}
instance:Zb sV 253 2 3:={}
instance:Zb sV 261 0 0:={}
instance:Zb sV 261 1 1:={}
instance:Zb sV 304 0 0:={}
instance:Zb sV 304 1 4:={}
instance:Zb sV 323 0 0:={}
instance:Zb sV 327 0 0:={}
instance:Zb sV 327 1 4:={}
instance:Zb sV 327 2 5:={}
instance:Zb sV 327 3 6:={}
instance:Zb sV 355 0 0:={}
instance:Zb sV 355 1 1:={}
instance:Zb sV 355 2 2:={}
instance:Zb sV 361 0 0:={}
instance:Zb sV 361 1 1:={}
instance:Zb sV 361 2 2:={}
instance:Zb sV 382 0 0:={}
instance:Zb sV 382 1 1:={}
instance:XS sV 3:={}
instance:XS sV 4:={}
instance:XS sV 5:={}
instance:XS sV 9:={}
instance:XS sV 24:={}
instance:XS sV 32:={}
instance:XS sV 33:={}
instance:XS sV 41:={}
instance:XS sV 42:={}
instance:XS sV 43:={}
instance:XS sV 44:={}
instance:XS sV 47:={}
instance:XS sV 51:={}
instance:XS sV 54:={}
instance:XS sV 55:={}
instance:XS sV 64:={}
instance:XS sV 86:={}
instance:XS sV 87:={}
instance:XS sV 121:={}
instance:XS sV 128:={}
instance:XS sV 144:={}
instance:XS sV 152:={}
instance:XS sV 159:={}
instance:XS sV 164:={}
instance:XS sV 184:={}
instance:XS sV 189:={}
instance:XS sV 199:={}
instance:XS sV 223:={}
instance:XS sV 242:={}
instance:XS sV 249:={}
instance:XS sV 259:={}
instance:XS sV 275:={}
instance:XS sV 301:={}
instance:XS sV 325:={}
instance:XS sV 334:={}
instance:XS sV 356:={}
instance:Ag sV 23 5:={}
instance:Ag sV 28 27:={}
instance:Ag sV 36 152:={}
instance:Ag sV 38 153:={}
instance:Ag sV 46 5:={}
instance:Ag sV 53 4:={}
instance:Ag sV 59 8:={}
instance:Ag sV 81 5:={}
instance:Ag sV 89 8:={}
instance:Ag sV 94 5:={}
instance:Ag sV 113 11:={}
instance:Ag sV 123 2:={}
instance:Ag sV 148 9:={}
instance:Ag sV 156 2:={}
instance:Ag sV 163 3:={}
instance:Ag sV 173 4:={}
instance:Ag sV 179 3:={}
instance:Ag sV 183 4:={}
instance:Ag sV 186 2:={}
instance:Ag sV 188 2:={}
instance:Ag sV 191 3:={}
instance:Ag sV 193 2:={}
instance:Ag sV 201 4:={}
instance:Ag sV 225 3:={}
instance:Ag sV 239 3:={}
instance:Ag sV 304 5:={}
instance:Ag sV 323 4:={}
instance:Ag sV 361 3:={}
instance:Ag sV 382 2:={}
instance:Ze sV 3 (sS 0):={}
instance:Ze sV 46 (.agg #[nS,nS,nS,nS,nS]):={}
instance:Ze sV 47 (nS):={}
instance:Ze sV 53 (.agg #[nS,sS 0,nS,nS]):={}
instance:Ze sV 55 (sS 0):={}
instance:Ze sV 59 (.agg #[.bool false,nS,.bool false,nS,nS,.bool false,nS,sS 0]):={}
instance:Ze sV 81 (.agg #[.string ByteArray.empty,nS,sS 0,nS,nS]):={}
instance:Ze sV 89 (.agg #[nS,sS 0,nS,nS,nS,nS,nS,nS]):={}
instance:Ze sV 94 (.agg #[.string ByteArray.empty,.bool false,.bool false,.bool false,sS 0]):={}
instance:Ze sV 113 (.agg #[nS,nS,nS,nS,nS,nS,sS 0,nS,nS,nS,nS]):={}
instance:Ze sV 123 (.agg #[.string ByteArray.empty,.nilFunc]):={}
instance:Ze sV 148 (.agg #[nS,nS,nS,sS 0,nS,sS 0,nS,nS,nS]):={}
instance:Ze sV 152 (.pointer none):={}
instance:Ze sV 156 (.agg #[sS 0,sS 0]):={}
instance:Ze sV 163 (.agg #[nS,nS,nS]):={}
instance:Ze sV 173 (.agg #[sS 0,sS 0,sS 0,sS 0]):={}
instance:Ze sV 179 (.agg #[sS 0,sS 0,sS 0]):={}
instance:Ze sV 183 (.agg #[.int .u8 0,.int .u8 0,.int .u8 0,.int .u8 0]):={}
instance:Ze sV 186 (.agg #[.string ByteArray.empty,nS]):={}
instance:Ze sV 188 (.agg #[sS 0,sS 0]):={}
instance:Ze sV 191 (.agg #[.string ByteArray.empty,nS,sS 0]):={}
instance:Ze sV 193 (.agg #[sS 0,sS 0]):={}
instance:Ze sV 201 (.agg #[nS,nS,nS,nS]):={}
instance:Ze sV 225 (.agg #[nS,nS,nS]):={}
instance:Ze sV 239 (.agg #[sS 0,nS,nS]):={}
instance:Ze sV 261 (.agg #[.pointer none,nS]):={}
instance:Ze sV 301 (nS):={}
instance:Ze sV 304 (.agg #[nS,sS 0,nS,nS,nS]):={}
instance:Ze sV 323 (.agg #[sS 0,sS 0,sS 0,sS 0]):={}
instance:Ze sV 356 (nS):={}
instance:Ze sV 361 (.agg #[nS,nS,nS]):={}
instance:Ze sV 382 (.agg #[nS,sS 0]):={}
instance:Bs sV 46 [nS,nS,nS,nS,nS] [0,1,2,3,4]:={}
instance:Bs sV 53 [nS,sS 0,nS,nS] [0,1,2,3]:={}
instance:Bs sV 94 [.string ByteArray.empty,.bool false,.bool false,.bool false,sS 0] [0,1,2,3,4]:={}
instance:Bs sV 123 [.string ByteArray.empty,.nilFunc] [0,1]:={}
instance:Bs sV 143 [sS 0,sS 0] [0,1]:={}
instance:Bs sV 156 [sS 0,sS 0] [0,1]:={}
instance:Bs sV 163 [nS,nS,nS] [0,1,2]:={}
instance:Bs sV 173 [sS 0,sS 0,sS 0,sS 0] [0,1,2,3]:={}
instance:Bs sV 179 [sS 0,sS 0,sS 0] [0,1,2]:={}
instance:Bs sV 186 [.string ByteArray.empty,nS] [0,1]:={}
instance:Bs sV 188 [sS 0,sS 0] [0,1]:={}
instance:Bs sV 191 [.string ByteArray.empty,nS,sS 0] [0,1,2]:={}
instance:Bs sV 193 [sS 0,sS 0] [0,1]:={}
instance:Bs sV 225 [nS,nS,nS] [0,1,2]:={}
instance:Bs sV 239 [sS 0,nS,nS] [0,1,2]:={}
instance:Bs sV 251 [.map none,.map none,sS 0] [0,1,2]:={}
instance:Bs sV 300 [nS,nS] [0,1]:={}
instance:Bs sV 323 [sS 0,sS 0,sS 0,sS 0] [0,1,2,3]:={}
instance:Bs sV 355 [sS 0,sS 0,sS 0] [0,1,2]:={}
instance:Bs sV 361 [nS,nS,nS] [0,1,2]:={}
instance:Bs sV 382 [nS,sS 0] [0,1]:={}
instance:Ik sV 3 .i64:={}
instance:Bk sV 4:=⟨underlying4⟩
instance:Ik sV 5 .u8:={}
instance:St sV 9:=⟨underlying9⟩
instance:Ik sV 21 .i32:={}
instance:Ik sV 33 .i8:={}
instance:Ik sV 246 .u64:={}
instance:Ik sV 317 .u32:={}
instance:S3 sV 179:=⟨⟨_,_,_,underlying179,og,og,og,O,O,O,underlying3,underlying3,underlying3⟩,oc,oc⟩
instance:Mp sV 164 9 3 (sS 0):={}
instance:Key sV 9 XB:=Qm0 underlying9
instance:Mp sV 217 9 4 (.bool false):={}
instance:Mp sV 242 3 4 (.bool false):={}
instance:Key sV 3 XJ:=Qm1 underlying3
instance:Mp sV 249 143 3 (sS 0):={}
instance:Key sV 143 Yp:=QcR underlying143 underlying3 oc
instance:Mp sV 255 156 4 (.bool false):={}
instance:Key sV 156 Yp:=QcR underlying156 underlying3 oc
instance:Mp sV 297 3 296 (.nilFunc):={}
instance:Mp sV 325 3 47 (nS):={}
instance:Mp sV 371 3 3 (sS 0):={}
instance:Fu sV 59 f59:=Jb func59
instance:Fu sV 60 f60:=Jb func60
instance:Fu sV 64 f64:=Jb func64
instance:Fu sV 65 f65:=Jb func65
instance:Fu sV 72 f72:=Jb func72
instance:Fu sV 86 f86:=Jb func86
instance:Fu sV 88 f88:=Jb func88
instance:Fu sV 124 f124:=Jb func124
instance:Fu sV 125 f125:=Jb func125
instance:Fu sV 126 f126:=Jb func126
instance:Fu sV 133 f133:=Jb func133
instance:Fu sV 136 f136:=Jb func136
instance:Fu sV 138 f138:=Jb func138
instance:Fu sV 142 f142:=Jb func142
instance:Fu sV 144 f144:=Jb func144
instance:Fu sV 145 f145:=Jb func145
instance:Fu sV 147 f147:=Jb func147
instance:Fu sV 148 f148:=Jb func148
instance:Fu sV 149 f149:=Jb func149
instance:Fu sV 150 f150:=Jb func150
instance:Fu sV 154 f154:=Jb func154
instance:Fu sV 157 f157:=Jb func157
instance:Fu sV 158 f158:=Jb func158
instance:Fu sV 159 f159:=Jb func159
instance:Fu sV 160 f160:=Jb func160
instance:Fu sV 169 f169:=Jb func169
instance:Fu sV 171 f171:=Jb func171
instance:Fu sV 172 f172:=Jb func172
instance:Fu sV 174 f174:=Jb func174
instance:Fu sV 175 f175:=Jb func175
instance:Fu sV 178 f178:=Jb func178
instance:Fu sV 187 f187:=Jb func187
instance:Fu sV 190 f190:=Jb func190
instance:Fu sV 200 f200:=Jb func200
instance:Fu sV 201 f201:=Jb func201
instance:Fu sV 205 f205:=Jb func205
instance:Fu sV 207 f207:=Jb func207
instance:Fu sV 208 f208:=Jb func208
instance:Fu sV 210 f210:=Jb func210
instance:Fu sV 232 f232:=Jb func232
instance:Fu sV 237 f237:=Jb func237
instance:Fu sV 239 f239:=Jb func239
instance:Fu sV 255 f255:=Jb func255
instance:Fu sV 256 f256:=Jb func256
instance:Fu sV 268 f268:=Jb func268
instance:Fu sV 270 f270:=Jb func270
instance:Fu sV 271 f271:=Jb func271
instance:Fu sV 279 f279:=Jb func279
instance:Fu sV 285 f285:=Jb func285
instance:Fu sV 299 f299:=Jb func299
instance:Fu sV 309 f309:=Jb func309
theorem mixed:sV.follows .mixedOrders=true:=oc
theorem ZK {all:xE}{f:Fr}{Q:Exit->Fr->O2->Prop}(L:LN)(pl:xu)(h:XP sV all (O6 L w) (λf w=>Q .normal f w) pl f { w with drawn:=w.drawn+1 })(E:Xx n all=true:=by rfl)(G:yd all pl=true:=by kernel_rfl):W sV n (.region id all.toArray true) Q f w:=V9 (O6 L w) pl mixed E G (O6.X _ _) h
theorem brG {B:Func}(E:((((P.funcs[g]?).map Func.name).getD "") == "runtime.NumGoroutine")=false) (G:P.funcs[g]?=some { B with name:=((P.funcs[g]?).map Func.name).getD "" }):∃nm:String,(nm == "runtime.NumGoroutine")=false/\P.funcs[g]?=some { B with name:=nm }:=⟨_,E,G⟩
theorem lyS {p:Prop}(h:p:=by constructor <;> first|kernel_rfl|decide|(intro _;kernel_rfl)|(apply brG <;> kernel_rfl)|(constructor <;> first|kernel_rfl|decide|(intro _;kernel_rfl)|(apply brG <;> kernel_rfl))):p:=h
end Go.Proofs
namespace Go.Lg
def Rn (t e k:Nat):Go.Shelf.Ren:=⟨λn=>n,λ|22=>t|23=>e|25=>k|n=>n,λn=>n⟩
def fix {α:Type}(q:α->Bool):Nat->List α->Int
 | _,[]=>-1
 | i,e::l=>if q e=true then(i:Int) else fix q (i+1) l
theorem YC (q:α->Bool)(i:Nat)(a:α)(l:List α):fix q i (a::l)=if q a=true then(i:Int) else fix q (i+1) l:=rfl
structure LdE {α:Type}(e:Nat)(c:α->LV)(el:α->O3):Prop where
 ld:∀{f:Fr} {w:O2} {d:xF} {E:O4} {ty:Nat} {pS:String} {af:xD} {gd:xt} {L:LN} {a:Addr} {q:α},At L ↑w a (c q)->ev f E=.pointer (some a)->(execOp (ev f) ⟨d,.load e E,ty,pS,af,gd⟩).run sV w=.ok (.value (el q)) w
theorem ld1 {e:Nat}[XS sV e]{c:α->LV}{el:α->O3}(hc:∀q,c q=[el q]):LdE e c el:=⟨λh hx=>Qq (by rw[<-hc];exact h) hx⟩
theorem ldA {e:Nat}[Ag sV e m]{c:α->LV}(hc:∀q,(c q).length=m):LdE e c λq=>sT (c q):=⟨λh hx=>QF h hx (hc _)⟩
abbrev UI (n:Int):LV:=[sS n]
theorem Qj9 (n:Int):(UI n).length=1:=rfl
theorem Qom:∀l:LI,l.flatMap UI=l.map (.int .i64)
 | []=>rfl
 | a::l=>by rw[LM,Qom l];rfl
theorem Qu.fl {L:LN}{H:xC}{v:O3}{l:LI}(h:Qu L H v l):Zu L H v l.length 1 (l.flatMap UI):=by rw[Qom];exact h
theorem QfY {c:α->LV}(h:∀q,ZL (c q))(l:List α):∀u∈l.flatMap c,u.oneCell'=true:=λu E=>by
 obtain⟨q,_,G⟩:=Mc.1 E;exact(h q).all u G
theorem UQ {α:Type}(q:α->Bool):∀(l:List α) (i:Nat),decide (0<=fix q i l)=l.any q
 | [],i=>rfl
 | a::l,i=>by
  rw[YC,List.any_cons];cases h:q a with
  | true=>rw[OV rfl];simp
  | false=>rw[OU og,UQ q l (i+1)];rfl
def IxQ {α:Type}(q:α->Bool)(es:List α)(r:O3):Prop:=(r=sS (-1)/\∀m (E:m<es.length),q (es[m]'E)=false)\/∃(i:Nat) (hi:i<es.length),r=sS i/\q (es[i]'hi)=true/\∀m (E:m<i),q (es[m]'oa)=false
theorem Qkj {α:Type}(q:α->Bool):∀(l:List α) (i:Nat),(fix q i l=-1/\∀m (E:m<l.length),q (l[m]'E)=false)\/∃k,∃G:k<l.length,fix q i l=((i+k:Nat):Int)/\q (l[k]'G)=true/\∀m (E:m<k),q (l[m]'oa)=false
 | [],i=>.inl ⟨O,λm E=>by cases E⟩
 | a::l,i=>by
  rw[YC];cases h:q a with
  | true=>exact .inr ⟨0,od,rfl,h,λm E=>by cases E⟩
  | false =>
   rcases Qkj q l (i+1) with⟨I,J⟩|⟨k,G,I,J,T⟩
   ·exact .inl ⟨I,λm E=>by cases m with|zero=>exact h|succ m=>exact J m (ou E)⟩
   exact .inr ⟨k+1,ou G,by rw[OU og,I];congr 1;omega,J,λm E=>by cases m with|zero=>exact h|succ m=>exact T m oa⟩
theorem Qna (q:α->Bool)(l:List α):IxQ q l (sS (fix q 0 l)):=by
 rcases Qkj q l 0 with⟨E,G⟩|⟨k,I,E,G,J⟩
 ·exact .inl ⟨by rw[E],G⟩
 exact .inr ⟨k,I,by rw[E,LW],G,J⟩
section
variable {e bys:Nat}[hS:Sl sV t e m bys z]{L L':LN}{v:O3}
include hS in
theorem yS (hB:Bears sV n (SlBodyN.n41 (Rn t e 0))){k:Nat}{cs:LV}(h:Zu L ↑w v k m cs)(ho:∀u∈cs,u.oneCell'=true)(hb:bys<=128:=by decide):
  QU sV n [v] w λr w'=>sW w w'/\w'.ownsRow ↑w e m r k cs:=by
 obtain⟨nm,_,U⟩:=hB;obtain⟨ρ,hρ,he⟩:∃ρ,Rn t e 0=ρ/\ρ.t 22=t:=⟨_,O,O⟩;rw[hρ]at U;clear hρ;subst he;have hj:=h.le;refine QU.of_W U O (n:=8) O O od ?_;refine Qc<|Qb ?_;obtain⟨ao,cap,G⟩:=h.shape;refine Qd<|Ql<|x (Qmg (show ev _ _=_ from G) O)<|xe<|Q6 rfl (λJ=>?_) (λJ=>?_)
 ·refine Qc<|Qb<|Qj ⟨[nS],La,O6.Y _ _,?_⟩;rcases h.2.2 with⟨E,I⟩|⟨a,c,E,_⟩
  ·have T:cs=[]:=Ls (by rw[h.1,I];simp);subst T I;exact QL _ _ _ _
  rw[E]at G;cases G;cases J
 rcases h.2.2 with⟨E,I⟩|⟨a,c,E,I,T⟩
 ·rw[E]at G;injection G with e1;subst e1;cases J
 refine Qf<|Qc<|Qo<|Qej λb5 w1 V Y ha=>Qa<|Qo<|Q2 (base:=↑w) (ha.own (n:=0) (sz:=m) od oa Y) rfl (show ev _ _=_ from E) h.1 (T.I V) ho oa (oo ha.lt) (λv2 w2 hg hh hk=>Qb ?_) hb;refine Qj ⟨[v2],La,V.Q hh Y,?_⟩;simpa[tup]using hg
include hS in
theorem ixG {c:α->LV}{el:α->O3}{k:Nat}(hB:Bears sV n (SlBodyH.n6 (Rn t e k)))(hc:∀q,(c q).length=m)(hl:LdE e c el)[Fu sV gp fn]{cap:LV}{q:α->Bool}{l:List α}(h:Zu L ↑w v l.length m (l.flatMap c))
  (hk:∀e∈l,∀G:O2,sW w G->QU sV gp ([el e]++cap) G λr w'=>r=.bool (q e)/\sW G w'):
  QU sV n [v,.func (.func gp) #[] cap.toArray] w λr w'=>r=sS (fix q 0 l)/\sW w w':=by
 obtain⟨nm,_,V⟩:=hB;obtain⟨ρ,hρ,ha,he⟩:∃ρ,Rn t e k=ρ/\ρ.t 22=t/\ρ.t 23=e:=⟨_,O,O,O⟩;rw[hρ]at V;clear hρ;subst ha he;have hm:=h.le;refine QU.of_W V O (n:=19) O O od ?_;refine Qc<|Qb<|Qd<|Ql<|QG h O<|Qa<|xe<|QX (α:=Nat) [(4,5),(8,18)] (λz=>[(8,sS z)]) (λz w'=>z<=l.length/\sW w w'/\fix q z (l.drop z)=fix q 0 l) (λz=>l.length - z) 0 La
  ⟨Lo _,O6.Y _ _,O⟩ ?_
 rintro k g G ⟨hk1,I,E⟩;refine Zk rfl O (λT=>?_) (λT=>?_)
 ·refine Qt ?_;have hg:l.length<=k:=by have hh:¬(k:Int)<(l.length:Int):=T;omega
  rw[Lu hg]at E;refine Qc<|Qb<|Qj ⟨[_],La,by rw[<-E];rfl,I⟩
 have J:k<l.length:=by have hh:(k:Int)<(l.length:Int):=T;omega
 rw[QY J,YC]at E;refine Qf<|Qd<|Qn<|Ql<|Qb<|Ql<|Qa<|Qa<|O9 hc (h.I I) O O J λhn hj=>?_;refine x (hl.ld hj O)<|Qo<|xc (first:=[]) (capt:=cap) O<|(hk _ (Lm J) G I).S ?_;rintro r2 w2 ⟨rfl,Y⟩;refine xe<|Q6 rfl (λU=>?_) (λU=>?_)
 ·rw[OV U]at E;refine Ql<|Qb<|Qj ⟨[_],La,by rw[<-E];rfl,I.D Y⟩
 rw[OU (by rw[U];decide)]at E;refine Qf<|Qr<|QB O O<|Qa<|xe ?_;exact⟨k+1,oa,La,J,I.D Y,E⟩
include hS in
theorem eqG [DecidableEq α]{c:α->LV}{el:α->O3}(hB:Bears sV n (SlBodyN.n33 (Rn t e 0)))(hc:∀q,(c q).length=m)(hl:LdE e c el){l l':List α}(h:Zu L ↑w v l.length m (l.flatMap c))(E:Zu L' ↑w v' l'.length m (l'.flatMap c))
  (hn:∀{f:Fr} {w:O2} {d:xF} {X Y:O4} {ty:Nat} {pS:String} {af:xD} {gd:xt} {a b:α},a∈l->b∈l'->ev f X=el a->ev f Y=el b->(execOp (ev f) ⟨d,.binOp .neq e X Y e,ty,pS,af,gd⟩).run sV w=.ok (.value (.bool (decide (a≠b)))) w):
  QU sV n [v,v'] w λr w'=>r=.bool (decide (l=l'))/\sW w w':=by
 obtain⟨nm,_,V⟩:=hB;obtain⟨ρ,hρ,hg,hh⟩:∃ρ,Rn t e 0=ρ/\ρ.t 22=t/\ρ.t 23=e:=⟨_,O,O,O⟩;rw[hρ]at V;clear hρ;subst hg hh;have hq:=h.le;refine QU.of_W V O (n:=26) O O od ?_;refine Qc<|Qb<|Qd<|Ql<|QG h O<|Qa<|QG E O<|ZN O O<|xe<|Zg rfl (λha=>?_) (λha=>?_)
 ·refine Qc<|Qb<|Qj ⟨[.bool false],La,?_,O6.Y _ _⟩;have:l≠l':=λe=>ha (by rw[e]);simp[tup,this]
 refine Qf<|Qd<|Ql<|QG h O<|Qa<|xe<|QX (α:=Nat) [(4,5),(13,25)] (λk=>[(13,sS k)]) (λk w'=>sW w w'/\k<=l.length/\(l=l'↔l.drop k=l'.drop k)) (λk=>l.length - k) 0 La ⟨O6.Y _ _,Lo _,od⟩ ?_;rintro k g w1 ⟨G,hk,I⟩
 replace h:=h.I G
 replace E:=E.I G;refine Zk rfl O (λhj=>?_) (λhj=>?_)
 ·refine Qt<|Qc<|Qb<|Qj ⟨[.bool true],La,?_,G⟩;rw[Lu oa,Lu oa]at I;simp[tup,I]
 have J:k<l.length:=oa
 have T:k<l'.length:=oa
 refine Qf<|Qd<|Qn<|Ql<|Qb<|Qd<|ZK [] (Xj 0 9 [])<|p Qy<|p Qy<|Lg.pig O hc h O O J λhr ho=>pq (λ_ hc=>hl.ld (ho.I hc) O) <|
  p Qy<|p Qy<|Lg.pig O hc E O O T λhu hp=>pq (λ_ hc=>hl.ld (hp.I hc) O)<|p (λ_=>hn (Lm J) (Lm T) O O)<|pe ?_
 have he:=G.D (O6.X [] w1);refine Zg rfl (λU=>?_) (λU=>?_)
 ·refine Qc<|Qb<|Qj ⟨[.bool false],La,?_,he⟩;have:l≠l':=λe=>U (by subst e;rfl);simp[tup,this]
 refine Qf<|Qr<|QB O O<|Qa<|xe<|⟨k+1,oa,La,he,oa,?_⟩;rw[I,QY J,QY T,Lt.1 U];exact⟨λh=>(List.cons.inj h).2,λh=>by rw[h]⟩
end
def nxt (es:List Ed)(s e:Int):Int:=match es with
 | []=>-1
 | x::es=>if x.1=s/\x.2.1=e then x.2.2 else nxt es s e
section
def eqV:O3->O3->Bool
 | .int _ a,.int _ b=>a == b
 | .string a,.string b=>a == b
 | .bool a,.bool b=>a == b
 | _,_=>false
def tvB:LN->LV->LV->Bool
 | [],[],[]=>true
 | 0::ks,oB oC _::xs,oB oC _::ys=>tvB ks xs ys
 | 1::ks,.string _::xs,.string _::ys=>tvB ks xs ys
 | 2::ks,.bool _::xs,.bool _::ys=>tvB ks xs ys
 | _,_,_=>false
def yN:LV->LV->Bool
 | x::xs,y::ys=>eqV x y && yN xs ys
 | _,_=>true
inductive Fks (P:O5):Nat->List Field->LN->Prop
 | nil {o:Nat}:Fks P o [] []
 | int {o:Nat} {f:Field} {fs:List Field} {ks:LN} (hn:f.name ≠ "_") (ho:f.offset=o) (hu:P.underlying f.type=some (.int .i64)) (h:Fks P (o+1) fs ks):Fks P o (f::fs) (0::ks)
 | str {o:Nat} {f:Field} {fs:List Field} {ks:LN} (hn:f.name ≠ "_") (ho:f.offset=o) (hu:P.underlying f.type=some .string) (h:Fks P (o+1) fs ks):Fks P o (f::fs) (1::ks)
 | flag {o:Nat} {f:Field} {fs:List Field} {ks:LN} (hn:f.name ≠ "_") (ho:f.offset=o) (hu:P.underlying f.type=some .bool) (h:Fks P (o+1) fs ks):Fks P o (f::fs) (2::ks)
theorem QfS {k:Nat}{v:O3}{l:LV}(h:∀w,(isAgg t).run P w=.ok false w)(E:l[k]?=some v)(w:O2):(part t l.toArray k).run P w=.ok v w:=by
 have e:l.toArray[k]?=some v:=by simpa using E
 simp[part,h w,e]
theorem yO {d o:Nat}{f:Field}{fs:List Field}{x y:O3}{xs ys X Y:LV}(I:f.name ≠ "_") (J:f.offset=o) (E:∀w,(isAgg f.type).run P w=.ok false w) (T:∀m w,(Op.equalIn (m+1) f.type x y).run P w=.ok (eqV x y) w)
  (hX:X.drop o=x::xs) (G:Y.drop o=y::ys) (ih:X.drop (o+1)=xs->Y.drop (o+1)=ys->∀w,(Op.eqFields (d+1) X.toArray Y.toArray fs).run P w=.ok (yN xs ys) w) (w:O2):
  (Op.eqFields (d+1) X.toArray Y.toArray (f::fs)).run P w=.ok (yN (x::xs) (y::ys)) w:=by
 have hx:X[o]?=some x:=by rw[<-List.head?_drop,hX];rfl
 have U:Y[o]?=some y:=by rw[<-List.head?_drop,G];rfl
 have V:X.drop (o+1)=xs:=by rw[<-List.tail_drop,hX];rfl
 have hf:Y.drop (o+1)=ys:=by rw[<-List.tail_drop,G];rfl
 simp only[Op.eqFields,I,ne_eq,not_false_eq_true,if_true,Sem.run_bind,J,QfS E hx,QfS E U,T,Result.andThen_ok,Sem.run_ite,yN];cases hv:eqV x y with
 | false=>simp
 | true=>simpa using ih V hf w
theorem Fks.run {d:Nat}{o:Nat}{fs:List Field}{ks:LN}(h:Fks P o fs ks):∀{xs ys X Y:LV},tvB ks xs ys=true->X.drop o=xs->Y.drop o=ys->∀w,(Op.eqFields (d+1) X.toArray Y.toArray fs).run P w=.ok (yN xs ys) w:=by
 induction h with
 | nil =>
  intro xs ys X Y ht _ _ w;cases xs with
  | nil=>simp[Op.eqFields,yN]
  | cons x xs=>cases ys <;> simp[tvB]at ht
 | @int o f fs ks G I E h ih =>
  intro xs ys X Y ht hX J w
  match xs,ys,ht with
  | oB oC a::xs,oB oC b::ys,ht=>exact yO G I (λw=>by simp[isAgg,run_underlying E]) (λm w=>by simp[Op.equalIn,run_underlying E,eqV]) hX J (λT U=>ih ht T U) w
 | @str o f fs ks G I E h ih =>
  intro xs ys X Y ht hX J w
  match xs,ys,ht with
  | .string a::xs,.string b::ys,ht=>exact yO G I (λw=>by simp[isAgg,run_underlying E]) (λm w=>by simp[Op.equalIn,run_underlying E,eqV]) hX J (λT U=>ih ht T U) w
 | @flag o f fs ks G I E h ih =>
  intro xs ys X Y ht hX J w
  match xs,ys,ht with
  | .bool a::xs,.bool b::ys,ht=>exact yO G I (λw=>by simp[isAgg,run_underlying E]) (λm w=>by simp[Op.equalIn,run_underlying E,eqV]) hX J (λT U=>ih ht T U) w
class Sk (P:O5)(t:Nat)(ks:outParam (LN)):Prop where
 u:∃fs:List Field,P.underlying t=some (.struct fs.toArray)/\Fks P 0 fs ks
 s:P.stoodInHeld t=false
 g:P.eqGuardType P.depth t=false
theorem Uo {ks:LN}[h:Sk P t ks]{xs ys:LV}(J:tvB ks xs ys=true)(w:O2):(Op.equal t (sT xs) (sT ys)).run P w=.ok (yN xs ys) w:=by
 obtain⟨fs,E,T⟩:=h.u;have G:P.fieldsOf t=fs.toArray:=by unfold Program.fieldsOf;rw[E]
 have U:P.underlying t=some (.struct (P.fieldsOf t)):=by rw[G];exact E
 have I:=run_equalIn_struct (P:=P) w 9999 t xs.toArray ys.toArray U h.s;rw[G]at I;exact I.D (T.run (d:=9998) J O O w)
instance {t:Nat}[h:S3 P t]:Sk P t [0,0,0]:=let⟨f0,f1,f2,hu,E,G,I,J,o1,o2,T,U,u2⟩:=h.u;⟨⟨[f0,f1,f2],hu,.int E J T<|.int G o1 U<|.int I o2 u2 .nil⟩,h.s,h.g⟩
theorem QkF (p q:Ed):yN (Qp p) (Qp q)=decide (p=q):=by
 rw[Bool.eq_iff_iff];simp only[Qp,yN,eqV,oI,beq_iff_eq,decide_eq_true_eq,Prod.ext_iff,and_true]
theorem QaP [S3 P t](w:O2)(p q:Ed):(Op.equal t (sT (Qp p)) (sT (Qp q))).run P w=.ok (decide (p=q)) w:=by
 rw[<-QkF];exact Uo O w
variable {f:Fr}
theorem Qcs {ks:LN}[h:Sk P t ks]{x:O4}{xs ys:LV}(G:tvB ks xs ys=true)(hx:ev f x=sT xs)(I:ev f y=sT ys):
  (execOp (ev f) ⟨d,.binOp .neq t x y E,ty,pS,af,gd⟩).run P w=.ok (.value (.bool (!yN xs ys))) w:=by
 have J:(eqGuard .neq t x y (sT xs) (sT ys)).run P w=.ok () w:=by simp[eqGuard,h.g]
 simp only[execOp,hx,I,Sem.run_bind,J,Result.andThen_ok,binOp,Uo G,Sem.run_pure]
theorem Ur [S3 P t]{x:O4}{p q:Ed}(hx:ev f x=sT (Qp p))(G:ev f y=sT (Qp q)):
  (execOp (ev f) ⟨d,.binOp .neq t x y E,ty,pS,af,gd⟩).run P w=.ok (.value (.bool (decide (¬p=q)))) w :=
 (Qcs O hx G).D (by rw[QkF];simp)
end
theorem Qaf {L:LN}{v:O3}{l:LI}(h:Qu L ↑w v l)(n:Int):
  QU sV 139 [v,sS n] w λr w'=>w'=w/\r=sS (fix (λe=>decide (n=e)) 0 l):=by
 have U:=h.le;refine Zm func139 ?_;refine Qc<|Qb<|Qd<|Ql<|QG h O<|Qa<|xe<|QX (α:=Nat) [(4,5),(8,18)] (λk=>[(8,sS k)]) (λk w'=>w'=w/\k<=l.length/\fix (λe=>decide (n=e)) k (l.drop k)=fix (λe=>decide (n=e)) 0 l) (λk=>l.length - k) 0 La ⟨O,Lo _,O⟩ ?_;rintro k g V ⟨rfl,Y,E⟩;refine Zk rfl O (λJ=>?_) (λJ=>?_)
 ·refine Qt<|Qc<|Qb ?_;rw[Lu oa]at E;exact Qj ⟨[sS (-1)],La,O,by rw[<-E];rfl⟩
 have I:k<l.length:=oa
 rw[QY I,YC]at E;refine Qf<|Qd<|Qn<|Ql<|Qb<|Ql<|Qa<|Qa<|xii h O O I λha T=>x (Qq T O)<|x (Zc O O)<|xe<|Zg rfl (λG=>?_) (λG=>?_)
 ·refine Ql<|Qb ?_;rw[OV (OY G)]at E;exact Qj ⟨[sS k],La,O,by rw[<-E];rfl⟩
 refine Qf<|Qr<|QB O O<|Qa<|xe ?_;rw[OU (ou G)]at E;exact⟨k+1,oa,La,O,oa,E⟩
theorem Qj8 {L:LN}{v:O3}{l:LI}(h:Qu L ↑w v l)(n:Int):
  QU sV 139 [v,sS n] w λr w'=>w'=w/\∃i:Int,r=sS i/\(0<=i↔n∈l):=
 (Qaf h n).S λ_ _ ⟨E,G⟩=>⟨E,_,G,by have:=UQ (λe=>decide (n=e)) l 0;rw[<-decide_eq_true_iff (p:=0<=_),this];simp⟩
theorem ZH {L:LN}{v:O3}{l:LI}(h:Qu L ↑w v l)(n:Int):
  QU sV 61 [v,sS n] w λr w'=>r=.bool (decide (n∈l))/\w'=w:=by
 refine Zm func61 ?_;refine Qc<|Qb<|Ql<|Qa<|Qw<|(Qj8 h n).S ?_;rintro E G ⟨rfl,i,rfl,hi⟩;refine x (Yf O O)<|Qb<|Qj ⟨[.bool (decide (0<=i))],La,?_,O⟩;simp[tup,hi]
theorem qy {L L':LN}{v:O3}{l l':LI}(h:Qu L ↑w v l)(E:Qu L' ↑w v' l'):
  QU sV 99 [v,v'] w λr w'=>r=.bool (decide (l=l'))/\sW w w' :=
 eqG ⟨_,O,func99⟩ Qj9 (ld1 λ_=>O) (Qu.fl h) (Qu.fl E) λ_ _ hx G=>Jd hx G
theorem QhC {L L':LN}{v:O3}{l l':List Ed}(h:U4 L ↑w v l)(E:U4 L' ↑w v' l'):
  QU sV 100 [v,v'] w λr w'=>r=.bool (decide (l=l'))/\sW w w' :=
 eqG (c:=Qp) ⟨_,O,func100⟩ (λ_=>O) (ldA λ_=>O) h E λ_ _ hx G=>Ur hx G
theorem Qj5 (n:Int):QU sV 284 [sS n] w λr w'=>r=.bool false/\w'=w:=by
 refine Zm func284 ?_;refine Qc<|Qb<|Ql<|Qa<|ZN O O<|Qb<|Qj ⟨[.bool (decide (¬n=n))],La,by simp[tup],rfl⟩
theorem Qht (n:Int):QU sV 262 [sS n] w λr w'=>r=.bool false/\w'=w:=by
 refine Zm func262 ?_;refine Qc<|Qb<|Ql<|Qa<|ZN O O<|Qb<|Qj ⟨[.bool (decide (¬n=n))],La,by simp[tup],rfl⟩
theorem QmV (m n:Int):QU sV 217 [sS m,sS n] w λr w'=>r=.bool (decide (m<n))/\w'=w:=by
 refine Zm func217 ?_;refine Qc<|Qb<|Ql<|Qw<|(Qht m).S ?_;rintro E G ⟨rfl,rfl⟩;refine Qa<|ZA<|QC O<|Qa<|Qa<|Qa<|ZW O O<|QC O<|Qb<|Qj ⟨[.bool (decide (m<n))],La,O,O⟩
theorem Ys.get {l:LI}(h:Ys l)(E:j<l.length)(G:i<j):l[i]<l[j]:=Mg.1 h i j oa E G
def lwB (l:LI)(n:Int):Nat:=(l.filter λx=>decide (x<n)).length
theorem Qpf {l:LI}{n:Int}(_:Ys l)(hi:i<=l.length)(I:∀m (E:m<l.length),m<i->l[m]<n)(J:∀m (E:m<l.length),i<=m->n<=l[m]):lwB l n=i:=by
 unfold lwB;have e1:(l.take i).filter (λx=>decide (x<n))=l.take i:=NE.2 λx hx=>by
  obtain⟨m,E,rfl⟩:=LR hx;rw[M9];have G:m<i/\m<l.length:=by rw[LC]at E;omega
  exact OY (I m G.2 G.1)
 have e2:(l.drop i).filter (λx=>decide (x<n))=[]:=MO.2 λx hx=>by
  obtain⟨m,E,rfl⟩:=LR hx;rw[List.getElem_drop];have G:i+m<l.length:=by rw[Mo]at E;omega
  have:=J (i+m) G oa;simp;omega
 have T:l.filter (λx=>decide (x<n))=l.take i:=by
  conv=>lhs;rw[<-MH i l]
  rw[LT,e1,e2,LH]
 rw[T,LC];omega
theorem Qdt {L:LN}{v:O3}{l:LI}(h:Qu L ↑w v l)(hi:Ys l)(n:Int):
  QU sV 253 [v,sS n] w λr w'=>w'=w/\r=.tuple #[sS (lwB l n),.bool (decide (n∈l))]:=by
 have hy:=h.le;refine Zm func253 ?_;refine Qc<|x Qe<|Qb<|Ql<|QG h O<|Qb<|Ql<|x Qe<|Qb<|Qd<|QX (α:=Nat×Nat) [(7,9),(13,30)] (λz=>[(7,sS z.1),(8,sS z.2)])
  (λz w'=>w'=w/\z.1<=z.2/\z.2<=l.length/\(∀m (E:m<l.length),m<z.1->l[m]<n)/\(∀m (E:m<l.length),z.2<=m->n<=l[m])) (λz=>z.2 - z.1) (0,l.length) ov
  ⟨O,Lo _,Lp _,λm _ T=>OX T (Nz m),λm h1 T=>OX h1 (by simp only[]at T;omega)⟩ ?_
 rintro⟨i,j⟩ g w1 ⟨rfl,hz,hj,G,U⟩;refine Qd<|Ql<|Qa<|ZW O O<|xe<|Zp rfl (λhf=>?_) (λhf=>?_)
 ·have e:i=j:=oa
  subst e;refine Qt<|QW (α:=Bool) [(4,5),(31,53)] (λz=>[(4,sS i),(5,.bool z)]) (λz w'=>w'=w1/\z=decide (n∈l)) oh ?_ ?_
  ·refine Qr<|Qa<|Qa<|Qa<|xb (YB O O) (λhg=>?_) (λhg=>?_)
   ·have I:i<l.length:=oa
    refine Qa<|Qa<|Qa<|xii h O O I λh2 hk=>x (Qq hk O)<|Qa<|xb (Zc O O) (λV=>?_) (λV=>?_)
    ·refine Qa<|ZA<|ZA<|ZA<|QC O<|QC O<|x Qe<|Qb ?_;have:n∈l:=by rw[<-V];exact Lm I
     exact⟨true,ov,O,by simp[this]⟩
    refine Qa<|Qa<|Qa<|xii h O O I λh3 hn=>x (Qq hn O)<|Qw<|(Qj5 _).S ?_;rintro r3 w3 ⟨rfl,rfl⟩;refine Qa<|YP<|QC O<|QC O<|QC O<|x Qe<|Qb<|⟨false,ov,O,?_⟩;have:n∉l:=by
     intro E;obtain⟨m,J,Y⟩:=LR E;by_cases ho:m<i
     ·have:=G m J ho;omega
     by_cases hp:m=i
     ·subst hp;exact V Y
     have:=Ys.get hi J (show i<m by omega);have:=U i I (Lp _);omega
    simp[this]
   refine Qa<|ZA<|ZA<|ZA<|ZA<|ZA<|Kd<|xs O <|
    QC rfl<|x Qe<|Qb<|⟨false,ov,O,?_⟩
   have:n∉l:=by
    intro E;obtain⟨m,J,Y⟩:=LR E;have:=G m J oa;omega
   simp[this]
  rintro z g w7 ⟨rfl,rfl⟩;exact Qj ⟨[sS i,.bool (decide (n∈l))],ov,O,by rw[Qpf hi (show i<=l.length by omega) G U];rfl⟩
 refine Qf<|Qn<|Ql<|Qa<|QB O O<|x (Yc O (by exact⟨oa,oa⟩))<|x (Qcr (n:=1) O O og)<|x (Yc O (by exact⟨oa,oa⟩))<|Qb ?_;have hh:(((i:Int)+(j:Int)) / 2 ^ 1)=(((i+j) / 2:Nat):Int):=oa
 rw[hh];generalize hq:(i+j) / 2=q;have hr:i<=q:=oa
 have hs:q<j:=oa
 have ha:q<l.length:=oa
 refine Ql<|Qa<|xii h O O ha λh4 hu=>x (Qq hu O)<|Qa<|Qw<|(QmV _ _).S ?_;rintro r8 w8 ⟨rfl,rfl⟩;refine xe<|Zp rfl (λhe=>?_) (λhe=>?_)
 ·refine Qr<|Qa<|Qb<|⟨(i,q),oe,ov,O,hr,oa,G,λm E hv=>?_⟩;by_cases e:q=m
  ·subst e;omega
  have:=Ys.get hi E (show q<m by simp only[]at hv;omega);omega
 refine Qr<|Qa<|QB O O<|Qb<|⟨(q+1,j),oe,ov,O,hs,hj,λm E hw=>?_,U⟩;by_cases e:m=q
 ·subst e;exact he
 have:=Ys.get hi ha (show m<q by simp only[]at hw;omega);omega
theorem ja {L:LN}{v:O3}{l:LI}(h:Qu L ↑w v l)(hi:Ys l)(n:Int):
  QU sV 253 [v,sS n] w λr w'=>w'=w/\∃i:Int,r=.tuple #[sS i,.bool (decide (n∈l))]:=
 (Qdt h hi n).S λ_ _ ⟨E,G⟩=>⟨E,_,G⟩
theorem Kc {L:LN}{v:O3}{l:LI}(h:Qu L ↑w v l)(hi:Ys l)(n:Int):
  QU sV 188 [v,sS n] w λr w'=>r=.bool (decide (n∈l))/\w'=w:=by
 refine Zm func188 ?_;refine Qc<|Qb<|Ql<|Qa<|Qw<|(ja h hi n).S ?_;rintro E G ⟨rfl,i,rfl⟩;refine Qa<|QO O O<|QO O O<|x Qe<|Qb<|Ql<|Qb<|Qj ⟨[.bool (decide (n∈l))],La,O,O⟩
theorem qV {L:LN}{v:O3}{l:LI}(h:Qu L ↑w v l)(n:Int):
  QU sV 202 [v,sS n] w λr w'=>r=sS (J9 n none l)/\w'=w:=by
 have hg:=h.le;refine Zm func202 ?_;refine Qc<|Qb<|Qd<|Ql<|QG h O<|Qa<|xe<|QX (α:=Nat) [(4,6),(9,34)] (λk=>[(9,sS k)]) (λk w'=>w'=w/\k<=l.length/\J9 n (pv l k) (l.drop k)=J9 n none l) (λk=>l.length - k) 0 La ⟨O,Lo _,O⟩ ?_;rintro k g V ⟨rfl,hk,E⟩;refine Zk rfl O (λY=>?_) (λY=>?_)
 ·refine Qt<|Qc<|Qb<|Qj ⟨[sS 0],La,?_,O⟩;rw[<-E,Lu oa];rfl
 have G:k<l.length:=oa
 rw[(QY G),J9]at E;refine Qf<|Qd<|Qn<|Ql<|xii h O O G λhh ha=>x (Qq ha O)<|x Qe<|Qb<|Qn<|QW (α:=Bool) [(14,21)] (λz=>[(14,.bool z)]) (λz w'=>w'=V/\z=decide (l[k]<0\/n<=l[k])) oh ?_ ?_
 ·refine Qr<|Qa<|xb (YB O O) (λI=>?_) (λI=>?_)
  ·refine Qa<|ZA<|QC O<|Qb<|⟨true,La,O,by simp[I]⟩
  refine Qa<|Qa<|Qa<|x (Yf O O)<|QC O<|Qb<|⟨_,La,O,by simp[I]⟩
 rintro z g w2 ⟨rfl,rfl⟩;refine Zg rfl (λJ=>?_) (λJ=>?_)
 ·refine Qc<|Qb<|Qj ⟨[sS 2],La,?_,O⟩;rw[<-E,OV J];rfl
 rw[OU J]at E;refine QW (α:=Bool) [(22,33)] (λz=>[(22,.bool z)]) (λz w'=>w'=w2/\z=yq (pv l k) l[k]) oh ?_ ?_
 ·refine Qr<|Qa<|xb (Z8 O O) (λhe=>?_) (λhe=>?_)
  ·have hk1:((k:Int) - 1)=((k - 1:Nat):Int):=oa
   refine Qa<|Qa<|Qa<|Qa<|x (JB O O ⟨oa,oa⟩)<|xii (i:=k - 1) h O (by show Value.int _ ((k:Int) - 1)=_;rw[hk1]) oa λhj hf=>x (Qq hf rfl)<|x (X3 rfl rfl)<|QC rfl<|Qb<|⟨_,⟨rfl,Z⟩,rfl,?_⟩;have:pv l k=some l[k - 1]:=by
    have T:k≠0:=oa
    simp[pv,T,show k - 1<l.length by omega]
   rw[this];rfl
  refine Qa<|ZA<|ZA<|Kd<|QC O<|Qb ?_;have T:k=0:=oa
  exact⟨false,La,O,by simp[pv,T,yq]⟩
 rintro z g w3 ⟨rfl,rfl⟩;refine Q6 rfl (λU=>?_) (λU=>?_)
 ·refine Qc<|Qb<|Qj ⟨[sS 5],La,?_,O⟩;rw[<-E,OV U];rfl
 rw[OU (by simp[U])]at E;refine Qf<|Qr<|QB O O<|Qa<|xe ?_;exact⟨k+1,oa,La,O,oa,by rw[KD G];exact E⟩
theorem jw {L:LN}{a:Qz}(h:Zr L ↑w va vm ve a):
  QU sV 203 [.agg #[va,sS a.st,vm,ve]] w λr w'=>r=sS (ckE a.al a.st none a.ed)/\sW w w':=by
 obtain⟨T,_,I⟩:=h;have h9:=I.le;refine Zm func203 ?_;refine Qc<|Zf [va,sS a.st,vm,ve] λb1 w1 he hA J=>Qb ?_
 replace T:=T.I he
 replace I:=I.I he;refine Qd<|Qc<|Qs O J O O<|QG I O<|Qa<|xe<|QX (α:=Nat) [(2,5),(9,71)] (λk=>[(9,sS k)]) (λk w'=>sW w1 w'/\k<=a.ed.length/\ckE a.al a.st (pv a.ed k) (a.ed.drop k)=ckE a.al a.st none a.ed) (λk=>a.ed.length - k) 0 La
  ⟨O6.Y _ _,Lo _,O⟩ ?_
 rintro k g w2 ⟨U,hk,E⟩
 replace T:=T.I U
 replace I:=I.I U
 replace J:=J.I U;refine Zk rfl O (λhy=>?_) (λhy=>?_)
 ·refine Qt<|Qc<|Qb<|Qj ⟨[sS 0],La,?_,he.D U⟩;rw[<-E,Lu oa];rfl
 have hf:k<a.ed.length:=oa
 rw[(QY hf),ckE]at E;refine Qf<|Qd<|Qn<|Ql<|xie I O O hf λhB hz=>x (QF hz O O)<|QT [sS 0,sS 0,sS 0] λb4 w3 h1 h2 G=>x Qe <|
  Qo<|Zx G O O O O ox λw4 h3 G=>xe ?_
 have V:=h1.Q h3 h2
 replace T:=T.I V
 replace I:=I.I V
 replace J:=J.I V;have Y:=(he.D U).D V;refine Qd<|Qn<|QW (α:=Bool) [(14,36)] (λz=>[(14,.bool z)]) (λz w'=>w'=w4/\z=decide (a.ed[k].1<0\/a.st<=a.ed[k].1\/a.ed[k].2.2<0\/a.st<=a.ed[k].2.2)) oh ?_ ?_
 ·refine Qr<|Qs O G O O<|xb (YB O O) (λhg=>?_) (λhg=>?_)
  ·refine Qa<|ZA<|YP<|QC O<|Qa<|ZA<|QC O<|Qa<|ZA<|YP<|QC O<|Qb<|⟨true,La,O,by simp[hg]⟩
  refine Qa<|Qs O G O O<|Qs O J O O<|xb (Yf O O) (λhh=>?_) (λhh=>?_)
  ·refine QC O<|Qa<|ZA<|QC O<|Qa<|ZA<|YP<|QC O<|Qb<|⟨true,La,O,by simp[hh]⟩
  refine QC O<|Qa<|Qs O G O O<|xb (YB O O) (λhj=>?_) (λhj=>?_)
  ·refine QC O<|Qa<|ZA<|YP<|QC O<|Qb<|⟨true,La,O,by simp[hj]⟩
  refine QC O<|Qa<|Qs O G O O<|Qs O J O O<|x (Yf O O)<|QC O<|Qb<|⟨_,La,O,by simp[hg,hh,hj]⟩
 rintro z g w5 ⟨rfl,rfl⟩;refine Zg rfl (λho=>?_) (λho=>?_)
 ·refine Qc<|Qb<|Qj ⟨[sS 2],La,?_,Y⟩;rw[<-E,OV ho];rfl
 rw[OU ho]at E;refine Qc<|Qs O J O O<|Qs O G O O<|Qw<|(ZH T _).S ?_;rintro r4 w6 ⟨rfl,rfl⟩;refine x (Zj O)<|Qb<|Q6 O (λhq=>?_) (λhq=>?_)
 ·have hn:a.ed[k].2.1∉a.al:=by simpa using hq
  refine Qc<|Qb<|Qj ⟨[sS 9],La,?_,Y⟩;rw[<-E,OV hn];rfl
 have hn:¬(a.ed[k].2.1∉a.al):=by simpa using hq
 rw[OU hn]at E;refine Qf<|Qd<|Ql<|x (Zc O O)<|xe<|Zg rfl (λh4=>?_) (λh4=>?_)
 ·have h0:k=0:=oa
  rw[OU (by simp[pv,h0,edO])]at E;refine Qt<|Qr<|QB O O<|Qa<|xe ?_;exact⟨k+1,oa,La,U.D V,oa,by rw[KD hf];exact E⟩
 have h0:k≠0:=oa
 have hk1:((k:Int) - 1)=((k - 1:Nat):Int):=oa
 have hw:k - 1<a.ed.length:=oa
 refine Qf<|Qc<|Qs O J O O<|Qa<|x (JB O O ⟨oa,oa⟩)<|xie (i:=k - 1) I O (by show Value.int _ ((k:Int) - 1)=_;rw[hk1]) hw λhC h5 =>
  x (QF h5 O O)<|QT [sS 0,sS 0,sS 0] λb5 w7 h6 h7 ha=>Qo<|Zx ha O O O O ox λw8 h8 ha=>xe ?_
 have hr:=h6.Q h8 h7
 replace G:=G.I hr
 replace Y:=Y.D hr;have hp:pv a.ed k=some a.ed[k - 1]:=by simp[pv,h0,hw]
 rw[hp]at E;refine QW (α:=Bool) [(52,70)] (λz=>[(70,.bool z)]) (λz w'=>w'=w8/\z=edO (some a.ed[k - 1]) a.ed[k]) oh ?_ ?_
 ·refine Qr<|Qs O G O O<|Qs O ha O O<|xb (YB O O) (λhs=>?_) (λhs=>?_)
  ·refine Qa<|ZA<|ZA<|ZA<|ZA<|QC O<|xe ?_;exact⟨true,La,O,by simp[edO,hs]⟩
  refine Qa<|Qs O G O O<|Qs O ha O O<|xb (Zc O O) (λhu=>?_) (λhu=>?_)
  ·refine Qa<|Qs O G O O<|Qs O ha O O<|x (X3 O O)<|QC O<|QC O<|xe ?_;exact⟨_,La,O,by simp[edO,hu]⟩
  refine Qa<|ZA<|YP<|QC O<|QC O<|xe ?_;exact⟨false,La,O,by simp[edO,hu,hs]⟩
 rintro z g w9 ⟨rfl,rfl⟩;refine Q6 rfl (λhv=>?_) (λhv=>?_)
 ·refine Qc<|Qb<|Qj ⟨[sS 5],La,?_,Y⟩;rw[<-E,OV hv];rfl
 rw[OU (by simp[hv])]at E;refine Qf<|Qr<|QB O O<|Qa<|xe ?_;exact⟨k+1,oa,La,(U.D V).D hr,oa,by rw[KD hf];exact E⟩
theorem Y8 {L:LN}{a:Qz}(h:Zr L ↑w va vm ve a):
  QU sV 130 [.agg #[va,sS a.st,vm,ve]] w λr w'=>r=sS (Jc a)/\sW w w':=by
 refine Zm func130 ?_;refine Qc<|Zf [va,sS a.st,vm,ve] λY w1 E ha G=>Qb ?_
 replace h:=h.I E;refine Qd<|Qc<|Qs O G O O<|Qw<|(qV h.al 32).S ?_;rintro r2 w2 ⟨rfl,rfl⟩;refine Qb<|Ql<|ZN O O<|xe<|Zg rfl (λI=>?_) (λI=>?_)
 ·refine Ql<|Qb<|Qj ⟨[sS (J9 32 none a.al)],La,?_,E⟩;rw[Jc,OV I];rfl
 refine Qf<|Qd<|Qn<|Qc<|Qs O G O O<|ZW O O<|Qb<|Zg O (λJ=>?_) (λJ=>?_)
 ·refine Qc<|Qb<|Qj ⟨[sS 2],La,?_,E⟩;rw[Jc,OU I,OV J];rfl
 refine Qc<|Qs O G O O<|x (Z8 O O)<|Qb<|Zg O (λT=>?_) (λT=>?_)
 ·refine Qc<|Qb<|Qj ⟨[sS 3],La,?_,E⟩;rw[Jc,OU I,OU J,OV T];rfl
 refine Qf<|Qd<|Qc<|Qs O G O O<|Qs O G O O<|Qw<|(qV h.mr a.st).S ?_;rintro r3 w3 ⟨rfl,rfl⟩;refine Qb<|Ql<|ZN O O<|xe<|Zg rfl (λU=>?_) (λU=>?_)
 ·refine Ql<|Qb<|Qj ⟨[sS (J9 a.st none a.mr)],La,?_,E⟩;rw[Jc,OU I,OU J,OU T,OV U];rfl
 refine Qf<|Qc<|Q3 G O O<|Qw<|(jw h).S ?_;rintro r4 w4 ⟨rfl,V⟩;refine Qb<|Qj ⟨[sS (ckE a.al a.st none a.ed)],La,?_,E.D V⟩;rw[Jc,OU I,OU J,OU T,OU U];rfl
theorem Z0 {L:LN}{v:O3}{l:LI}(h:Qu L ↑w v l):
  QU sV 64 [v] w λr w'=>sW w w'/\Qh 3 ↑w w' r l :=
 yS ⟨_,O,func64⟩ h (Uy l)
theorem QcK [Fu sV g fn]{keep:Bool->Bool->Bool}(hk:∀(p q:Bool) (w:O2),QU sV g [.bool p,.bool q] w λr w'=>r=.bool (keep p q)/\w'=w)
  {L L':LN}   {a b:LI} (I:Qu L ↑w va a) (hb:Qu L' ↑w vb b) (hJ:a.length+b.length<=1099511627776):
  QU sV 146 [va,vb,.func (.func g) #[] #[]] w λr w'=>sW w w'/\Qh 3 ↑w w' r (mrg keep a b):=by
 refine Zm func146 ?_;refine Qc<|Qb<|Qc<|Qb<|Qd<|QX (α:=(LI×O3)×(LI×O3)×(LI×O3)) [(0,1),(7,72)] (λz=>[(0,z.1.2),(1,z.2.1.2),(7,z.2.2.2)])
  (λz w'=>Qu L ↑w z.1.2 z.1.1/\Qu L' ↑w z.2.1.2 z.2.1.1/\Qh 3 ↑w w' z.2.2.2 z.2.2.1/\sW w w'/\z.2.2.1++mrg keep z.1.1 z.2.1.1=mrg keep a b/\z.2.2.1.length+z.1.1.length+z.2.1.1.length<=1099511627776)
  (λz=>z.1.1.length+z.2.1.1.length) ((a,va),(b,vb),([],nS)) ox ⟨I,hb,QL _ _ _ _,O6.Y _ _,O,by simp;omega⟩ ?_
 clear I hb;rintro⟨⟨a1,h4⟩,⟨E,h5⟩,⟨o,vo⟩⟩ g1 w1 ⟨I,hb,J,G,U,hl⟩;simp only[]at I hb J G U hl;refine Qd<|QW (α:=Bool) [(11,18)] (λz=>[(18,.bool z)]) (λz w'=>w'=w1/\z=decide (¬(a1=[]/\E=[]))) oh ?_ ?_
 ·refine Qr<|Qa<|QG I O<|xb (Z8 O O) (λhp=>?_) (λhp=>?_)
  ·refine Qa<|ZA<|QC O<|xe ?_;have:a1≠[]:=by intro e;subst e;simp at hp
   exact⟨true,La,O,by simp[this]⟩
  refine Qa<|Qa<|QG hb O<|x (Z8 O O)<|QC O<|xe ?_;have:a1=[]:=Ls oa;refine⟨_,La,O,?_⟩;cases E <;> simp[this]
 rintro z g2 w2 ⟨rfl,rfl⟩;refine Zp rfl (λhe=>?_) (λhe=>?_)
 ·refine Qt<|Ql<|Qb<|Qj ⟨[vo],La,G,?_⟩;obtain⟨rfl,rfl⟩:=Lt.1 he;rw[KG,LH]at U;rw[<-U];exact J
 refine Qf ?_;rw[Ko keep he]at U;have hq:=yy he;have hK:=I.le;have hL:=hb.le;refine Qn<|QW (α:=Bool) [(8,8),(19,35)] (λz=>[(8,.bool z)]) (λz w'=>sW w2 w'/\z=Jj a1 E) oh ?_ ?_
 ·refine ZK [] (Xj 0 18 [])<|p Qy<|p (λ_=>Y1 I O)<|pb (λ_=>Z8 O O) (λhr=>?_) (λhr=>?_)
  ·refine p Qy<|p Qy<|p (λ_=>Y1 hb O)<|pb (λ_=>Zc O O) (λh6=>?_) (λh6=>?_)
   ·refine p Qy<|ps<|ps<|ps<|ps<|ps<|ps<|ps<|p (YU O)<|p (YU O)<|p ZI<|pe ?_;refine⟨true,La,O6.X _ _,?_⟩;have:E=[]:=Ls oa;subst this;cases a1 with
    | nil=>simp at hr
    | cons y a1=>rfl
   have hA:0<a1.length:=oa
   have T:0<E.length:=oa
   refine p Qy<|p Qy<|pii O (i:=0) (I.I G) O O hA λhM h7=>pq (λ_ hc=>Qq (h7.I hc) O) <|
    p Qy<|pii O (i:=0) (hb.I G) O O T λhN h8=>pq (λ_ hc=>Qq (h8.I hc) O)<|p (λ_=>X3 O O) <|
    p (YU rfl)<|p (YU O)<|p ZI<|pe ?_
   refine⟨_,La,O6.X _ _,?_⟩;cases a1 with
   | nil=>simp at hA
   | cons y a1=>cases E with
    | nil=>simp at T
    | cons z E=>rfl
  refine p Qy<|ps<|ps<|ps<|ps<|ps<|ps<|ps<|ps<|ps<|ps<|ps<|ps<|p (YU O)<|p ZI<|pe ?_;refine⟨false,La,O6.X _ _,?_⟩;have:a1=[]:=Ls oa;subst this;rfl
 rintro z g3 w3 ⟨hu,rfl⟩
 replace J:=Qm J hu
 replace G:=G.D hu;refine QW (α:=Bool) [(9,9),(36,52)] (λz=>[(9,.bool z)]) (λz w'=>sW w3 w'/\z=Jj E a1) oh ?_ ?_
 ·refine ZK [] (Xj 0 18 [])<|p Qy<|p (λ_=>Y1 hb O)<|pb (λ_=>Z8 O O) (λhv=>?_) (λhv=>?_)
  ·refine p Qy<|p Qy<|p (λ_=>Y1 I O)<|pb (λ_=>Zc O O) (λh9=>?_) (λh9=>?_)
   ·refine p Qy<|ps<|ps<|ps<|ps<|ps<|ps<|ps<|p (YU O)<|p (YU O)<|p ZI<|pe ?_;refine⟨true,La,O6.X _ _,?_⟩;have:a1=[]:=Ls oa;subst this;cases E with
    | nil=>simp at hv
    | cons y E=>rfl
   have hA:0<a1.length:=oa
   have T:0<E.length:=oa
   refine p Qy<|p Qy<|pii O (i:=0) (hb.I G) O O T λhO hC=>pq (λ_ hc=>Qq (hC.I hc) O) <|
    p Qy<|pii O (i:=0) (I.I G) O O hA λhP hD=>pq (λ_ hc=>Qq (hD.I hc) O)<|p (λ_=>X3 O O) <|
    p (YU rfl)<|p (YU O)<|p ZI<|pe ?_
   refine⟨_,La,O6.X _ _,?_⟩;cases a1 with
   | nil=>simp at hA
   | cons y a1=>cases E with
    | nil=>simp at T
    | cons z E=>rfl
  refine p Qy<|ps<|ps<|ps<|ps<|ps<|ps<|ps<|ps<|ps<|ps<|ps<|ps<|p (YU O)<|p ZI<|pe ?_;refine⟨false,La,O6.X _ _,?_⟩;have:E=[]:=Ls oa;subst this;rfl
 rintro z g4 w4 ⟨hw,rfl⟩
 replace J:=Qm J hw
 replace G:=G.D hw;refine Qc<|Qb<|QW (α:=O3) [(0,0),(10,10),(53,58)] (λz=>[(0,z),(10,sS (bif Jj a1 E then a1.headD 0 else 0))]) (λz w'=>sW w4 w'/\Qu L ↑w z (tl (Jj a1 E) a1)) oh ?_ ?_
 ·refine Ql<|xe<|Q6 O (λV=>?_) (λV=>?_)
  ·have hA:0<a1.length:=by cases a1 with|nil=>simp[Jj]at V|cons y a1=>simp
   refine ZK [] (Xj 0 7 [])<|p Qy<|pii O (i:=0) (I.I G) O O hA λhE hf=>pq (λ_ hc=>Qq (hf.I hc) O)<|p Qy <|
    QoX rfl (lo:=1) I O O hA λv' hg=>p ZI<|p ZI<|pe ?_
   have hh:=Qu.drop hg;refine⟨v',⟨O,?_,Z⟩,O6.X _ _,?_⟩
   ·show sS a1[0]=_;rw[V];cases a1 with|nil=>simp at hA|cons y a1=>rfl
   rw[V];simpa[tl]using hh
  refine Qf<|⟨h4,⟨O,by show _=_;rw[V];rfl,Z⟩,O6.Y _ _,?_⟩;rw[V];exact I
 rintro hy g5 w5 ⟨hz,h0⟩
 replace J:=Qm J hz
 replace G:=G.D hz;refine QW (α:=O3) [(1,1),(10,10),(59,64)] (λz=>[(1,z),(10,sS (bif Jj E a1 then E.headD 0 else bif Jj a1 E then a1.headD 0 else 0))]) (λz w'=>sW w5 w'/\Qu L' ↑w z (tl (Jj E a1) E)) oh ?_ ?_
 ·refine Ql<|xe<|Q6 O (λY=>?_) (λY=>?_)
  ·have T:0<E.length:=by cases E with|nil=>simp[Jj]at Y|cons y E=>simp
   refine ZK [] (Xj 0 7 [])<|p Qy<|pii O (i:=0) (hb.I G) O O T λhE hf=>pq (λ_ hc=>Qq (hf.I hc) O)<|p Qy <|
    QoX rfl (lo:=1) hb O O T λv' hg=>p ZI<|p ZI<|pe ?_
   have hh:=Qu.drop hg;refine⟨v',⟨O,?_,Z⟩,O6.X _ _,?_⟩
   ·show sS E[0]=_;rw[Y];cases E with|nil=>simp at T|cons y E=>rfl
   rw[Y];simpa[tl]using hh
  refine Qf<|⟨h5,⟨O,by show _=_;rw[Y];rfl,Z⟩,O6.Y _ _,?_⟩;rw[Y];exact hb
 rintro h1 g6 w6 ⟨h2,h3⟩
 replace J:=Qm J h2
 replace G:=G.D h2;have hF:(bif Jj E a1 then E.headD 0 else bif Jj a1 E then a1.headD 0 else 0)=hx a1 E:=by
  unfold hx;cases e:Jj E a1 with
  | true=>rfl
  | false =>
   cases e2:Jj a1 E with
   | true=>rfl
   | false=>rw[e,e2]at hq;simp[tl]at hq
 refine Ql<|Qa<|Qa<|Qo<|xc (first:=[]) (capt:=[]) O<|(hk _ _ _).S ?_;rintro r7 w7 ⟨rfl,rfl⟩;refine xe<|Q6 rfl (λhj=>?_) (λhj=>?_)
 ·refine Qr ?_;rw[hj,cond_true]at U;refine Qa<|Qa<|Qo<|Yo (us:=[[sS (hx a1 E)]]) O O og od ⟨by rw[<-hF];rfl,O,Z⟩ λhQ w8 hn hR hG =>
   Qo<|Q2 (news:=[sS (hx a1 E)]) (L:=[]) (Qm J hn) O O O (hG.at od) om oa (oq G.size hn.size) λv9 w9 hH hI hS=>Qb ?_
  have hge:=Qi J;refine⟨((tl (Jj a1 E) a1,hy),(tl (Jj E a1) E,h1),(o++[hx a1 E],v9)),oe,ox,h0,h3,?_,(G.D hn).O hI (λb hb=>.inr (hge b hb).1),by rw[LA];exact U,by simp only[oM,oL];omega⟩;exact Qh.snoc hH
 rw[hj,cond_false,Mz]at U;refine Qf ?_;exact⟨((tl (Jj a1 E) a1,hy),(tl (Jj E a1) E,h1),(o,vo)),oe,ox,h0,h3,J,G,U,oe⟩
theorem Qq7 (p q:Bool)(w:O2):QU sV 147 [.bool p,.bool q] w λr w'=>r=.bool (p || q)/\w'=w:=by
 refine Zm func147 ?_;refine Qc<|Qb<|Qc ?_;cases p
 ·refine Qa<|Qa<|Qa<|QC O<|Qb<|Qj ⟨[.bool q],La,O,O⟩
 refine Qa<|Qa<|Kd<|QC O<|Qb<|Qj ⟨[.bool true],La,O,O⟩
theorem QjG (p q:Bool)(w:O2):QU sV 237 [.bool p,.bool q] w λr w'=>r=.bool (p && !q)/\w'=w:=by
 refine Zm func237 ?_;refine Qc<|Qb<|Qc ?_;cases p
 ·refine Qa<|Qa<|YP<|QC O<|Qb<|Qj ⟨[.bool false],La,O,O⟩
 refine Qa<|Qa<|Qa<|x (Zj O)<|QC O<|Qb<|Qj ⟨[.bool (!q)],La,O,O⟩
theorem jf {L L':LN}{a b:LI}(E:Qu L ↑w va a)(hb:Qu L' ↑w vb b)(G:a.length+b.length<=1099511627776):
  QU sV 71 [va,vb] w λr w'=>sW w w'/\Qh 3 ↑w w' r (mrg (· || ·) a b):=by
 refine Zm func71 ?_;refine Qc<|Qb<|Ql<|Qa<|Qw<|(QcK Qq7 E hb G).S ?_;rintro I U ⟨J,T⟩;refine Qb<|Qj ⟨[I],La,J,T⟩
theorem Qlx {L L':LN}{a b:LI}(E:Qu L ↑w va a)(hb:Qu L' ↑w vb b)(G:a.length+b.length<=1099511627776):
  QU sV 164 [va,vb] w λr w'=>sW w w'/\Qh 3 ↑w w' r (mrg (λp q=>p && !q) a b):=by
 refine Zm func164 ?_;refine Qc<|Qb<|Ql<|Qa<|Qw<|(QcK QjG E hb G).S ?_;rintro I U ⟨J,T⟩;refine Qb<|Qj ⟨[I],La,J,T⟩
theorem Qay {L L':LN}{a b:LI}(E:Qu L ↑w va a)(hb:Qu L' ↑w vb b)(G:a.length+b.length<=1099511627776):
  QU sV 90 [va,vb] w λr w'=>sW w w'/\r=.bool (decide (mrg (λp q=>p && !q) a b=[])):=by
 refine Zm func90 ?_;refine Qc<|Qb<|Ql<|Qa<|Qw<|(Qlx E hb G).S ?_;rintro T U ⟨I,J⟩;have V:=zC (λp q=>p && !q) a b;refine QG (Qh.ints (L:=[]) J oa od) rfl<|x (Zc rfl rfl)<|Qb<|Qj ⟨[.bool (decide (((mrg (λp q=>p && !q) a b).length:Int)=0))],⟨rfl,Z⟩,I,?_⟩;simp[tup]
theorem Qlg [Fu sV g fn](Y:∀(e:Ed) (s:Int) (w:O2),0<=e.1->e.1<=1099511627776->0<=s->s<=1099511627776->QU sV g [sT (Qp e),sS s] w λr w'=>r=sS (e.1 - s)/\sW w w')
  {L:LN}  {v:O3} {es:List Ed} (h:U4 L ↑w v es) (hi:es.Pairwise (λa b=>a.1<=b.1)) (hb:∀e∈es,0<=e.1/\e.1<=1099511627776) (s:Int) (hs0:0<=s) (ha:s<=1099511627776):
  QU sV 156 [v,sS s,.func (.func g) #[] #[]] w λr w'=>sW w w'/\∃(i:Nat) (b:Bool),r=.tuple #[sS i,.bool b]/\i<=es.length /\
   (∀m (E:m<es.length),m<i->es[m].1<s)/\(∀m (E:m<es.length),i<=m->s<=es[m].1):=by
 have h7:=h.le;have he:∀{i j:Nat} (G:j<es.length) (J:i<j),es[i].1<=es[j].1:=λ{i j} G J=>Mg.1 hi i j oa G J;have hf:∀m (E:m<es.length),0<=es[m].1/\es[m].1<=1099511627776:=λm E=>hb _ (Lm E);refine Zm func156 ?_;refine Qc<|x Qe<|Qb<|Ql<|QG h O<|Qb<|Ql<|x Qe<|Qb<|Qd<|QX (α:=Nat×Nat) [(9,11),(15,34)] (λz=>[(9,sS z.1),(10,sS z.2)])
  (λz w'=>sW w w'/\z.1<=z.2/\z.2<=es.length/\(∀m (E:m<es.length),m<z.1->es[m].1<s)/\(∀m (E:m<es.length),z.2<=m->s<=es[m].1)) (λz=>z.2 - z.1) (0,es.length) ov
  ⟨O6.Y _ _,Lo _,Lp _,λm _ T=>OX T (Nz m),λm h1 T=>OX h1 (by simp only[]at T;omega)⟩ ?_
 rintro⟨i,j⟩ g1 w1 ⟨I,J,G,hg,hn⟩;refine Qd<|Ql<|Qa<|ZW O O<|xe<|Zp rfl (λhs=>?_) (λhs=>?_)
 ·have e:i=j:=oa
  subst e;refine Qt<|QW (α:=Bool) [(6,7),(35,48)] (λz=>[(6,sS i),(7,.bool z)]) (λz w'=>sW w1 w') oh ?_ ?_
  ·refine Qr<|Qa<|Qa<|Qa<|xb (YB O O) (λhu=>?_) (λhu=>?_)
   ·have ho:i<es.length:=oa
    have U:=hf i ho;refine Qa<|Qa<|Qa<|Qa<|xie (h.I I) O O ho λh8 hv=>x (QF hv O O)<|Qa<|Qo<|xc (first:=[]) (capt:=[]) O<|(Y es[i] s _ U.1 U.2 hs0 ha).S ?_;rintro r2 w2 ⟨rfl,hw⟩;refine x (Zc O O)<|QC O<|x Qe<|Qb<|⟨_,ov,hw⟩
   refine Qa<|ZA<|ZA<|YP<|QC O<|x Qe<|Qb<|⟨false,ov,O6.Y _ _⟩
  rintro z g3 w3 hy;exact Qj ⟨[sS i,.bool z],ov,I.D hy,i,z,O,G,hg,hn⟩
 refine Qf<|Qn<|Ql<|Qa<|QB O O<|x (Yc O (by exact⟨oa,oa⟩))<|x (Qcr (n:=1) O O og)<|x (Yc O (by exact⟨oa,oa⟩))<|Qb ?_;have hh:(((i:Int)+(j:Int)) / 2 ^ 1)=(((i+j) / 2:Nat):Int):=oa
 rw[hh];generalize U:(i+j) / 2=q;have hz:i<=q:=oa
 have h2:q<j:=oa
 have V:q<es.length:=oa
 have hp:=hf q V;refine Ql<|Qa<|Qa<|xie (h.I I) O O V λh9 h3=>x (QF h3 O O)<|Qa<|Qo<|xc (first:=[]) (capt:=[]) O<|(Y es[q] s _ hp.1 hp.2 hs0 ha).S ?_;rintro r4 w4 ⟨rfl,hr⟩;refine ZW rfl O<|xe<|Zp rfl (λh4=>?_) (λh4=>?_)
 ·refine Qr<|Qa<|Qb<|⟨(i,q),oe,ov,I.D hr,hz,oa,hg,λm E h5=>?_⟩;by_cases e:q=m
  ·subst e;omega
  have:=he E (show q<m by simp only[]at h5;omega);omega
 refine Qr<|Qa<|QB O O<|Qb<|⟨(q+1,j),oe,ov,I.D hr,h2,G,λm E h6=>?_,hn⟩;by_cases e:m=q
 ·subst e;omega
 have:=he V (show m<q by simp only[]at h6;omega);omega
theorem Qmv (e:Ed)(s:Int)(w:O2)(I:0<=e.1)(J:e.1<=1099511627776)(T:0<=s)(U:s<=1099511627776):
  QU sV 157 [sT (Qp e),sS s] w λr w'=>r=sS (e.1 - s)/\sW w w':=by
 refine Zm func157 ?_;refine Qc<|Zf (Qp e) λV Y E ha G=>Qb<|Qc<|Qs O G O O<|Qa<|x (JB O O ⟨oa,oa⟩)<|Qb<|Qj ⟨[sS (e.1 - s)],La,O,E⟩
theorem Qmu (e:Ed)(s:Int)(w:O2)(I:0<=e.1)(J:e.1<=1099511627776)(T:0<=s)(U:s<=1099511627776):
  QU sV 158 [sT (Qp e),sS s] w λr w'=>r=sS (e.1 - s)/\sW w w':=by
 refine Zm func158 ?_;refine Qc<|Zf (Qp e) λV Y E ha G=>Qb<|Qc<|Qs O G O O<|Qa<|x (JB O O ⟨oa,oa⟩)<|Qb<|Qj ⟨[sS (e.1 - s)],La,O,E⟩
theorem Qa1 {L:LN}{st:Int}{es:List Ed}(h:U4 L ↑w ve es)(hi:es.Pairwise (λa b=>a.1<=b.1))(hb:∀e∈es,0<=e.1/\e.1<=1099511627776)(s:Int)(hs0:0<=s)(hp:s<1099511627776):
  QU sV 80 [.agg #[va,sS st,vm,ve],sS s] w λr w'=>sW w w'/\U4 L ↑w' r (QM es s):=by
 refine Zm func80 ?_;refine Qc<|Zf [va,sS st,vm,ve] λb2 w1 U hq E=>Qb ?_
 replace h:=h.I U;refine Qc<|Qs O E O O<|Qa<|Qw<|(Qlg Qmv h hi hb s hs0 oa).S ?_;rintro r2 w2 ⟨J,lo,b,rfl,hr,V,hf⟩
 replace h:=h.I J
 replace E:=E.I J;refine Qa<|QO O O<|QO O O<|x Qe<|Qb<|Qc<|Qs O E O O<|Qa<|QB O O<|Qw<|(Qlg Qmu h hi hb (s+1) oa oa).S ?_;rintro r3 w3 ⟨T,hi',b',rfl,Y,hg,ha⟩
 replace h:=h.I T
 replace E:=E.I T;refine Qa<|QO O O<|QO O O<|x Qe<|Qb ?_;have he:lo<=hi':=by
  rcases OM hi' lo with hh|hge
  ·have I:=V hi' oa hh;have h2:=ha hi' oa (Lp _);omega
  exact hge
 refine Qc<|Qs O E O O<|Qa<|Qa<|Qsk h O O O he Y λv' hj=>Qb<|Qj ⟨[v'],La,(U.D J).D T,?_⟩;have hc:=yR (λe:Ed=>decide (e.1=s)) es lo hi' he Y (λm G hk=>by have:=V m G hk;simp;omega) (λm G I h2=>by have:=hf m G I;have:=hg m G h2;simp;omega) (λm G I=>by have:=ha m G I;simp;omega);have hn:(QM es s).length=hi' - lo:=by unfold QM;rw[<-hc,LC,Mo];omega
 show Zu L ↑w3 v' (QM es s).length 3 _;rw[hn];have e1:(QM es s).flatMap Qp=((es.flatMap Qp).drop (lo*3)).take ((hi' - lo)*3):=by
  unfold QM;rw[<-hc];have key:∀(l:List Ed) (k:Nat),(l.flatMap Qp).drop (k*3)=(l.drop k).flatMap Qp:=by
   intro l;induction l with
   | nil=>intro k;simp
   | cons a l ih=>intro k;cases k with
    | zero=>simp
    | succ k=>simp only[oT,List.drop_succ_cons,Ou,OL];rw[MY,<-List.drop_drop,show(Qp a++l.flatMap Qp).drop 3=l.flatMap Qp from rfl,ih]
  have ho:∀(l:List Ed) (k:Nat),(l.flatMap Qp).take (k*3)=(l.take k).flatMap Qp:=by
   intro l;induction l with
   | nil=>intro k;simp
   | cons a l ih=>intro k;cases k with
    | zero=>simp
    | succ k =>
     simp only[oT,List.take_succ_cons,Ou,OL];rw[NG,JY,<-ih,Lr (by simp[JY])];simp
  rw[key,ho]
 rw[e1];exact hj
structure KO (b3 b22:Nat)(r3:O3)(wS:O2)(c:Cs)(vo vk ve:O3)(w:O2):Prop where
 st:O6 [b3,b22] wS w
 B3:QK ↑w b3 53 [r3,sS 0,vk,ve]
 B22:QK ↑w b22 3 (c.num.map (Value.int .i64))
 o:Qh 3 ↑wS w vo c.ord
 k:Qh 3 ↑wS w vk c.mk'
 e:Yd 179 ↑wS w ve c.ed
 d1:Dj vo vk
 d2:Dj vo ve
 d3:Dj vk ve
theorem KO.I {b3 b22:Nat}{r3:O3}{wS:O2}{c:Cs}{vo vk ve:O3}{w w':O2}(h:KO b3 b22 r3 wS c vo vk ve w)(E:sW w w'):KO b3 b22 r3 wS c vo vk ve w' :=
 ⟨h.st.D E,h.B3.I E,h.B22.I E,Qm h.o E,Qm h.k E,Qm h.e E,h.d1,h.d2,h.d3⟩
section
variable {b3 b22:Nat}{r3:O3}{wS:O2}{c:Cs}{w'':O2}
theorem KO.setK (h:KO b3 b22 r3 wS c vo vk ve w)(Y:b3<wS.heap.size)(U:b22<wS.heap.size)(ne:b3≠b22){G:O3}{m:LI}(I:O6 (ob vk) w w')(J:Qh 3 ↑wS w' G m)
  (T:∀b∈ob G,b∈ob vk\/↑w<=b) (E:O6 [b3] w' w'') (V:QK ↑w'' b3 53 [r3,sS 0,G,ve]):KO b3 b22 r3 wS ⟨c.ord,c.num,m,c.ed⟩ vo G ve w'':=by
 refine⟨(h.st.O I (λb hb=>.inr ((Qi h.k) b hb).1)).O E (λb hb=>.inl (by simp at hb;simp[hb])),V,(h.B22.J I (QJ h.k U)).J E (by simp;omega),
  Qg (Qg h.o I h.d1) E (λb hb=>by have:=(Qi h.o b hb).1;simp;omega),Qg J E (λb hb=>by have:=(Qi J b hb).1;simp;omega),
  Qg (Qg h.e I h.d3.symm) E (λb hb=>by have:=(Qi h.e b hb).1;simp;omega),h.d1.grow T (QV h.o),h.d2,(h.d3.symm.grow T (QV h.e)).symm⟩
theorem KO.setE (h:KO b3 b22 r3 wS c vo vk ve w)(Y:b3<wS.heap.size)(U:b22<wS.heap.size)(ne:b3≠b22){G:O3}{m:List Ed}(I:O6 (ob ve) w w')(J:Yd 179 ↑wS w' G m)
  (T:∀b∈ob G,b∈ob ve\/↑w<=b) (E:O6 [b3] w' w'') (V:QK ↑w'' b3 53 [r3,sS 0,vk,G]):KO b3 b22 r3 wS ⟨c.ord,c.num,c.mk',m⟩ vo vk G w'':=by
 refine⟨(h.st.O I (λb hb=>.inr ((Qi h.e) b hb).1)).O E (λb hb=>.inl (by simp at hb;simp[hb])),V,(h.B22.J I (QJ h.e U)).J E (by simp;omega),
  Qg (Qg h.o I h.d2) E (λb hb=>by have:=(Qi h.o b hb).1;simp;omega),Qg (Qg h.k I h.d3) E (λb hb=>by have:=(Qi h.k b hb).1;simp;omega),
  Qg J E (λb hb=>by have:=(Qi J b hb).1;simp;omega),h.d1,h.d2.grow T (QV h.o),h.d3.grow T (QV h.k)⟩
theorem KO.setN (h:KO b3 b22 r3 wS c vo vk ve w)(I:b22<wS.heap.size)(ne:b3≠b22){m:LI}(E:O6 [b22] w w')(G:QK ↑w' b22 3 (m.map (Value.int .i64))):KO b3 b22 r3 wS ⟨c.ord,m,c.mk',c.ed⟩ vo vk ve w' :=
 ⟨h.st.O E (λb hb=>.inl (by simp at hb;simp[hb])),h.B3.J E (by simp;omega),G,Qg h.o E (λb hb=>by have:=(Qi h.o b hb).1;simp;omega),
  Qg h.k E (λb hb=>by have:=(Qi h.k b hb).1;simp;omega),Qg h.e E (λb hb=>by have:=(Qi h.e b hb).1;simp;omega),h.d1,h.d2,h.d3⟩
theorem KO.setO (h:KO b3 b22 r3 wS c vo vk ve w)(J:b3<wS.heap.size)(T:b22<wS.heap.size){G:O3}{m:LI}(E:O6 (ob vo) w w')(U:Qh 3 ↑wS w' G m)
  (I:∀b∈ob G,b∈ob vo\/↑w<=b):KO b3 b22 r3 wS ⟨m,c.num,c.mk',c.ed⟩ G vk ve w' :=
 ⟨h.st.O E (λb hb=>.inr (Qi h.o b hb).1),h.B3.J E (QJ h.o J),h.B22.J E (QJ h.o T),U,Qg h.k E h.d1.symm,Qg h.e E h.d2.symm,
  (h.d1.symm.grow I (QV h.k)).symm,(h.d2.symm.grow I (QV h.e)).symm,h.d3⟩
end
def Yv (c:Cs)(e:Ed):Cs:=if ZZ c.num e.2.2<0 then⟨c.ord++[e.2.2],c.num.set e.2.2.toNat c.ord.length,c.mk',c.ed⟩else c
theorem QmF (c:Cs)(e:Ed):(Yv c e).num.length=c.num.length:=by unfold Yv;split <;> simp
theorem zV {c:Cs}{e:Ed}(h:e.2.2.toNat<c.num.length):Zs i c e=⟨(Yv c e).ord,(Yv c e).num,(Yv c e).mk',(Yv c e).ed++[((i:Int),e.2.1,ZZ (Yv c e).num e.2.2)]⟩:=by
 unfold Zs Yv;split
 ·simp[ZZ,oN,h]
 rfl
theorem KJ {L:LN}{a:Qz}(h:Zr L ↑w va vm ve a)(hok:QS a):
  QU sV 241 [.agg #[va,sS a.st,vm,ve]] w λr w'=>sW w w'/\Xb ↑w ↑w' r (YG a):=by
 have hst0:=hok.st0;have hst1:=hok.st1;refine Zm func241 ?_;refine Qc<|Zf [va,sS a.st,vm,ve] λb1 w1 gl hb1 hj=>QT [nS,sS 0,nS,nS] λb2 w2 hf hb2 ho=>xe ?_;have hl1:=hj.lt;have hl2:=ho.lt;refine Qc<|Qs O (hj.I hf) O O<|Qw<|(Z0 ((h.al.I gl).I hf)).S ?_;rintro r3 w3 ⟨V,I⟩;have hz3:=V.size;refine x (QD ⟨(Qh.ints (L:=[]) I h.al.le od).cells,Z⟩)<|QT [nS,sS 0,nS,nS] λb3 w4 kq kr hp =>
  Q5 [r3,sS 0,nS,nS] hp ⟨(Qh.ints (L:=[]) I h.al.le od).one,rfl,rfl,rfl,Z⟩ λw5 kt hp=>xe ?_
 have G:sW w3 w5:=kq.Q kt kr;have hl3:=hp.lt;have gm:sW w w5:=((gl.D hf).D V).D G;refine Qd<|Qc<|Q9 O<|x (Qk (((hj.I hf).I V).I G) O O)<|x (Zc O O)<|xe<|Zg rfl (λhK=>?_) (λhK=>?_)
 ·refine Qc<|Q3 hp O O<|Q5 [r3,sS 0,nS,nS] ((ho.I V).I G) ⟨(Qh.ints (L:=[]) I h.al.le od).one,rfl,rfl,rfl,Z⟩ λw6 gn ho=>xe ?_;refine Qj ⟨[.agg #[r3,sS 0,nS,nS]],⟨JN ho,Z⟩,gm.Q gn oa,?_⟩;have ku:=Qg (Qm I G) gn (λb hb=>by have:=(Qi I b hb).1;simp;omega);unfold YG;rw[OV hK];exact⟨r3,_,_,O,λL' hr=>⟨Qh.ints ku h.al.le (λb hb=>oo (hr b hb)),Zu.nil _ _ _,Zu.nil _ _ _⟩⟩
 have kv:0<a.st:=oa
 obtain⟨n,hn⟩:∃n:Nat,a.st=n:=⟨a.st.toNat,oa⟩;have kw:a.st.toNat=n:=oa
 refine Qf<|Qc<|Q9 O<|x (Qk (((hj.I hf).I V).I G) O O)<|Qo<|Y2 (n:=n) (OW sS hn) (OW sS hn) oa λb22 w7 hv hb22 hL=>Qb ?_;have hl22:=hL.lt;have kx:=gm.D hv;rw[show(oG n (sS 0).cells.toList).flatten=((oG n 0).map (Value.int .i64)) by rw[show(sS 0).cells.toList=[sS 0] from rfl,Qcp,List.map_replicate]]at hL;have kz:sW w3 w7:=G.D hv;refine Qd<|Ql<|x (Ut O)<|Qa<|xe<|QX (α:=Nat) [(5,5),(25,31)] (λk=>[(25,sS k)]) (λk w'=>O6 [b22] w7 w'/\k<=n/\QK ↑w' b22 3 ((oG k (-1)++oG (n - k) 0).map (Value.int .i64))) (λk=>n - k) 0 La
  ⟨O6.Y _ _,Lo _,ou hL⟩ ?_
 rintro k g w8 ⟨hM,hk,hN⟩;refine Zk rfl O (λk0=>?_) (λk0=>?_)
 rotate_left
 ·have T:k<n:=oa
  refine Qf<|Qd<|Qn<|Ql<|Qb<|Qr<|Qa<|Qa<|x (QE O O T)<|Qo<|Kk hN O O (by simp;omega) λw9 h6 gq=>xe ?_;refine Qr<|QB O O<|Qa<|xe<|⟨k+1,oa,La,hM.V h6,oa,?_⟩;have e:(oG k (-1:Int)++oG (n - k) 0).set k (-1)=oG (k+1) (-1)++oG (n - (k+1)) 0:=by
   rw[List.set_append_right _ _ od];obtain⟨m,hm⟩:∃m,n - k=m+1:=⟨n - k - 1,oa⟩;rw[hm,show n - (k+1)=m by omega,List.replicate_succ,List.replicate_succ' (n:=k)];simp
  rw[e]at gq;exact gq
 have k4:n=k:=oa
 subst k4;simp only[Nat.sub_self,List.replicate_zero,Oi]at hN;refine Qt<|Ql<|x (QE (i:=0) O O oa)<|Qo<|Kk (i:=0) hN O O (by simp;omega) λwS h6 k5=>xe ?_;have hzS:w8.heap.size<=wS.heap.size:=h6.size;have hz8:=hM.size;have hw:O6 [b22] w7 wS:=hM.V h6;have hO:sW w wS:=kx.Q hw oa;have hA:Zr [b3,b22] ↑wS va vm ve a:=(h.up (λb hb=>.inr (by simp at hb;omega))).I hO;have gr:QK ↑wS b1 53 [va,sS a.st,vm,ve]:=((((hj.I hf).I V).I G).I hv).J hw (by simp;omega);have k6:QK ↑wS b2 53 [nS,sS 0,nS,nS]:=(((ho.I V).I G).I hv).J hw (by simp;omega);have k9:QK ↑wS b3 53 [r3,sS 0,nS,nS]:=(hp.I hv).J hw (by simp;omega);have ma:Qh 3 ↑w2 wS r3 a.al:=Qg (Qm I kz) hw (λb hb=>by have:=QV I b hb;simp;omega);have mc:∀b∈ob r3,b<w3.heap.size:=QV I;have hy:b3<wS.heap.size:=oa
 have hz:b22<wS.heap.size:=oa
 have hP:b3≠b22:=oa
 refine Qc<|Qo<|Q8 [[sS 0]] λgs mf hQ hb34 mg=>Qb ?_;have mh:Qh 3 ↑wS mf (sL gs 1 1) [0]:=mg.own (n:=1) (sz:=1) O oa oa;refine Qd<|Qc<|Qb ?_;have hedle:=hok.ed_le;have mj:∀e∈a.ed,0<=e.1/\e.1<=1099511627776:=λe he=>oo (hok.ed e he)
 refine QX (α:=Nat×Cs×O3×O3×O3) [(6,9),(11,11),(35,100)] (λz=>[(6,z.2.2.1),(7,sS z.1)])
  (λz w'=>KO b3 b22 r3 wS z.2.1 z.2.2.1 z.2.2.2.1 z.2.2.2.2 w'/\z.1<=z.2.1.ord.length/\Ud a.st z.2.1/\z.2.1.mk'.length<=z.1/\z.2.1.ed.length<=z.1*131072/\Xg a (a.st.toNat - z.1) z.1 z.2.1=Xg a a.st.toNat 0 (Z3 a))
  (λz=>a.st.toNat - z.1) (0,Z3 a,sL gs 1 1,nS,nS) ov
  ⟨⟨hQ.any,k9.I hQ,by show QK _ _ _ (OT _ ((oG a.st.toNat (-1)).set 0 0));rw[kw];exact k5.I hQ,mh,QL _ _ _ _,QL _ _ _ _,Dj.nil' _,Dj.nil' _,Dj.nil' _⟩,Lo _,QgF kv,Lo _,Lo _,O⟩ ?_
 rintro⟨i,c,vo,vk,J⟩ g2 mo ⟨hI,hi,hc,mq,ms,hR⟩;simp only[]at hI hi hc mq ms hR;have hcle:=hc.le;have hS:=Qh.ints (L:=[]) hI.o oa od;have mt:=hA.st hI.st;have mu:=gr.J hI.st (by simp;omega);refine Qd<|Ql<|Qa<|QG hS O<|ZW O O<|xe<|Zp rfl (λmv=>?_) (λmv=>?_)
 ·have mw:c=Xg a a.st.toNat 0 (Z3 a):=by rw[<-hR,Qar oa]
  refine Qt<|Ql<|QG hS O<|Q9 O<|Qo<|Qv hI.B3 O O od rfl λmy h7 mz=>xe ?_;refine Qc ?_;have m0:=Qh.ints (L:=[]) hI.k oa od;have m1:=Yd.eds (L:=[]) hI.e (oo hc.el) od;have m2:=Qh.ints (L:=[]) I h.al.le od;refine Q3 mz O O<|Q5 [r3,sS c.ord.length,vk,J] (((k6.J hI.st (by simp;omega))).J h7 (by simp;omega)) ⟨m2.one,O,m0.one,m1.one,Z⟩ λm3 h8 m4=>xe ?_;have gt:O6 [b3,b22] wS my:=hI.st.O h7 (λb hb=>.inl (by simp at hb;simp[hb]));have m5:sW w m3:=(hO.O gt (λb hb=>.inr (by simp at hb;omega))).Q h8 oa;refine Qj ⟨[.agg #[r3,sS c.ord.length,vk,J]],⟨JN m4,Z⟩,m5,?_⟩;unfold YG;rw[OU hK];simp only[];rw[<-mw];have k1:=Qg (Qg hI.k h7 (λb hb=>by have:=(Qi hI.k b hb).1;simp;omega)) h8 (λb hb=>by have:=(Qi hI.k b hb).1;simp;omega);have k2:=Qg (Qg hI.e h7 (λb hb=>by have:=(Qi hI.e b hb).1;simp;omega)) h8 (λb hb=>by have:=(Qi hI.e b hb).1;simp;omega);have k3:=Qg (Qg ma gt (λb hb=>by have:=mc b hb;simp;omega)) h8 (λb hb=>by have:=(Qi I b hb).1;simp;omega);exact⟨r3,vk,J,O,λL' hr=>⟨Qh.ints k3 h.al.le (λb hb=>oo (hr b hb)),Qh.ints k1 (by show c.mk'.length<=_;omega) (λb hb=>oo (hr b hb)),Yd.eds k2 (by show c.ed.length<=_;have:=hc.el;omega) (λb hb=>oo (hr b hb))⟩⟩
 have T:i<c.ord.length:=oa
 refine Qf<|Qd<|Qn<|QW (α:=O3) [(8,9),(41,57)] (λz=>[]) (λz w'=>KO b3 b22 r3 wS (Ym a i c) vo z J w') oh ?_ ?_
 ·refine Qd<|ZK [] (Xj 0 12 [6])<|p (QH O)<|pq (λ_ hc=>Qk (mu.I hc) O O)<|p Qy<|p Qy<|pii O hS O O T λa46 m6 =>
   pq (λ_ hc=>Qq (m6.I hc) O)<|pk<|xg<|(ja (mt.mr.I (O6.X _ _)) hok.mri _).S ?_
  rintro r14 w14 ⟨rfl,j14,rfl⟩;refine⟨O6.X _ _,?_⟩;refine p Qy<|p (λ_=>Q0 O O)<|p (λ_=>Q0 O O)<|p ZI<|p ZI<|pe ?_;have hT:=hI.I (O6.X [] mo);refine Ql<|xe ?_;have h9:ZZ c.ord i=c.ord[i]:=UK (ou T);refine Zp O (λhU=>?_) (λhU=>?_)
  ·refine Qf<|⟨vk,Z,?_⟩;unfold Ym;rw[h9,OU hU];exact hT
  refine Qr<|Qs O hT.B3 O O<|Qa<|Qo<|Q8 [[sS i]] λb55 w15 m7 hb55 m8=>?_;have h0:=hT.I m7;refine Qo<|Q2 (news:=[sS i]) (L:=[]) h0.k O O O (m8.at od) om oa h0.st.size λgu m9 pc gv pd=>?_;have gx:Qh 3 ↑wS m9 gu (c.mk'++[(i:Int)]):=Qh.snoc pc;refine Q9 O<|Qo<|Qv (h0.B3.J gv (QJ h0.k hy)) O O od (Qh.ints (L:=[]) gx (by simp;omega) od).one λw17 pf pg=>xe ?_;refine⟨gu,Z,?_⟩;unfold Ym;rw[h9,OV hU];exact h0.setK hy hz hP gv gx pd pf pg
 rintro hV g3 h2 hg;have ph:Ud a.st (Ym a i c):=QjI hc;have hW:(Ym a i c).ord=c.ord:=by unfold Ym;split <;> rfl
 have pn:(Ym a i c).ed=c.ed:=by unfold Ym;split <;> rfl
 have po:(Ym a i c).mk'.length<=i+1:=by
  unfold Ym;split
  ·simp only[oM,oL];omega
  omega
 have gy:Qu [] ↑h2 vo (Ym a i c).ord:=Qh.ints (L:=[]) hg.o (by rw[hW];omega) od;rw[hW]at gy;have pp:sW w h2:=hO.O hg.st (λb hb=>.inr (by simp at hb;omega));have pt:Zr (b3::b22::(ob vo++ob J)) ↑h2 va vm ve a:=(h.up (λb hb=>.inr (by
  simp only[oK,oW]at hb;rcases hb with rfl|rfl|hb|hb
  ·omega
  ·omega
  ·have:=(Qi hg.o b hb).1;omega
  have:=(Qi hg.e b hb).1;omega))).I pp
 have pu:=gr.J hg.st (by simp;omega);have hs:=hc.ord c.ord[i] (Lm T);refine Qd<|ZK [] [oz 0,oz 1,oz 2,oz 3,oz 4,oz 7,oA 5,oz 6]<|pq (λ_ hc=>Zi (pu.I hc) O O)<|p Qy<|p Qy<|pii O gy O O T λa61 pw =>
  pq (λ_ hc=>Qq (pw.I hc) O)<|p Qy<|pk<|xg<|(Qa1 (pt.ed.I (O6.X _ _)) hok.eds mj c.ord[i] hs.1 oa).S ?_
 rintro r19 hh ⟨pz,gz⟩;have g0:sW h2 hh:=(O6.X [] h2).D pz;refine⟨g0,?_⟩;refine p (λ_=>Y1 gz O)<|pe ?_;have p0:=hg.I g0;have h9:ZZ c.ord i=c.ord[i]:=UK (ou T);have hol:=Yg a.ed c.ord[i];have p4:zb a i c=(QM a.ed c.ord[i]).foldl (Zs i) (Ym a i c):=by unfold zb;rw[h9]
 generalize p5:QM a.ed c.ord[i]=os at *;have p6:∀e∈os,0<=e.2.2/\e.2.2<a.st:=λe he=>by rw[<-p5]at he;have:=hok.ed e (Zt he).1;omega
 refine QX (α:=Nat×Cs×O3×O3) [(6,6),(11,11),(65,100)] (λz=>[(6,z.2.2.1),(65,sS z.1)])
  (λz w'=>KO b3 b22 r3 wS z.2.1 z.2.2.1 hV z.2.2.2 w'/\O6 (b3::b22::(ob vo++ob J)) hh w'/\(∀b∈ob z.2.2.1,b∈ob vo\/↑hh<=b)/\(∀b∈ob z.2.2.2,b∈ob J\/↑hh<=b)/\z.1<=os.length/\Ud a.st z.2.1/\z.2.1.mk'=(Ym a i c).mk'/\z.2.1.ed.length=c.ed.length+z.1/\c.ord.length<=z.2.1.ord.length/\(os.drop z.1).foldl (Zs i) z.2.1=zb a i c)
  (λz=>os.length - z.1) (0,Ym a i c,vo,J) ov
  ⟨p0,O6.Y _ _,λ_ hb=>.inl hb,λ_ hb=>.inl hb,Lo _,ph,O,by simp[pn],by simp[hW],by rw[p4];rfl⟩ ?_
 rintro⟨k,d,g6,hB⟩ g4 p7 ⟨Y,hC,hD,hX,p8,U,hY,hZ,p9,h3⟩;simp only[]at Y hC hD hX p8 U hY hZ p9 h3;refine Zk rfl O (λqf=>?_) (λqf=>?_)
 ·rw[Lu oa,NJ]at h3;subst h3;refine Qt<|Qr<|Qa<|QB O O<|Qb ?_;have qj:=U.le;refine⟨(i+1,zb a i c,g6,hV,hB),oe,ov,Y,oe,U,by simp only[];rw[hY];exact po,oe,?_⟩;simp only[];rw[<-hR];obtain⟨m,hm⟩:∃m,a.st.toNat - i=m+1:=⟨a.st.toNat - i - 1,oa⟩;rw[hm,Xg,OV T,show a.st.toNat - (i+1)=m by omega]
 have ga:k<os.length:=oa
 have ql:=QY ga;rw[ql,LQ]at h3;have hto:=p6 os[k] (Lm ga);have q4:=gz.st hC;have qj:=U.le;have hzS4:=hC.size;have hI4z:=Y.st.size;have q5:=Qh.ints (L:=[]) Y.o oa od;obtain⟨q,hq⟩:∃q:Nat,os[k].2.2=q:=⟨os[k].2.2.toNat,oa⟩;have gb:os[k].2.2.toNat=q:=oa
 have gc:q<n:=oa
 have ge:q<d.num.length:=by rw[U.nl];omega
 have g7:ZZ d.num os[k].2.2=d.num[q]:=by rw[UK oa];simp only[gb]
 have j1:=QV Y.e;have j2:=QV Y.o;refine Qf<|Qd<|Qn<|Qc<|xie q4 O O ga λa67 j3=>x (QF j3 O O)<|QT [sS 0,sS 0,sS 0] λb11 w21 j4 za ha=>Q5 (Qp os[k]) ha ox λz0 z1 ha=>xe ?_;have g8:sW p7 z0:=j4.Q z1 za;have hE:=Y.I g8;have hl11:=ha.lt;have G:=hC.D g8;refine QW (α:=O3) [(6,6),(69,85)] (λz=>[(6,z)]) (λz w'=>KO b3 b22 r3 wS (Yv d os[k]) z hV hB w'/\O6 (b3::b22::(ob vo++ob J)) hh w'/\(∀b∈ob z,b∈ob vo\/↑hh<=b)/\QK ↑w' b11 179 (Qp os[k])) oh ?_ ?_
 ·refine Ql<|Qs O ha O O<|x (QE O (OW sS hq) gc)<|x (zw hE.B22 O ge)<|ZW O O<|xe<|Zp O (λgg=>?_) (λgg=>?_)
  ·refine Qf<|⟨g6,La,?_,G,hD,ha⟩;unfold Yv;rw[g7,OU gg];exact hE
  refine Ql<|Qs O ha O O<|Qa<|QG q5 O<|x (QE O (OW sS hq) gc)<|Qo<|Kk hE.B22 O O ge λw23 hF z2=>xe ?_;have z3:=hE.setN hz hP hF z2;have g9:=ha.J hF (by simp;omega);refine Qr<|Qa<|Qs O g9 O O<|Qo<|Yo (us:=[[sS os[k].2.2]]) O O og od ⟨rfl,rfl,Z⟩ λb84 w24 hG hb84 z4=>?_;have gh:=z3.I hG;refine Qo<|Q2 (news:=[sS os[k].2.2]) (L:=[]) gh.o O O O (z4.at od) om (by show d.ord.length+1<=_;omega) gh.st.size λka z5 ho25 gi kb=>Qb ?_;have hk25:Qh 3 ↑wS z5 ka (d.ord++[os[k].2.2]):=Qh.snoc ho25;have hz23:=hF.size;have hz24:=hG.size;refine⟨ka,La,?_,?_,?_,(g9.I hG).J gi (λhb=>oo (j2 _ hb))⟩
  ·unfold Yv;rw[g7,OV gg,gb];exact gh.setO hy hz gi hk25 kb
  ·refine((G.O hF (λb hb=>.inl ?_)).D hG).O gi (λb hb=>?_)
   ·simp at hb;simp[hb]
   rcases hD b hb with E|E
   ·exact .inl (by simp[E])
   exact .inr E
  intro b hb;rcases kb b hb with E|E
  ·exact hD b E
  exact .inr oa
 rintro vo3 g5 kc ⟨h4,ke,hv8,kf⟩;have gj:Zs i d os[k]=⟨(Yv d os[k]).ord,(Yv d os[k]).num,(Yv d os[k]).mk',(Yv d os[k]).ed++[((i:Int),os[k].2.1,ZZ (Yv d os[k]).num os[k].2.2)]⟩:=zV oa;have hnl:q<(Yv d os[k]).num.length:=by rw[QmF];exact ge
 have hg2:ZZ (Yv d os[k]).num os[k].2.2=(Yv d os[k]).num[q]:=by rw[UK oa];simp only[gb]
 have kg:=QJ h4.e hy;have hne22:=QJ h4.e hz;have kh:b11∉ob hB:=λhb=>oo (j1 _ hb)
 have ki:(Yv d os[k]).ed=d.ed:=by unfold Yv;split <;> rfl
 have hc5:Ud a.st (Zs i d os[k]):=Qca U hto.1 hto.2 (by rw[hZ];omega);refine ZK (ob hB) (Xj 0 15 [11,12,14])<|p (QH O)<|pq (λ_ hc=>Qk (h4.B3.J hc kg) O O)<|p Qy<|p (QH O)<|pq (λ_ hc=>Qk (kf.J hc kh) O O) <|
  p Qy<|p (QH O)<|pq (λ_ hc=>Qk (kf.J hc kh) O O)<|p (λ_=>QE O (OW sS hq) gc) <|
  pq (λ_ hc=>zw (h4.B22.J hc hne22) O hnl)<|p (λ_=>QD ⟨O,O,O,Z⟩)<|pk<|Q8 [Qp ((i:Int),os[k].2.1,(Yv d os[k]).num[q])] λb97 w27 hs27 hb97 hB97=>?_
 have h5:sW kc w27:=(O6.X [] kc).D hs27;refine⟨h5.any,?_⟩;have hH:=h4.I h5;refine pk<|Q2 (news:=Qp ((i:Int),os[k].2.1,(Yv d os[k]).num[q])) (L:=[]) hH.e O O O (hB97.at od) (λu hu=>by simp only[Qp,oK,oH,or_false]at hu;rcases hu with rfl|rfl|rfl <;> rfl) (by rw[ki];have:=U.el;omega) hH.st.size λkj w28 ho28 hJ kk=>?_
 refine⟨h5.any.V hJ,?_⟩;have kn:Yd 179 ↑wS w28 kj ((Yv d os[k]).ed++[((i:Int),os[k].2.1,(Yv d os[k]).num[q])]):=Yd.snoc ho28;refine p (QH O)<|pkk<|Qv (hH.B3.J hJ kg) O O od (Yd.eds (L:=[]) kn (by simp[ki];have:=U.el;omega) od).one λw29 ko hB29=>pe ?_;have gk:=hH.setE hy hz hP hJ kn kk ko hB29;rw[<-hg2]at gk;rw[<-gj]at gk;refine Qr<|QB O O<|Qa<|xe ?_;have hz26:=ke.size;have hz27:=h5.size;refine⟨(k+1,Zs i d os[k],vo3,kj),oe,ov,gk,?_,hv8,?_,oe,hc5,?_,?_,?_,h3⟩
 ·refine(((ke.D h5)).O hJ (λb hb=>?_)).O ko (λb hb=>.inl (by simp at hb;simp[hb]));rcases hX b hb with E|E
  ·exact .inl (by simp[E])
  exact .inr E
 ·intro b hb;rcases kk b hb with E|E
  ·exact hX b E
  exact .inr oa
 ·simp only[];rw[<-hY,gj];simp only[];unfold Yv;split <;> rfl
 ·simp only[];rw[Qcc,hZ];omega
 simp only[];rw[gj];simp only[];unfold Yv;split
 ·simp only[oM];omega
 omega
end Go.Lg
namespace Go.Proofs
open Go.Proofs.Tryz
open Go.Shelf
def Tryz.lays169_ren:Go.Shelf.Ren:=⟨λ|169=>150|n=>n,λ|70=>259|9=>9|0=>0|72=>261|37=>86|127=>332|3=>3|5=>5|n=>n,λ|n=>n⟩
theorem Tryz.lays169:Go.Proofs.Lays.n169 sV Tryz.lays169_ren:=lyS
theorem Tryz.Builder_Extra_169:Builder.Extra sV Tryz.lays169_ren:=lyS
open Go.RowKit in
open Go.RowKit in
open Go.RowKit in
theorem Tryz.Builder_String_any (B b:Nat)(l:List UInt8)(w:O2)(h:Lib.IsBuilder 261 5 B b (Lib.byteCells l) w)(E:B<=↑w):
  Calls sV 150 #[sP b] w λe w'=>e=.returned (.string ⟨l.toArray⟩)/\Below B w w':=Any.Builder_String_any Tryz.lays169 Tryz.Builder_Extra_169 B b l w h E
def Tryz.laysM171_ren:Go.Shelf.Ren:=⟨λ|171=>149|243=>229|246=>267|283=>295|284=>296|285=>297|286=>298|129=>221|317=>314|318=>315|319=>316|320=>317|337=>323|338=>324|n=>n,λ|3=>3|9=>9|2=>2|4=>4|171=>396|0=>0|53=>319|37=>86|5=>5|173=>398|212=>410|51=>317|20=>20|213=>411|46=>246|232=>417|233=>418|n=>n,λ|17=>0|18=>1|19=>2|n=>n⟩
theorem Tryz.laysM171:Go.Proofs.LaysM.n171 sV Tryz.laysM171_ren:=lyS
open Go.RowKit Go.Sort Go.Lib in
theorem Tryz.strconv_Itoa (n:Int)(E:-9223372036854775808<=n)(G:n<=9223372036854775807)(w:O2)(I:Lib.TabIs sV w "internal/strconv.uint64pow10" .u64 Lib.pow10Tab):
  Calls sV 149 #[sS n] w λe w'=>e=.returned (.string ⟨(Lib.itoa n).toArray⟩)/\∃k os,w'=grow (w.drewN k) os:=Any.strconv_Itoa Tryz.laysM171 n E G w I
def Tryz.lays171_ren:Go.Shelf.Ren:=⟨λ|171=>149|243=>229|246=>267|283=>295|284=>296|285=>297|286=>298|129=>221|317=>314|318=>315|319=>316|320=>317|337=>323|338=>324|n=>n,λ|3=>3|9=>9|2=>2|4=>4|171=>396|0=>0|53=>319|37=>86|5=>5|173=>398|212=>410|51=>317|20=>20|213=>411|46=>246|232=>417|233=>418|n=>n,λ|17=>0|18=>1|19=>2|n=>n⟩
theorem Tryz.lays171:Go.Proofs.Lays.n171 sV Tryz.lays171_ren:=lyS
open Go.RowKit Go.Sort Go.Lib in
theorem Tryz.strconv_Itoa_small (i:Nat)(hi:i<100)(w:O2):
  Calls sV 149 #[sS i] w λe w'=>e=.returned (.string ⟨(Lib.decDigits i).toArray⟩)/\w'=w:=Any.strconv_Itoa_small Tryz.lays171 i hi w
end Go.Proofs
namespace Go.Lg
open Go.RowKit
section
variable {K:Fr->O2->Prop}{f:Fr}
theorem QfP {te:Nat}(G:P.underlying t=some (.pointer te)){x:O4}{a:Option Addr}(hx:ev f x=.pointer a)(I:ev f y=.pointer none):
  (execOp (ev f) ⟨d,.binOp .eql t x y E,ty,pS,af,gd⟩).run P w=.ok (.value (.bool a.isNone)) w:=by
 have J:(eqGuard .eql t x y (.pointer a) (.pointer none)).run P w=.ok () w:=by simp[eqGuard]
 have key:∀m,(Op.equalIn (m+1) t (.pointer a) (.pointer none)).run P w=.ok a.isNone w:=by
  intro m;unfold Op.equalIn;cases a <;> simp[run_underlying G]
 have T:(Op.equal t (.pointer a) (.pointer none)).run P w=.ok a.isNone w:=key 9999;simp only[execOp,hx,I,Sem.run_bind,J,Result.andThen_ok,binOp,T,Sem.run_pure]
theorem Qg9 {te:Nat}{j:TypeInfo}(G:P.underlying t=some (.pointer te))(I:P.info? te=some j){x:O4}{a:Addr}(hx:ev f x=.pointer (some a))(J:ev f y=.pointer (some a)):
  (execOp (ev f) ⟨d,.binOp .neq t x y E,ty,pS,af,gd⟩).run P w=.ok (.value (.bool false)) w:=by
 have T:(eqGuard .neq t x y (.pointer (some a)) (.pointer (some a))).run P w=.ok () w:=by simp[eqGuard]
 simp only[execOp,hx,J,Sem.run_bind,T,Result.andThen_ok,Lib.run_neq_ptr_same w a G I,Sem.run_pure]
theorem zx {x:O4}{v:O3}(hx:ev f x=v)(h:(convert t E v).run P w=.ok v' w):
  (execOp (ev f) ⟨d,.convert t E x,ty,pS,af,gd⟩).run P w=.ok (.value v') w:=by
 simp[execOp,hx,h]
theorem QiZ {e:Array O3->Sem O3}{x:O4}{v:O3}{ts:Array Nat}(E:P.funcs[g]?=some fn)(G:(fn.name == "runtime.NumGoroutine")=false)
  (hb:fn.body.isNone=true) (I:Extern.findNext fn=none) (J:Extern.find fn=some e) (h:(e #[ev f x]).run P w=.ok v w):
  (execOp (ev f) ⟨d,.call ⟨.value (.func g),#[x],ts⟩,ty,pS,af,gd⟩).run P w=.ok (.value v) w:=by
 have hc:=run_callFunc_extern E G hb I J #[ev f x] w;rw[h]at hc;have T:ev f (.func g)=.func (.func g) #[] #[]:=rfl;simp[execOp,resolve,T,Deferred.ofValue,invoke,hc,Result.andThen]
theorem Qo5 {e u:Nat}[h:Sl P t e 1 1 (.int .u8 0)](E:P.underlying u=some .string){s:O4}{v:O3}{cs:LV}(G:w.ownsRow base e 1 v n cs)(I:ev f s=v)
  {b:ByteArray} (J:ev f y=.string b) (hb:n+b.size<=1099511627776) (T:base<=↑w)
  (hK:∀v' w',w'.ownsRow base e 1 v' (n+b.size) (cs++Lib.strCells b)->O6 (ob v) w w'->K (QP f d v') w'):
  XO P ⟨d,.call ⟨.builtin .append,#[s,y],#[t,u]⟩,ty,pS,af,gd⟩ f w K:=by
 obtain⟨i,hi,U,V,Y⟩:=Sl.info h;obtain⟨v',w',hr,h2,h3,_⟩:=Lib.run_append_own_string (P:=P) w base t u ty e i h.u E hi U V Y v n cs G b (by simp only[maxLen];omega) oa T;have ha:(execOp (ev f) ⟨d,.call ⟨.builtin .append,#[s,y],#[t,u]⟩,ty,pS,af,gd⟩).run P w=.ok (.value v') w':=by
  simp[execOp,resolve,invoke,builtin,I,J,hr]
 exact xv ha (hK v' w' h2 (by rw[Qa3];exact O6.of_grown h3))
theorem QiX {x:O4}{u:Nat}(E:P.underlying u=some .string){b:ByteArray}(hx:ev f x=.string b):
  (execOp (ev f) ⟨d,.call ⟨.builtin .len,#[x],#[u]⟩,ty,pS,af,gd⟩).run P w=.ok (.value (sS b.size)) w:=by
 simp[execOp,resolve,invoke,builtin,Builtin.len_,hx,run_underlying E,goInt]
end
def Bl (p:O3)(b:Nat)(E:List UInt8)(w:O2):Prop:=∃v,QK ↑w b 261 [p,v]/\w.ownsRow (b+1) 5 1 v E.length (Lib.byteCells E)
def me (b:Nat):O3:=sP b
theorem Qnc (h:(P.info? t).map (·.size)=some n):∃j,P.info? t=some j/\j.size=n:=by
 simpa using h
theorem Qau {b:Nat}{cs:LV}(h:QK ↑w b T cs):w.shape? b=some (T,cs.length):=by
 unfold QK at h;simp[World.shape?,h]
theorem KI {G:O2}{b:Nat}{T:List UInt8}{p:O3}(U:sW G w)(hb:↑G<=b)(Y:p=.pointer none\/p=me b)(h:Bl p b T w):
  QU sV 228 [me b] w λr w'=>r=.tuple #[]/\sW G w'/\Bl (me b) b T w':=by
 obtain⟨v,E,I⟩:=h;obtain⟨j,J,ha⟩:=Qnc (P:=sV) (t:=261) (n:=2) oc;refine Zm func228 ?_;refine Qc ?_;rcases Y with rfl|rfl
 ·refine Qa<|Z7 O<|Qs O E O O<|x (QfP underlying259 O O)<|xe<|jd O ?_;refine Qr<|Qa<|Qa<|x (zx (v':=me b) O (Lib.run_to_unsafe w ⟨b,0,none⟩ underlying259 underlying372 J (by rw[ha];decide) (Qau E) od)) <|
   x (QiZ (v:=me b) func266 oc oc oc (e:=Extern.AbiNoEscape.same) oc O) <|
   x (zx (v':=me b) O (Lib.run_from_unsafe w ⟨b,0,none⟩ underlying372 underlying259 J (Qau E) oc))<|x (VW O) <|
   Q9 rfl<|Qo<|Qv E O O od rfl λw2 V he=>xe ?_
  exact⟨[],Z,O,U.Q V hb,v,he,Qg I V (λc hc=>by have:=(Qi I c hc).1;simp;omega)⟩
 refine Qa<|Z7 O<|Qs O E O O<|x (QfP underlying259 O O)<|xe<|Zw O<|Ql<|Z7 O<|Qs O E O O<|Qa<|x (Qg9 underlying259 J O O)<|xe<|Zw O<|Qf ?_;exact⟨[],Z,O,U,v,E,I⟩
theorem KA {I:O2}{b:Nat}{E:List UInt8}{p:O3}(h0:sW I w)(hb:↑I<=b)(hp:p=.pointer none\/p=me b)(h:Bl p b E w)(c:UInt8)(hl:E.length+1<=1000000000):
  QU sV 187 [me b,.int .u8 c.toNat] w λ_ w'=>sW I w'/\Bl (me b) b (E++[c]) w':=by
 refine Zm func187 ?_;refine Qc<|Qb<|Ql<|Qw<|(KI h0 hb hp h).S ?_;rintro r1 w1 ⟨rfl,he,v,J,T⟩;refine xe ?_;have hj:=J.lt;refine Ql<|Qa<|Z7 O<|Qs O J O O<|Qa<|Qo<|Q8 [[.int .u8 c.toNat]] λhk w2 G hm hf=>?_;have hn:=G.size;refine Qo<|Q2 (news:=[.int .u8 c.toNat]) (L:=[]) (Qm T G) O O O (hf.at od) om oa oa λV w3 hg Y hq=>?_;have U:w3.ownsRow (b+1) 5 1 V (E++[c]).length (Lib.byteCells (E++[c])):=by simpa[Lib.byteCells]using hg
 refine Z7 rfl<|Q9 O<|Qo<|Qv ((J.I G).J Y (λhc=>oo (Qi T b hc).1)) O O od (QN (L:=[]) U (by simp;omega) od).one λw4 ha hh=>xe ?_;refine Qc<|Qb<|Qj ⟨[.nilIface],La,(((he.D G).O Y (λc hc=>.inr ?_)).Q ha hb),V,hh,Qg U ha (λc hc=>by have:=(Qi U c hc).1;simp;omega)⟩;have:=(Qi T c hc).1;omega
theorem Jy {G:O2}{b:Nat}{E:List UInt8}{p:O3}(h0:sW G w)(hb:↑G<=b)(hp:p=.pointer none\/p=me b)(h:Bl p b E w)(s:ByteArray)(hl:E.length+s.size<=1000000000):
  QU sV 148 [me b,.string s] w λ_ w'=>sW G w'/\Bl (me b) b (E++s.data.toList) w':=by
 refine Zm func148 ?_;refine Qc<|x Qe<|Qb<|Ql<|Qw<|(KI h0 hb hp h).S ?_;rintro r1 w1 ⟨rfl,he,v,I,J⟩;refine xe ?_;have hh:=I.lt;refine Ql<|Qa<|Z7 O<|Qs O I O O<|Qa<|Qo<|Qo5 underlying9 J O O oa oa λU w3 hf V=>?_;have Y:s.size=s.data.toList.length:=rfl;have T:w3.ownsRow (b+1) 5 1 U (E++s.data.toList).length (Lib.byteCells (E++s.data.toList)):=by
  rw[Lc,<-Y,show Lib.byteCells (E++s.data.toList)=Lib.byteCells E++Lib.strCells s by simp[Lib.byteCells,Lib.strCells_eq]];exact hf
 refine Z7 rfl<|Q9 O<|Qo<|Qv (I.J V (λhc=>oo (Qi J b hc).1)) O O od (QN (L:=[]) T (by rw[Lc,<-Y];omega) od).one λw4 ha hg=>xe ?_;refine Ql<|x (QiX underlying9 O)<|x Qe<|Qb<|Qj ⟨[sS s.size,.nilIface],ov,((he.O V (λc hc=>.inr ?_)).Q ha hb),U,hg,Qg T ha (λc hc=>by have:=(Qi T c hc).1;simp;omega)⟩;have:=(Qi J c hc).1;omega
theorem Vp {J:O2}{b:Nat}{I:List UInt8}{p:O3}(E:sW J w)(hb:↑J<=b)(Y:p=.pointer none\/p=me b)(h:Bl p b I w):
  QU sV 150 [me b] w λr w'=>r=.string ⟨I.toArray⟩/\sW J w':=by
 obtain⟨v,T,U⟩:=h;have ha:=T.lt;have V:Lib.BuilderAt 261 5 b b p (Lib.byteCells I) w:=⟨Lp _,v,T,by rw[Lib.byteCells_length];exact Za U oa,λe=>by
  have:b∈ob v:=by rw[Qa3,e];simp
  have:=(Qi U b this).1;omega⟩
 unfold QU;refine Calls.mono (Tryz.Builder_String_any b b I w (by rcases Y with rfl|rfl;exact .inl V;exact .inr V) oa) ?_
 rintro e w' ⟨rfl,G⟩;exact⟨O,⟨G.os.D E.os,G.tape.D E.tape,G.output.D E.output,Lz E.size G.size,λk hk hL=>(G.block k oa).D (E.block k hk hL)⟩⟩
def Tb (w:O2):Prop:=Lib.TabIs sV w "internal/strconv.uint64pow10" .u64 Lib.pow10Tab
theorem Qil {name:String}{v:Array O3}(h:w.var? P name=some v)(I:sW w w'):w'.var? P name=some v:=by
 unfold World.var? at *;rw[Ml]at *;obtain⟨g,J,E⟩:=h;refine⟨g,J,?_⟩;cases G:w.heap[g]? with
 | none=>rw[G]at E;cases E
 | some o =>
  have T:g<w.heap.size:=(LO.1 G).1;rw[I.block g T od];exact E
theorem Tb.I (h:Tb w)(E:sW w w'):Tb w':=Qil h E
def Kb (w:O2)(m:Int):Prop:=m<=100\/(m<=1000000/\Tb w)
theorem Kb.I {w w':O2}{m:Int}(h:Kb w m)(E:sW w w'):Kb w' m:=h.imp id λh=>⟨h.1,h.2.I E⟩
theorem Kb.le {m:Int}(h:Kb w m):m<=1000000:=by rcases h with h|h <;> omega
theorem QdZ {k:Nat}{os:xC}:sW w (Sort.grow (w.drewN k) os):=by
 refine⟨O,O,O,?_,λi hi _=>?_⟩
 ·show ↑w<=(w.heap++os).size;simp
 show(w.heap++os)[i]?=w.heap[i]?;rw[Array.getElem?_append_left hi]
theorem Qbk {m:Int}(i:Nat)(hi:(i:Int)<m)(w:O2)(E:Kb w m):QU sV 149 [sS i] w λr w'=>r=.string ⟨(Lib.decDigits i).toArray⟩/\sW w w':=by
 unfold QU;rcases E with E|E
 ·refine Calls.mono (Tryz.strconv_Itoa_small i oa w) ?_;rintro e w' ⟨rfl,rfl⟩;exact⟨O,O6.Y _ _⟩
 refine Calls.mono (Tryz.strconv_Itoa i oa oa w E.2) ?_;rintro e w' ⟨rfl,k,os,rfl⟩;refine⟨?_,QdZ⟩;unfold Lib.itoa;rw[OU oa,MK]
def YV (l:LI):List UInt8:=l.flatMap λn=>Lib.decDigits n.toNat++[32]
theorem Kr:∀(k u:Nat),u<10 ^ k->(Lib.decDigits u).length<=max 1 k
 | 0,u,h=>by
  unfold Lib.decDigits;rw[dif_pos (by simp at h;omega)];simp
 | k+1,u,h=>by
  unfold Lib.decDigits;split
  ·simp
  rename_i E;have ih:=Kr k (u / 10) (by rw[OH]at h;omega);rw[Lc];simp only[oL];have G:k≠0:=λe=>by subst e;simp at h;omega
  omega
theorem Bl.I {w w':O2}{p:O3}{b:Nat}{E:List UInt8}(h:Bl p b E w)(G:sW w w'):Bl p b E w':=by
 obtain⟨v,I,J⟩:=h;exact⟨v,I.I G,Qm J G⟩
theorem Qbe {L:LN}{v:O3}{l:LI}{m:Int}(h:Qu L ↑w v l)(V:Kb w m)(hb:∀n∈l,0<=n/\n<m)(hl:l.length<=1000000):
  QU sV 120 [v] w λr w'=>r=.string ⟨(YV l).toArray⟩/\sW w w':=by
 refine Zm func120 ?_;refine Qc<|Qb<|Qc<|QT [.pointer none,nS] λI w1 he J hf=>xe ?_;refine Qd<|Ql<|QG h O<|Qa<|xe<|QX (α:=Nat×O3) [(5,5),(8,16)] (λz=>[(8,sS z.1)]) (λz w'=>z.1<=l.length/\sW w w'/\(z.2=.pointer none\/z.2=me I)/\Bl z.2 I (YV (l.take z.1)) w'/\(YV (l.take z.1)).length<=8*z.1) (λz=>l.length - z.1) (0,.pointer none) La
  ⟨Lo _,he,.inl O,⟨_,hf,QL _ _ _ _⟩,Lp _⟩ ?_
 rintro⟨k,p⟩ g w2 ⟨hk,E,T,G,hg⟩;simp only[]at hk T G hg;refine Zk rfl O (λh9=>?_) (λh9=>?_)
 ·refine Qt<|Qc ?_;rw[Lr oa]at G;refine KX<|(Vp E J T G).S ?_;rintro r3 w3 ⟨rfl,hh⟩;refine Qb<|Qj ⟨[.string ⟨(YV l).toArray⟩],La,O,hh⟩
 have U:k<l.length:=oa
 have hu:=hb l[k] (Lm U);obtain⟨q,hq⟩:∃q:Nat,l[k]=q:=⟨l[k].toNat,oa⟩;have hj:l[k].toNat=q:=oa
 have hv:=Kr 7 q (oo V.le);have Y:YV (l.take (k+1))=YV (l.take k)++Lib.decDigits q++[32]:=by
  rw[Ll U];unfold YV;rw[LF,Na,hj,LA]
 refine Qf<|Qd<|Qn<|Qc<|xii (h.I E) O O U λhw hm=>x (Qq hm O)<|Qb<|Ql<|Qo<|xf ?_;refine(show QU _ _ [sS l[k]] _ _ by rw[hq];exact(Qbk q oa w2 (V.I E))).S ?_;rintro r4 w4 ⟨rfl,ha⟩;refine KX<|(Jy (E.D ha) J T (G.I ha) ⟨(Lib.decDigits q).toArray⟩ (by show _+(Lib.decDigits q).toArray.size<=_;simp;omega)).S ?_;rintro r5 w5 ⟨hn,ho⟩;refine xe<|Qr<|KX<|(KA hn J (.inr O) ho 32 (by simp;omega)).S ?_;rintro r6 w6 ⟨hr,hs⟩;refine xe<|Qr<|QB O O<|Qa<|xe<|⟨(k+1,me I),oe,La,oe,hr,.inr O,?_,?_⟩
 ·simp only[];rw[Y];simpa using hs
 simp only[];rw[Y];simp;omega
theorem V6 (p:AV):(ZJ p).length=4:=rfl
theorem KB (p:TV):(YK p).length=1:=rfl
theorem X7.le {L:LN}{H:xC}{v:O3}{ps:List AV}(h:X7 L H v ps):ps.length<=1099511627776:=h.arr.le
theorem Qk4 {l:List Qz}{k:Nat}(h:k<l.length):ckL (l.drop k)=if Jc l[k]≠0 then Jc l[k]else ckL (l.drop (k+1)):=by
 rw[Me h,ckL]
theorem Qhf {L:LN}{v:O3}{ps:List AV}(h:X7 L ↑w v ps):
  QU sV 117 [v] w λr w'=>r=sS (KT (ps.map (·.a)))/\sW w w':=by
 have hn:=X7.le h;refine Zm func117 ?_;refine Qc<|Qb<|Qd<|Ql<|QG h.arr O<|x (Z8 O O)<|xe<|Zg rfl (λV=>?_) (λV=>?_)
 ·refine Qc<|Qb<|Qj ⟨[sS 3],La,?_,O6.Y _ _⟩;unfold KT;rw[OV (by simp;omega)];rfl
 refine Qf ?_;have Y:KT (ps.map (·.a))=ckL (ps.map (·.a)):=by unfold KT;rw[OU (by simp;omega)]
 rw[Y];refine Qd<|Ql<|QG h.arr O<|Qa<|xe<|QX (α:=Nat) [(2,2),(4,5),(11,20)] (λz=>[(11,sS z)]) (λz w'=>z<=ps.length/\sW w w'/\ckL (ps.map (·.a))=ckL ((ps.map (·.a)).drop z)) (λz=>ps.length - z) 0 La
  ⟨Lo _,O6.Y _ _,O⟩ ?_
 rintro k g w1 ⟨hk,E,hck⟩;refine Zk rfl O (λha=>?_) (λha=>?_)
 ·refine Qt<|Qc<|Qb<|Qj ⟨[sS 0],La,?_,E⟩;rw[hck,Lu (by simp;omega)];rfl
 have G:k<ps.length:=oa
 have he:k<(ps.map (·.a)).length:=by simpa using G
 rw[Qk4 he,MQ]at hck;refine Qf<|Qd<|Qn<|Qc<|O9 V6 (h.I E).arr O O G λho hf=>x (QF hf O O)<|QT [nS,sS 0,nS,nS] λb4 w2 hg hh I=>?_;have hA:=h.each ps[k] (Lm G);refine Q5 (ZJ ps[k]) I ⟨hA.al.one,O,hA.mr.one,hA.ed.one,Z⟩ λw3 hj I=>xe ?_;have T:sW w1 w3:=hg.Q hj hh;refine Qc<|Q3 I O O<|Qw<|(Y8 ((hA.I E).I T)).S ?_;rintro r4 w4 ⟨rfl,hm⟩;refine Qb ?_;have U:=(E.D T).D hm;refine Ql<|ZN O O<|xe<|Zg rfl (λJ=>?_) (λJ=>?_)
 ·refine Ql<|Qb<|Qj ⟨[sS (Jc ps[k].a)],La,?_,U⟩;rw[hck,OV J];rfl
 refine Qf<|Qr<|QB O O<|Qa<|xe<|⟨k+1,oa,La,G,U,?_⟩;rw[hck,OU J]
theorem Qkx {l:List Qz}{k:Nat}(h:k<l.length):evs (l.take (k+1))=mrg (· || ·) (evs (l.take k)) l[k].al:=by
 unfold evs;rw[Ll h,Mn];rfl
theorem Qbv (l:List Qz)(h:∀a∈l,a.al.length<=32):(evs l).length<=32*l.length:=by
 have key:∀(l:List Qz) (acc:LI),(∀a∈l,a.al.length<=32)->(l.foldl (λacc a=>mrg (· || ·) acc a.al) acc).length<=acc.length+32*l.length:=by
  intro l;induction l with
  | nil=>intro acc _;simp
  | cons a l ih =>
   intro acc h;have G:=ih (mrg (· || ·) acc a.al) (λa E=>h a (Lj _ E));have I:=zC (· || ·) acc a.al;have J:=h a Lh;simp only[List.foldl_cons,oQ];omega
 have:=key l [] h;unfold evs;simpa using this
theorem QhB {L:LN}{v:O3}{ps:List AV}(h:X7 L ↑w v ps)(hn:ps.length<=12)(U:∀p∈ps,p.a.al.length<=32):
  QU sV 186 [v] w λr w'=>sW w w'/\Qh 3 ↑w w' r (evs (ps.map (·.a))):=by
 refine Zm func186 ?_;refine Qc<|Qb<|Qc<|Qb<|Qd<|Ql<|QG h.arr O<|Qa<|xe<|QX (α:=Nat×O3) [(3,3),(5,5),(8,16)] (λz=>[(3,z.2),(8,sS z.1)]) (λz w'=>z.1<=ps.length/\sW w w'/\Qh 3 ↑w w' z.2 (evs ((ps.map (·.a)).take z.1))) (λz=>ps.length - z.1) (0,nS) ov
  ⟨Lo _,O6.Y _ _,QL _ _ _ _⟩ ?_
 rintro⟨k,vo⟩ g Y ⟨hk,I,G⟩;simp only[]at hk G;have hq:=Qbv ((ps.map (·.a)).take k) (λa ha=>by obtain⟨p,hp,rfl⟩:=Lx.1 (L2 ha);exact U p hp);have hr:((ps.map (·.a)).take k).length<=12:=by simp;omega
 refine Zk rfl O (λh9=>?_) (λh9=>?_)
 ·refine Qt<|Ql<|Qb<|Qj ⟨[vo],La,I,?_⟩;rw[Lr (by simp;omega)]at G;exact G
 have E:k<ps.length:=oa
 refine Qf<|Qd<|Qn<|Qc<|O9 V6 (h.I I).arr O O E λhs he=>x (QF he O O)<|QT [nS,sS 0,nS,nS] λb5 w2 hf hg J=>?_;have hA:=h.each ps[k] (Lm E);have hu:=U ps[k] (Lm E);refine Q5 (ZJ ps[k]) J ⟨hA.al.one,O,hA.mr.one,hA.ed.one,Z⟩ λw3 hh J=>xe ?_;have V:sW Y w3:=hf.Q hh hg;have T:=I.D V;refine Qr<|Qa<|Qs O J O O<|Qw<|(jf (Qh.ints (L:=[]) (Qm G V) oa od) (hA.al.I T) oa).S ?_;rintro r4 w4 ⟨hj,hm⟩;refine Qb<|Qr<|QB O O<|Qa<|xe<|⟨(k+1,r4),oe,ov,E,T.D hj,?_⟩;simp only[];rw[Qkx (ou E),MQ];exact Za hm T.size
abbrev Qf7 (b:Nat):LV:=[.map (some b)]
structure Vn (L:LN)(H:xC)(vl ve vs:O3)(ps:List AV)(ms:LN):Prop where
 al:X7 L H vl ps
 ev:Qu L H ve (evs (ps.map (·.a)))
 ml:ms.length=ps.length
 sl:Zu L H vs ms.length 1 (ms.flatMap Qf7)
 mp:∀i (h:i<ms.length) (h':i<ps.length),ZU Yp H ms[i] (KS [] ps[i].a.ed)/\ms[i]∉L
theorem Vn.I {L:LN}{w w':O2}{vl ve vs:O3}{ps:List AV}{G:LN}(h:Vn L ↑w vl ve vs ps G)(E:sW w w'):Vn L ↑w' vl ve vs ps G :=
 ⟨h.al.I E,h.ev.I E,h.ml,h.sl.I E,λi I J=>⟨(h.mp i I J).1.I E,(h.mp i I J).2⟩⟩
theorem Vn.st {L:LN}{w w':O2}{vl ve vs:O3}{ps:List AV}{J:LN}(h:Vn L ↑w vl ve vs ps J)(E:O6 L w w'):Vn L ↑w' vl ve vs ps J :=
 ⟨h.al.st E,h.ev.st E,h.ml,h.sl.st E,λi G I=>⟨(h.mp i G I).1.J E (h.mp i G I).2,(h.mp i G I).2⟩⟩
theorem Vn.up {L L':LN}{H:xC}{vl ve vs:O3}{ps:List AV}{J:LN}(h:Vn L H vl ve vs ps J)(E:∀b∈L',b∈L\/H.size<=b):Vn L' H vl ve vs ps J :=
 ⟨h.al.up E,h.ev.up E,h.ml,h.sl.up E,λi G I=>⟨(h.mp i G I).1,λU=>by rcases E _ U with T|T;exact(h.mp i G I).2 T;have:=(h.mp i G I).1.lt;omega⟩⟩
theorem yP {m:List ((Int×Int)×O3)}{es:List Ed}{k:Nat}(h:k<es.length):KS m (es.take (k+1))=xj (KS m (es.take k)) (es[k].1,es[k].2.1) (sS es[k].2.2):=by
 unfold KS;rw[Ll h,Mn];rfl
theorem Qmw {L:LN}{vl:O3}{ps:List AV}(h:X7 L ↑w vl ps)(hn:ps.length<=12)(hI:∀p∈ps,p.a.al.length<=32)(hL:∀b∈L,b<↑w):
  QU sV 118 [vl] w λr w'=>sW w w'/\∃ve vs E,r=.agg #[vl,ve,vs]/\Vn L ↑w' vl ve vs ps E/\Qh 3 ↑w w' ve (evs (ps.map (·.a))):=by
 refine Zm func118 ?_;refine Qc<|QT [nS,nS,nS] λb2 w1 hz hU h0=>xe ?_;refine Ql<|Qa<|Qw<|(QhB (h.I hz) hn hI).S ?_;rintro ve w2 ⟨he,hf⟩;have hV:=Qbv (ps.map (·.a)) (λa ha=>by obtain⟨p,hp,rfl⟩:=Lx.1 ha;exact hI p hp);have kg:(evs (ps.map (·.a))).length<=1000:=by simp at hV;omega
 have h3:=Qh.ints (L:=[]) hf oa od;refine x (QD ⟨h.arr.cells,h3.cells,Z⟩)<|QT [nS,nS,nS] λb3 w3 hW hX hg =>
  Q5 [vl,ve,nS] hg ⟨h.arr.one,h3.one,O,Z⟩ λG hY hg=>xe ?_
 have hZ:=hz.size;have kh:=he.size;have hh:sW w2 G:=hW.Q hY hX;have ki:=h0.lt;have kj:=hg.lt;have ga:sW w G:=(hz.D he).D hh;have gb:=Qm hf hh;refine Qd<|Ql<|QG h.arr O<|Qa<|xe ?_;have gc:=QV hf;refine QX (α:=Nat×LN×O3) [(5,6),(8,8),(15,42)] (λz=>[(15,sS z.1)])
  (λz w'=>z.1<=ps.length/\z.2.1.length=z.1/\O6 [b3] G w'/\QK ↑w' b3 225 [vl,ve,z.2.2]/\w'.ownsRow ↑G 249 1 z.2.2 z.2.1.length (z.2.1.flatMap Qf7) /\
   (∀i (h:i<z.2.1.length) (h':i<ps.length),ZU Yp ↑w' z.2.1[i] (KS [] ps[i].a.ed)/\↑G<=z.2.1[i]/\z.2.1[i]∉ob z.2.2)) (λz=>ps.length - z.1) (0,[],nS) La
  ⟨Lo _,O,O6.Y _ _,hg,QL _ _ _ _,λi h=>by simp at h⟩ ?_
 rintro⟨k,E,vs⟩ g w5 ⟨hk,ho,I,h4,J,hr⟩;simp only[]at hk ho I h4 J hr;have hs:sW w w5:=ga.Q I oa;have kk:=I.size;have hu:=Qi J;refine Zk rfl O (λge=>?_) (λge=>?_)
 ·have gg:k=ps.length:=oa
  subst gg;refine Qt<|Qc ?_;have gh:=QN (L:=[]) J oa od;refine Q3 h4 O O<|Q5 [vl,ve,vs] (((h0.I he).I hh).J I (by simp;omega)) ⟨h.arr.one,h3.one,gh.one,Z⟩ λw6 hv gi=>xe ?_;have hJ:=hs.Q hv hU;have hK:Qh 3 ↑w1 w6 ve _:=Qg (Qg gb I (λb hb=>by have:=gc b hb;simp;omega)) hv (λb hb=>by have:=(Qi hf b hb).1;simp;omega);have hM:=Qg J hv (λb hb=>by have:=(hu b hb).1;simp;omega);refine Qj ⟨[.agg #[vl,ve,vs]],⟨JN gi,Z⟩,hJ,ve,vs,E,O,⟨h.I hJ,Qh.ints hK oa (λb hb=>oo (hL b hb)),ho,QN hM oa (λb hb h6=>oq (hL b h6) (Qi hM b hb).1),λi h1 h2=>⟨?_,λh6=>oq (hL _ h6) (hr i h1 h2).2.1⟩⟩,Za hK hZ⟩;obtain⟨T,m2,_⟩:=hr i h1 h2;exact T.J hv (λhb=>by
   simp only[oF]at hb;have h7:=(((h0.I he).I hh).J I (by simp;omega));rw[hb]at T;obtain⟨es,c,m4,_⟩:=T;unfold QK at h7;rw[h7]at m4;cases m4)
 have h8:k<ps.length:=oa
 have hA:=h.each ps[k] (Lm h8);refine Qf<|Qd<|Qn<|Qc<|O9 V6 (h.I hs).arr O O h8 λkn gj=>x (QF gj O O)<|QT [nS,sS 0,nS,nS] λb5 w7 gk gl gm =>
  Q5 (ZJ ps[k]) gm ⟨hA.al.one,O,hA.mr.one,hA.ed.one,Z⟩ λw8 gn hN=>xe ?_
 have gq:sW w5 w8:=gk.Q gn gl;have ko:=hN.lt;refine Qc<|Qo<|Z1 Yp λbm w9 hO kq hP=>Qb ?_;have kr:=hP.lt;have hQ:=gq.D hO;have gr:=hs.D hQ;refine Qd<|Qc<|Qs O (hN.I hO) O O<|QG hA.ed O<|Qa<|xe ?_;have gs:=(hA.ed.up (L':=[bm]) (λb hb=>.inr (by simp at hb;have:=hs.size;omega))).I gr;have kt:=hA.ed.le;refine QX (α:=Nat) [(8,8),(23,35)] (λz=>[(23,sS z)]) (λz w'=>z<=ps[k].a.ed.length/\O6 [bm] w9 w'/\ZU Yp ↑w' bm (KS [] (ps[k].a.ed.take z))) (λz=>ps[k].a.ed.length - z) 0 La
  ⟨Lo _,O6.Y _ _,hP⟩ ?_
 rintro j g2 U ⟨hj,hw,h9⟩;have ku:=hw.size;refine Zk rfl O (λgt=>?_) (λgt=>?_)
 ·refine Qt ?_;rw[Lr oa]at h9;have hB:sW w5 U:=hQ.Q hw oa;have hR:QK ↑U b3 225 [vl,ve,vs]:=h4.I hB;refine Qr<|Qs O hR O O<|Qa<|Qo<|Q8 [[.map (some bm)]] λkv gu hy kw gv=>?_;have hC:=hB.D hy;have gx:=Qm J hC;have kx:=hC.size;refine Qo<|Q2 (news:=[.map (some bm)]) (L:=[]) gx O O O (gv.at od) om oa oa λhD gy gz hE hS=>?_;have hF:gy.ownsRow ↑G 249 1 hD (E++[bm]).length ((E++[bm]).flatMap Qf7):=by
   rw[Lc,LF];simpa using gz
  have g0:=(hR.I hy).J hE (QJ J oa);refine Q9 O<|Qo<|Qv g0 O O od (QN (L:=[]) hF (by simp;omega) od).one λg3 hG g4=>xe ?_;refine Qr<|QB O O<|Qa<|xe ?_;have g5:∀b∈ob hD,↑G<=b:=λb hb=>(Qi hF b hb).1;have kz:U.heap.size<=gu.heap.size:=hy.size;refine⟨(k+1,E++[bm],hD),oe,La,h8,by simp[ho],?_,g4,Qg hF hG (λb hb=>by have:=g5 b hb;simp;omega),?_⟩
  ·exact((I.D hC).O hE (λb hb=>.inr (hu b hb).1)).V hG
  intro i h1 h2;simp only[oM,oL]at h1;have keep:∀(c:Nat) (m:List ((Int×Int)×O3)),ZU Yp ↑U c m->c≠b3->c∉ob vs->ZU Yp ↑g3 c m:=λc m hm g6 g7 =>
   ((hm.I hy).J hE g7).J hG (ou g6)
  by_cases hi:i<E.length
  ·obtain⟨T,m2,m3⟩:=hr i hi h2;simp only[List.getElem_append_left hi];refine⟨keep _ _ (T.I hB) oa m3,m2,λhb=>?_⟩;have k0:=T.lt;rcases hS _ hb with V|V
   ·exact m3 V
   omega
  have hi':i=E.length:=oa
  subst hi';simp only[List.getElem_append_right (OE _),Nat.sub_self,List.getElem_singleton];have hq:E.length=k:=ho;have e2:ps[E.length]=ps[k]:=by simp only[hq]
  rw[e2];refine⟨keep _ _ h9 oa (λhb=>oo (hu _ hb).2),oa,λhb=>?_⟩;rcases hS _ hb with V|V
  ·have:=(hu _ V).2;omega
  omega
 have hH:j<ps[k].a.ed.length:=oa
 refine Qf<|Qd<|Qn<|Qc<|xie (gs.st hw) O O hH λk4 g8=>x (QF g8 O O)<|QT [sS 0,sS 0,sS 0] λb8 k5 g9 ka Y=>Q5 (Qp ps[k].a.ed[j]) Y ox λkb kc Y=>xe ?_;have hT:sW U kb:=g9.Q kc ka;refine Qr<|Qa<|Qs O Y O O<|Qs O Y O O<|x (QD ⟨O,O,Z⟩)<|x (Uu O) <|
  ZD Y rfl O<|Qo<|YR (k:=(ps[k].a.ed[j].1,ps[k].a.ed[j].2.1)) (h9.I hT) O O λk6 ke kf=>xe ?_
 refine Qr<|QB O O<|Qa<|xe<|⟨j+1,oa,La,hH,(hw.D hT).V ke,?_⟩;rw[yP hH];exact kf
theorem Qev {L:LN}{vl:O3}{ps:List AV}{ms:LN}(h:Vn L ↑w vl ve vs ps ms)(hn:ps.length<=12):
  QU sV 119 [.agg #[vl,ve,vs]] w λr w'=>sW w w' /\
   if ∃p∈ps,p.a.st=0 then r=.tuple #[nS,.bool false]else ∃v,r=.tuple #[v,.bool true]/\Qh 3 ↑w w' v (oG ps.length 0):=by
 refine Zm func119 ?_;refine Qc<|Zf [vl,ve,vs] λb1 w1 G hq U=>x Qe<|Qb<|Qd<|Qc<|Qs O U O O<|QG h.al.arr O<|Qa<|xe<|QX (α:=Nat) [(2,3),(5,5),(9,16)] (λz=>[(9,sS z)]) (λz w'=>z<=ps.length/\sW w1 w'/\∀i (h:i<ps.length),i<z->ps[i].a.st≠0) (λz=>ps.length - z) 0 La
  ⟨Lo _,O6.Y _ _,λi _ h=>oa⟩ ?_
 rintro k g w2 ⟨hk,E,V⟩;refine Zk rfl O (λhe=>?_) (λhe=>?_)
 ·refine Qt<|Qc<|Qs O (U.I E) O O<|QG h.al.arr O<|Qo<|Y2 (n:=ps.length) O O oa λhf w3 hg hr Y=>x Qe<|Qb ?_;rw[show(oG ps.length (sS 0).cells.toList).flatten=((oG ps.length 0).map (Value.int .i64)) by rw[show(sS 0).cells.toList=[sS 0] from rfl,Qcp,List.map_replicate]]at Y;have hz:=(G.D E).size;refine Qj ⟨[sL hf ps.length ps.length,.bool true],ov,(G.D E).D hg,?_⟩;rw[OU (by
   rintro⟨p,hp,h0⟩;obtain⟨i,hi,rfl⟩:=LR hp;exact V i hi oa h0)]
  refine⟨_,O,?_⟩;have:=Y.own (n:=ps.length) (sz:=1) (base:=↑w) od oa oa;unfold Qh;rw[List.length_replicate];exact this
 have I:k<ps.length:=oa
 have hA:=h.al.each ps[k] (Lm I);refine Qf<|Qd<|Qn<|Qc<|O9 V6 ((h.al.I G).I E).arr O O I λhs hh=>x (QF hh O O)<|QT [nS,sS 0,nS,nS] λb5 w4 hj hm J =>
  Q5 (ZJ ps[k]) J ⟨hA.al.one,O,hA.mr.one,hA.ed.one,Z⟩ λw5 ho J=>xe ?_
 have ha:sW w2 w5:=hj.Q ho hm;refine Qc<|Qs O J O O<|x (Zc O O)<|xe<|Zg rfl (λT=>?_) (λT=>?_)
 ·refine Qc<|x Qe<|Qb<|Qj ⟨[nS,.bool false],ov,(G.D E).D ha,?_⟩;rw[OV ⟨ps[k],Lm I,T⟩];rfl
 refine Qf<|Qr<|QB O O<|Qa<|xe<|⟨k+1,oa,La,I,E.D ha,λi hi hu=>?_⟩;by_cases e:i=k
 ·subst e;exact T
 exact V i hi oa
theorem Qem {aa:List Qz}{ts:LI}{k:Nat}(h:k<aa.length)(E:k<ts.length):JH (aa.drop k) (ts.drop k)=(decide (ts[k]∈aa[k].mr) && JH (aa.drop (k+1)) (ts.drop (k+1))):=by
 rw[Me h,Me E,JH]
theorem Qhm {L:LN}{vl:O3}{ps:List AV}{ms:LN}{ts:LI}(h:Vn L ↑w vl ve vs ps ms)(ht:Qu L ↑w vt ts)(hl:ts.length=ps.length)(hi:∀p∈ps,Ys p.a.mr)(hn:ps.length<=12):
  QU sV 121 [.agg #[vl,ve,vs],vt] w λr w'=>r=.bool (JH (ps.map (·.a)) ts)/\sW w w':=by
 refine Zm func121 ?_;refine Qc<|Zf [vl,ve,vs] λb2 w1 he hr hf=>Qb<|Qd<|Qc<|Qs O hf O O<|QG h.al.arr O<|Qa<|xe<|QX (α:=Nat) [(4,6),(10,23)] (λz=>[(10,sS z)]) (λz w'=>z<=ps.length/\sW w w'/\JH (ps.map (·.a)) ts=JH ((ps.map (·.a)).drop z) (ts.drop z)) (λz=>ps.length - z) 0 La
  ⟨Lo _,he,O⟩ ?_
 rintro k g w2 ⟨hk,I,G⟩;refine Zk rfl O (λhg=>?_) (λhg=>?_)
 ·refine Qt<|Qc<|Qb<|Qj ⟨[.bool true],La,?_,I⟩;rw[G,Lu (by simp;omega)];rfl
 have E:k<ps.length:=oa
 have V:k<ts.length:=oa
 have hA:=h.al.each ps[k] (Lm E);rw[Qem (ou E) V,MQ]at G;refine Qf<|Qd<|Qn<|Ql<|O9 V6 (h.al.I I).arr O O E λhs hh=>x (QF hh O O)<|QT [nS,sS 0,nS,nS] λb6 w3 hj hm J=>x Qe <|
  Q5 (ZJ ps[k]) J ⟨hA.al.one,O,hA.mr.one,hA.ed.one,Z⟩ λY ho J=>xe ?_
 have hp:sW w2 Y:=hj.Q ho hm;have T:=I.D hp;refine Qd<|ZK [] (Xj 0 8 [6])<|p (QH O)<|pq (λ_ hc=>Qk (J.I hc) O O)<|p Qy<|p Qy<|pii O (ht.I T) O O V λhu hq =>
  pq (λ_ hc=>Qq (hq.I hc) O)<|pk<|xg<|(Kc ((hA.mr.I T).I (O6.X _ _)) (hi ps[k] (Lm E)) _).S ?_
 rintro r5 w5 ⟨rfl,rfl⟩;refine⟨O6.X _ _,?_⟩;refine p (λ_=>Zj O)<|pe ?_;have ha:=T.D (O6.X [] Y);refine Q6 rfl (λU=>?_) (λU=>?_)
 ·refine Qc<|Qb<|Qj ⟨[.bool false],La,?_,ha⟩;rw[G,show decide (ts[k]∈ps[k].a.mr)=false by simpa using U];rfl
 refine Qf<|Qr<|QB O O<|Qa<|xe<|⟨k+1,oa,La,E,ha,?_⟩;rw[G,show decide (ts[k]∈ps[k].a.mr)=true by simpa using U,OK]
theorem Qd1 {aa:List Qz}{ts:LI}{k:Nat}{v:Int}(h:k<aa.length)(E:k<ts.length):QZ v (aa.drop k) (ts.drop k) =
  if v∉aa[k].al then(QZ v (aa.drop (k+1)) (ts.drop (k+1))).map (ts[k]::·) else match xo aa[k].ed ts[k] v with|none=>none|some u=>(QZ v (aa.drop (k+1)) (ts.drop (k+1))).map (u::·):=by
 rw[Me h,Me E];show(if v∉aa[k].al then _ else _)=_
 split
 ·rfl
 cases xo aa[k].ed ts[k] v <;> rfl
theorem Qi2 {L:LN}{vl:O3}{ps:List AV}{Y:LN}{ts:LI}(h:Vn L ↑w vl ve vs ps Y)(ht:Qu L ↑w vt ts)(hl:ts.length=ps.length)(hi:∀p∈ps,Ys p.a.al)
  (hz:∀p∈ps,p.a.ed.Pairwise λx y=>x.1<y.1\/(x.1=y.1/\x.2.1<y.2.1)) (hn:ps.length<=12) (v:Int):
  QU sV 122 [.agg #[vl,ve,vs],vt,sS v] w λr w'=>sW w w' /\
   match QZ v (ps.map (·.a)) ts with|none=>r=.tuple #[nS,.bool false]|some u=>∃v',r=.tuple #[v',.bool true]/\Qh 3 ↑w w' v' u:=by
 refine Zm func122 ?_;refine Qc<|Zf [vl,ve,vs] λb3 w1 ha hL hf=>x Qe<|Qb<|Ql<|Qw<|(Z0 (ht.I ha)).S ?_;rintro vx w2 ⟨hg,hr⟩;refine Qb ?_;have h0:=ha.size;have hM:=hf.lt;have hh:=ha.D hg;refine Qd<|Qc<|Qs O (hf.I hg) O O<|QG h.al.arr O<|Qa<|xe ?_;have hge:=Qi hr;have h1:Vn (ob vx) ↑w2 vl ve vs ps Y:=((h.up (L':=ob vx) (λb hb=>.inr (oo (hge b hb).1))).I hh);have h2:Qu (ob vx) ↑w2 vt ts:=((ht.up (L':=ob vx) (λb hb=>.inr (oo (hge b hb).1))).I hh);refine QX (α:=Nat×LI) [(6,7),(9,12),(18,49)] (λz=>[(18,sS z.1)])
  (λz w'=>z.1<=ps.length/\z.2.length=z.1/\O6 (ob vx) w2 w'/\Qh 3 ↑w1 w' vx (z.2++ts.drop z.1)/\QZ v (ps.map (·.a)) ts=(QZ v ((ps.map (·.a)).drop z.1) (ts.drop z.1)).map (z.2++·)) (λz=>ps.length - z.1) (0,[]) La
  ⟨Lo _,O,O6.Y _ _,hr,od⟩ ?_
 rintro⟨k,pre⟩ g w3 ⟨hk,U,J,T,E⟩;simp only[]at hk U T E;have hj:sW w w3:=hh.O J (λb hb=>.inr (oo (hge b hb).1));refine Zk rfl O (λh3=>?_) (λh3=>?_)
 ·refine Qt<|Ql<|x Qe<|Qb<|Qj ⟨[vx,.bool true],ov,hj,?_⟩;rw[Lu (by simp;omega),Lu oa]at E;rw[Lu oa]at T;rw[E];simp only[QZ,OD];exact⟨vx,O,Za T h0⟩
 have G:k<ps.length:=oa
 have hm:k<ts.length:=oa
 have hs:k<Y.length:=by rw[h.ml];exact G
 have hA:=h.al.each ps[k] (Lm G);rw[Qd1 (ou G) hm,MQ]at E;have hu:=h1.st J;have h4:=h2.st J;refine Qf<|Qd<|Qn<|Ql<|O9 V6 hu.al.arr O O G λhN h5=>x (QF h5 O O)<|QT [nS,sS 0,nS,nS] λb10 w4 h6 h7 ho=>x Qe <|
  Q5 (ZJ ps[k]) ho ⟨hA.al.one,O,hA.mr.one,hA.ed.one,Z⟩ λw5 h8 ho=>xe ?_
 have I:sW w3 w5:=h6.Q h8 h7;have h9:=hj.D I;refine Qd<|Qc<|Qs O ho O O<|Qa<|Qw<|(Kc (hA.al.I h9) (hi ps[k] (Lm G)) v).S ?_;rintro r6 w6 ⟨rfl,rfl⟩;refine x (Zj O)<|xe ?_;have hv:=QY hm;refine Q6 rfl (λhp=>?_) (λhp=>?_)
 ·have hB:v∉ps[k].a.al:=by simpa using hp
  refine Qt<|Qr<|QB O O<|Qa<|xe<|⟨(k+1,pre++[ts[k]]),oe,La,G,by simp[U],J.D I,?_,?_⟩
  ·simp only[Of,Ov];rw[<-hv];exact Qm T I
  simp only[];rw[E,OV hB,Option.map_map];congr 1;funext l;simp
 have hC:¬(v∉ps[k].a.al):=by simpa using hp
 rw[OU hC]at E;refine Qf ?_;have hD:=(hf.I hg).J J (λhb=>oo (hge b3 hb).1);have hw:=hu.I I;obtain⟨hE,hO⟩:=hw.mp k hs G;refine Qd<|ZK [] (Xj 0 17 [])<|p (QH O)<|pq (λ_ hc=>Qk ((hD.I I).I hc) O O)<|p Qy<|pig O (g:=Qf7) (λ_=>O) hw.sl O O hs λhP hF =>
  pq (λ_ hc=>Qq (hF.I hc) O)<|p Qy<|p Qy<|pii O (h4.I I) O O hm λhQ hG=>pq (λ_ hc=>Qq (hG.I hc) O) <|
  p Qy<|p (λ_=>QD ⟨O,O,Z⟩)<|pq (λ_ hc=>K6 (k:=(ts[k],v)) (hE.I hc) O O)<|?_
 rw[qB ps[k].a.ed [] ts[k] v (hz ps[k] (Lm G))];have hq:sW w3 { w6 with drawn:=w6.drawn+1 }:=I.D (O6.X [] w6)
 cases he:xo ps[k].a.ed ts[k] v with
 | none =>
  rw[he]at E;refine p Qy<|p (λ_=>Q0 O O)<|p (λ_=>Q0 O O)<|p ZI<|p ZI<|pe ?_;refine Qd<|Ql<|x (Zj O)<|xe<|jd O ?_;refine Qc<|x Qe<|Qb<|Qj ⟨[nS,.bool false],ov,hj.D hq,?_⟩;rw[E];rfl
 | some u =>
  rw[he]at E;refine p Qy<|p (λ_=>Q0 O O)<|p (λ_=>Q0 O O)<|p ZI<|p ZI<|pe ?_;refine Qd<|Ql<|x (Zj O)<|xe<|Zw O<|Qf ?_;have hy:=Qm T hq;have hR:(pre++ts.drop k).length=ts.length:=by simp;omega
  obtain⟨gx,cx,V⟩:=qn T oa;have hH:ob vx=[gx]:=by rw[V];rfl
  refine Qr<|Qa<|Qa<|Qa<|x (QE V O oa)<|Qo<|QcF (u:=sS u) (by rw[V]at hy;exact hy) O O oa O λw7 hI hJ=>xe ?_;refine Qr<|QB O O<|Qa<|xe ?_;have hK:(pre++ts.drop k).set k u=(pre++[u])++ts.drop (k+1):=by
   rw[hv,List.set_append_right _ _ oa,U,Nat.sub_self,List.set_cons_zero,LA];rfl
  refine⟨(k+1,pre++[u]),oe,La,G,by simp[U],(J.D hq).O hI (λb hb=>.inl (by rw[hH];exact hb)),?_,?_⟩
  ·simp only[];rw[<-hK];unfold Qh;rw[M0,NC,V];exact hJ
  simp only[];rw[E,Option.map_map];congr 1;funext l;simp
theorem Xw (h:n<256):(UInt8.ofNat n).toNat=n:=by
 simp[Nat.mod_eq_of_lt h]
theorem Qde (u:Nat):(32:UInt8)∉Lib.decDigits u:=by
 induction u using Nat.strongRecOn with
 | _ u ih =>
  unfold Lib.decDigits;split
  ·intro h;simp only[oF]at h;have:=OW UInt8.toNat h;rw[Xw oa]at this;have E:(32:UInt8).toNat=32:=rfl;omega
  intro h;rcases Le.1 h with h|h
  ·exact ih _ oa h
  simp only[oF]at h;have:=OW UInt8.toNat h;rw[Xw oa]at this;have E:(32:UInt8).toNat=32:=rfl;omega
def dval (l:List UInt8):Nat:=l.foldl (λa b=>a*10+(b.toNat - 48)) 0
theorem Qdc (u:Nat):dval (Lib.decDigits u)=u:=by
 induction u using Nat.strongRecOn with
 | _ u ih =>
  unfold Lib.decDigits;split
  ·simp only[dval,List.foldl_cons,List.foldl_nil];rw[Xw oa];omega
  have:=ih (u / 10) oa;unfold dval at *;rw[Mn,this];simp only[List.foldl_cons,List.foldl_nil];rw[Xw oa];omega
theorem QfC:∀{a b r r':List UInt8},(32:UInt8)∉a->(32:UInt8)∉b->a++32::r=b++32::r'->a=b/\r=r'
 | [],[],_,_,_,_,h=>ou h
 | [],y::b,_,_,_,hb,h=>by simp at h;exact OX h.1 (by intro e;exact hb (by simp[e]))
 | x::a,[],_,_,E,_,h=>by simp at h;exact OX h.1 (by intro e;exact E (by simp[e]))
 | x::a,y::b,_,_,E,hb,h=>by
  simp only[oZ,List.cons.injEq]at h;have:=QfC (λe=>E (Lj _ e)) (λe=>hb (Lj _ e)) h.2;exact⟨by rw[h.1,this.1],this.2⟩
theorem UE:∀{l l':LI},(∀n∈l,0<=n)->(∀n∈l',0<=n)->YV l=YV l'->l=l'
 | [],[],_,_,_=>rfl
 | [],y::b,_,_,h=>by simp[YV]at h
 | x::a,[],_,_,h=>by simp[YV]at h
 | x::a,y::b,G,hb,h=>by
  have I:Lib.decDigits x.toNat++32::YV a=Lib.decDigits y.toNat++32::YV b:=by simpa[YV]using h
  obtain⟨J,T⟩:=QfC (Qde _) (Qde _) I;have U:x.toNat=y.toNat:=by rw[<-Qdc x.toNat,<-Qdc y.toNat,J]
  have V:=G x Lh;have Y:=hb y Lh;rw[(UE (λn E=>G n (Lj _ E)) (λn E=>hb n (Lj _ E)) T),show x=y by omega]
def KU (l:LI):ByteArray:=⟨(YV l).toArray⟩
theorem QjU {l l':LI}(E:∀n∈l,0<=n)(G:∀n∈l',0<=n)(h:KU l=KU l'):l=l':=by
 refine UE E G ?_;have:=OW (λb:ByteArray=>b.data.toList) h;simpa[KU]using this
def qI (n:Nat)(m:List (ByteArray×O3))(tup:List (LI)):Prop :=
 ∀u:LI,u.length=n->(∀x∈u,0<=x)->xh m (KU u)=if u∈tup then some (sS (tup.idxOf u:Int)) else none
theorem qI.add {m:List (ByteArray×O3)}{tup:List (LI)}(h:qI n m tup){u:LI}(I:u∉tup)(J:∀x∈u,0<=x):qI n (xj m (KU u) (sS (tup.length:Int))) (tup++[u]):=by
 intro v T G;rw[Jt];by_cases e:u=v
 ·subst e;rw[OV rfl,OV od,Ma,OU I];simp
 rw[OU (λU=>e (QjU J G U)),h v T G];by_cases E:v∈tup
 ·rw[OV E,OV (by simp[E]),Ma,OV E]
 rw[OU E,OU (by simp[E,Ne.symm e])]
structure zl (N b2 b38 b37:Nat)(ve:O3)(wS:O2)(s:Sy)(m:List (ByteArray×O3))(qs:List TV)(vt vk vd:O3)(w:O2):Prop where
 st:O6 [b2,b38,b37] wS w
 A:QK ↑w b2 53 [ve,sS 0,vk,vd]
 M:ZU XB ↑w b38 m
 t:zk 47 N w vt qs
 tb:∀b∈ob vt,b=b37\/↑wS<=b
 k:Qh 3 ↑wS w vk s.mk'
 e:Yd 179 ↑wS w vd s.ed
 q:qs.map (·.2)=s.tup
 el:∀p∈qs,Qh 3 N w p.1 p.2
 sep:∀p∈qs,∀b∈ob p.1,b≠b38/\b∉ob vt/\b∉ob vk/\b∉ob vd
 d1:Dj vt vk
 d2:Dj vt vd
 d3:Dj vk vd
section
variable {b2 b38 b37:Nat}{wS:O2}{s:Sy}{m:List (ByteArray×O3)}{qs:List TV}{vd:O3}{w'':O2}
theorem zl.I (h:zl N b2 b38 b37 ve wS s m qs vt vk vd w)(E:sW w w'):zl N b2 b38 b37 ve wS s m qs vt vk vd w' :=
 ⟨h.st.D E,h.A.I E,h.M.I E,Qm h.t E,h.tb,Qm h.k E,Qm h.e E,h.q,λp G=>Qm (h.el p G) E,h.sep,h.d1,h.d2,h.d3⟩
structure SyN (N b2 b38 b37:Nat)(wS:O2):Prop where
 l2:b2<N
 l38:b38<wS.heap.size
 l37:b37<wS.heap.size
 n37:N<=b37
 n38:b37<b38
 nS:N<=↑wS
theorem zl.setK (h:zl N b2 b38 b37 ve wS s m qs vt vk vd w)(n:SyN N b2 b38 b37 wS){J:O3}{l:LI}(I:O6 (ob vk) w w')(U:Qh 3 ↑wS w' J l)
  (T:∀b∈ob J,b∈ob vk\/↑w<=b) (G:O6 [b2] w' w'') (Y:QK ↑w'' b2 53 [ve,sS 0,J,vd]):zl N b2 b38 b37 ve wS ⟨s.tup,l,s.ed⟩ m qs vt J vd w'':=by
 have l2:=n.l2;have l38:=n.l38;have n37:=n.n37;have n38:=n.n38;have nS:=n.nS;refine⟨(h.st.O I (λb hb=>.inr ((Qi h.k) b hb).1)).O G (λb hb=>.inl (by simp at hb;simp[hb])),Y,(h.M.J I (QJ h.k oa)).J G (by simp;omega),
  Qg (Qg h.t I h.d1) G (λb hb=>by have:=(Qi h.t b hb).1;simp;omega),h.tb,Qg U G (λb hb=>by have:=(Qi U b hb).1;simp;omega),
  Qg (Qg h.e I h.d3.symm) G (λb hb=>by have:=(Qi h.e b hb).1;simp;omega),h.q,
  λp E=>Qg (Qg (h.el p E) I (λb hb=>(h.sep p E b hb).2.2.1)) G (λb hb=>by have:=(Qi (h.el p E) b hb).1;simp;omega),
  λp E b hb=>⟨(h.sep p E b hb).1,(h.sep p E b hb).2.1,λha=>?_,(h.sep p E b hb).2.2.2⟩,h.d1.grow T (QV h.t),h.d2,(h.d3.symm.grow T (QV h.e)).symm⟩
 rcases T b ha with V|V
 ·exact(h.sep p E b hb).2.2.1 V
 have:=QV (h.el p E) b hb;omega
theorem zl.setE (h:zl N b2 b38 b37 ve wS s m qs vt vk vd w)(n:SyN N b2 b38 b37 wS){J:O3}{l:List Ed}(I:O6 (ob vd) w w')(U:Yd 179 ↑wS w' J l)
  (T:∀b∈ob J,b∈ob vd\/↑w<=b) (G:O6 [b2] w' w'') (Y:QK ↑w'' b2 53 [ve,sS 0,vk,J]):zl N b2 b38 b37 ve wS ⟨s.tup,s.mk',l⟩ m qs vt vk J w'':=by
 have l2:=n.l2;have l38:=n.l38;have n37:=n.n37;have n38:=n.n38;have nS:=n.nS;refine⟨(h.st.O I (λb hb=>.inr ((Qi h.e) b hb).1)).O G (λb hb=>.inl (by simp at hb;simp[hb])),Y,(h.M.J I (QJ h.e oa)).J G (by simp;omega),
  Qg (Qg h.t I h.d2) G (λb hb=>by have:=(Qi h.t b hb).1;simp;omega),h.tb,Qg (Qg h.k I h.d3) G (λb hb=>by have:=(Qi h.k b hb).1;simp;omega),
  Qg U G (λb hb=>by have:=(Qi U b hb).1;simp;omega),h.q,
  λp E=>Qg (Qg (h.el p E) I (λb hb=>(h.sep p E b hb).2.2.2)) G (λb hb=>by have:=(Qi (h.el p E) b hb).1;simp;omega),
  λp E b hb=>⟨(h.sep p E b hb).1,(h.sep p E b hb).2.1,(h.sep p E b hb).2.2.1,λha=>?_⟩,h.d1,h.d2.grow T (QV h.t),h.d3.grow T (QV h.k)⟩
 rcases T b ha with V|V
 ·exact(h.sep p E b hb).2.2.2 V
 have:=QV (h.el p E) b hb;omega
theorem zl.setM (h:zl N b2 b38 b37 ve wS s m qs vt vk vd w)(n:SyN N b2 b38 b37 wS){G:List (ByteArray×O3)}(E:O6 [b38] w w')(J:ZU XB ↑w' b38 G):zl N b2 b38 b37 ve wS s G qs vt vk vd w':=by
 have l2:=n.l2;have l38:=n.l38;have n37:=n.n37;have n38:=n.n38;have nS:=n.nS;exact⟨h.st.O E (λb hb=>.inl (by simp at hb;simp[hb])),h.A.J E (by simp;omega),J,Qg h.t E (λb hb=>by have:=h.tb b hb;simp;omega),h.tb,
  Qg h.k E (λb hb=>by have:=(Qi h.k b hb).1;simp;omega),Qg h.e E (λb hb=>by have:=(Qi h.e b hb).1;simp;omega),h.q,
  λp I=>Qg (h.el p I) E (λb hb=>by have:=(h.sep p I b hb).1;simpa using this),h.sep,h.d1,h.d2,h.d3⟩
theorem zl.setT (h:zl N b2 b38 b37 ve wS s m qs vt vk vd w)(n:SyN N b2 b38 b37 wS){J:O3}{u:LI}(hx:Qh 3 ↑wS w vx u)(U:∀b∈ob vx,b∉ob vt/\b∉ob vk/\b∉ob vd)(G:O6 (ob vt) w w')
  (Y:zk 47 N w' J (qs++[(vx,u)])) (T:∀b∈ob J,b∈ob vt\/↑w<=b):zl N b2 b38 b37 ve wS ⟨s.tup++[u],s.mk',s.ed⟩ m (qs++[(vx,u)]) J vk vd w':=by
 have l2:=n.l2;have l38:=n.l38;have n37:=n.n37;have n38:=n.n38;have nS:=n.nS;have he:=h.st.size;have nott:∀c,c<↑w->c∉ob vt->c∉ob J:=λc hc hv ha=>by
  rcases T c ha with I|I
  ·exact hv I
  omega
 refine⟨h.st.O G (λb hb=>by have:=h.tb b hb;simp;omega),h.A.J G (λhb=>oo (h.tb b2 hb)),h.M.J G (λhb=>oo (h.tb b38 hb)),Y,
  λb hb=>?_,Qg h.k G h.d1.symm,Qg h.e G h.d2.symm,by rw[Ly,h.q];rfl,λp E=>?_,λp E b hb=>?_,(h.d1.symm.grow T (QV h.k)).symm,(h.d2.symm.grow T (QV h.e)).symm,h.d3⟩
 ·rcases T b hb with I|I
  ·exact h.tb b I
  exact .inr oa
 ·rcases Le.1 E with E|E
  ·exact Qg (h.el p E) G (λb hb=>(h.sep p E b hb).2.1)
  simp only[oF]at E;subst E;exact Za (Qg hx G (λb hb=>(U b hb).1)) nS
 rcases Le.1 E with E|E
 ·have:=h.sep p E b hb;exact⟨this.1,nott b (QV (h.el p E) b hb) this.2.1,this.2.2⟩
 simp only[oF]at E;subst E;have I:=(Qi hx b hb);have V:=U b hb;exact⟨oa,nott b I.2 V.1,V.2⟩
end
theorem QsG (o:Option α):o=none\/∃t,o=some t:=by cases o;exact .inl O;exact .inr ⟨_,O⟩
def zA:O3:=.agg #[nS,sS 0,nS,nS]
def Zq:O3:=nS
def Yy (N:Nat)(H:xC)(aa:List Qz)(va vt:O3)(c:Int):Prop :=
 if KT aa≠0 then c=KT aa/\va=zA/\vt=Zq else match xp aa with
  | none=>c=3/\va=zA/\vt=Zq
  | some z=>c=0/\Xb N H va z.1/\QdB N H vt z.2
def YZ (s:Sy)(u:LI):Sy:=if u∈s.tup then s else⟨s.tup++[u],s.mk',s.ed⟩
theorem QiA (s:Sy)(u:LI):(YZ s u).mk'=s.mk':=by unfold YZ;split <;> rfl
theorem QiB (s:Sy)(u:LI):(YZ s u).ed=s.ed:=by unfold YZ;split <;> rfl
theorem Ql3 {aa:List Qz}{t u:LI}{s:Sy}{v:Int}(h:QZ v aa t=some u)(hl:u∈s.tup\/s.tup.length≠4096):
  syE aa i t s v=some ⟨(YZ s u).tup,(YZ s u).mk',(YZ s u).ed++[((i:Int),v,((YZ s u).tup.idxOf u:Int))]⟩:=by
 unfold syE YZ;rw[h];simp only[];by_cases E:u∈s.tup
 ·simp only[OV E]
 simp only[OU E];rw[OU (by rcases hl with G|G;exact OX G E;exact G),Ma,OU E];simp
theorem Qiz {aa:List Qz}{t u:LI}{s:Sy}{v:Int}(h:QZ v aa t=some u)(E:u∉s.tup)(hl:s.tup.length=4096):syE aa i t s v=none:=by
 unfold syE;rw[h];simp only[];rw[OU E,OV hl]
theorem Qix {aa:List Qz}{t:LI}{s:Sy}{v:Int}(h:QZ v aa t=none):syE aa i t s v=some s:=by
 unfold syE;rw[h]
theorem Qn8 {s:Sy}{qs:List TV}(E:qs.map (·.2)=s.tup)(h:i<qs.length):Jq s i=qs[i].2:=by
 unfold Jq;rw[<-E];simp[oN,h]
theorem Vt.bd {aa:List Qz}{t:LI}(h:Vt aa t){m:Int}(E:∀a∈aa,a.st<=m):∀x∈t,0<=x/\x<m:=by
 intro x hx;obtain⟨i,hi,rfl⟩:=LR hx;have hi':i<aa.length:=by rw[<-h.1];exact hi
 have:=h.2 i hi hi';have:=E aa[i] (Lm hi');omega
theorem U1 {L:LN}{vl:O3}{ps:List AV}{km:Int}(h:X7 L ↑w vl ps)(gm:Kb w km)(kg:0<km)(m8:∀p∈ps,p.a.st<=km):
  QU sV 49 [vl] w λr w'=>sW w w'/\∃va vt c,r=.tuple #[va,vt,sS c]/\Yy ↑w ↑w' (ps.map (·.a)) va vt c:=by
 refine Zm func49 ?_;generalize V:ps.map (·.a)=aa;refine Qc<|QT [nS,sS 0,nS,nS] λJ w1 hR hC gn=>x Qe<|Qb ?_;have hl2:=gn.lt;refine Qd<|Ql<|Qw<|(Qhf (h.I hR)).S ?_;rintro r2 w2 ⟨rfl,hv⟩;refine Qb ?_;rw[V];refine Ql<|ZN O O<|xe<|Zg rfl (λh6=>?_) (λh6=>?_)
 ·refine Qc<|x (QD Z)<|Qa<|Q5 [nS,sS 0,nS,nS] (gn.I hv) oy λw3 m9 pc=>x Qe<|Qb<|Qj ⟨[zA,Zq,sS (KT aa)],⟨JN pc,O,O,Z⟩,(hR.D hv).Q m9 hC,zA,Zq,KT aa,O,?_⟩;unfold Yy;rw[OV h6];exact⟨O,O,O⟩
 have hck:KT aa=0:=Lt.1 h6;have hn:ps.length<=12:=by
  unfold KT at hck;split at hck
  ·cases hck
  rename_i h1;rw[<-V]at h1;simp at h1;exact h1
 have hD:∀a∈aa,QS a:=by
  unfold KT at hck;split at hck
  ·cases hck
  exact(UW aa).1 hck
 have hok:∀p∈ps,QS p.a:=λp E=>hD p.a (by rw[<-V];exact LL E);have pd:∀p∈ps,p.a.al.length<=32:=λp E=>(hok p E).al_le;have pf:∀a∈aa,a.st<=km:=λa ha=>by rw[<-V]at ha;obtain⟨p,E,rfl⟩:=Lx.1 ha;exact m8 p E
 have hE:aa.length=ps.length:=by rw[<-V];simp
 refine Qf<|Ql<|Qw<|(Qmw (L:=[J]) (((h.up (λb hb=>.inr (by simp at hb;omega))).I hR).I hv) hn pd (λb hb=>by simp at hb;have:=hv.size;omega)).S ?_;rintro r4 w4 ⟨gq,ve,vs,ms,rfl,kh,hq⟩;rw[V]at hq;have hel:=Qbv aa (λa ha=>(hD a ha).al_le);have hevl:(evs aa).length<=1000:=oa
 have hS:=Qh.ints (L:=[]) hq oa od;refine QT [nS,nS,nS] λb6 w5 pg ph hF=>Q5 [vl,ve,vs] hF ⟨h.arr.one,hS.one,kh.sl.one,Z⟩ λw6 pn hF=>xe ?_;have hU:sW w4 w6:=pg.Q pn ph;have hz2:=hv.size;have hz4:=gq.size;have hl6:=hF.lt;refine Qc<|Qs O hF O O<|Q9 O<|Qo<|Qv (((gn.I hv).I gq).I hU) O O od hS.one λw7 hG po=>xe ?_;have hz7:=hG.size;have gr:sW w w7:=((((hR.D hv).D gq).D hU).Q hG hC);have ki:Vn [J] ↑w7 vl ve vs ps ms:=(kh.I hU).st hG;have kj:Qh 3 ↑w2 w7 ve (evs aa):=Qg (Qm hq hU) hG (λb hb=>by have:=(Qi hq b hb).1;simp;omega);have kk:=hF.J hG (by simp;omega);refine Qc<|Q3 kk O O<|Qw<|(Qev ki hn).S ?_;rintro r8 w8 ⟨hm,hV⟩;have hz8:=hm.size;have gs:=po.I hm;have hW:(∃p∈ps,p.a.st=0)↔(∃a∈aa,a.st=0):=by
  rw[<-V];constructor
  ·rintro⟨p,E,h0⟩;exact⟨p.a,LL E,h0⟩
  rintro⟨a,ha,h0⟩;obtain⟨p,E,rfl⟩:=Lx.1 ha;exact⟨p,E,h0⟩
 by_cases hz:∃p∈ps,p.a.st=0
 ·rw[OV hz]at hV;subst hV;refine Qa<|QO O O<|QO O O<|x Qe<|Qb<|Qd<|Ql<|x (Zj O)<|xe<|jd O ?_;refine Qc<|Q3 gs O O<|Q5 [ve,sS 0,nS,nS] gs ⟨hS.one,O,O,O,Z⟩ λw9 kn pp=>x Qe<|Qb<|Qj ⟨[.agg #[ve,sS 0,nS,nS],Zq,sS 0],⟨JN pp,O,O,Z⟩,(gr.D hm).Q kn hC,_,Zq,0,O,?_⟩;unfold Yy;rw[OU h6];unfold xp;rw[OV (hW.1 hz)];refine⟨O,⟨ve,_,_,O,λL' ho=>⟨Qh.ints (Qg (Qm kj hm) kn (λb hb=>by have:=(Qi hq b hb).1;simp;omega)) (by show(evs aa).length<=_;omega) (λb hb=>oo (ho b hb)),Zu.nil _ _ _,Zu.nil _ _ _⟩⟩,[],O,λL' ho=>⟨Zu.nil _ _ _,λp E=>by cases E⟩⟩
 rw[OU hz]at hV;obtain⟨vf,rfl,gt⟩:=hV;have ko:=Qh.ints (L:=[]) gt (by simp;omega) od;refine Qa<|QO O O<|QO O O<|x Qe<|Qb<|Qd<|Ql<|x (Zj O)<|xe<|Zw rfl<|Qf<|Ql<|Qo<|Yo (us:=[[vf]]) O O og od ⟨ko.cells,rfl,Z⟩ λY w10 gu hb37 kq=>Qb ?_;have hl37:=kq.lt;refine Qc<|Qo<|Z1 XB λhh w11 hX hb38 kr=>?_;have hl38:=kr.lt;refine Qa<|Qw<|(Qbe ((ko.I gu).I hX) (gm.I ((gr.D hm).D (gu.D hX))) (λn hn=>oo (ND hn)) (by simp;omega)).S ?_;rintro r12 pt ⟨rfl,hY⟩;have hz12:=hY.size;refine Qo<|Yu (k:=KU (oG ps.length 0)) (kr.I hY) O O λwS gv pu=>Qa<|Qb ?_;have hzS:=gv.size;have pw:sW w8 pt:=(gu.D hX).D hY;have h7:sW w8 wS:=pw.Q gv oa;have hZ:sW w wS:=(gr.D hm).D h7;have pz:∀b∈[J,hh,Y],b∈[J]\/↑w8<=b:=λb hb=>by
  simp only[oK,oH,or_false]at hb;rcases hb with rfl|rfl|rfl
  ·exact .inl od
  ·exact .inr oa
  exact .inr oa
 have gx:Vn [J,hh,Y] ↑wS vl ve vs ps ms:=((ki.I hm).up pz).I h7;have gy:QK ↑wS b6 225 [vl,ve,vs]:=(kk.I hm).I h7;have p0:Qh 3 ↑w2 wS ve (evs aa):=Qm (Qm kj hm) h7;have hH:SyN ↑w1 J hh Y wS:=⟨oa,oa,oa,oa,oa,oa⟩;have p4:zl ↑w1 J hh Y ve wS (zT aa) (xj [] (KU (oG ps.length 0)) (sS 0)) [(vf,oG ps.length 0)] (sL Y 1 1) Zq Zq wS:=by
  refine⟨O6.Y _ _,gs.I h7,pu,?_,λb hb=>by simp[ob]at hb;exact .inl hb,QL _ _ _ _,QL _ _ _ _,by simp[zT,hE],λp E=>?_,λp E b hb=>?_,Dj.nil' _,Dj.nil' _,Dj.nil' _⟩
  ·exact(((kq.I hX).I hY).J gv (by simp;omega)).own (n:=1) (sz:=1) O oa oa
  ·simp only[oF]at E;subst E;exact Za (Qm gt h7) oa
  simp only[oF]at E;subst E;have:=(Qi gt) b hb;refine⟨oa,?_,by simp[ob,Zq],by simp[ob,Zq]⟩;simp[ob];omega
 have p5:qI ps.length (xj [] (KU (oG ps.length 0)) (sS 0)) (zT aa).tup:=by
  have kg:qI ps.length [] []:=λu _ _=>O;have:=kg.add (u:=oG ps.length 0) od (λx hx=>oo (ND hx));simpa[zT,hE]using this
 have p6:qH aa (zT aa):=by
  refine⟨λt ht=>?_,by simp[zT]⟩;simp only[zT,oF]at ht;subst ht;refine⟨od,λi h1 h2=>?_⟩;have h3:=(hD aa[i] (Lm h2)).st0;have h4:aa[i].st≠0:=λe=>hz (hW.2 ⟨aa[i],Lm h2,e⟩);simp only[Oq];omega
 generalize hT:syL aa 4096 0 (zT aa)=T;have p7:∀s,T=some s->xp aa=some (⟨evs aa,s.tup.length,s.mk',s.ed⟩,s.tup):=λs hs=>by
  unfold xp;rw[OU (λe=>hz (hW.2 e)),hT,hs];rfl
 have p8:T=none->xp aa=none:=λhs=>by unfold xp;rw[OU (λe=>hz (hW.2 e)),hT,hs];rfl
 refine Qd<|Qc<|Qb ?_;have gz:b6∉[J,hh,Y]:=by simp;omega
 refine QX (α:=Nat×Sy×List (ByteArray×O3)×List TV×O3×O3×O3) [(3,4),(10,10),(12,16),(42,111)] (λz=>[(3,z.2.2.2.2.1),(10,sS z.1)])
  (λz w'=>zl ↑w1 J hh Y ve wS z.2.1 z.2.2.1 z.2.2.2.1 z.2.2.2.2.1 z.2.2.2.2.2.1 z.2.2.2.2.2.2 w'/\qH aa z.2.1/\qI ps.length z.2.2.1 z.2.1.tup/\z.1<=z.2.1.tup.length/\z.2.1.mk'.length<=z.1/\z.2.1.ed.length<=z.1*1000/\syL aa (4096 - z.1) z.1 z.2.1=T)
  (λz=>4096 - z.1) (0,zT aa,_,_,_,Zq,Zq) ov ⟨p4,p6,p5,Lo _,Lo _,Lo _,hT⟩ ?_
 rintro⟨i,s,m,qs,vt,vk,vd⟩ g ga ⟨hI,gb,kt,hi,p9,ku,g0⟩;simp only[]at hI gb kt hi p9 ku g0;have hle:=gb.le;have qf:qs.length=s.tup.length:=by rw[<-hI.q];simp
 have kv:∀p∈qs,Vt aa p.2:=λp E=>gb.v p.2 (by rw[<-hI.q];exact LL E);have kw:∀p∈qs,p.2.length<=12:=λp E=>oo (kv p E).1
 have Vw:=QN (L:=[]) hI.t oa od;refine Qd<|Ql<|Qa<|QG Vw O<|ZW O O<|xe<|Zp rfl (λqj=>?_) (λqj=>?_)
 ·have ql:T=some s:=by rw[<-g0,Qiu oa]
  refine Qt<|Ql<|QG Vw O<|Q9 O<|Qo<|Qv hI.A O O od rfl λw15 q4 kx=>xe ?_;refine Qc<|Q3 kx O O<|Qa<|Q5 [ve,sS qs.length,vk,vd] kx ⟨hS.one,O,(Qh.ints (L:=[]) hI.k oa od).one,(Yd.eds (L:=[]) hI.e oa od).one,Z⟩ λg2 q5 j1=>x Qe<|Qb ?_;have h8:O6 [J] ga g2:=q4.V q5;have j2:sW w g2:=(hZ.O hI.st (λb hb=>.inr (by simp at hb;omega))).Q h8 hC;refine Qj ⟨[.agg #[ve,sS qs.length,vk,vd],vt,sS 0],⟨JN j1,O,O,Z⟩,j2,_,vt,0,O,?_⟩;unfold Yy;rw[OU h6,p7 s ql];have e1:(qs.length:Int)=s.tup.length:=by rw[qf]
  have k0:Qh 3 ↑w2 g2 ve (evs aa):=Qg (Qg p0 hI.st (λb hb=>by have:=(Qi hq b hb).1;have:=(QV hq) b hb;simp;omega)) h8 (λb hb=>by have:=(Qi hq b hb).1;simp;omega);have k1:=Qg hI.k h8 (λb hb=>by have:=(Qi hI.k b hb).1;simp;omega);have k2:=Qg hI.e h8 (λb hb=>by have:=(Qi hI.e b hb).1;simp;omega);have k3:=Qg hI.t h8 (λb hb=>by have:=(Qi hI.t b hb).1;simp;omega);refine⟨O,⟨ve,vk,vd,by rw[e1],λL' ho=>⟨Qh.ints k0 (by show(evs aa).length<=_;omega) (λb hb=>oo (ho b hb)),Qh.ints k1 (by show s.mk'.length<=_;omega) (λb hb=>oo (ho b hb)),Yd.eds k2 (by show s.ed.length<=_;omega) (λb hb=>oo (ho b hb))⟩⟩,qs,hI.q,λL' ho=>⟨?_,λp E=>?_⟩⟩
  ·exact QN k3 oa (λb hb j3=>oq (Qi hI.t b hb).1 (ho b j3))
  exact Qh.ints (Qg (hI.el p E) h8 (λb hb=>by have:=(Qi (hI.el p E) b hb).1;simp;omega)) (oo (kw p E)) (λb hb=>oo (ho b hb))
 have j4:i<s.tup.length:=oa
 have he:i<qs.length:=oa
 have kz:=Qn8 hI.q he;have h9:=kv (qs[i]'he) (Lm he);obtain⟨t,g5⟩:∃t,(qs[i]'he).2=t:=⟨_,O⟩;rw[g5]at kz h9;refine Qf ?_;have za:(VS aa i t (evs aa) (ZY aa i t s)).bind (syL aa (4096 - (i+1)) (i+1))=T:=by
  rw[<-g0];obtain⟨f,hf⟩:∃f,4096 - i=f+1:=⟨4096 - i - 1,oa⟩;rw[hf,syL,OV j4,kz,show 4096 - (i+1)=f by omega]
 have z0:=gx.st hI.st;have z1:Vn [] ↑ga vl ve vs ps ms:=z0.up (λ_ hb=>by cases hb);have z2:=gy.J hI.st gz;have z3:Qu [] ↑ga (qs[i]'he).1 t:=by rw[<-g5];exact Qh.ints (hI.el (qs[i]'he) (Lm he)) (oo (kw (qs[i]'he) (Lm he))) od
 refine Qd<|Qn<|QW (α:=O3) [(48,59)] (λz=>[]) (λz w'=>zl ↑w1 J hh Y ve wS (ZY aa i t s) m qs vt z vd w') oh ?_ ?_
 ·refine Qd<|ZK [] (Xj 0 6 [5])<|pq (λ_ hc=>Zi (z2.I hc) O O)<|p Qy<|p Qy<|pig O KB Vw O O he λa51 z4 =>
   pq (λ_ hc=>Qq (z4.I hc) O)<|pk<|xg<|(Qhm (z1.I (O6.X _ _)) (z3.I (O6.X _ _)) (by rw[h9.1,hE]) (λp E=>(hok p E).mri) hn).S ?_
  rintro r17 w17 ⟨rfl,z5⟩;have k4:=(O6.X [] ga).D z5;refine⟨k4,?_⟩;refine pe ?_;have g8:=hI.I k4;refine Q6 O (λhJ=>?_) (λhJ=>?_)
  rotate_left
  ·refine Qf<|⟨vk,Z,?_⟩;rw[V]at hJ;unfold ZY;rw[OU (by rw[hJ];simp)];exact g8
  refine Qr<|Qs O g8.A O O<|Qa<|Qo<|Q8 [[sS i]] λb57 w18 hs18 hb57 hB57=>?_;have hK:=g8.I hs18;refine Qo<|Q2 (news:=[sS i]) (L:=[]) hK.k O O O (hB57.at od) om oa hK.st.size λk5 w19 ho19 k6 hn19=>?_;have k9:Qh 3 ↑wS w19 k5 (s.mk'++[(i:Int)]):=Qh.snoc ho19;refine Q9 O<|Qo<|Qv (hK.A.J k6 (QJ hK.k oa)) O O od (Qh.ints (L:=[]) k9 (by simp;omega) od).one λw20 hs20 hB20=>xe ?_;refine⟨k5,Z,?_⟩;rw[V]at hJ;unfold ZY;rw[OV hJ];exact hK.setK hH k6 k9 hn19 hs20 hB20
 rintro gc g3 w21 ma;have hsk2:qH aa (ZY aa i t s):=jI gb;have htup2:(ZY aa i t s).tup=s.tup:=by unfold ZY;split <;> rfl
 have hed2:(ZY aa i t s).ed=s.ed:=by unfold ZY;split <;> rfl
 have hmk2:(ZY aa i t s).mk'.length<=i+1:=by
  unfold ZY;split
  ·simp only[oM,oL];omega
  omega
 have mc:Qu [J,hh,Y] ↑wS ve (evs aa):=by have:=gx.ev;rw[V]at this;exact this
 refine Qc<|Qs O (gy.J ma.st gz) O O<|QG mc O<|Qa<|xe<|QX (α:=Nat×Sy×List (ByteArray×O3)×List TV×O3×O3) [(3,4),(12,16),(63,111)] (λz=>[(3,z.2.2.2.2.1),(63,sS z.1)])
  (λz w'=>zl ↑w1 J hh Y ve wS z.2.1 z.2.2.1 z.2.2.2.1 z.2.2.2.2.1 gc z.2.2.2.2.2 w'/\qH aa z.2.1/\qI ps.length z.2.2.1 z.2.1.tup/\z.1<=(evs aa).length/\z.2.1.mk'=(ZY aa i t s).mk'/\z.2.1.ed.length<=i*1000+z.1 /\
   (∃h:i<z.2.2.2.1.length,(z.2.2.2.1[i]'h).2=t)/\(VS aa i t ((evs aa).drop z.1) z.2.1).bind (syL aa (4096 - (i+1)) (i+1))=T)
  (λz=>(evs aa).length - z.1) (0,ZY aa i t s,m,qs,vt,vd) ov
  ⟨ma,hsk2,by rw[htup2];exact kt,Lo _,O,by rw[hed2];simpa using ku,⟨he,g5⟩,za⟩ ?_
 rintro⟨j,G,m4,hk,ge,gg⟩ g4 hL ⟨U,hM,hw,hj,gh,mf,⟨hr,hA⟩,hg⟩;simp only[]at U hM hw hj gh mf hg hr hA;have mg:hk.length=G.tup.length:=by rw[<-U.q];simp
 have hle4:=hM.le;refine Zk rfl O (λh64=>?_) (λh64=>?_)
 ·rw[Lu oa,VS]at hg;refine Qt<|Qr<|Qa<|QB O O<|Qb<|⟨(i+1,G,m4,hk,ge,gc,gg),oe,ov,U,hM,hw,oe,by simp only[];rw[gh];exact hmk2,oe,hg⟩
 have gi:j<(evs aa).length:=oa
 rw[QY gi,VS]at hg;obtain⟨v,mh⟩:∃v,(evs aa)[j]=v:=⟨_,O⟩;rw[mh]at hg;refine Qf<|Qd<|Qn<|Qc<|xii (mc.st U.st) O O gi λa65 mj=>?_;rw[mh]at mj;refine x (Qq mj O)<|Qb ?_;have hB622:=gy.J U.st gz;have htA4:=QN (L:=[]) U.t oa od;have htI4:Qu [] ↑hL (hk[i]'hr).1 t:=by rw[<-hA];exact Qh.ints (U.el (hk[i]'hr) (Lm hr)) (by rw[hA,h9.1];omega) od
 refine Qd<|ZK [] (Xj 0 12 [6])<|pq (λ_ hc=>Zi (hB622.I hc) O O)<|p Qy<|p Qy<|pig O KB htA4 O O hr λa71 h71 =>
  pq (λ_ hc=>Qq (h71.I hc) O)<|p Qy<|pk<|xg<|(Qi2 (((gx.st U.st).up (L':=[]) (λ_ hb=>by cases hb)).I (O6.X _ _)) (htI4.I (O6.X _ _)) (by rw[h9.1,hE]) (λp E=>(hok p E).ali) (λp E=>(hok p E).edi) hn _).S ?_
 rintro r23 w23 ⟨hs23,hN⟩;rw[V]at hN;have mo:=(O6.X [] hL).D hs23;refine⟨mo,?_⟩;have hO:=U.I mo;have hz22:=U.st.size;rcases QsG (QZ v aa t) with h5|⟨u,h5⟩
 ·rw[h5]at hN;subst hN;rw[Qix h5]at hg;refine p Qy<|p (λ_=>Q0 O O)<|p (λ_=>Q0 O O)<|p ZI<|p ZI<|pe ?_;refine Qd<|Ql<|x (Zj O)<|xe<|jd O ?_;refine Qt<|Qr<|QB O O<|Qa<|xe ?_;exact⟨(j+1,G,m4,hk,ge,gg),oe,ov,hO,hM,hw,gi,gh,oe,⟨hr,hA⟩,hg⟩
 rw[h5]at hN;obtain⟨vx,rfl,g9⟩:=hN;have mq:=Xs hD h9 h5;have mt:u.length=ps.length:=by rw[mq.1,hE]
 have ka:=mq.bd pf;have kb:∀x∈u,0<=x:=λx hx=>(ka x hx).1;refine p Qy<|p (λ_=>Q0 O O)<|p (λ_=>Q0 O O)<|p ZI<|p ZI<|pe ?_;refine Qd<|Ql<|x (Zj O)<|xe<|Zw O<|Qf ?_;have gj:=Qh.ints (L:=[]) g9 oa od;have mu:=Qi g9;refine QW (α:=Unit) [(15,16),(79,85)] (λz=>[(15,sS (if u∈G.tup then(G.tup.idxOf u:Int) else 0)),(16,.bool (decide (u∈G.tup)))]) (λz w'=>sW w23 w') oh ?_ ?_
 ·refine Qr<|Qa<|Qa<|Qw<|(Qbe gj (gm.I (hZ.O hO.st (λb hb=>.inr (by simp at hb;omega)))) ka oa).S ?_;rintro r24 w24 ⟨rfl,gk⟩;by_cases I:u∈G.tup
  ·refine x (qg (k:=KU u) ((hO.I gk).M) O O (by rw[hw u mt kb,OV I]))<|Qa<|QO rfl rfl<|QO rfl rfl<|x Qe<|Qb<|⟨(),⟨OW sS (OV I).symm,OW Value.bool (OY I).symm,Z⟩,gk⟩
  refine x (jV (k:=KU u) ((hO.I gk).M) O O (by rw[hw u mt kb,OU I]))<|Qa<|QO rfl rfl<|QO rfl rfl<|x Qe<|Qb<|⟨(),⟨OW sS (OU I).symm,OW Value.bool (O0 I).symm,Z⟩,gk⟩
 rintro _ g6 w25 kc;have hB:=hO.I kc;have hxA25:=gj.I kc;have hadd:∀b∈ob vx,b∉ob ge/\b∉ob gc/\b∉ob gg:=λb hb=>by
  have h1:=(mu b hb).1;have h1':↑hL<=b:=h1;exact⟨λhP=>oo (QV U.t b hP),λhP=>oo (QV U.k b hP),λhP=>oo (QV U.e b hP)⟩
 refine QW (α:=List (ByteArray×O3)×List TV×O3) [(3,4),(15,15),(86,101)] (λz=>[(3,z.2.2),(15,sS ((YZ G u).tup.idxOf u:Int))])
  (λz w'=>zl ↑w1 J hh Y ve wS (YZ G u) z.1 z.2.1 z.2.2 gc gg w'/\(u∈G.tup\/G.tup.length≠4096)/\qI ps.length z.1 (YZ G u).tup/\∃h:i<z.2.1.length,(z.2.1[i]'h).2=t) oh ?_ ?_
 ·refine Ql<|x (Zj O)<|xe<|Q6 O (λke=>?_) (λke=>?_)
  rotate_left
  ·have I:u∈G.tup:=by simpa using ke
   refine Qf ?_;have e1:YZ G u=G:=by unfold YZ;rw[OV I]
   have e2:(if u∈G.tup then(G.tup.idxOf u:Int) else 0)=((YZ G u).tup.idxOf u:Int):=by rw[e1,OV I]
   refine⟨(m4,hk,ge),⟨O,OW sS e2,Z⟩,?_,.inl I,?_,hr,hA⟩
   ·rw[e1];exact hB
   rw[e1];exact hw
  have I:u∉G.tup:=by simpa using ke
  have mv:=QN (L:=[]) hB.t oa od;refine Qd<|Ql<|QG mv O<|x (Zc O O)<|xe<|Zg O (λh90=>?_) (λh90=>?_)
  ·refine Qc<|x (QD Z)<|Q5 [nS,sS 0,nS,nS] hB.A oy λw26 gl hB26=>x Qe<|Qb<|Qj ⟨[zA,Zq,sS 3],⟨JN hB26,O,O,Z⟩,(hZ.O hB.st (λb hb=>.inr (by simp at hb;omega))).Q gl hC,zA,Zq,3,O,?_⟩;unfold Yy;rw[Qiz h5 I oa]at hg;rw[OU h6,p8 hg.symm];exact⟨rfl,O,O⟩
  have hl4:G.tup.length≠4096:=oa
  refine Qf<|Ql<|QG mv O<|Qb<|Ql<|Qa<|Qw<|(Qbe hxA25 (gm.I (hZ.O hB.st (λb hb=>.inr (by simp at hb;omega)))) ka oa).S ?_;rintro r26 w26 ⟨rfl,gl⟩;have mw:=hB.I gl;refine Qa<|Qo<|YR (k:=KU u) mw.M O O λw27 my hm27=>xe ?_;have hx27:=Qg (Qm (Qm g9 kc) gl) my (λb hb=>by have:=(mu b hb).1;have h1':↑hL<=b:=this;simp;omega);refine Qr<|Qa<|Qa<|Qo<|Yo (us:=[[vx]]) O O og od ⟨gj.cells,rfl,Z⟩ λb100 w28 mz hb100 hB100=>?_;have kf:=(mw.setM hH my hm27).I mz;refine Qo<|Q2 (news:=[vx]) (L:=[]) kf.t O O O (hB100.at od) (λy hy=>by simp only[oF]at hy;subst hy;exact gj.one) oa (oq kf.st.size hH.nS) λm0 w29 ho29 hs29 hn29=>Qb ?_;have hk29:zk 47 ↑w1 w29 m0 (hk++[(vx,u)]):=zk.snoc ho29;have hIA:=kf.setT hH (u:=u) (Za (Qm hx27 mz) (by show wS.heap.size<=↑hL;omega)) hadd hs29 hk29 hn29;have e1:YZ G u=⟨G.tup++[u],G.mk',G.ed⟩:=by unfold YZ;rw[OU I]
  have e2:(hk.length:Int)=((YZ G u).tup.idxOf u:Int):=by
   rw[e1];simp only[];rw[Ma,OU I,<-mg];simp
  refine⟨(xj m4 (KU u) (sS (hk.length:Int)),hk++[(vx,u)],m0),⟨O,OW sS e2,Z⟩,?_,.inr hl4,?_,by simp;omega,?_⟩
  ·rw[e1];exact hIA
  ·rw[e1];simp only[];rw[mg];exact hw.add I kb
  simp only[];rw[Ms hr];exact hA
 rintro⟨m5,qs5,vt5⟩ g7 w30 ⟨m1,hlim,hkn5,hlt5,ht5⟩;have hed5:(YZ G u).ed.length<=i*1000+j:=by rw[QiB];exact mf
 have m2:=Ql3 (aa:=aa) (i:=i) (s:=G) h5 hlim;rw[m2]at hg;refine Qr<|Qs O m1.A O O<|Qa<|Qa<|Qa<|x (QD ⟨O,O,O,Z⟩)<|Qo<|Q8 [Qp ((i:Int),v,((YZ G u).tup.idxOf u:Int))] λb108 w31 hs31 hb108 hB108=>?_;have hQ:=m1.I hs31;refine Qo<|Q2 (news:=Qp ((i:Int),v,((YZ G u).tup.idxOf u:Int))) (L:=[]) hQ.e O O O (hB108.at od) (λy hy=>by simp only[Qp,oK,oH,or_false]at hy;rcases hy with rfl|rfl|rfl <;> rfl) oa hQ.st.size λm3 w32 ho32 m6 hn32=>?_
 have m7:Yd 179 ↑wS w32 m3 ((YZ G u).ed++[((i:Int),v,((YZ G u).tup.idxOf u:Int))]):=Yd.snoc ho32;refine Q9 O<|Qo<|Qv (hQ.A.J m6 (QJ hQ.e oa)) O O od (Yd.eds (L:=[]) m7 (by simp;omega) od).one λw33 hs33 hB33=>xe ?_;refine Qr<|QB O O<|Qa<|xe<|⟨(j+1,_,m5,qs5,vt5,m3),oe,ov,(hQ.setE hH m6 m7 hn32 hs33 hB33),(Qiy hD hM h9 m2),hkn5,gi,?_,?_,⟨hlt5,ht5⟩,hg⟩
 ·simp only[];rw[QiA];exact gh
 simp only[oM,oL];omega
theorem jg {L:LN}{vl:O3}{ps:List AV}(h:X7 L ↑w vl ps)(E:∀p∈ps,p.a.st<=100):
  QU sV 49 [vl] w λr w'=>sW w w'/\∃va vt c,r=.tuple #[va,vt,sS c]/\Yy ↑w ↑w' (ps.map (·.a)) va vt c :=
 U1 (km:=100) h (.inl (MC _)) og E
theorem xJ {α:Type}(g:α->LV)(sz:Nat)(G:∀x,(g x).length=sz):∀(l:List α) (i j:Nat) (h:i<l.length) (y:α) (u:O3),j<sz->g y=(g l[i]).set j u ->
  (l.flatMap g).set (i*sz+j) u=(l.set i y).flatMap g
 | x::l,0,j,h,y,u,I,E=>by
  simp only[Ot]at E;simp only[Nat.zero_mul,oX,oT,List.set_cons_zero];rw[List.set_append_left _ _ (by rw[G];exact I),E]
 | x::l,i+1,j,h,y,u,I,E=>by
  simp only[List.getElem_cons_succ]at E;simp only[oT,List.set_cons_succ];rw[List.set_append_right _ _ (by rw[G,ME];omega),G,show(i+1)*sz+j - sz=i*sz+j by rw[ME];omega,xJ g sz G l i j (ou h) y u I E]
section
variable {f:Fr}{all:xE}{C:xA}{K:Fr->O2->Prop}
end
theorem Zo {l:LI}(h:i<l.length):l[i]=O7 l i:=by simp[O7,oN,h]
section
variable {l:xE}{K:Fr->O2->Prop}{f:Fr}{C:xA}{pl:xu}{i0:Nat}
theorem xic {x:O4}{e bys:Nat}[Sl P t e 1 bys z]{L:LN}{li:LI}{v:O3}{k:IntKind}
  (h:Qu L ↑w v li) (E:ev f x=v) (G:ev f y=.int k i) (hi:i<li.length)
  (hK:∀a,At L ↑w a [sS (O7 li i)]->XL P ops K l (QP f d (.pointer (some a))) w) (I:Z9 ops f ⟨d,.indexAddr t x y,ty,pS,af,gd⟩=true:=by rfl):
  XL P ops K (⟨d,.indexAddr t x y,ty,pS,af,gd⟩::l) f w :=
 xii h E G hi (λa J=>hK a (by rw[<-Zo hi];exact J)) I
theorem pic {x:O4}{e bys:Nat}[Sl P t e 1 bys z]{L:LN}{li:LI}{v:O3}{H:xC}{k:IntKind}
  (E:QR ops i0=⟨d,.indexAddr t x y,ty,pS,af,gd⟩) (h:Qu L H v li) (G:ev f x=v) (I:ev f y=.int k i) (hi:i<li.length)
  (hK:∀a,At L H a [sS (O7 li i)]->XP P ops C K pl (QP f d (.pointer (some a))) w) (J:Z9 ops f (QR ops i0)=true:=by rfl):XP P ops C K ((i0,true)::pl) f w :=
 pii E h G I hi (λa T=>hK a (by rw[<-Zo hi];exact T)) J
theorem jZ [h1:XS P t]{x:O4}{e cap:Nat}{li:LI}{v:O3}{u:Int}(h:Qh e base w v li)(E:v=sL g li.length cap)(hx:ev f x=.pointer (some ⟨g,0+i*1,none⟩))(I:ev f y=sS u)(hi:i<li.length)
  (hK:∀w',O6 (ob v) w w'->Qh e base w' v (li.set i u)->K (QP f d undef) w'):XO P ⟨d,.store t x y,ty,pS,af,gd⟩ f w K:=by
 have G:=h;unfold Qh at G;rw[E]at G;refine QcF G hx I hi O λw' J T=>hK w' (by rw[E];exact J) ?_;unfold Qh;rw[M0,NC,E];exact T
end
theorem QiO {a:Nat}(h:a<n):oO a (n - a)=a::oO (a+1) (n - (a+1)):=by
 rw[show n - a=(n - (a+1))+1 by omega,Nv]
theorem Qmc {a:Nat}(h:n<=a):oO a (n - a)=[]:=by rw[show n - a=0 by omega];rfl
section
variable {f:Fr}{κ:Type}[DecidableEq κ]
end
theorem Qfx {aa:List Qz}{i:Nat}{t:LI}(G:∀a∈aa,QS a)(ht:Vt aa t):∀(vs:LI) (s E:Sy),qH aa s->VS aa i t vs s=some E->qH aa E
 | [],s,E,h,e=>by cases e;exact h
 | v::vs,s,E,h,e=>by
  rw[VS]at e;obtain⟨I,J,T⟩:=Ml.1 e;exact Qfx G ht vs I E (Qiy G h ht J) T
theorem Qis {aa:List Qz}(G:∀a∈aa,QS a):∀(f i:Nat) (s E:Sy),qH aa s->syL aa f i s=some E->qH aa E
 | 0,i,s,E,h,e=>by cases e;exact h
 | f+1,i,s,E,h,e=>by
  rw[syL]at e;split at e
  ·rename_i hi;obtain⟨I,J,T⟩:=Ml.1 e;have U:Vt aa (Jq s i):=h.v _ (by unfold Jq;simp[oN,hi]);exact Qis G f _ I E (Qfx G U _ _ _ (jI h) J) T
  cases e;exact h
theorem QoJ {aa:List Qz}(G:∀a∈aa,QS a)(I:¬∃a∈aa,a.st=0):qH aa (zT aa):=by
 refine⟨λt ht=>?_,by simp[zT]⟩;simp only[zT,oF]at ht;subst ht;refine⟨od,λi J E=>?_⟩;have T:=(G aa[i] (Lm E)).st0;have U:aa[i].st≠0:=λe=>I ⟨aa[i],Lm E,e⟩;simp only[Oq];omega
theorem zq {aa:List Qz}(E:∀a∈aa,QS a){z:Qz×List (LI)}(h:xp aa=some z):(∀t∈z.2,Vt aa t)/\z.2.length<=4096:=by
 unfold xp at h;split at h
 ·cases h;simp
 rename_i G;obtain⟨s,I,rfl⟩:=Md.1 h;have:=Qis E _ _ _ _ (QoJ E G) I;exact⟨this.v,this.le⟩
def opC (p s:Qz):Int:=if Jc p≠0 then Jc p else if Jc s≠0 then Jc s else if mrg (λp q=>p && !q) s.al p.al=[]then 0 else 9
def opE (p s:Qz):Int:=if opC p s≠0 then opC p s else match xp [p,s]with|none=>3|some _=>0
def opQ (p s:Qz):List (LI):=match xp [p,s]with|none=>[]|some z=>z.2
def Qre (l:LI):Int:=(l.drop 1).foldl max (O7 l 0)
theorem Xl {b:Nat}{v:O3}{a:Qz}(h:Xb N ↑w v a)(hb:b<N)(E:O6 [b] w w'):Xb N ↑w' v a:=by
 obtain⟨va,vm,ve,G,I⟩:=h;refine⟨va,vm,ve,G,λL J=>?_⟩;exact((I (b::L) (λc hc=>by rcases Lk.1 hc with rfl|hc;exact hb;exact J c hc)).st (E.S od)).up (λc hc=>.inl (Lj _ hc))
theorem Qlp {b:Nat}{v:O3}{l:List (LI)}(h:QdB N ↑w v l)(hb:b<N)(E:O6 [b] w w'):QdB N ↑w' v l:=by
 obtain⟨ps,G,I⟩:=h;refine⟨ps,G,λL J=>?_⟩;exact((I (b::L) (λc hc=>by rcases Lk.1 hc with rfl|hc;exact hb;exact J c hc)).st (E.S od)).up (λc hc=>.inl (Lj _ hc))
theorem XW {H:xC}{v:O3}{a:Qz}(h:Xb N H v a):∃us,v=sT us/\us.length=4/\ZL us:=by
 obtain⟨va,vm,ve,E,G⟩:=h;have:=G [] od;exact⟨[va,sS a.st,vm,ve],E,O,this.al.one,O,this.mr.one,this.ed.one,Z⟩
theorem QbR {L:LN}{a:Qz}(h:Zr L ↑w va vm ve a):
  QU sV 246 [.agg #[va,sS a.st,vm,ve]] w λr w'=>sW w w'/\∃v,r=.tuple #[v,sS (Jc a)]/\(Jc a≠0->v=zA)/\(Jc a=0->Xb ↑w ↑w' v (YG a)):=by
 refine Zm func246 ?_;refine Qc<|Zf [va,sS a.st,vm,ve] λb1 w1 V hn Y=>QT [nS,sS 0,nS,nS] λb2 w2 G ho I=>Qb ?_;have J:=V.D G;refine Qd<|Qc<|Q3 (Y.I G) O O<|Qw<|(Y8 (h.I J)).S ?_;rintro r3 w3 ⟨rfl,E⟩;refine Qb ?_;have hp:=V.size;refine Ql<|ZN O O<|xe<|Zg rfl (λT=>?_) (λT=>?_)
 ·refine Qc<|x (QD Z)<|Qa<|Q5 [nS,sS 0,nS,nS] (I.I E) oy λw4 hh hj=>Qb<|Qj ⟨[zA,sS (Jc a)],⟨JN hj,O,Z⟩,(J.D E).Q hh oa,zA,O,λ_=>O,λe=>OX e T⟩
 have hc:Jc a=0:=Lt.1 T;have hq:=I.lt;have U:=J.D E;refine Qf<|Qc<|Q3 ((Y.I G).I E) O O<|Qw<|(KJ (h.I U) ((Zz a).1 hc)).S ?_;rintro v w5 ⟨ha,hF⟩;obtain⟨us,he,hf,hk⟩:=XW hF;have hr:=E.size;refine Qo<|Zx (us:=us) ((I.I E).I ha) O he hf O hk λw6 hg hm =>
  Qb<|Qj ⟨[sT us,sS 0],⟨⟨_,O,ZQ hf (hm.at (L:=[]) od).cells⟩,rfl,Z⟩,(U.D ha).Q hg oa,v,by rw[hc,he];rfl,λe=>OX hc e,λ_=>?_⟩
 exact(Xl hF oa hg).S U.size
def gget:List ((Int×Int)×Int)->Int×Int->Option Int
 | [],_=>none
 | (k',v)::m,k=>if k'=k then some v else gget m k
def gput:List ((Int×Int)×Int)->Int×Int->Int->List ((Int×Int)×Int)
 | [],k,v=>[(k,v)]
 | (k',v')::m,k,v=>if k'=k then(k',v)::m else(k',v')::gput m k v
def QsA (s:Qz)(cls:LI)(x:Nat)(m:List ((Int×Int)×Int))(v:Int):List ((Int×Int)×Int):=gput m (O7 cls x,v) (O7 cls (to0 s x v).toNat)
def Qsx (s:Qz)(l:List Uf)(cls:LI)(z:LI×List ((Int×Int)×Int))(x:Nat):LI×List ((Int×Int)×Int):=
 if O7 cls x<0 then z else(if((lget l x).mk' && (lget l x).ps)=true then QoC z.1 (O7 cls x) else z.1,(lget l x).en.foldl (QsA s cls x) z.2)
def QqW (s:Qz)(l:List Uf)(cls:LI):LI×List ((Int×Int)×Int):=(oO 0 cls.length).foldl (Qsx s l cls) ([],[])
def Qsz (m:List ((Int×Int)×Int))(c:Nat)(v:Int):Option Ed:=(gget m ((c:Int),v)).map λt=>((c:Int),v,t)
def Qsy (m:List ((Int×Int)×Int))(al:LI)(n:Nat):List Ed:=(oO 0 n).flatMap λc=>al.filterMap (Qsz m c)
def QsB (s:Qz)(l:List Uf)(cls:LI):Qz:=⟨s.al,Qre cls+1,(QqW s l cls).1,Qsy (QqW s l cls).2 s.al (Qre cls+1).toNat⟩
def red (p s:Qz):Qz:=QsB s (ctls p s (opQ p s)) (QrD p s (opQ p s))
def xK (p s:Qz):Int:=if opE p s≠0 then opE p s else if opQ p s=[]then 0 else Jc (red p s)
theorem Xy {l:LI}(h:i<l.length):O7 l i∈l:=by rw[<-Zo h];exact Lm h
theorem Zd (a:α){Q:Prop}(h:∀b,a=b->Q):Q:=h a O
theorem QaD {H:xC}{a:Qz}{J I:Nat}(Y:QK H J 3 (a.al.map (.int .i64)))(h2:QK H T 3 (a.mr.map (.int .i64)))(h3:QK H U 179 (a.ed.flatMap Qp))(g1:N<=J)(g2:N<=T)(g3:N<=U)
  (l1:a.al.length=E) (l2:a.mr.length=G) (l3:a.ed.length=I) (m1:E<=1000) (m2:G<=1000) (m3:I<=1000):
  Xb N H (.agg #[sL J E E,sS a.st,sL T G G,sL U I I]) a:=by
 subst l1 l2 l3;refine⟨_,_,_,O,λL V=>⟨?_,?_,?_⟩⟩
 ·exact Y.arr (λhb=>oo (V _ hb)) od oa (Lp _)
 ·exact h2.arr (λhb=>oo (V _ hb)) od oa (Lp _)
 exact h3.arr (λhb=>oo (V _ hb)) (by rw[Vg _ 3 JY]) oa (Lp _)
end Go.Lg
namespace Go.Lg
abbrev xz:=Fr->xA
end Go.Lg
