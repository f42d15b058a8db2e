/- Merged out of 44 texts. -/
import Derived.Orders
import Derived.Below
import Derived.WalkKit
import Derived.Laws.AppendOwn
import Derived.Laws.Rows
import Derived.Laws.Tables
import Derived.Great.BuildSlice
import Derived.Deep.OwnRows
import Derived.MapKept
import Derived.Test.YtpfnhheoeaiomaaGreatDoorProg
import Derived.Shelf.SlBodiesH
import Derived.Shelf.SlBodiesN
import Derived.Shelf.SlGeneric
import Derived.Laws.StructEq
import Derived.Shelf.Strings.Builder1
import Derived.Shelf.Small.Bits
import Derived.Shelf.Strings.BuilderF
import Derived.Shelf.Strings.BuilderK
import Derived.Shelf.Strconv.Itoa0
import Derived.Shelf.Strconv.Itoa1
import Derived.Shelf.LaysM
import Derived.Shelf.Strconv.Itoa2
import Derived.Shelf.Strconv.Itoa3
import Derived.Shelf.Strings.BuilderCap
import Derived.Lib.Builder
import Derived.Laws.Externs
set_option maxHeartbeats 40000000
set_option maxRecDepth 100000
set_option linter.all false
abbrev Eq.D:=@Eq.trans
abbrev Iff.D:=@Iff.trans
abbrev List.Perm.D:=@List.Perm.trans
namespace Go
abbrev sL (b n c:Nat):Value:=.slice (some ⟨b,0,none⟩) n c
abbrev sP (b:Nat):Value:=.pointer (some ⟨b,0,none⟩)
instance:CoeOut World Nat:=⟨λw=>w.heap.size⟩
instance:CoeOut World (Array Obj):=⟨λw=>w.heap⟩
abbrev sS (n:Int):Value:=.int .i64 n
abbrev sT (l:List Value):Value:=.agg l.toArray
abbrev xz:=Option (Nat×Bool)
abbrev xA:=List (Nat×Bool)
abbrev xC:=List (Nat×Nat)
abbrev xD:=List (Int×Int)
abbrev xF:=World→Prop
abbrev xG:=Array Obj
abbrev xH:=Array Edge
abbrev xI:=List Oper
abbrev xJ:=Option Nat
theorem oq{p q:Prop}(a:q)(h:q→p:=by intro _;omega):p:=h a
theorem ou{p q r:Prop}(a:q)(b:r)(h:q→r→p:=by intro _ _;omega):p:=h a b
theorem ov{p q r s:Prop}(a:q)(b:r)(c:s)(h:q→r→s→p:=by intro _ _ _;omega):p:=h a b c
theorem ox{p q:Prop}(a:q)(h:q→p:=by intro h;simpa using h):p:=h a
theorem oa{p:Prop}(h:p:=by omega):p:=h
theorem od{p:Prop}(h:p:=by kernel_rfl):p:=h
theorem oe{p:Prop}(h:p:=by simp):p:=h
theorem og{p:Prop}(h:p:=by simp only[];omega):p:=h
theorem oh{p:Prop}(h:p:=by decide):p:=h
theorem ol{p:Prop}(h:p:=by rfl):p:=h
theorem om{p:Prop}(h:p:=by simp only[List.mem_singleton];omega):p:=h
theorem oo{p:Prop}(h:p:=by simp[Value.oneCell']):p:=h
abbrev oB(j:Nat):Nat×Bool:=(j,true)
abbrev oC(j:Nat):Nat×Bool:=(j,false)
abbrev OY:=@if_neg
abbrev OZ:=@if_pos
abbrev O0:=@congrArg
abbrev O1:=@absurd
abbrev O2:=@decide_eq_true
abbrev O3:=@of_decide_eq_true
abbrev O4:=@decide_eq_false
abbrev O5:=@of_decide_eq_false
end Go
open Go
open Go.Value renaming int->oD
open Go.IntKind renaming i64->oE
open _root_.List renaming mem_singleton->oH,replicate->oI,not_mem_nil->oJ,length_singleton->oL,range->oM,mem_cons->oN,length_append->oO,range'->oP,getD->oQ,length_cons->oS,getElem?_toArray->oT,map_cons->oU,flatMap_cons->oV,getElem?_eq_getElem->oX,mem_append->oZ,cons_append->Og,all_cons->Oh,size_toArray->Ok,append_assoc->Om,getElem_cons_zero->On,append_nil->Oq,all_eq_true->Ou,forall_mem_cons->Ow,nil_append->Ox,getElem_replicate->Oy,singleton_append->OA,length_map->OB,range'_succ->OE,filter_cons->OF,pairwise_cons->OH,length_drop->OK,length_take->OL,map->OX
open _root_.Bool renaming and_eq_true->oK,or_eq_false_iff->Oe,not_eq_true'->Ol,true_and->OP
open _root_.Array renaming replicate->oR
open _root_.Nat renaming zero_add->Ob,add_mul->Oz,add_zero->OC,le_refl->OG,pow_succ->OM,one_mul->OQ,lt_or_ge->OR,sub_zero->OS,sub_self->OT,mul_one->OV,beq->OW
open _root_.Int renaming toNat_natCast->OD
open _root_.Option renaming map_some->OJ
open Go renaming World->O6,Value->O7,Operand->O8,Program->O9
open Go.Proofs Go.Proofs.Tryz
open Go.Proofs.Tryz renaming prog->sV
variable {w w':O6}{n i t sz base j T N G m g id B kt ty et gp off U:Nat}{α β:Type}{y:O8}{ve va vm z vt vs vk vx v' vb vo:O7}{P:O9}{s:Int}{fn:Func}{d:xJ}{pS:String}{af:xH}{gd:xz}{k':IntKind}{at_:Array Nat}{ops:xI}
namespace Go
abbrev nS:O7:=.slice none 0 0
abbrev LI:=List Int
abbrev LN:=List Nat
abbrev LV:=List O7
theorem Z.{u}{α:Sort u}{a:α}:a=a:=rfl
theorem La:True:=trivial
theorem Lb.{u}{α:Sort u}{a:α}:a=a/\True:=⟨rfl,trivial⟩
abbrev Lc:=@List.mem_singleton
abbrev Le:=@List.length_append
abbrev Lh:=@List.mem_cons_of_mem
abbrev Lj:=@List.mem_cons_self
abbrev Lk:=@List.mem_append
abbrev Ll:=@List.mem_cons
abbrev Lm:=@List.getElem_mem
abbrev Ln:=@List.take_succ_eq_append_getElem
abbrev Lo:=@List.length_map
abbrev Lp:=@Nat.zero_le
abbrev Lr:=@Nat.le_refl
abbrev Ls:=@List.take_of_length_le
abbrev Lt:=@List.mem_map
abbrev Lu:=@List.eq_nil_of_length_eq_zero
abbrev Lv:=@List.map_append
abbrev Lx:=@List.drop_of_length_le
abbrev Ly:=@Decidable.not_not
abbrev Lz:=@List.length_singleton
abbrev LA:=@Nat.le_trans
abbrev LB:=@List.mem_filter
abbrev LC:=@List.append_assoc
abbrev LD:=@Bool.and_eq_true
abbrev LE:=@List.getElem?_eq_getElem
abbrev LF:=@List.not_mem_nil
abbrev LG:=@List.mem_append_left
abbrev LH:=@List.length_take
abbrev LJ:=@List.flatMap_append
abbrev LK:=@List.append_nil
abbrev LL:=@List.mem_map_of_mem
abbrev LM:=@Array.getElem?_eq_some_iff
abbrev LO:=@List.length_filter_le
abbrev LP:=@List.foldl_cons
abbrev LQ:=@List.getElem_of_mem
abbrev LR:=@List.flatMap_cons
abbrev LS:=@List.length_cons
abbrev LT:=@List.getElem?_append_left
abbrev LU:=@List.getD_eq_getElem?_getD
abbrev LW:=@List.filter_append
abbrev LX:=@Nat.lt_of_lt_of_le
abbrev LY:=@Nat.zero_add
abbrev LZ:=@Option.map_eq_some_iff
abbrev L2:=@List.map_cons
abbrev L3:=@List.size_toArray
abbrev L4:=@List.mem_range'_1
abbrev L5:=@List.ext_getElem
abbrev L6:=@List.getElem?_take
abbrev L7:=@Option.bind_eq_some_iff
abbrev L8:=@List.getElem_append_left
abbrev L9:=@List.filter_cons
abbrev Ma:=@List.mem_of_mem_take
abbrev Mb:=@List.pairwise_cons
abbrev Mc:=@Nat.le_of_ble_eq_true
abbrev Md:=@List.idxOf_lt_length_of_mem
abbrev Me:=@List.mem_of_getElem?
abbrev Mf:=@List.idxOf_append
abbrev Mg:=@List.length_range
abbrev Mh:=@List.mem_flatMap
abbrev Mi:=@List.drop_eq_getElem_cons
abbrev Mj:=@List.pairwise_map
abbrev Mk:=@List.getElem?_eq_none
abbrev Ml:=@List.nodup_append
abbrev Mm:=@List.getElem?_eq_some_iff
abbrev Mn:=@List.pairwise_iff_getElem
abbrev Mo:=@List.all_eq_true
abbrev Mq:=@List.cons_append
abbrev Mr:=@List.getElem?_toArray
abbrev Ms:=@Int.le_refl
abbrev Mt:=@List.range'_1_concat
abbrev Mu:=@List.pairwise_append
abbrev Mv:=@List.mem_append_right
abbrev Mw:=@List.foldl_append
abbrev Mx:=@List.getElem_range
abbrev My:=@List.length_drop
abbrev Mz:=@List.filterMap_cons
abbrev MA:=@List.getElem?_append_right
abbrev MB:=@List.nodup_nil
abbrev MC:=@List.nil_append
abbrev MD:=@Int.toNat_natCast
abbrev ME:=@List.mem_range
abbrev MF:=@List.map_map
abbrev MG:=@List.getElem?_eq_none_iff
abbrev MH:=@List.any_eq_true
abbrev MI:=@Nat.add_mul
abbrev MJ:=@List.mem_filterMap
abbrev MK:=@Array.getElem?_append
abbrev ML:=@List.take_append_drop
abbrev MM:=@List.getElem_map
abbrev MN:=@List.pairwise_singleton
abbrev MO:=@List.getElem?_map
abbrev MP:=@Array.size_modify
abbrev MQ:=@List.all_cons
abbrev MR:=@List.getElem?_set_ne
abbrev MS:=@Array.getElem?_eq_getElem
abbrev MT:=@List.getElem?_drop
abbrev MU:=@List.filter_eq_nil_iff
abbrev MV:=@List.filter_nil
abbrev MW:=@List.filter_sublist
abbrev MX:=@Array.getElem?_toList
abbrev MY:=@Nat.mul_le_mul_right
abbrev MZ:=@List.mem_of_mem_drop
abbrev M0:=@Bool.false_ne_true
abbrev M1:=@Bool.or_eq_false_iff
abbrev M2:=@List.length_set
abbrev M4:=@Nat.add_comm
abbrev M5:=@List.getElem_append_right
abbrev M6:=@List.exists_mem_of_length_pos
abbrev M7:=@Array.getElem?_modify
abbrev M8:=@Nat.add_zero
abbrev M9:=@Nat.min_eq_left
abbrev Na:=@List.headD_cons
abbrev Nb:=@Nat.add_sub_cancel_left
abbrev Nc:=@List.getElem_set
abbrev Nd:=@List.pairwise_lt_range'
abbrev Nf:=@List.getElem_cons_zero
abbrev Ng:=@List.getElem_take
abbrev Nh:=@List.flatMap_singleton
abbrev Ni:=@Bool.not_eq_true'
abbrev Nj:=@Nat.mul_le_mul
abbrev Nk:=@List.tail_cons
abbrev Nl:=@List.mergeSort_perm
abbrev Nm:=@List.take_succ_cons
abbrev Nn:=@List.range_succ
abbrev Np:=@List.length_replicate
abbrev Nq:=@Bool.false_eq_true
abbrev Nr:=@Nat.pos_of_ne_zero
abbrev Ns:=@List.map_nil
abbrev Nt:=@Nat.pow_le_pow_right
abbrev Nu:=@Nat.exists_eq_succ_of_ne_zero
abbrev Nv:=@List.forall_mem_cons
abbrev Nw:=@List.ext_getElem?
abbrev Nx:=@List.getElem_replicate
abbrev Ny:=@Array.getD_eq_getD_getElem?
abbrev Nz:=@List.range'_succ
abbrev NA:=@List.map_singleton
abbrev NC:=@List.singleton_append
abbrev ND:=@List.mem_or_eq_of_mem_set
abbrev NE:=@Option.isNone_iff_eq_none
abbrev NF:=@Nat.not_lt_zero
abbrev NG:=@Array.size_append
abbrev NH:=@List.filter_congr
abbrev NI:=@List.map_set
abbrev NJ:=@List.eq_of_mem_replicate
abbrev NK:=@List.filter_eq_self
abbrev NL:=@List.take_zero
abbrev NM:=@List.take_append
abbrev NN:=@List.flatMap_nil
abbrev NO:=@List.zipIdx_cons
abbrev NP:=@List.foldl_nil
abbrev NQ:=@List.drop_zero
abbrev NS:=@Nat.mod_eq_of_lt
abbrev NT:=@Nat.one_mul
abbrev NU:=@Option.map_some
theorem oy.{u,v}{α:Sort u}{β:Sort v}{a:α}{b:β}:a=a/\b=b/\True:=⟨rfl,rfl,trivial⟩
theorem oz.{u,v,w}{α:Sort u}{β:Sort v}{γ:Sort w}{a:α}{b:β}{c:γ}:a=a/\b=b/\c=c/\True:=⟨rfl,rfl,rfl,trivial⟩
theorem oA.{u,v,w,x}{α:Sort u}{β:Sort v}{γ:Sort w}{δ:Sort x}{a:α}{b:β}{c:γ}{d:δ}:a=a/\b=b/\c=c/\d=d/\True:=⟨rfl,rfl,rfl,rfl,trivial⟩
end Go
namespace Go.Lg
open Go.RowKit
abbrev Fr:=Nat->O7
def upd (f:Fr)(d:Nat)(v:O7):Fr:=λt=>bif OW t d then v else f t
def ev (f:Fr):O8->O7
 | .tmp t=>f t
 | .const v=>v
 | .global g=>.pointer (some ⟨g,0,none⟩)
 | .func g=>.func (.func g) #[] #[]
def QP (f:Fr):xJ->O7->Fr
 | some d,v=>upd f d v
 | none,_=>f
structure Rel (n:Nat)(a:Act)(f:Fr):Prop where
 size:a.tmps.size=n
 defers:a.defers=[]
 get:∀t,a.tmps.getD t undef=f t
theorem Ja (f:Fr)(d:Nat)(v:O7):upd f d v d=v:=by simp[upd]
theorem Ke (f:Fr){d:Nat}(v:O7)(h:t≠d):upd f d v t=f t:=by
 have:OW t d=false:=by
  cases e:OW t d with
  | false=>rfl
  | true=>exact O1 (Nat.eq_of_beq_eq_true e) h
 simp[upd,this]
theorem Rel.eval {n:Nat}{a:Act}{f:Fr}(h:Rel n a f):a.eval=ev f:=by
 funext x;cases x with
 | tmp t=>exact h.get t
 | _=>rfl
theorem Rel.put {n:Nat}{a:Act}{f:Fr}(h:Rel n a f){dst:xJ}(hd:∀d,dst=some d->d<n)(v:O7):Rel n (a.put dst v) (QP f dst v):=by
 cases dst with
 | none=>exact h
 | some d =>
  have G:d<a.tmps.size:=by rw[h.size];exact hd d Z
  refine⟨by simp[Act.put,h.size],h.defers,λt=>?_⟩;by_cases e:t=d
  ·subst e;rw[QP,Ja];simp[Act.put,G]
  rw[QP,Ke _ _ e,<-h.get t];simp[Act.put,Array.getElem?_setIfInBounds_ne (Ne.symm e)]
def Yq (l:xI)(t:Nat):Bool:=l.any λo=>match o.dst with|some d=>OW d t|none=>false
def wrs:Code->Nat->Bool
 | .region _ ops _,t=>Yq ops.toList t
 | .seq a b,t=>wrs a t || wrs b t
 | .cond _ a b,t=>wrs a t || wrs b t
 | .block _ a,t=>wrs a t
 | .loop a,t=>wrs a t
 | .skip,_| .exit _,_| .label _,_| .goto _,_| .ret,_=>false
 | _,_=>true
def Kg (D:xC)(t:Nat):Bool:=match D with
 | []=>false
 | (lo,hi)::D=>bif (Nat.ble lo t && Nat.ble t hi) then true else Kg D t
def inD (D:xC)(d:xJ):Bool:=match d with|none=>true|some d=>Kg D d
def QfZ (D:xC)(l:xI):Bool:=l.all λo=>inD D o.dst
def wr (D:xC):Code->Bool
 | .region _ ops _=>QfZ D ops.toList
 | .seq a b=>wr D a && wr D b
 | .cond _ a b=>wr D a && wr D b
 | .block _ a=>wr D a
 | .loop a=>wr D a
 | .skip| .exit _| .label _| .goto _| .ret=>true
 | _=>false
theorem Qae {D:xC}{l:xI}(h:QfZ D l=true)(ht:Kg D t=false):Yq l t=false:=by
 unfold QfZ at h;unfold Yq;rw[List.any_eq_false];intro o G;have h1:=Mo.1 h o G;cases hd:o.dst with
 | none=>simp
 | some d =>
  rw[hd]at h1;simp only[inD]at h1;intro e;have:=Nat.eq_of_beq_eq_true e;subst this;rw[h1]at ht;cases ht
theorem Vd {D:xC}{t:Nat}(ht:Kg D t=false):∀c:Code,wr D c=true->wrs c t=false
 | .region _ ops _,h=>Qae h ht
 | .seq a b,h=>by simp only[wr,oK]at h;simp[wrs,Vd ht a h.1,Vd ht b h.2]
 | .cond _ a b,h=>by simp only[wr,oK]at h;simp[wrs,Vd ht a h.1,Vd ht b h.2]
 | .block _ a,h=>Vd ht a (by simpa[wr]using h)
 | .loop a,h=>Vd ht a (by simpa[wr]using h)
 | .skip,_=>rfl
 | .exit _,_=>rfl
 | .label _,_=>rfl
 | .goto _,_=>rfl
 | .ret,_=>rfl
 | .rangeFunc ..,h=>by simp[wr]at h
 | .scope _,h=>by simp[wr]at h
 | .refuse _,h=>by simp[wr]at h
def mix (D:xC)(f g:Fr):Fr:=λt=>bif Kg D t then g t else f t
theorem Vp {D:xC}{f g:Fr}(h:∀t,Kg D t=false->g t=f t):mix D f g=g:=by
 funext t;unfold mix;cases e:Kg D t with
 | false=>exact(h t e).symm
 | true=>rfl
def Uc (S:List (Nat×O7))(f:Fr):Fr:=match S with
 | []=>f
 | (t,v)::S=>upd (Uc S f) t v
def Xd (f:Fr):List (Nat×O7)->Prop
 | []=>True
 | (t,v)::S=>f t=v/\Xd f S
theorem XQ {f:Fr}:∀{S:List (Nat×O7)},Xd f S->Uc S f=f
 | [],_=>rfl
 | (t,v)::S,h=>by
  funext s;simp only[Uc,XQ h.2];by_cases e:s=t
  ·subst e;rw[Ja];exact h.1.symm
  exact Ke _ _ e
def W (P:O9)(n:Nat)(c:Code)(Q:Exit->Fr->O6->Prop)(f:Fr)(w:O6):Prop :=
 ∀a,Rel n a f->c.wp P (λe G w'=>∃f',Rel n G f'/\(∀t,wrs c t=false->f' t=f t)/\Q e f' w') a w
def thn (K:Fr->O6->Prop)(Q:Exit->Fr->O6->Prop):Exit->Fr->O6->Prop
 | .normal,f,w=>K f w
 | e,f,w=>Q e f w
def blk (id:Nat)(Q:Exit->Fr->O6->Prop):Exit->Fr->O6->Prop
 | .exit i,f,w=>bif OW i id then Q .normal f w else Q (.exit i) f w
 | e,f,w=>Q e f w
section
variable {Q:Exit->Fr->O6->Prop}{f:Fr}
theorem W.S {c:Code}{Q':Exit->Fr->O6->Prop}(h:W P n c Q f w)(G:∀e f w,Q e f w->Q' e f w):W P n c Q' f w :=
 λa I=>wp_mono (h a I) λ_ _ _ ⟨J,h1,h2,O⟩=>⟨J,h1,h2,G _ _ _ O⟩
theorem W.keeps {c:Code}(h:W P n c Q f w):W P n c (λe G w'=>(∀t,wrs c t=false->G t=f t)/\Q e G w') f w :=
 λa I=>wp_mono (h a I) λ_ _ _ ⟨G,h1,h2,J⟩=>⟨G,h1,h2,h2,J⟩
theorem Qf (h:Q .normal f w):W P n .skip Q f w:=λ_ G=>wp_skip ⟨f,G,λ_ _=>Z,h⟩
theorem Qt (h:Q (.exit i) f w):W P n (.exit i) Q f w:=λ_ G=>wp_exit ⟨f,G,λ_ _=>Z,h⟩
theorem Qk (h:Q .ret f w):W P n .ret Q f w:=λ_ G=>wp_ret ⟨f,G,λ_ _=>Z,h⟩
theorem Qd {x y:Code}(h:W P n x (thn (λf w=>W P n y Q f w) Q) f w):W P n (.seq x y) Q f w:=by
 intro a J;refine wp_seq (wp_mono (h a J) ?_);rintro e O w' ⟨G,h1,h2,I⟩;have k1:∀t,wrs (.seq x y) t=false->G t=f t:=λt ht=>h2 t (by simp only[wrs,Oe]at ht;exact ht.1);cases e with
 | normal =>
  refine wp_mono (I O h1) λ_ _ _ ⟨U,g1,V,Y⟩=>⟨U,g1,λt ht=>(V t ?_).D (k1 t ht),Y⟩;simp only[wrs,Oe]at ht;exact ht.2
 | exit id=>exact⟨G,h1,k1,I⟩
 | goto l=>exact⟨G,h1,k1,I⟩
 | ret=>exact⟨G,h1,k1,I⟩
 | panic ch=>exact⟨G,h1,k1,I⟩
 | outgrown=>exact⟨G,h1,k1,I⟩
theorem QX {x y:Code}(D:xC)(S:α->List (Nat×O7))(I:α->O6->Prop)(hD:wr D x=true)
  (h1:W P n x (thn (λJ w'=>∃z,Xd J (S z)/\I z w') Q) f w)
  (h2:∀z g w',I z w'->W P n y Q (Uc (S z) (mix D f g)) w'):W P n (.seq x y) Q f w:=by
 refine Qd (h1.keeps.S ?_);rintro e J w' ⟨U,G⟩;cases e with
 | normal =>
  obtain⟨z,V,hi⟩:=G;have O:=h2 z J w' hi;rw[Vp (λt ht=>U t (Vd ht x hD)),XQ V]at O;exact O
 | exit id=>exact G
 | goto l=>exact G
 | ret=>exact G
 | panic ch=>exact G
 | outgrown=>exact G
theorem Q5 {c:O8}{x y:Code}{t:Bool}(hc:ev f c=.bool t)(ht:t=true->W P n x Q f w)(I:t=false->W P n y Q f w):
  W P n (.cond c x y) Q f w:=by
 intro a G;have J:a.eval c=.bool t:=by rw[G.eval];exact hc
 refine wp_cond_split J (λe=>wp_mono (ht e a G) ?_) (λe=>wp_mono (I e a G) ?_) <;>
  (rintro e V w' ⟨O,h1,h2,U⟩
   refine⟨O,h1,λt ht=>h2 t ?_,U⟩;simp only[wrs,Oe]at ht
   first|exact ht.1|exact ht.2)
theorem Zh {c:O8}{x y:Code}{p:Prop}[Decidable p](hc:ev f c=.bool (decide p))(ht:p->W P n x Q f w)(G:¬p->W P n y Q f w):
  W P n (.cond c x y) Q f w :=
 Q5 hc (λe=>ht (O3 e)) (λe=>G (O5 e))
theorem Zp {c:O8}{x y:Code}{p:Prop}[Decidable p](hc:ev f c=.bool (decide p))(G:¬p->W P n y Q f w)(ht:p->W P n x Q f w):
  W P n (.cond c x y) Q f w:=Zh hc ht G
theorem jI {c:O8}{x y:Code}(hc:ev f c=.bool true)(h:W P n x Q f w):W P n (.cond c x y) Q f w:=Q5 hc (λ_=>h) (λe=>by cases e)
theorem ZC {c:O8}{x y:Code}(hc:ev f c=.bool false)(h:W P n y Q f w):W P n (.cond c x y) Q f w:=Q5 hc (λe=>by cases e) (λ_=>h)
theorem Qn {c:Code}(h:W P n c (blk id Q) f w):W P n (.block id c) Q f w:=by
 intro a J;refine wp_block (wp_mono (h a J) ?_);rintro e O w' ⟨I,h1,h2,G⟩;have k1:∀t,wrs (.block id c) t=false->I t=f t:=λt ht=>h2 t (by simpa[wrs]using ht);cases e with
 | exit i =>
  simp only[Exit.inBlock];simp only[blk]at G;by_cases hi:i=id
  ·subst hi;simp only[Nat.beq_refl,cond_true]at G;simp only[if_true];exact⟨I,h1,k1,G⟩
  have hb:OW i id=false:=by
   cases e:OW i id with
   | false=>rfl
   | true=>exact O1 (Nat.eq_of_beq_eq_true e) hi
  rw[hb]at G;rw[OY hi];exact⟨I,h1,k1,G⟩
 | normal=>exact⟨I,h1,k1,G⟩
 | goto l=>exact⟨I,h1,k1,G⟩
 | ret=>exact⟨I,h1,k1,G⟩
 | panic ch=>exact⟨I,h1,k1,G⟩
 | outgrown=>exact⟨I,h1,k1,G⟩
theorem Qrm {c:Code}(D:xC)(S:α->List (Nat×O7))(I:α->O6->Prop)(m:α->Nat)(hD:wr D c=true)(z:α)
  (h0:Xd f (S z)) (hI:I z w)
  (round:∀x g w',I x w'->W P n c (thn (λJ Y=>∃U,m U<m x/\Xd J (S U)/\I U Y) Q) (Uc (S x) (mix D f g)) w'):W P n (.loop c) Q f w:=by
 intro a ha;refine wp_loop_ghost (λ(x:α) V w'=>∃J,Rel n V J/\(∀t,wrs c t=false->J t=f t)/\Xd J (S x)/\I x w') m z ⟨f,ha,λ_ _=>Z,h0,hI⟩ ?_;rintro x V w' ⟨J,h1,h2,h3,h4⟩;have h5:=round x J w' h4;rw[Vp (λt ht=>h2 t (Vd ht c hD)),XQ h3]at h5;refine wp_mono (h5 V h1) ?_;rintro e he Y ⟨G,g1,g2,O⟩;have k1:∀t,wrs c t=false->G t=f t:=λt ht=>(g2 t ht).D (h2 t ht);have k2:∀t,wrs (.loop c) t=false->G t=f t:=λt ht=>k1 t (by simpa[wrs]using ht);cases e with
 | normal=>obtain⟨U,hm,hs,hi⟩:=O;exact⟨U,hm,G,g1,k1,hs,hi⟩
 | exit id=>exact⟨G,g1,k2,O⟩
 | goto l=>exact⟨G,g1,k2,O⟩
 | ret=>exact⟨G,g1,k2,O⟩
 | panic ch=>exact⟨G,g1,k2,O⟩
 | outgrown=>exact⟨G,g1,k2,O⟩
 where
 wp_loop_ghost {α:Type} {P:O9} {c:Code} {Q:Exit->Act->O6->Prop} {a:Act} {w:O6} (J:α->Act->O6->Prop) (m:α->Nat) (z:α) (h₀:J z a w)
   (round:∀x a w,J x a w->c.wp P (Exit.then (λa' w'=>∃x',m x'<m x/\J x' a' w') Q) a w):(Code.loop c).wp P Q a w:=by
  intro b k cs
  have key:∀i x a w,m x=i->J x a w ->
    ∃e a' w',Q e a' w'/\Arrives P (lone (b.at a (.code c::.inLoop c::k)) cs w) b k cs e a' w':=by
   intro i
   induction i using Nat.strongRecOn with
   | _ i ih =>
    intro x a w hx hJ
    obtain⟨e,a₁,w₁,hq,harr⟩:=round x a w hJ b (.inLoop c::k) cs
    cases e with
    | normal =>
     obtain⟨x',hlt,hJ'⟩:=hq
     obtain⟨e₂,a₂,w₂,hq₂,harr₂⟩:=ih (m x') (hx ▸ hlt) x' a₁ w₁ rfl hJ'
     exact⟨e₂,a₂,w₂,hq₂,.of_steps (Steps.trans harr (.one step_inLoop)) harr₂⟩
    | exit id=>exact⟨_,a₁,w₁,hq,.pass (x:=.inLoop c) rfl (λ_ _=>.inl oe) harr⟩
    | goto l=>exact⟨_,a₁,w₁,hq,.pass (x:=.inLoop c) rfl (λ_ _=>.inl oe) harr⟩
    | ret=>exact⟨_,a₁,w₁,hq,.pass (x:=.inLoop c) rfl (λ_ _=>.inl oe) harr⟩
    | panic ch=>exact⟨_,a₁,w₁,hq,.pass (x:=.inLoop c) rfl (λ_ _=>.inl oe) harr⟩
    | outgrown=>exact⟨_,a₁,w₁,hq,.pass (x:=.inLoop c) rfl (λ_ _=>.inl oe) harr⟩
  obtain⟨e,a',w',hq,harr⟩:=key _ z a w rfl h₀
  exact⟨e,a',w',hq,.of_steps (.one step_loop) harr⟩
end
def upF (P:O9)(dst:xJ)(f:Fr)(K:Fr->O6->Prop):Result Next->Prop
 | .ok (.value v) w'=>K (QP f dst v) w'
 | .ok .skip w'=>K (QP f dst undef) w'
 | .ok (.enter g args) w'=>Calls P g args w' λe G=>match e with| .returned v=>K (QP f dst v) G|_=>False
 | _=>False
def XO (P:O9)(o:Oper)(f:Fr)(w:O6)(K:Fr->O6->Prop):Prop:=upF P o.dst f K ((execOp (ev f) o).run P w)
def Yb (ops:xI)(f:Fr)(o:Oper):Bool:=match o.guard with
 | none=>true
 | some (j,want)=>match (ops[j]?).bind (·.dst) with
  | some d=>(match f d with| .bool b=>bif want then b else !b|_=>false)
  | none=>false
def XL (P:O9)(ops:xI)(K:Fr->O6->Prop):xI->Fr->O6->Prop
 | [],f,w=>K f w
 | o::l,f,w=>bif Yb ops f o then XO P o f w (XL P ops K l) else XL P ops K l (QP f o.dst undef) w
theorem qo {l:xI}{a:Act}{f:Fr}(h:Rel n a f)(J:∀o∈l,∀d,o.dst=some d->d<n)(o:Oper):Region.wanted o (yielded l.toArray a.tmps)=Yb l f o:=by
 unfold Region.wanted Yb;cases o.guard with
 | none=>rfl
 | some p =>
  obtain⟨j,want⟩:=p;simp only[yielded,oT];cases O:(l[j]?) with
  | none=>simp
  | some o' =>
   cases hd:o'.dst with
   | none=>simp[hd]
   | some d =>
    have G:d<a.tmps.size:=by rw[h.size];exact J o' (Me O) d hd
    have I:=h.get d;simp only[Option.bind_some,hd,Array.getElem?_eq_getElem G];simp[G]at I;rw[I];cases f d <;> simp
    cases want <;> simp
theorem QpC {o:Oper}{a:Act}{f:Fr}{K:Fr->O6->Prop}{K':Act->O6->Prop}{Q:Exit->Act->O6->Prop}(h:Rel n a f)
  (hK:∀v w',K (QP f o.dst v) w'->K' (a.put o.dst v) w') (hx:XO P o f w K):o.wp P a w K' Q:=by
 unfold XO at hx;unfold Oper.wp;rw[h.eval];generalize (execOp (ev f) o).run P w=r at hx;cases r with
 | ok nx w' =>
  cases nx <;> simp only[upF]at hx <;> simp only[Oper.upon]
  case value v=>exact hK v w' hx
  case skip=>exact hK _ w' hx
  case enter g args =>
   refine Calls.mono hx λe I G=>?_;cases e with
   | returned v=>exact hK v I G
   | panicked c=>exact G.elim
   | outgrown=>exact G.elim
 | halt x w'=>exact hx.elim
theorem XO.S {P:O9}{o:Oper}{f:Fr}{w:O6}{K K':Fr->O6->Prop}(hK:∀v w',K (QP f o.dst v) w'->K' (QP f o.dst v) w')(hx:XO P o f w K):XO P o f w K':=by
 unfold XO at *;generalize (execOp (ev f) o).run P w=r at *;cases r with
 | ok nx w' =>
  cases nx <;> simp only[upF]at hx ⊢
  case value v=>exact hK v w' hx
  case skip=>exact hK _ w' hx
  case enter g args =>
   refine Calls.mono hx λe I G=>?_;cases e with
   | returned v=>exact hK v I G
   | panicked c=>exact G.elim
   | outgrown=>exact G.elim
 | halt x w'=>exact hx.elim
def XG (n:Nat)(l:xI):Bool:=l.all λo=>match o.dst with|some d=>Nat.blt d n|none=>true
theorem XY {l:xI}(h:XG n l=true):∀o∈l,∀d,o.dst=some d->d<n:=by
 intro o G d hd;have:=Mo.1 h o G;simp only[hd,Nat.blt_eq]at this;exact this
theorem JE {l:xI}{o:Oper}(G:o∈l)(h:Yq l t=false):o.dst≠some t:=by
 intro e;have:=List.any_eq_false.1 h o G;simp[e]at this
theorem Xe {f:Fr}{dst:xJ}(h:dst≠some t)(v:O7):QP f dst v t=f t:=by
 cases dst with
 | none=>rfl
 | some d=>exact Ke _ _ (λe=>h (by rw[e]))
section
variable {Q:Exit->Fr->O6->Prop}{f:Fr}
theorem QpD {all:xI}(I:∀o∈all,∀d,o.dst=some d->d<n)(f0:Fr):
  ∀(l:xI) (k:Nat) (a:Act) (f:Fr) (w:O6),(∀j,l[j]?=all[k+j]?)->Rel n a f->(∀t,Yq all t=false->f t=f0 t) ->
   XL P all (λf w=>Q .normal f w) l f w ->
   wpOps P all.toArray (λe Y w'=>∃f',Rel n Y f'/\(∀t,Yq all t=false->f' t=f0 t)/\Q e f' w') (oP k l.length) a w
 | [],_,a,f,w,_,G,J,h=>⟨f,G,J,h⟩
 | o::l,k,a,f,w,hl,G,J,h=>by
  have U:all[k]?=some o:=by simpa using(hl 0).symm
  have O:o∈all:=Me U;have ih:=λa f w=>QpD I f0 l (k+1) a f w (λj=>by have:=hl (j+1);simpa[Nat.add_assoc,Nat.add_comm 1 j]using this);have next:∀v,(∀t,Yq all t=false->QP f o.dst v t=f0 t):=λv t ht=>(Xe (JE O ht) v).D (J t ht);simp only[oS,OE,wpOps,oT,U];rw[qo G I o];simp only[XL]at h;cases V:Yb all f o with
  | false =>
   rw[V]at h;exact ih _ _ _ (G.put (I o O) _) (next _) h
  | true =>
   rw[V]at h;exact .inl (QpC G (λv w' hx=>ih _ _ _ (G.put (I o O) v) (next v) hx) h)
theorem Qei {l:xI}(G:XG n l=true)(h:XL P l (λf w=>Q .normal f w) l f w):W P n (.region id l.toArray false) Q f w:=by
 intro a I;refine wp_region ?_;have:=QpD (XY G) f l 0 a f w oe I (λ_ _=>rfl) h;simpa[List.range_eq_range',wrs]using this
end
def j5 (o:Oper):Bool:=match o.op with
 | .move _| .assign _| .pick .. | .alloc _| .box .. | .build .. | .buildSlice .. | .store .. | .nilCheck _| .binOp .. | .unOp .. | .makeFunc .. | .makeMap .. | .makeSlice .. | .fieldAddr .. | .field .. | .indexAddr .. | .index .. | .extract .. | .insert .. | .mapUpdate ..=>false
 | .slice ..=>false
 | .call ⟨.builtin .append,_,_⟩=>false
 | .call ⟨.builtin .min,_,_⟩=>false
 | .call ⟨.builtin .max,_,_⟩=>false
 | .call ⟨.builtin .len,_,_⟩=>false
 | .call ⟨.value _,_,_⟩=>false
 | _=>true
def Vu (all:xI)(j:Nat):Bool:=match all[j]? with
 | none=>false
 | some o=>(oM all.length).all λi=>match all[i]? with
  | none=>true
  | some oi=>!j5 oi || i == j || o.after.any λe=>Region.binds .any e && e.on == i
def XA (P:O9)(all:xI)(C:xF)(K:Fr->O6->Prop):Nat->Array Bool->Fr->O6->Prop
 | 0,ls,f,w=>Region.ready .any all.toArray ls=[]/\K f w
 | k+1,ls,f,w=>(Region.ready .any all.toArray ls=[]->K f w) /\
  ∀i∈Region.ready .any all.toArray ls,∀o,all[i]?=some o ->
   bif Yb all f o then XO P o f w (λG w'=>(Vu all i=true\/w'=w\/C w')/\XA P all C K k (ls.setIfInBounds i true) G w') else XA P all C K k (ls.setIfInBounds i true) (QP f o.dst undef) w
section
variable {f:Fr}{all:xI}{C:xF}{K:Fr->O6->Prop}
theorem Qhy {Q:Exit->Act->O6->Prop}(I:∀o∈all,∀d,o.dst=some d->d<n)(f0:Fr)
  (J:∀a f w,Rel n a f->(∀t,Yq all t=false->f t=f0 t)->K f w->Q .normal a w):
  ∀(k:Nat) (ls:Array Bool) (a:Act) (f:Fr) (w:O6),Rel n a f->(∀t,Yq all t=false->f t=f0 t)->XA P all C K k ls f w->wpAny P .any all.toArray Q k ls a w
 | 0,_,a,f,w,G,O,h=>⟨h.1,J a f w G O h.2⟩
 | k+1,ls,a,f,w,G,O,h=>by
  refine⟨λh0=>J a f w G O (h.1 h0),λi hi=>?_⟩;unfold wpOp;simp only[oT];cases U:all[i]? with
  | none =>
   exfalso;obtain⟨_,o,ha,_⟩:=mem_ready.1 hi;simp[U]at ha
  | some o =>
   have V:o∈all:=Me U;have h1:=h.2 i hi o U;have next:∀v,(∀t,Yq all t=false->QP f o.dst v t=f0 t):=λv t ht=>(Xe (JE V ht) v).D (O t ht);simp only[];rw[qo G I o];cases Y:Yb all f o with
   | false =>
    rw[Y]at h1;exact Qhy I f0 J k _ _ _ _ (G.put (I o V) _) (next _) h1
   | true =>
    rw[Y]at h1;exact .inl (QpC G (λv w' hx=>Qhy I f0 J k _ _ _ _ (G.put (I o V) v) (next v) hx.2) h1)
theorem qG (f:Fr){x y:xJ}(v u:O7)(h:∀d,x=some d->y≠some d):QP (QP f x v) y u=QP (QP f y u) x v:=by
 cases x with
 | none=>rfl
 | some d =>
  cases y with
  | none=>rfl
  | some e =>
   have G:d≠e:=λI=>h d Z (I ▸ Z);funext t;simp only[QP];by_cases h1:t=d
   ·subst h1;rw[Ke _ _ G,Ja,Ja]
   by_cases h2:t=e
   ·subst h2;rw[Ja,Ke _ _ h1,Ja]
   rw[Ke _ _ h2,Ke _ _ h1,Ke _ _ h1,Ke _ _ h2]
theorem QoH {f:Fr}{dst:xJ}{v:O7}{x:O8}(h:∀d,dst=some d->x≠.tmp d):ev (QP f dst v) x=ev f x:=by
 cases dst with
 | none=>rfl
 | some d =>
  cases x with
  | tmp t=>exact Ke _ _ (λe=>h d Z (by rw[e]))
  | _=>rfl
theorem J2 {o:Oper}(G:∀cs b,o.op≠.select cs b)(f:Fr)(dst:xJ)(v:O7)(h:∀d,dst=some d->d∉o.looksAt all.toArray):
  execOp (ev (QP f dst v)) o=execOp (ev f) o :=
 execOp_congr o G λx hx=>QoH λd hd I=>h d hd (by
  subst I;exact LG _ (MJ.2 ⟨.tmp d,ox hx,rfl⟩))
theorem U2 (o:Oper)(f:Fr)(dst:xJ)(v:O7)(h:∀d,dst=some d->d∉o.looksAt all.toArray):Yb all (QP f dst v) o=Yb all f o:=by
 unfold Yb;cases G:o.guard with
 | none=>rfl
 | some gw =>
  obtain⟨g,want⟩:=gw;simp only[];cases ht:(all[g]?).bind (·.dst) with
  | none=>rfl
  | some t =>
   have I:dst≠some t:=λe=>h t e (by simp[Oper.looksAt,G,ht]);simp only[];rw[Xe I]
def QhB (P:O9)(all:xI)(D:xF)(o:Oper)(v:O7)(f:Fr):Prop :=
 (Yb all f o=true/\∀w,D w->(execOp (ev f) o).run P w=.ok (.value v) w)\/(Yb all f o=false/\v=undef)
theorem Qob {oi oj:Oper}(hi:all[i]?=some oi)(G:all[j]?=some oj)(I:j5 oi=true)(J:j≠i)(hl:Vu all j=true)(O:∀e∈oj.after,Region.binds .any e=true->e.on≠i):False:=by
 simp only[Vu,G,Ou,List.mem_range]at hl;have U:i<all.length:=(Mm.1 hi).1;have h1:=hl i U;simp only[hi,I,Bool.not_true,Bool.false_or,Bool.or_eq_true,beq_iff_eq,Array.any_eq_true',oK]at h1;rcases h1 with h1|⟨e,V,hb,Y⟩
 ·exact J h1.symm
 exact O e V hb Y
theorem KJ {oi:Oper}{v:O7}{D:xF}(hi:all[i]?=some oi)(hD:∀w,(j5 oi=true->C w)->D w)(ha:∀(j:Nat) (o:Oper) cs b,all[j]?=some o->o.op≠.select cs b):
  ∀(fuel:Nat) (ls:Array Bool) (f:Fr) (w:O6),(j5 oi=true->C w) ->
   (∀j oj,all[j]?=some oj->j≠i->ls.getD j true=false->(∀e∈oj.after,Region.binds .any e=true->e.on≠i)->oi.apart all.toArray oj=true) ->
   i∈Region.ready .any all.toArray ls->QhB P all D oi v f ->
   XA P all C K fuel (ls.setIfInBounds i true) (QP f oi.dst v) w->XA P all C K (fuel+1) ls f w:=by
 have hf:∀(fuel:Nat) (ls:Array Bool) (f:Fr) (w:O6),(j5 oi=true->C w)->QhB P all D oi v f->XA P all C K fuel (ls.setIfInBounds i true) (QP f oi.dst v) w->∀o,all[i]?=some o ->
   bif Yb all f o then XO P o f w (λf' w'=>(Vu all i=true\/w'=w\/C w')/\XA P all C K fuel (ls.setIfInBounds i true) f' w') else XA P all C K fuel (ls.setIfInBounds i true) (QP f o.dst undef) w:=by
  intro fuel ls f w hC U H o ho;rw[hi]at ho;cases ho
  rcases U with⟨V,hv⟩|⟨V,rfl⟩
  ·rw[V];simp only[cond_true,XO,hv w (hD w hC),upF];exact⟨.inr (.inl La),H⟩
  rw[V];exact H
 intro fuel;induction fuel with
 | zero =>
  intro ls f w hC _ J U H;refine⟨λh=>(by rw[h]at J;cases J),λj hj=>?_⟩;by_cases I:j=i
  ·subst I;exact hf _ _ _ _ hC U H
  have:=ready_mono hj I;rw[H.1]at this;cases this
 | succ fuel ih =>
  intro ls f w hC hh J U H;refine⟨λh=>(by rw[h]at J;cases J),λj hj=>?_⟩;by_cases I:j=i
  ·subst I;exact hf _ _ _ _ hC U H
  intro oj Y;have h1:=H.2 j (ready_mono hj I) oj Y;obtain⟨hm,G,hn,hw⟩:=mem_ready.1 hj;have hz:G=oj:=by rw[Mr,Y]at hn;exact(Option.some.inj hn).symm
  subst hz;have hp:∀e∈G.after,Region.binds .any e=true->e.on≠i:=λe O hb h3=>by
   have h1:=hw e O hb;have h0:=(mem_ready.1 J).1;rw[h3]at h1;rcases OR i ls.size with h'|h'
   ·simp[h']at h0 h1;rw[h0]at h1;cases h1
   simp[Array.getElem?_eq_none h']at h1
  obtain⟨a1,a2,a3⟩:=Oper.apart_spec (hh j G Y I hm hp);have h4:∀k ok,all[k]?=some ok->k≠i->(ls.setIfInBounds j true).getD k true=false ->
    (∀e∈ok.after,Region.binds .any e=true->e.on≠i)->oi.apart all.toArray ok=true:=λk ok hk h5 hq h6=>by
   refine hh k ok hk h5 ?_ h6;by_cases hs:j=k
   ·subst hs;exact hm
   rw[getD_set_ne true hs]at hq;exact hq
  have keep:∀u,QhB P all D oi v (QP f G.dst u):=λu=>by
   unfold QhB at *;rw[U2 oi f G.dst u a3,J2 (all:=all) (ha i oi · · hi) f G.dst u a3];exact U
  have dOf:∀w',(Vu all j=true\/w'=w\/C w')->(j5 oi=true->C w'):=λw' hl hu=>by
   rcases hl with hl|rfl|hl
   ·exact(Qob hi Y hu I hl hp).elim
   ·exact hC hu
   exact hl
  have go:∀u w',(j5 oi=true->C w')->XA P all C K fuel ((ls.setIfInBounds i true).setIfInBounds j true) (QP (QP f oi.dst v) G.dst u) w' ->
    XA P all C K (fuel+1) (ls.setIfInBounds j true) (QP f G.dst u) w':=λu w' h7 hx=>by
   refine ih _ _ _ h7 h4 (ready_mono J (Ne.symm I)) (keep u) ?_;rw[Array.setIfInBounds_comm _ _ I,<-qG f v u a2];exact hx
  rw[U2 G f oi.dst v a1]at h1;cases V:Yb all f G with
  | false=>rw[V]at h1;exact go _ _ hC h1
  | true =>
   rw[V]at h1;simp only[cond_true]at h1 ⊢;unfold XO at *;rw[J2 (all:=all) (ha j G · · Y) f oi.dst v a1]at h1;generalize (execOp (ev f) G).run P w=r at *;cases r with
   | ok nx w' =>
    cases nx <;> simp only[upF]at h1 ⊢
    case value u=>exact⟨h1.1,go _ _ (dOf _ h1.1) h1.2⟩
    case skip=>exact⟨h1.1,go _ _ (dOf _ h1.1) h1.2⟩
    case enter g args =>
     refine Calls.mono h1 λe h8 O=>?_;cases e with
     | returned u=>exact⟨O.1,go _ _ (dOf _ O.1) O.2⟩
     | panicked c=>exact O.elim
     | outgrown=>exact O.elim
   | halt x w'=>exact h1.elim
def Xp (all:Array Oper):xA->Array Bool->Bool
 | [],ls=>(Region.ready .any all ls).isEmpty
 | (i,true)::pl,ls=>(Region.ready .any all ls).contains i && Region.free .any all ls i && Xp all pl (ls.setIfInBounds i true)
 | (i,false)::pl,ls=>Region.ready .any all ls == [i] && Xp all pl (ls.setIfInBounds i true)
def yB (all:xI)(pl:xA):Bool:=Region.noSelect all.toArray && pl.length == all.length && Xp all.toArray pl (oR all.length false)
def QR:xI->Nat->Oper
 | [],_=>default
 | o::_,0=>o
 | _::l,i+1=>QR l i
theorem ZF {l:xI}{o:Oper}(h:l[i]?=some o):QR l i=o:=by
 induction l generalizing i with
 | nil=>simp at h
 | cons a l ih=>cases i with
  | zero=>simp at h;subst h;rfl
  | succ i=>exact ih (ox h)
def XP (P:O9)(all:xI)(C:xF)(K:Fr->O6->Prop):xA->Fr->O6->Prop
 | [],f,w=>K f w
 | (i,q)::pl,f,w=>bif Yb all f (QR all i) then
    (bif q then ∃v,(∀w',(j5 (QR all i)=true->C w')->(execOp (ev f) (QR all i)).run P w'=.ok (.value v) w')/\XP P all C K pl (QP f (QR all i).dst v) w
     else XO P (QR all i) f w λG w'=>(Vu all i=true\/w'=w\/C w')/\XP P all C K pl G w')
   else XP P all C K pl (QP f (QR all i).dst undef) w
def Qee (all:xI)(ls:Array Bool):Prop:=∀i o,all[i]?=some o->j5 o=true->ls.getD i false=true
theorem Qee.set {ls:Array Bool}(h:Qee all ls)(i:Nat):Qee all (ls.setIfInBounds i true):=λj o G I=>getD_set_true (h j o G I)
theorem Yt (V:Region.noSelect all.toArray=true):∀(pl:xA) (ls:Array Bool) (f:Fr) (w:O6),ls.size=all.length->(C w\/Qee all ls)->Xp all.toArray pl ls=true->XP P all C K pl f w ->
  XA P all C K pl.length ls f w
 | [],ls,f,w,_,_,I,h=>⟨by simpa[Xp]using I,h⟩
 | (i,true)::pl,ls,f,w,Y,hC,I,h=>by
  simp only[Xp,oK]at I;obtain⟨⟨O,hf⟩,ha⟩:=I;simp only[XP]at h;have U:i∈Region.ready .any all.toArray ls:=by simpa using O
  cases G:all[i]? with
  | none =>
   exfalso;obtain⟨_,o,h6,_⟩:=mem_ready.1 U;simp[G]at h6
  | some o =>
   rw[ZF G]at h;have hu:∀(j:Nat) (o:Oper) cs b,all[j]?=some o->o.op≠.select cs b:=λj o cs b hj=>Region.noSelect_spec V j o cs b (ox hj);have hw:=λj oj hj=>Region.free_spec (ops:=all.toArray) (md:=.any) (i:=i) (oi:=o) (listed:=ls) (ox G) hf j oj (ox hj);have hy:=(mem_ready.1 U).1;have hz:j5 o=true->C w:=λhm=>hC.resolve_right (λhn=>by
    have h1:=hn i o G hm;have hq:i<ls.size:=by rw[Y];exact(Mm.1 G).1
    simp[hq]at hy h1;rw[hy]at h1;cases h1)
   have h3:C w\/Qee all (ls.setIfInBounds i true):=hC.imp id (λh=>h.set i);have hh:(ls.setIfInBounds i true).size=all.length:=by simpa using Y
   cases J:Yb all f o with
   | false =>
    rw[J]at h;exact KJ (v:=undef) (D:=λw=>j5 o=true->C w) G (λ_ h=>h) hu pl.length ls f w hz hw U (.inr ⟨J,Z⟩) (Yt V pl _ _ _ hh h3 ha h)
   | true =>
    rw[J]at h;simp only[cond_true]at h;obtain⟨v,hv,hx⟩:=h;exact KJ (v:=v) (D:=λw=>j5 o=true->C w) G (λ_ h=>h) hu pl.length ls f w hz hw U (.inl ⟨J,hv⟩) (Yt V pl _ _ _ hh h3 ha hx)
 | (i,false)::pl,ls,f,w,Y,hC,I,h=>by
  simp only[Xp,oK,beq_iff_eq]at I;obtain⟨O,ha⟩:=I;refine⟨λh0=>(by rw[h0]at O;cases O),?_⟩;have U:i∈Region.ready .any all.toArray ls:=by rw[O];simp
  rw[O];intro j hj o G;have:j=i:=by simpa using hj
  subst this;have hh:(ls.setIfInBounds j true).size=all.length:=by simpa using Y
  simp only[XP,ZF G]at h;cases J:Yb all f o with
  | false=>rw[J]at h;exact Yt V pl _ _ _ hh (hC.imp id (λh=>h.set j)) ha h
  | true =>
   rw[J]at h;simp only[cond_true,cond_false]at h ⊢;refine h.S λv w' hx=>⟨hx.1,Yt V pl _ _ _ hh ?_ ha hx.2⟩;rcases hx.1 with hl|rfl|hc
   ·right;intro k ok hk hm;by_cases h4:k=j
    ·subst h4;have hq:k<ls.size:=by rw[Y];exact(Mm.1 hk).1
     simp[hq]
    simp only[Vu,G,Ou,List.mem_range]at hl;have h1:=hl k (Mm.1 hk).1;simp only[hk,hm,Bool.not_true,Bool.false_or,Bool.or_eq_true,beq_iff_eq,Array.any_eq_true',oK]at h1;rcases h1 with h1|⟨e,he,hb,h7⟩
    ·exact O1 h1 h4
    obtain⟨_,o',h5,hn⟩:=mem_ready.1 U;have:o'=o:=by rw[Mr,G]at h5;exact(Option.some.inj h5).symm
    subst this;have:=hn e he hb;rw[h7]at this;exact getD_set_true this
   ·exact hC.imp id (λh=>h.set j)
   exact .inl hc
theorem Ur {Q:Exit->Fr->O6->Prop}(C:xF)(pl:xA)(J:P.follows .mixedOrders=true)(O:XG n all=true)(I:yB all pl=true)
  (hC:C { w with drawn:=w.drawn+1 }) (h:XP P all C (λf w=>Q .normal f w) pl f { w with drawn:=w.drawn+1 }):W P n (.region id all.toArray true) Q f w:=by
 intro a U;simp only[yB,oK,beq_iff_eq]at I;obtain⟨⟨V,hl⟩,I⟩:=I;refine wp_region_any J ?_;have h1:=Yt V pl _ _ _ oe (.inl hC) I h;rw[hl]at h1;have h2:=Qhy (n:=n) (Q:=λe Y w'=>∃G,Rel n Y G/\(∀t,Yq all t=false->G t=f t)/\Q e G w') (XY O) f
  (λa G w hr hk hq=>⟨G,hr,hk,hq⟩) _ _ a f _ U (λ_ _=>Z) h1
 simpa[wrs]using h2
theorem JO {Q:Exit->Fr->O6->Prop}(C:xF)(I:P.follows .mixedOrders=true)(J:XG n all=true)
  (h:XA P all C (λf w=>Q .normal f w) all.length (oR all.length false) f { w with drawn:=w.drawn+1 }):W P n (.region id all.toArray true) Q f w:=by
 intro a O;refine wp_region_any I ?_;have h2:=Qhy (n:=n) (Q:=λe U w'=>∃G,Rel n U G/\(∀t,Yq all t=false->G t=f t)/\Q e G w') (XY J) f
  (λa G w V Y hq=>⟨G,V,Y,hq⟩) _ _ a f _ O (λ_ _=>Z) h
 simpa[wrs]using h2
end
theorem J8 {all:xI}{C:xF}{K:Fr->O6->Prop}{k:Nat}{ls:Array Bool}{f:Fr}(G:Region.ready .any all.toArray ls=[]->K f w)
  (h:∀i∈Region.ready .any all.toArray ls,∀o,all[i]?=some o ->
   bif Yb all f o then XO P o f w (λI w'=>(Vu all i=true\/w'=w\/C w')/\XA P all C K k (ls.setIfInBounds i true) I w') else XA P all C K k (ls.setIfInBounds i true) (QP f o.dst undef) w):XA P all C K (k+1) ls f w:=⟨G,h⟩
attribute [irreducible] W XL XP XO XA
theorem sX {α:Type}{x:Option α}{f:α->Bool}(h:x.map f=some true):∃d,x=some d/\f d=true:=by cases x with |none=>cases h |some d=>exact⟨d,rfl,Option.some.inj h⟩
class Sl (P:O9)(t:Nat)(e sz bys:outParam Nat)(z:outParam O7):Prop where
 u:P.underlying t=some (.slice e):=by first|kernel_rfl|decide|rfl|exact sX (by kernel_rfl)
 i:(P.info? e).map (λi=>(i.zero,i.size,i.bytes))=some (some z,sz,bys):=by first|kernel_rfl|decide|rfl|exact sX (by kernel_rfl)
 zs:z.cells.size=sz:=by first|kernel_rfl|decide|rfl|exact sX (by kernel_rfl)
 pos:0<sz:=by first|kernel_rfl|decide|rfl|exact sX (by kernel_rfl)
def QsA (P:O9)(t j:Nat):xJ:=match P.underlying t with
 | some (.struct fs)=>match fs[j]? with
  | some fd=>match P.info? fd.type with
   | some i=>if i.size=0 then none else some fd.offset
   | none=>none
  | none=>none
 | _=>none
class Zb (P:O9)(t j:Nat)(off:outParam Nat):Prop where
 h:QsA P t j=some off:=by first|kernel_rfl|decide|rfl|exact sX (by kernel_rfl)
class X2 (P:O9)(t:Nat):Prop where
 u:∃d,P.underlying t=some d/\(match d with| .struct _| .array ..=>false|_=>true)=true:=by first|kernel_rfl|decide|rfl|exact sX (by kernel_rfl)
 i:(P.info? t).map (·.size)=some 1:=by first|kernel_rfl|decide|rfl|exact sX (by kernel_rfl)
class Ag (P:O9)(t:Nat)(sz:outParam Nat):Prop where
 u:∃d,P.underlying t=some d/\(match d with| .struct _| .array ..=>true|_=>false)=true:=by first|kernel_rfl|decide|rfl|exact sX (by kernel_rfl)
 i:(P.info? t).map (·.size)=some sz:=by first|kernel_rfl|decide|rfl|exact sX (by kernel_rfl)
class Ze (P:O9)(t:Nat)(z:outParam O7):Prop where
 i:(P.info? t).map (·.zero)=some (some z):=by first|kernel_rfl|decide|rfl|exact sX (by kernel_rfl)
class Fu (P:O9)(g:Nat)(fn:outParam Func):Prop where
 f:P.funcs[g]?=some fn
 b:fn.body.isNone=false
 nm:(fn.name == "runtime.NumGoroutine")=false
section
variable {K:Fr->O6->Prop}{f:Fr}
theorem xe (h:K f w):XL P ops K [] f w:=by simp only[XL];exact h
theorem xl {o:Oper}{l:xI}(G:Yb ops f o=true)(h:XO P o f w (XL P ops K l)):XL P ops K (o::l) f w:=by
 simp only[XL,G,cond_true];exact h
theorem xs {o:Oper}{l:xI}(G:Yb ops f o=false)(h:XL P ops K l (QP f o.dst undef) w):XL P ops K (o::l) f w:=by
 simp only[XL,G,cond_false];exact h
theorem xv {o:Oper}{v:O7}(G:(execOp (ev f) o).run P w=.ok (.value v) w')(h:K (QP f o.dst v) w'):XO P o f w K:=by
 simp only[XO,G,upF];exact h
theorem xk {o:Oper}(G:(execOp (ev f) o).run P w=.ok .skip w')(h:K (QP f o.dst undef) w'):XO P o f w K:=by
 simp only[XO,G,upF];exact h
theorem x {o:Oper}{l:xI}{v:O7}(G:(execOp (ev f) o).run P w=.ok (.value v) w)(h:XL P ops K l (QP f o.dst v) w)(I:Yb ops f o=true:=by rfl):XL P ops K (o::l) f w :=
 xl I (xv G h)
theorem xb {o:Oper}{l:xI}{q:Prop}[Decidable q](G:(execOp (ev f) o).run P w=.ok (.value (.bool (decide q))) w)(ht:q->XL P ops K l (QP f o.dst (.bool true)) w)(J:¬q->XL P ops K l (QP f o.dst (.bool false)) w)
  (I:Yb ops f o=true:=by rfl):XL P ops K (o::l) f w:=by
 by_cases h:q
 ·rw[O2 h]at G;exact x G (ht h) I
 rw[O4 h]at G;exact x G (J h) I
variable {C:xF}
theorem pe (h:K f w):XP P ops C K [] f w:=by simp only[XP];exact h
theorem pq {pl:xA}{v:O7}(G:∀w',C w'->(execOp (ev f) (QR ops i)).run P w'=.ok (.value v) w')(h:XP P ops C K pl (QP f (QR ops i).dst v) w)
  (hd:j5 (QR ops i)=true:=by rfl) (I:Yb ops f (QR ops i)=true:=by rfl):XP P ops C K ((i,true)::pl) f w:=by
 simp only[XP,I,cond_true];exact⟨v,λw' hc=>G w' (hc hd),h⟩
theorem p {pl:xA}{v:O7}(G:∀w',(execOp (ev f) (QR ops i)).run P w'=.ok (.value v) w')(h:XP P ops C K pl (QP f (QR ops i).dst v) w)
  (I:Yb ops f (QR ops i)=true:=by rfl):XP P ops C K ((i,true)::pl) f w:=by
 simp only[XP,I,cond_true];exact⟨v,λw' _=>G w',h⟩
theorem ps {q:Bool}{pl:xA}(h:XP P ops C K pl (QP f (QR ops i).dst undef) w)
  (G:Yb ops f (QR ops i)=false:=by rfl):XP P ops C K ((i,q)::pl) f w:=by
 simp only[XP,G,cond_false];exact h
theorem pb {pl:xA}{q:Prop}[Decidable q](G:∀w',(execOp (ev f) (QR ops i)).run P w'=.ok (.value (.bool (decide q))) w')(ht:q->XP P ops C K pl (QP f (QR ops i).dst (.bool true)) w)(J:¬q->XP P ops C K pl (QP f (QR ops i).dst (.bool false)) w)
  (I:Yb ops f (QR ops i)=true:=by rfl):XP P ops C K ((i,true)::pl) f w:=by
 by_cases h:q
 ·rw[O2 h]at G;exact p G (ht h) I
 rw[O4 h]at G;exact p G (J h) I
theorem pk {pl:xA}(h:XO P (QR ops i) f w λG w'=>C w'/\XP P ops C K pl G w')
  (I:Yb ops f (QR ops i)=true:=by rfl):XP P ops C K ((i,false)::pl) f w:=by
 simp only[XP,I,cond_true,cond_false];exact h.S λ_ _ hx=>⟨.inr (.inr hx.1),hx.2⟩
theorem pkl {pl:xA}(h:XO P (QR ops i) f w λG w'=>XP P ops C K pl G w')
  (hl:Vu ops i=true:=by rfl) (I:Yb ops f (QR ops i)=true:=by rfl):XP P ops C K ((i,false)::pl) f w:=by
 simp only[XP,I,cond_true,cond_false];exact h.S λ_ _ hx=>⟨.inl hl,hx⟩
end
section
variable {f:Fr}
theorem Vk {x:O8}:(execOp (ev f) ⟨d,.move x,ty,pS,af,gd⟩).run P w=.ok (.value (ev f x)) w:=by simp[execOp]
theorem Qe {x:O8}:(execOp (ev f) ⟨d,.assign x,ty,pS,af,gd⟩).run P w=.ok (.value (ev f x)) w:=by simp[execOp]
theorem Uf {c a b:O8}{t:Bool}(h:ev f c=.bool t):(execOp (ev f) ⟨d,.pick c a b,ty,pS,af,gd⟩).run P w=.ok (.value (bif t then ev f a else ev f b)) w:=by
 cases t <;> simp[execOp,h,asBool]
theorem Q2 {x:O8}{vs:LV}{v:O7}(h:ev f x=.tuple vs.toArray)(G:vs[j]?=some v):(execOp (ev f) ⟨d,.extract x j,ty,pS,af,gd⟩).run P w=.ok (.value v) w:=by
 simp[execOp,h,Instr.extract,G]
theorem QdG {op:BinOp}{t:TypeId}{x:O8}{k:IntKind}{a b:Int}:(eqGuard op t x y (.int k a) (.int k' b)).run P w=.ok () w:=by
 simp only[eqGuard];split <;> simp
theorem Kq {op:BinOp}{x:O8}{k:IntKind}{a b:Int}{v:O7}(hx:ev f x=.int k a)(I:ev f y=.int k' b)
  (h:(binOp op t (.int k a) (.int k' b)).run P w=.ok v w):(execOp (ev f) ⟨d,.binOp op t x y G,ty,pS,af,gd⟩).run P w=.ok (.value v) w:=by
 simp[execOp,hx,I,QdG,h]
def inK (k:IntKind)(n:Int):Prop:=match k with
 | .i64=>-9223372036854775808<=n/\n<=9223372036854775807
 | .u8=>0<=n/\n<=255
 | .u16=>0<=n/\n<=65535
 | .u32=>0<=n/\n<=4294967295
 | .u64=>0<=n/\n<=18446744073709551615
 | .i32=>-2147483648<=n/\n<=2147483647
 | _=>False
theorem X4 {k:IntKind}{n:Int}(h:inK k n):k.wrap n=n:=by
 cases k <;> simp only[inK]at h <;> simp only[IntKind.wrap,IntKind.bits,IntKind.signed] <;> first|exact h.elim|(simp;omega)
theorem Xy {x:O8}{k:IntKind}{a b:Int}(hx:ev f x=.int k a)(I:ev f y=.int k b)(h:inK k (a+b)):
  (execOp (ev f) ⟨d,.binOp .add t x y G,ty,pS,af,gd⟩).run P w=.ok (.value (.int k (a+b))) w:=Kq hx I (by simp[binOp,Op.intArith,X4 h])
theorem JH {x:O8}{k:IntKind}{a b:Int}(hx:ev f x=.int k a)(I:ev f y=.int k b)(h:inK k (a - b)):
  (execOp (ev f) ⟨d,.binOp .sub t x y G,ty,pS,af,gd⟩).run P w=.ok (.value (.int k (a - b))) w:=Kq hx I (by simp[binOp,Op.intArith,X4 h])
theorem Qgp {x:O8}{k:IntKind}{a b:Int}(hx:ev f x=.int k a)(I:ev f y=.int k b)(h:inK k (a*b)):
  (execOp (ev f) ⟨d,.binOp .mul t x y G,ty,pS,af,gd⟩).run P w=.ok (.value (.int k (a*b))) w:=Kq hx I (by simp[binOp,Op.intArith,X4 h])
theorem YF {x:O8}{k:IntKind}{a b:Int}(hx:ev f x=.int k a)(I:ev f y=.int k b):
  (execOp (ev f) ⟨d,.binOp .lss t x y G,ty,pS,af,gd⟩).run P w=.ok (.value (.bool (decide (a<b)))) w:=Kq hx I (by simp[binOp,Op.intCmp])
theorem Jl {x:O8}{k:IntKind}{a b:Int}(hx:ev f x=.int k a)(I:ev f y=.int k b):
  (execOp (ev f) ⟨d,.binOp .leq t x y G,ty,pS,af,gd⟩).run P w=.ok (.value (.bool (decide (a<=b)))) w:=Kq hx I (by simp[binOp,Op.intCmp])
theorem Ya {x:O8}{k:IntKind}{a b:Int}(hx:ev f x=.int k a)(I:ev f y=.int k b):
  (execOp (ev f) ⟨d,.binOp .gtr t x y G,ty,pS,af,gd⟩).run P w=.ok (.value (.bool (decide (b<a)))) w:=Kq hx I (by simp[binOp,Op.intCmp])
theorem Yn {x:O8}{k:IntKind}{a b:Int}(hx:ev f x=.int k a)(I:ev f y=.int k b):
  (execOp (ev f) ⟨d,.binOp .geq t x y G,ty,pS,af,gd⟩).run P w=.ok (.value (.bool (decide (b<=a)))) w:=Kq hx I (by simp[binOp,Op.intCmp])
theorem Zc {x:O8}{k:IntKind}{a b:Int}(hx:ev f x=.int k a)(I:ev f y=.int k b):
  (execOp (ev f) ⟨d,.binOp .eql t x y G,ty,pS,af,gd⟩).run P w=.ok (.value (.bool (decide (a=b)))) w :=
 Kq hx I (by simp[binOp,Op.intCmp];by_cases h:a=b <;> simp[h])
theorem J0 {x:O8}{k:IntKind}{a b:Int}(hx:ev f x=.int k a)(I:ev f y=.int k b):
  (execOp (ev f) ⟨d,.binOp .neq t x y G,ty,pS,af,gd⟩).run P w=.ok (.value (.bool (decide (¬a=b)))) w :=
 Kq hx I (by simp[binOp,Op.intCmp];by_cases h:a=b <;> simp[h])
theorem Zi {x:O8}{b:Bool}(hx:ev f x=.bool b):(execOp (ev f) ⟨d,.unOp .not t x,ty,pS,af,gd⟩).run P w=.ok (.value (.bool (!b))) w:=by
 simp[execOp,hx,Op.unary]
theorem Qaz {x:O8}{e bys:Nat}[h:Sl P t e sz bys z]{a:Option Addr}{c:Nat}(hx:ev f x=.slice a n c):
  (execOp (ev f) ⟨d,.call ⟨.builtin .len,#[x],#[t]⟩,ty,pS,af,gd⟩).run P w=.ok (.value (sS n)) w:=by
 simp[execOp,resolve,invoke,builtin,Builtin.len_,hx,run_underlying h.u,goInt]
theorem Sl.info {e bys:Nat}(h:Sl P t e sz bys z):∃i,P.info? e=some i/\i.zero=some z/\i.size=sz/\i.bytes=bys:=by
 have:=h.i;cases hi:P.info? e with
 | none=>simp[hi]at this
 | some i=>simp[hi]at this;exact⟨i,Z,this.1,this.2.1,this.2.2⟩
theorem X7 {x:O8}{e bys:Nat}[h:Sl P t e sz bys z]{a:Addr}{c:Nat}{k:IntKind}{i:Int}(hx:ev f x=.slice (some a) n c)(G:ev f y=.int k i)(I:0<=i)(h1:i<n):
  (execOp (ev f) ⟨d,.indexAddr t x y,ty,pS,af,gd⟩).run P w=.ok (.value (.pointer (some (a.add (i.toNat*sz))))) w:=by
 obtain⟨ii,hi,_,J,_⟩:=Sl.info h;simp[execOp,hx,G,Instr.indexAt,asIntOf,run_underlying h.u,I,h1,sizeOf,typeInfo,hi,J]
theorem QaP [h:X2 P t]:(isAgg t).run P w=.ok false w:=by
 obtain⟨d,G,hd⟩:=h.u;unfold isAgg;cases d <;> simp at hd <;> simp[run_underlying G]
theorem Qk3 [h:Ag P t sz]:(isAgg t).run P w=.ok true w:=by
 obtain⟨d,G,hd⟩:=h.u;unfold isAgg;cases d <;> simp at hd <;> simp[run_underlying G]
theorem Xn [h:X2 P t]{a:Addr}{v:O7}(hc:w.cell? a=some v):(loadVar t a).run P w=.ok v w:=by
 simp[loadVar,QaP,hc]
theorem yn [h:X2 P t]:(sizeOf t).run P w=.ok 1 w:=by
 have:=h.i;cases hi:P.info? t with
 | none=>simp[hi]at this
 | some i=>simp[hi]at this;simp[sizeOf,typeInfo,hi,this]
theorem qy [h:Ag P t sz]:(sizeOf t).run P w=.ok sz w:=by
 have:=h.i;cases hi:P.info? t with
 | none=>simp[hi]at this
 | some i=>simp[hi]at this;simp[sizeOf,typeInfo,hi,this]
theorem JZ {a:Addr}:∀(vs:LV) (i:Nat) (acc:Array O7),(∀j v,vs[j]?=some v->w.cell? (a.add (i+j))=some v)->(loadCellsFrom a i vs.length acc).run P w=.ok (acc++vs.toArray) w
 | [],_,acc,_=>by simp[loadCellsFrom]
 | v::vs,i,acc,h=>by
  have G:=h 0 v Z;simp only[OC]at G;simp[loadCellsFrom,G,(JZ vs (i+1) (acc.push v) (λj u I=>by have:=h (j+1) u (ox I);simpa[Nat.add_assoc,Nat.add_comm 1 j]using this))]
theorem Yc [h:Ag P t sz]{a:Addr}{vs:LV}(hl:vs.length=sz)(hc:∀j v,vs[j]?=some v->w.cell? (a.add j)=some v):(loadVar t a).run P w=.ok (sT vs) w:=by
 have:=JZ (P:=P) (w:=w) (a:=a) vs 0 #[] (ox hc);subst hl;simp[loadVar,Qk3,qy (sz:=vs.length),loadCells,this]
theorem QjN [h:X2 P t]{x:O8}{a:Addr}{v:O7}(hx:ev f x=.pointer (some a))(hc:w.cell? a=some v):
  (execOp (ev f) ⟨d,.load t x,ty,pS,af,gd⟩).run P w=.ok (.value v) w:=by
 simp[execOp,hx,Instr.loadAt,Instr.sureAddr,Xn hc]
theorem zR [h:Ag P t sz]{x:O8}{a:Addr}{vs:LV}(hx:ev f x=.pointer (some a))(hl:vs.length=sz)(hc:∀j v,vs[j]?=some v->w.cell? (a.add j)=some v):
  (execOp (ev f) ⟨d,.load t x,ty,pS,af,gd⟩).run P w=.ok (.value (sT vs)) w:=by
 simp[execOp,hx,Instr.loadAt,Instr.sureAddr,Yc hl hc]
theorem ZB [h:Zb P t j off]{x:O8}{a:Addr}(hx:ev f x=.pointer (some a)):
  (execOp (ev f) ⟨d,.fieldAddr t x j,ty,pS,af,gd⟩).run P w=.ok (.value (.pointer (some (a.add off)))) w:=by
 have G:=h.h;unfold QsA at G;cases J:P.underlying t with
 | none=>simp[J]at G
 | some dd =>
  cases dd <;> simp[J]at G
  rename_i fs;cases I:fs[j]? with
  | none=>simp[I]at G
  | some fd =>
   cases hi:P.info? fd.type with
   | none=>simp[I,hi]at G
   | some i =>
    simp[I,hi]at G;simp[execOp,hx,Instr.fieldAt,run_underlying J,I,Instr.sureAddr,fieldPlace,sizeOf,typeInfo,hi,G]
theorem Ug {x:O8}{a:Addr}(hx:ev f x=.pointer (some a)):(execOp (ev f) ⟨d,.nilCheck x,ty,pS,af,gd⟩).run P w=.ok (.value (.pointer (some a))) w:=by
 simp[execOp,hx]
theorem Zl {fn:Fn}{l l':List O8}:(execOp (ev f) ⟨d,.makeFunc fn l.toArray l'.toArray,ty,pS,af,gd⟩).run P w=.ok (.value (.func fn (l.map (ev f)).toArray (l'.map (ev f)).toArray)) w:=by
 simp[execOp,Instr.makeFunc]
end
def QT (P:O9)(g:Nat)(args:LV)(w:O6)(R:O7->O6->Prop):Prop :=
 Calls P g args.toArray w λe w'=>match e with| .returned v=>R v w'|_=>False
theorem QT.S {P:O9}{g:Nat}{args:LV}{w:O6}{R R':O7->O6->Prop}(h:QT P g args w R)(I:∀v w',R v w'->R' v w'):QT P g args w R' :=
 Calls.mono h λe w' G=>by cases e <;> first|exact I _ _ G|exact G
theorem xc {f:Fr}{K:Fr->O6->Prop}{x:O8}{l:List O8}
    {first capt:LV} [hF:Fu P g fn] (hx:ev f x=.func (.func g) first.toArray capt.toArray) (h:QT P g (first++l.map (ev f)++capt) w λv w'=>K (QP f d v) w'):
  XO P ⟨d,.call ⟨.value x,l.toArray,at_⟩,ty,pS,af,gd⟩ f w K:=by
 have G:(execOp (ev f) ⟨d,.call ⟨.value x,l.toArray,at_⟩,ty,pS,af,gd⟩).run P w=.ok (.enter g (first++l.map (ev f)++capt).toArray) w:=by
  have h1:¬fn.name = "runtime.NumGoroutine" := by simpa using hF.nm
  have h2:¬fn.body=none:=by have:=hF.b;intro e;rw[e]at this;cases this
  simp[execOp,resolve,hx,Deferred.ofValue,invoke,callFunc,hF.f,h1,h2]
 simp only[XO,G,upF];exact h
theorem xf {f:Fr}{K:Fr->O6->Prop}{l:List O8}
    [hF:Fu P g fn] (h:QT P g (l.map (ev f)) w λv w'=>K (QP f d v) w'):
  XO P ⟨d,.call ⟨.value (.func g),l.toArray,at_⟩,ty,pS,af,gd⟩ f w K :=
 xc (first:=[]) (capt:=[]) (g:=g) (fn:=fn) Z (ox h)
def ent:LV->Fr
 | [],_=>undef
 | v::_,0=>v
 | _::l,t+1=>ent l t
def qk (P:O9)(f:Fr)(w:O6):List ResultVar->LV->Prop
 | [],[]=>True
 | .tmp t::rs,v::vs=>f t=v/\qk P f w rs vs
 | .cell a t::rs,v::vs=>(∃ad,f a=.pointer (some ad)/\(loadVar t ad).run P w=.ok v w)/\qk P f w rs vs
 | _,_=>False
def tup:LV->O7
 | [v]=>v
 | vs=>.tuple vs.toArray
def rq (P:O9)(rs:List ResultVar)(R:O7->O6->Prop):Exit->Fr->O6->Prop
 | .ret,f,w=>∃vs,qk P f w rs vs/\R (tup vs) w
 | .normal,f,w=>∃vs,qk P f w rs vs/\R (tup vs) w
 | _,_,_=>False
theorem JY {P:O9}{n:Nat}{a:Act}{f:Fr}{w:O6}(I:Rel n a f)(g:ResultVar->Sem O7)(g1:∀t,g (.tmp t)=pure (a.tmps.getD t undef))
  (J:∀ad t,g (.cell ad t)=(do loadVar t (<-asAddr (a.tmps.getD ad undef)))):∀(rs:List ResultVar) (vs:LV),qk P f w rs vs->(rs.mapM g).run P w=.ok vs w
 | [],[],_=>oe
 | [],_::_,h=>h.elim
 | .tmp t::rs,[],h=>h.elim
 | .cell _ _::rs,[],h=>h.elim
 | .tmp t::rs,v::vs,h=>by
  have ih:=JY I g g1 J rs vs h.2;have G:=I.get t;rw[h.1]at G;simp only[List.mapM_cons,Sem.run_bind,Sem.run_pure,Result.andThen_ok,ih,G,g1]
 | .cell ad t::rs,v::vs,h=>by
  have ih:=JY I g g1 J rs vs h.2;obtain⟨⟨O,h1,h2⟩,_⟩:=h;have G:=I.get ad;rw[h1]at G;have U:(asAddr (.pointer (some O))).run P w=.ok O w:=rfl;simp only[List.mapM_cons,Sem.run_bind,J,G,U,Sem.run_pure,Result.andThen_ok,h2,ih]
theorem QT.of_W {c:Code}{args:LV}{R:O7->O6->Prop}{rs:List ResultVar}
  (J:P.funcs[g]?=some fn) (hb:fn.body=some c) (O:fn.ntmps=n) (U:fn.results=rs.toArray) (hl:args.length<=n)
  (h:W P n c (rq P rs R) (ent args) w):QT P g args w R:=by
 unfold W at h;refine calls_of_wp J hb (wp_mono (h _ ?_) ?_)
 ·refine⟨by simp[O];omega,Z,λt=>?_⟩;have key:∀(l:LV) (t:Nat),l[t]?.getD undef=ent l t:=by
   intro l;induction l with
   | nil=>intro t;rfl
   | cons v l ih=>intro t;cases t with|zero=>rfl|succ t=>simpa[ent]using ih t
  rw[<-key];simp only[Array.getD_eq_getD_getElem?,Array.getElem?_append,Ok,oT];by_cases ht:t<args.length
  ·simp[ht]
  simp[ht,Array.getElem?_replicate];split <;> rfl
 rintro e I w' ⟨V,h1,_,G⟩;have fin:(∃vs,qk P V w' rs vs/\R (tup vs) w')->I.defers=[]/\∃v,(results fn I.tmps).run P w'=.ok v w'/\R v w':=by
  rintro⟨vs,Y,hR⟩;refine⟨h1.defers,tup vs,?_,hR⟩;simp only[results,U,List.mapM_toArray,Sem.run_bind,Sem.run_map];rw[JY h1 _ (λ_=>rfl) (λ_ _=>rfl) rs vs Y];cases vs with
  | nil=>rfl
  | cons v vs=>cases vs with|nil=>rfl|cons u us=>rfl
 cases e with
 | normal=>exact fin G
 | ret=>exact fin G
 | exit id=>exact G.elim
 | goto l=>exact G.elim
 | panic c=>exact G.elim
 | outgrown=>exact G.elim
attribute [irreducible] QT
theorem Ji (f:P.funcs[g]?=some fn)(b:fn.body.isNone=false:=by kernel_rfl)(nm:(fn.name == "runtime.NumGoroutine")=false:=by kernel_rfl):Fu P g fn:=⟨f,b,nm⟩
theorem Qc {f:Fr}{Q:Exit->Fr->O6->Prop}{l:xI}{y:Code}(h:XL P l (λf w=>thn (λf w=>W P n y Q f w) Q .normal f w) l f w)(G:XG n l=true:=by rfl):W P n (.seq (.region id l.toArray false) y) Q f w:=Qd (Qei G h)
theorem Qr {f:Fr}{Q:Exit->Fr->O6->Prop}{l:xI}(h:XL P l (λf w=>Q .normal f w) l f w)(G:XG n l=true:=by rfl):W P n (.region id l.toArray false) Q f w:=Qei G h
section
variable {K:Fr->O6->Prop}{f:Fr}{l:xI}
theorem Qa (h:XL P ops K l (QP f d (ev f y)) w)(G:Yb ops f ⟨d,.move y,ty,pS,af,gd⟩=true:=by rfl):XL P ops K (⟨d,.move y,ty,pS,af,gd⟩::l) f w:=x Vk h G
theorem QC {J:Nat}{G I:O8}{k:IntKind}{a b:Int}(hx:ev f G=.int k a)(O:ev f I=.int k b)(h:XL P ops K l (QP f d (.int k (a+b))) w)(U:inK k (a+b):=by exact⟨oa,oa⟩)
  (V:Yb ops f ⟨d,.binOp .add t G I J,ty,pS,af,gd⟩=true:=by rfl):XL P ops K (⟨d,.binOp .add t G I J,ty,pS,af,gd⟩::l) f w:=x (Xy hx O U) h V
theorem Qb (h:K (QP f d (ev f y)) w)(G:Yb ops f ⟨d,.assign y,ty,pS,af,gd⟩=true:=by rfl):XL P ops K [⟨d,.assign y,ty,pS,af,gd⟩] f w:=x Qe (xe h) G
end
section
variable {C:xF}{K:Fr->O6->Prop}{f:Fr}{l:xI}
theorem Qo {o:Oper}(h:XO P o f w (XL P ops K l))(G:Yb ops f o=true:=by rfl):XL P ops K (o::l) f w:=xl G h
theorem Kd {o:Oper}(h:XL P ops K l (QP f o.dst undef) w)(G:Yb ops f o=false:=by rfl):XL P ops K (o::l) f w:=xs G h
theorem QS {G:O8}{vs:LV}{v:O7}(h1:ev f G=.tuple vs.toArray)(h2:vs[j]?=some v)(h:XL P ops K l (QP f d v) w)(I:Yb ops f ⟨d,.extract G j,ty,pS,af,gd⟩=true:=by rfl):XL P ops K (⟨d,.extract G j,ty,pS,af,gd⟩::l) f w:=x (Q2 h1 h2) h I
theorem QB {c a b:O8}{t:Bool}(h1:ev f c=.bool t)(h:XL P ops K l (QP f d (bif t then ev f a else ev f b)) w)(G:Yb ops f ⟨d,.pick c a b,ty,pS,af,gd⟩=true:=by rfl):XL P ops K (⟨d,.pick c a b,ty,pS,af,gd⟩::l) f w:=x (Uf h1) h G
theorem ZS {J:Nat}{G I:O8}{k:IntKind}{a b:Int}(hx:ev f G=.int k a)(O:ev f I=.int k b)(h:XL P ops K l (QP f d (.bool (decide (¬a=b)))) w)(U:Yb ops f ⟨d,.binOp .neq t G I J,ty,pS,af,gd⟩=true:=by rfl):XL P ops K (⟨d,.binOp .neq t G I J,ty,pS,af,gd⟩::l) f w:=x (J0 hx O) h U
theorem ZT {J:Nat}{G I:O8}{k:IntKind}{a b:Int}(hx:ev f G=.int k a)(O:ev f I=.int k b)(h:XL P ops K l (QP f d (.bool (decide (a<b)))) w)(U:Yb ops f ⟨d,.binOp .lss t G I J,ty,pS,af,gd⟩=true:=by rfl):XL P ops K (⟨d,.binOp .lss t G I J,ty,pS,af,gd⟩::l) f w:=x (YF hx O) h U
theorem Z8 {G:O8}{a:Addr}(hx:ev f G=.pointer (some a))(h:XL P ops K l (QP f d (.pointer (some a))) w)(I:Yb ops f ⟨d,.nilCheck G,ty,pS,af,gd⟩=true:=by rfl):XL P ops K (⟨d,.nilCheck G,ty,pS,af,gd⟩::l) f w:=x (Ug hx) h I
theorem Zn {c:Code}{args:LV}{R:O7->O6->Prop}{rs:List ResultVar}(G:P.funcs[g]?=some fn)(h:W P n c (rq P rs R) (ent args) w)(hb:fn.body=some c:=by rfl)(I:fn.ntmps=n:=by rfl)(J:fn.results=rs.toArray:=by rfl)(hl:Nat.ble args.length n=true:=by rfl):QT P g args w R:=QT.of_W G hb I J (Mc hl) h
def Xj:Nat->Nat->LN->List (Nat×Bool)
 | _,0,_=>[]
 | i,n+1,fs=>(i,!fs.contains i)::Xj (i+1) n fs
def fuB (P:O9)(g:Nat):Bool:=match P.funcs[g]? with|some fn=>!fn.body.isNone && !(fn.name == "runtime.NumGoroutine")|none=>false
theorem fuE (h:fuB P g=true):∃fn,Fu P g fn:=by
 unfold fuB at h;split at h
 ·next fn G=>simp only[oK,Ol]at h;exact⟨fn,G,h.1,h.2⟩
 cases h
theorem xg {f:Fr}{K:Fr->O6->Prop}{l:List O8}(h:QT P g (l.map (ev f)) w λv w'=>K (QP f d v) w')(G:fuB P g=true:=by kernel_rfl):XO P ⟨d,.call ⟨.value (.func g),l.toArray,at_⟩,ty,pS,af,gd⟩ f w K:=(fuE G).elim λ_ _=>xf h
theorem Qw {l':List O8}(h:QT P g (l'.map (ev f)) w λv w'=>XL P ops K l (QP f d v) w')(G:fuB P g=true:=by kernel_rfl)(I:Yb ops f ⟨d,.call ⟨.value (.func g),l'.toArray,at_⟩,ty,pS,af,gd⟩=true:=by rfl):XL P ops K (⟨d,.call ⟨.value (.func g),l'.toArray,at_⟩,ty,pS,af,gd⟩::l) f w:=xl I (xg h G)
theorem Vc {l':List O8}[Fu P g fn](h:QT P g (l'.map (ev f)) w λv w'=>XL P ops K l (QP f d v) w')(G:Yb ops f ⟨d,.call ⟨.value (.func g),l'.toArray,at_⟩,ty,pS,af,gd⟩=true:=by rfl):XL P ops K (⟨d,.call ⟨.value (.func g),l'.toArray,at_⟩,ty,pS,af,gd⟩::l) f w:=xl G (xf h)
theorem Qx {G:O8}:∀w',(execOp (ev f) ⟨d,.move G,ty,pS,af,gd⟩).run P w'=.ok (.value (ev f G)) w':=λ_=>Vk
theorem ZH {G:O8}:∀w',(execOp (ev f) ⟨d,.assign G,ty,pS,af,gd⟩).run P w'=.ok (.value (ev f G)) w':=λ_=>Qe
theorem YS {c a b:O8}{t:Bool}(h:ev f c=.bool t):∀w',(execOp (ev f) ⟨d,.pick c a b,ty,pS,af,gd⟩).run P w'=.ok (.value (bif t then ev f a else ev f b)) w':=λ_=>Uf h
theorem YT {G:O8}{a:Addr}(hx:ev f G=.pointer (some a)):∀w',(execOp (ev f) ⟨d,.nilCheck G,ty,pS,af,gd⟩).run P w'=.ok (.value (.pointer (some a))) w':=λ_=>Ug hx
theorem Ql {Q:Exit->Fr->O6->Prop}{c:Code}(h:XL P (⟨d,.move y,ty,pS,af,gd⟩::l) (λf w=>thn (λf w=>W P n c Q f w) Q .normal f w) l (QP f d (ev f y)) w)(G:Yb (⟨d,.move y,ty,pS,af,gd⟩::l) f ⟨d,.move y,ty,pS,af,gd⟩=true:=by rfl)(I:XG n (⟨d,.move y,ty,pS,af,gd⟩::l)=true:=by rfl):W P n (.seq (.region id (⟨d,.move y,ty,pS,af,gd⟩::l).toArray false) c) Q f w:=Qc (Qa h G) I
theorem Zk {Q:Exit->Fr->O6->Prop}{J:Nat}{G I:O8}{k:IntKind}{a b:Int}{O U c3:Code}(hx:ev f G=.int k a)(V:ev f I=.int k b)(h1:¬a<b->W P n U (thn (λf w=>W P n c3 Q f w) Q) (QP f (some j) (.bool (decide (a<b)))) w)(h2:a<b->W P n O (thn (λf w=>W P n c3 Q f w) Q) (QP f (some j) (.bool (decide (a<b)))) w)(Y:Yb [⟨some j,.binOp .lss t G I J,ty,pS,af,gd⟩] f ⟨some j,.binOp .lss t G I J,ty,pS,af,gd⟩=true:=by rfl)(hn:XG n [⟨some j,.binOp .lss t G I J,ty,pS,af,gd⟩]=true:=by rfl):W P n (.seq (.region id #[⟨some j,.binOp .lss t G I J,ty,pS,af,gd⟩] false) (.seq (.cond (.tmp j) O U) c3)) Q f w:=Qc (ZT hx V (xe (Qd (Zp (by simp[ev,QP,upd]) h1 h2))) Y) hn
theorem YN {o o2:Oper}(h:XL P ops K l (QP (QP f o.dst undef) o2.dst undef) w)(G:Yb ops (QP f o.dst undef) o2=false:=by rfl)(I:Yb ops f o=false:=by rfl):XL P ops K (o::o2::l) f w:=Kd (Kd h G) I
theorem Zs {o o2 o3:Oper}(h:XL P ops K l (QP (QP (QP f o.dst undef) o2.dst undef) o3.dst undef) w)(G:Yb ops (QP (QP f o.dst undef) o2.dst undef) o3=false:=by rfl)(I:Yb ops (QP f o.dst undef) o2=false:=by rfl)(J:Yb ops f o=false:=by rfl):XL P ops K (o::o2::o3::l) f w:=Kd (YN h G I) J
theorem pkk {pl:xA}(h:XO P (QR ops i) f w λG w'=>XP P ops C K pl G w')(hl:Vu ops i=true:=by kernel_rfl)(I:Yb ops f (QR ops i)=true:=by rfl):XP P ops C K ((i,false)::pl) f w:=pkl h hl I
theorem QY {Q:Exit->Fr->O6->Prop}{c:Code}(D:xC)(S:α->List (Nat×O7))(I:α->O6->Prop)(m:α->Nat)(z:α)(G:Xd f (S z))(hI:I z w)(round:∀x g w',I x w'->W P n c (thn (λJ O=>∃x',m x'<m x/\Xd J (S x')/\I x' O) (blk id Q)) (Uc (S x) (mix D f g)) w')(hD:wr D c=true:=by rfl):W P n (.block id (.loop c)) Q f w:=Qn (Qrm D S I m hD z G hI round)
end
structure xd (L:LN)(w w':O6):Prop where
 os:w'.os=w.os
 tape:w'.tape=w.tape
 output:w'.output=w.output
 size:w.heap.size<=↑w'
 block:∀k,k<↑w->k∉L->w'.heap[k]?=w.heap[k]?
abbrev sW (w w':World):Prop:=xd [] w w'
theorem xd.C (L:LN)(w:O6):xd L w w:=⟨rfl,rfl,rfl,Lr _,λ_ _ _=>rfl⟩
theorem xd.Y (L:LN)(w:O6):xd L w { w with drawn:=w.drawn+1 }:=⟨rfl,rfl,rfl,Lr _,λ_ _ _=>rfl⟩
theorem xd.S {L L':LN}(h:xd L w w')(G:∀b∈L,b∈L'):xd L' w w' :=
 ⟨h.os,h.tape,h.output,h.size,λk I J=>h.block k I (λO=>J (G k O))⟩
theorem xd.any {L:LN}(h:sW w w'):xd L w w':=h.S (λ_ hb=>by cases hb)
theorem xd.Z {L L':LN}{G:O6}(h:xd L G w)(k:xd L' w w')(J:∀b∈L',b∈L\/↑G<=b):xd L G w' :=
 ⟨k.os.D h.os,k.tape.D h.tape,k.output.D h.output,LA h.size k.size,λi hi I =>
  (k.block i (LX hi h.size) (λO=>by rcases J i O with h1|h1;exact I h1;omega)).D (h.block i hi I)⟩
theorem xd.D {L:LN}{G:O6}(h:xd L G w)(k:sW w w'):xd L G w':=h.Z k (λ_ hb=>by cases hb)
theorem xd.Q {L:LN}{G:O6}(h:xd L G w)(k:xd L w w'):xd L G w':=h.Z k (λ_ hb=>.inl hb)
theorem xd.below (h:sW w w'):Below ↑w w w':=⟨h.os,h.tape,h.output,h.size,λk G=>h.block k G oe⟩
theorem xd.of_below (h:Below ↑w w w'):sW w w':=⟨h.os,h.tape,h.output,h.size,λk G _=>h.block k G⟩
theorem xd.of_grown {row:xJ}(h:w.grownBy w' row):xd row.toList w w' :=
 ⟨h.os,h.tape,h.output,h.size,λk G I=>h.block k G (λe=>I (by simp[<-e]))⟩
theorem Qco (w:O6)(o:Obj)(k:Nat)(h:k<↑w):(w.alloc o).heap[k]?=w.heap[k]?:=by
 show(w.heap.push o)[k]?=_;rw[Array.getElem?_push,OY oa]
theorem VB (w:O6)(o:Obj):(w.alloc o).heap[w.heap.size]?=some o:=by
 show(w.heap.push o)[w.heap.size]?=_;simp
theorem yc (w:O6)(o:Obj):(w.alloc o).heap.size=w.heap.size+1:=by show(w.heap.push o).size=_;simp
theorem xd.alloc (w:O6)(o:Obj):sW w (w.alloc o):=⟨rfl,rfl,rfl,by rw[yc];omega,λk G _=>Qco w o k G⟩
theorem xd.setRow (w:O6)(g:Nat)(cs:Array O7):xd [g] w (w.setRow g cs):=
 ⟨rfl,rfl,rfl,by simp[World.setRow],λk _ G=>setRow_other w g k cs (λe=>G (by simp[e]))⟩
def cel (H:xG)(a:Addr):Option O7:=match H[a.block]? with
 | some (.cells c _ _)=>if a.spot.isSome then none else c[a.off]?
 | _=>none
theorem KG (w:O6)(a:Addr):w.cell? a=cel ↑w a:=rfl
structure At (L:LN)(H:xG)(a:Addr)(us:LV):Prop where
 out:∀u∈us,a.block∉L
 lt:∀u∈us,a.block<H.size
 cell:∀j u,us[j]?=some u->cel H (a.add j)=some u
theorem YJ (a:Addr)(j:Nat):(a.add j).block=a.block:=by unfold Addr.add;split <;> rfl
theorem Ql9 {L:LN}(h:xd L w w'){a:Addr}(G:a.block∉L)(hl:a.block<↑w):cel ↑w' a=cel ↑w a:=by
 unfold cel;rw[h.block _ hl G]
theorem At.J {L X:LN}{a:Addr}{us:LV}(h:At L ↑w a us)(I:xd X w w')(hX:∀b∈X,b∈L):At L ↑w' a us :=
 ⟨h.out,λu G=>LX (h.lt u G) I.size,λj u G=>by
  have J:=Me G;rw[Ql9 (L:=X) I (by rw[YJ];exact λhx=>h.out u J (hX _ hx)) (by rw[YJ];exact h.lt u J)];exact h.cell j u G⟩
theorem At.I {L:LN}{a:Addr}{us:LV}(h:At L ↑w a us)(G:sW w w'):At L ↑w' a us:=h.J G (λ_ hb=>by cases hb)
theorem At.st {L:LN}{a:Addr}{us:LV}(h:At L ↑w a us)(G:xd L w w'):At L ↑w' a us:=h.J G (λ_ hb=>hb)
theorem At.one {L:LN}{a:Addr}{u:O7}(h:At L ↑w a [u]):w.cell? a=some u:=by
 have:=h.cell 0 u Z;simp only[Addr.add,if_true]at this;exact this
theorem At.cells {L:LN}{a:Addr}{us:LV}(h:At L ↑w a us):∀j v,us[j]?=some v->w.cell? (a.add j)=some v:=h.cell
theorem Addr.add_add (a:Addr)(i j:Nat):(a.add i).add j=a.add (i+j):=by
 unfold Addr.add;by_cases hi:i=0
 ·subst hi;simp
 by_cases G:j=0
 ·subst G;simp
 simp[hi,G,Nat.add_assoc]
theorem At.fld {L:LN}{H:xG}{a:Addr}{us:LV}(h:At L H a us)(j:Nat)(u:O7)(G:us[j]?=some u):At L H (a.add j) [u]:=
 ⟨λ_ _=>by rw[YJ];exact h.out u (Me G),λ_ _=>by rw[YJ];exact h.lt u (Me G),λi v I=>by
  cases i with
  | zero=>simp at I;subst I;rw[Addr.add_add,M8];exact h.cell j u G
  | succ i=>simp at I⟩
theorem At.up {L L':LN}{H:xG}{a:Addr}{us:LV}(h:At L H a us)(I:∀b∈L',b∈L\/H.size<=b):At L' H a us :=
 ⟨λu G J=>by rcases I _ J with h1|h1;exact h.out u G h1;have:=h.lt u G;omega,h.lt,h.cell⟩
def Zw (L:LN)(H:xG)(v:O7)(n sz:Nat)(cs:LV):Prop :=
 cs.length=n*sz/\n<=1099511627776/\((v=nS/\n=0)\/∃a cap,v=.slice (some a) n cap/\n<=cap/\At L H a cs)
theorem Zw.J {L X:LN}{w w':O6}{v:O7}{n sz:Nat}{cs:LV}(h:Zw L ↑w v n sz cs)(G:xd X w w')(hX:∀b∈X,b∈L):Zw L ↑w' v n sz cs :=
 ⟨h.1,h.2.1,h.2.2.imp id λ⟨a,cap,h1,h2,I⟩=>⟨a,cap,h1,h2,I.J G hX⟩⟩
theorem Zw.I {L:LN}{v:O7}{cs:LV}(h:Zw L ↑w v n sz cs)(G:sW w w'):Zw L ↑w' v n sz cs:=h.J G (λ_ hb=>by cases hb)
theorem Zw.st {L:LN}{v:O7}{cs:LV}(h:Zw L ↑w v n sz cs)(G:xd L w w'):Zw L ↑w' v n sz cs:=h.J G (λ_ hb=>hb)
theorem Zw.up {L L':LN}{H:xG}{v:O7}{n sz:Nat}{cs:LV}(h:Zw L H v n sz cs)(G:∀b∈L',b∈L\/H.size<=b):Zw L' H v n sz cs :=
 ⟨h.1,h.2.1,h.2.2.imp id λ⟨a,cap,h1,h2,I⟩=>⟨a,cap,h1,h2,I.up G⟩⟩
theorem Zw.nil (L:LN)(H:xG)(sz:Nat):Zw L H (nS) 0 sz []:=⟨oe,oa,.inl ⟨rfl,rfl⟩⟩
theorem Zw.shape {L:LN}{H:xG}{v:O7}{cs:LV}(h:Zw L H v n sz cs):∃a cap,v=.slice a n cap:=by
 rcases h.2.2 with⟨h1,h2⟩|⟨a,cap,h1,_⟩
 ·exact⟨none,0,by rw[h1,h2]⟩
 exact⟨some a,cap,h1⟩
theorem Zw.one {L:LN}{H:xG}{v:O7}{cs:LV}(h:Zw L H v n sz cs):v.oneCell'=true:=by obtain⟨a,cap,rfl⟩:=h.shape;rfl
theorem Zw.cells {L:LN}{H:xG}{v:O7}{n sz:Nat}{cs:LV}(h:Zw L H v n sz cs):v.cells=#[v]:=by obtain⟨a,cap,rfl⟩:=h.shape;rfl
theorem Zw.le {L:LN}{H:xG}{v:O7}{cs:LV}(h:Zw L H v n sz cs):n<=1099511627776:=h.2.1
theorem Zw.at {L:LN}{H:xG}{v:O7}{n sz:Nat}{cs:LV}(h:Zw L H v n sz cs){i:Nat}(hi:i<n):
  ∃a cap,v=.slice (some a) n cap/\At L H (a.add (i*sz)) ((cs.drop (i*sz)).take sz):=by
 rcases h.2.2 with⟨_,h2⟩|⟨a,cap,h1,_,I⟩
 ·omega
 refine⟨a,cap,h1,λu G=>by rw[YJ];exact I.out u (MZ (Ma G)),λu G=>by rw[YJ];exact I.lt u (MZ (Ma G)),λj u G=>?_⟩;rw[Addr.add_add];refine I.cell _ u ?_;rw[L6]at G;split at G
 ·simpa using G
 cases G
abbrev Qu (L:LN)(H:xG)(v:O7)(l:LI):Prop:=Zw L H v l.length 1 (l.map (.int .i64))
theorem Qu.at {L:LN}{H:xG}{v:O7}{l:LI}(h:Qu L H v l){i:Nat}(hi:i<l.length):
  ∃a cap,v=.slice (some a) l.length cap/\At L H (a.add (i*1)) [sS l[i]]:=by
 obtain⟨a,cap,h1,h2⟩:=Zw.at h hi;refine⟨a,cap,h1,?_⟩;have:((l.map (Value.int .i64)).drop (i*1)).take 1=[sS l[i]]:=by
  rw[OV,Mi (ox hi)];simp
 rw[this]at h2;exact h2
def QN (H:xG)(b T:Nat)(cs:LV):Prop:=H[b]?=some (.cells cs.toArray T (0,0))
theorem QN.lt {H:xG}{b:Nat}{cs:LV}(h:QN H b T cs):b<H.size:=(LM.1 h).1
theorem QN.J {X:LN}{b:Nat}{cs:LV}(h:QN ↑w b T cs)(G:xd X w w')(hb:b∉X):QN ↑w' b T cs:=by
 unfold QN;rw[G.block b h.lt hb];exact h
theorem QN.I {b:Nat}{cs:LV}(h:QN ↑w b T cs)(G:sW w w'):QN ↑w' b T cs:=h.J G oe
theorem QN.cell {H:xG}{b:Nat}{cs:LV}(h:QN H b T cs)(j:Nat):cel H ⟨b,j,none⟩=cs[j]?:=by
 unfold QN at h;simp[cel,h]
theorem QgO (b j:Nat):(⟨b,0,none⟩:Addr).add j=⟨b,j,none⟩:=by unfold Addr.add;split <;> simp_all
theorem Jc (b i j:Nat):(⟨b,i,none⟩:Addr).add j=⟨b,i+j,none⟩:=by unfold Addr.add;split <;> simp_all
theorem QN.at {L:LN}{H:xG}{b:Nat}{cs:LV}(h:QN H b T cs)(hb:b∉L):At L H ⟨b,0,none⟩ cs :=
 ⟨λ_ _=>hb,λ_ _=>h.lt,λj u G=>by rw[QgO,h.cell];exact G⟩
theorem QN.arr {L:LN}{H:xG}{b:Nat}{cs:LV}(h:QN H b T cs)(hb:b∉L){cap:Nat}(hl:cs.length=n*sz)(G:n<=1099511627776)(hc:n<=cap):
  Zw L H (sL b n cap) n sz cs:=⟨hl,G,.inr ⟨_,_,Z,hc,h.at hb⟩⟩
def ob:O7->LN
 | .slice (some a) _ _=>[a.block]
 | _=>[]
theorem QbE (v:O7):ob v=v.ownBlock.toList:=by
 cases v <;> try rfl
 rename_i a _ _;cases a <;> rfl
theorem Qg {X:LN}{e:Nat}{v:O7}{cs:LV}(h:w.ownsRow base e sz v n cs)(I:xd X w w')(hX:∀b∈ob v,b∉X):w'.ownsRow base e sz v n cs:=by
 refine⟨h.1,h.2.imp id λ⟨g,cap,cur,h1,h2,G,J⟩=>⟨g,cap,cur,h1,h2,?_,J⟩⟩;rw[I.block g (LM.1 G).1 (hX g (by rw[h1];simp[ob]))];exact G
theorem Qm {e:Nat}{v:O7}{cs:LV}(h:w.ownsRow base e sz v n cs)(G:sW w w'):w'.ownsRow base e sz v n cs:=Qg h G (λ_ _=>oe)
theorem Qi {e:Nat}{v:O7}{cs:LV}(h:w.ownsRow base e sz v n cs):∀b∈ob v,base<=b/\b<w.heap.size:=by
 intro b hb;rcases h.2 with⟨h1,_⟩|⟨g,cap,cur,h1,h2,G,_⟩
 ·subst h1;simp[ob]at hb
 subst h1;simp[ob]at hb;subst hb;exact⟨h2,(LM.1 G).1⟩
theorem Za {base' e:Nat}{v:O7}{cs:LV}(h:w.ownsRow base e sz v n cs)(hb:base'<=base):w.ownsRow base' e sz v n cs :=
 ⟨h.1,h.2.imp id λ⟨g,cap,cur,h1,h2,G⟩=>⟨g,cap,cur,h1,LA hb h2,G⟩⟩
theorem QO {L:LN}{e:Nat}{v:O7}{cs:LV}(h:w.ownsRow base e sz v n cs)(J:n<=1099511627776)(O:∀b∈ob v,b∉L):Zw L ↑w v n sz cs:=by
 refine⟨h.1,J,?_⟩;rcases h.2 with h1|⟨g,cap,cur,h1,h2,I,U,Y,h6,V⟩
 ·exact .inl h1
 refine .inr ⟨_,_,h1,U,λ_ _=>O g (by rw[h1];simp[ob]),λ_ _=>(LM.1 I).1,λj u G=>?_⟩;rw[QgO];unfold cel;simp only[I];rw[<-V,L6]at G;split at G
 ·simpa using G
 cases G
theorem QM (w:O6)(base e sz:Nat):w.ownsRow base e sz (nS) 0 []:=World.ownsRow_nil w base e sz
theorem QN.own {b:Nat}{cs:LV}(h:QN ↑w b T cs)(hl:cs.length=n*sz)(G:n<=1099511627776)(hb:base<=b):w.ownsRow base T sz (sL b n n) n cs :=
 ⟨hl,.inr ⟨b,n,cs.toArray,Z,hb,h,Lr _,by simp only[maxLen];omega,by simp[hl],by simp[<-hl]⟩⟩
section
variable {K:Fr->O6->Prop}{f:Fr}{l:xI}
theorem Y4 {x:O8}{e bys:Nat}[Sl P t e G bys z]{L:LN}{cs:LV}{v:O7}{H:xG}(h:Zw L H v n sz cs)(I:ev f x=v):
  (execOp (ev f) ⟨d,.call ⟨.builtin .len,#[x],#[t]⟩,ty,pS,af,gd⟩).run P w=.ok (.value (sS n)) w:=by
 obtain⟨a,cap,h1⟩:=h.shape;exact Qaz (I.D h1)
theorem xi {x:O8}{e bys:Nat}[Sl P t e sz bys z]{L:LN}{cs:LV}{v:O7}{k:IntKind}
  (h:Zw L ↑w v n sz cs) (G:ev f x=v) (I:ev f y=.int k i) (hi:i<n)
  (hK:∀a,At L ↑w a ((cs.drop (i*sz)).take sz)->XL P ops K l (QP f d (.pointer (some a))) w) (J:Yb ops f ⟨d,.indexAddr t x y,ty,pS,af,gd⟩=true:=by rfl):
  XL P ops K (⟨d,.indexAddr t x y,ty,pS,af,gd⟩::l) f w:=by
 obtain⟨a,cap,h1,h2⟩:=h.at hi;refine xl J (xv (X7 (G.D h1) I oa oa) (hK _ ?_));simpa using h2
theorem xii {x:O8}{e bys:Nat}[Sl P t e 1 bys z]{L:LN}{li:LI}{v:O7}{k:IntKind}
  (h:Qu L ↑w v li) (G:ev f x=v) (I:ev f y=.int k i) (hi:i<li.length)
  (hK:∀a,At L ↑w a [sS li[i]]->XL P ops K l (QP f d (.pointer (some a))) w) (J:Yb ops f ⟨d,.indexAddr t x y,ty,pS,af,gd⟩=true:=by rfl):
  XL P ops K (⟨d,.indexAddr t x y,ty,pS,af,gd⟩::l) f w:=by
 obtain⟨a,cap,h1,h2⟩:=Qu.at h hi;refine xl J (xv (X7 (G.D h1) I oa oa) (hK _ ?_));simpa using h2
theorem Qq [X2 P t]{x:O8}{a:Addr}{L:LN}{u:O7}(h:At L ↑w a [u])(hx:ev f x=.pointer (some a)):
  (execOp (ev f) ⟨d,.load t x,ty,pS,af,gd⟩).run P w=.ok (.value u) w:=QjN hx h.one
theorem QF [Ag P t sz]{x:O8}{a:Addr}{L:LN}{us:LV}(h:At L ↑w a us)(hx:ev f x=.pointer (some a))(hl:us.length=sz):
  (execOp (ev f) ⟨d,.load t x,ty,pS,af,gd⟩).run P w=.ok (.value (sT us)) w:=zR hx hl h.cells
theorem Qj [X2 P t]{x:O8}{b:Nat}{cs:LV}{u:O7}(h:QN ↑w b T cs)(hx:ev f x=.pointer (some ⟨b,j,none⟩))(G:cs[j]?=some u):
  (execOp (ev f) ⟨d,.load t x,ty,pS,af,gd⟩).run P w=.ok (.value u) w:=QjN hx (by rw[KG,h.cell];exact G)
theorem Zj [Ag P t sz]{x:O8}{b:Nat}{cs:LV}(h:QN ↑w b T cs)(hx:ev f x=sP b)(hl:cs.length=sz):
  (execOp (ev f) ⟨d,.load t x,ty,pS,af,gd⟩).run P w=.ok (.value (sT cs)) w:=zR hx hl (h.at (L:=[]) oe).cells
theorem UJ [Zb P t j off]{x:O8}{b o:Nat}(hx:ev f x=.pointer (some ⟨b,o,none⟩)):
  (execOp (ev f) ⟨d,.fieldAddr t x j,ty,pS,af,gd⟩).run P w=.ok (.value (.pointer (some ⟨b,o+off,none⟩))) w:=by
 rw[<-Jc];exact ZB hx
end
section
variable {K:Fr->O6->Prop}{f:Fr}
theorem zg {x:O8}{us:LV}(hx:(ev f x).cells=us.toArray)
  (hK:∀b w',sW w w'->↑w<=b->QN ↑w' b t us->K (QP f d (sP b)) w'):XO P ⟨d,.box t x,ty,pS,af,gd⟩ f w K:=by
 have G:(execOp (ev f) ⟨d,.box t x,ty,pS,af,gd⟩).run P w=.ok (.value (.pointer (some ⟨↑w,0,none⟩))) (w.alloc (.cells us.toArray t)):=by
  simp[execOp,Instr.box,newVar,newRow,hx]
 exact xv G (hK _ _ (xd.alloc w _) (Lr _) (VB w _))
theorem Y0 [h:Ze P t z]{us:LV}(I:z.cells=us.toArray)
  (hK:∀b w',sW w w'->↑w<=b->QN ↑w' b t us->K (QP f d (sP b)) w'):XO P ⟨d,.alloc t,ty,pS,af,gd⟩ f w K:=by
 have J:(execOp (ev f) ⟨d,.alloc t,ty,pS,af,gd⟩).run P w=.ok (.value (.pointer (some ⟨↑w,0,none⟩))) (w.alloc (.cells us.toArray t)):=by
  have hi:=h.i;cases G:P.info? t with
  | none=>simp[G]at hi
  | some i =>
   simp[G]at hi;simp[execOp,Instr.alloc,newVar,newRow,zeroValue,typeInfo,G,hi,I]
 exact xv J (hK _ _ (xd.alloc w _) (Lr _) (VB w _))
def yd (sz:Nat):LV->List (LV)->Prop
 | [],[]=>True
 | v::vs,u::us=>v.cells=u.toArray/\u.length=sz/\yd sz vs us
 | _,_=>False
theorem jh {sz:Nat}:∀(vs:LV) (us:List (LV)) (G:Nat) (pre rest:LV),yd sz vs us->pre.length=G*sz->rest.length=vs.length*sz ->
  Instr.fill (λi=>some (i*sz,sz)) (pre++rest).toArray ((vs.zipIdx G).map λx=>(x.2,x.1))=some (pre++us.flatten).toArray
 | [],[],G,pre,rest,_,_,I=>by
  have:rest=[]:=Lu (ox I);subst this;simp[Instr.fill]
 | [],_::_,_,_,_,h,_,_=>h.elim
 | _::_,[],_,_,_,h,_,_=>h.elim
 | v::vs,u::us,G,pre,rest,h,J,I=>by
  obtain⟨h1,h2,U⟩:=h;have ha:sz<=rest.length:=by rw[I];simp[Oz]
  have ih:=jh vs us (G+1) (pre++u) (rest.drop sz) U (by simp[J,h2,Oz]) (by simp only[OK,I,oS,Oz,OQ];omega);simp only[List.zipIdx_cons,oU];unfold Instr.fill;have V:v.cells.size=sz:=by rw[h1];simp[h2]
  simp only[V];rw[OY (by simp;omega)];have key:v.cells.zipIdx.foldl (λcs (x:O7×Nat)=>cs.setIfInBounds (G*sz+x.2) x.1) (pre++rest).toArray=(pre++u++rest.drop sz).toArray:=by
   rw[<-Array.foldl_toList,Array.toList_zipIdx,h1];obtain⟨g1,Y⟩:=Great.foldl_set (G*sz) u 0 (pre++rest).toArray;apply Array.ext';apply Nw;intro k;simp only[Array.getElem?_toList];rw[(Y k)];simp only[OC,Ok,oO,oT];split
   ·rename_i hc;rw[LC,MA oa,LT oa,<-J]
   rename_i hc;by_cases O:k<pre.length
   ·rw[LC,LT O,LT O]
   rw[LC,MA oa,MA oa];by_cases he:k<pre.length+sz
   ·exfalso;apply hc;omega
   rw[MA oa,MT];congr 1;omega
  have hf:=ih;rw[LC pre u]at key;rw[show(v.cells.zipIdx.foldl (λcs (x:O7×Nat)=>cs.setIfInBounds (G*sz+x.2) x.1) (pre++rest).toArray)=(pre++u++rest.drop sz).toArray by rw[key,LC]];rw[ih];simp
theorem Qad (f:Fr):∀(ps:List (Nat×O8)) (i:Nat),ps.map (·.1)=oP i ps.length->(ps.map λx=>(x.1,ev f x.2))=((ps.map λx=>ev f x.2).zipIdx i).map λx=>(x.2,x.1)
 | [],_,_=>rfl
 | p::ps,i,h=>by
  simp only[oU,oS,OE,List.cons.injEq]at h;simp only[oU,List.zipIdx_cons];rw[Qad f ps (i+1) h.2,h.1]
theorem Yj {e bys:Nat}[h:Sl P t e sz bys z]{parts:List (Nat×O8)}{us:List (LV)}(I:parts.map (·.1)=oP 0 n)(J:parts.length=n)(O:0<n)(hs:n*sz<=1000000)
  (hc:yd sz (parts.map λx=>ev f x.2) us)
  (hK:∀b w',sW w w'->↑w<=b->QN ↑w' b e us.flatten->K (QP f d (sL b n n)) w'):XO P ⟨d,.buildSlice t n parts.toArray,ty,pS,af,gd⟩ f w K:=by
 obtain⟨ie,U,V,G,_⟩:=Sl.info h;subst J;have hm:0<parts.length*sz:=Nat.mul_pos O h.pos;have Y:Instr.fill (λi=>some (i*ie.size,ie.size)) ((Array.range (parts.length*ie.size)).map (z.cells[· % z.cells.size]!)) (parts.toArray.map λ(i,x)=>(i,ev f x)).toList=some us.flatten.toArray:=by
  rw[G];have:=jh (parts.map λx=>ev f x.2) us 0 [] ((Array.range (parts.length*sz)).map (z.cells[· % z.cells.size]!)).toList hc oe oe;simp only[Ox,Array.toArray_toList]at this;rw[<-this,<-Qad f parts 0 I];simp
 have hr:(execOp (ev f) ⟨d,.buildSlice t parts.length parts.toArray,ty,pS,af,gd⟩).run P w=.ok (.value (.slice (some ⟨↑w,0,none⟩) parts.length parts.length)) (w.alloc (.cells us.flatten.toArray e)):=by
  have:=run_buildSlice (P:=P) w t e parts.length (parts.toArray.map λ(i,x)=>(i,ev f x)) us.flatten.toArray ie z h.u U V (by rw[G];omega) (by rw[G];omega) Y;simp only[execOp,Sem.run_bind,this,Result.andThen_ok,Sem.run_pure]
 exact xv hr (hK _ _ (xd.alloc w _) (Lr _) (VB w _))
theorem j0 {e:Nat}{bys:Nat}[h:Sl P t e sz bys z]{v:O7}{cs:LV}(I:w.ownsRow base e sz v n cs)
  {a:Addr} {c:Nat} {news:LV} (hl:news.length=m*sz) (Y:∀j u,news[j]?=some u->w.cell? (a.add j)=some u) (h1:∀u∈news,u.oneCell'=true)
  (hb:n+m<=1099511627776) (hu:bys<=128) (hf:base<=↑w):
  ∃v' w',(Builtin.append_ #[t,t] ty #[v,.slice (some a) m c]).run P w=.ok v' w'/\w'.ownsRow base e sz v' (n+m) (cs++news)/\xd (ob v) w w'/\(∀b∈ob v',b∈ob v\/↑w<=b):=by
 obtain⟨i,hi,hz,O,ha⟩:=Sl.info h;have he:(n+m)*bys<=140737488355328:=LA (Nj hb hu) oa;have hh:n+m<=maxLen:=by simp only[maxLen];omega
 by_cases hg:∃g cap cur,v=sL g n cap/\w.heap[g]?=some (.cells cur e (0,0))/\n+m<=cap
 ·obtain⟨v',w',V,ho,hv,_⟩:=run_append_own (P:=P) w base t ty e i z sz bys h.u hi hz O ha h.zs h.pos v n cs I a m c news hl Y h1 hh he hf;refine⟨v',w',V,ho,by rw[QbE];exact xd.of_grown hv,?_⟩;obtain⟨g,cap,cur,rfl,hj,U⟩:=hg;rcases I.2 with⟨h2,_⟩|⟨g2,cap2,hp,h2,h3,h4,h5,h6,h7,h8⟩
  ·cases h2
  cases h2
  have hw:n*i.size+news.length<=hp.size:=by rw[hl,h7,O,<-MI];exact MY _ U
  rw[(run_append_room (P:=P) w t ty e i h.u hi g n cap hp h4 a m c news (by rw[O];exact hl) Y h1 U hw)]at V;cases V
  intro b G;exact .inl G
 have new:∀(old:Nat),old<n+m->∀J,J=(Obj.cells (cs.toArray++news.toArray++Builtin.zeroCells z.cells (grownCap w (n+m) old e - (n+m))) e) ->
   (w.drew.alloc J).ownsRow base e sz (.slice (some ⟨↑w,0,none⟩) (n+m) (grownCap w (n+m) old e)) (n+m) (cs++news):=by
  intro old ho J hy;subst hy;have hge:=grownCap_ge w (n+m) old e;have hq:grownCap w (n+m) old e<=maxLen:=grownCap_le_maxLen w (n+m) old e hh;have hs:(cs++news).length=(n+m)*sz:=by rw[Le,I.1,hl,MI]
  refine⟨hs,.inr ⟨↑w,_,_,Z,hf,VB w.drew _,hge,hq,?_,?_⟩⟩
  ·simp only[Array.size_append,Ok,size_zeroCells,h.zs,I.1,hl,<-Oz];congr 1;omega
  simp only[Array.toList_append,Om];rw[<-LC,<-hs];exact List.take_left
 have stp:∀J,xd (ob v) w (w.drew.alloc J):=λJ=>⟨Z,Z,Z,by rw[yc];exact Nat.le_succ _,λk hk _=>Qco w.drew J k hk⟩;have fin:∀(b:Nat),b∈ob (.slice (some ⟨↑w,0,none⟩) (n+m) 0)->b∈ob v\/↑w<=b:=λb G=>by simp[ob]at G;omega
 rcases I.2 with⟨rfl,rfl⟩|⟨g,cap,cur,rfl,hB,hj,hC,hq,hD,hE⟩
 ·have hx:cs=[]:=Lu (ox I.1);subst hx;by_cases hm:m=0
  ·subst hm;have hn:news=[]:=Lu (ox hl);subst hn;refine⟨nS,w,?_,QM _ _ _ _,xd.C _ _,λb G=>by simp[ob]at G⟩;simp[Builtin.append_,run_underlying h.u,sizeOf,typeInfo,hi,Builtin.lenOf,Builtin.firstCells,loadCells,loadCellsFrom]
  have V:=run_append_nil (P:=P) w t ty e i z h.u hi hz a m c news (by rw[O];exact hl) Y oa oa (by rw[ha];have h0:=he;simp only[Ob]at h0;omega);have hn:=new 0 oa _ Z;simp only[Ob,Ox,Array.empty_append]at hn ⊢;exact⟨_,_,V,hn,stp _,λb G=>fin b G⟩
 have U:cap<n+m:=by
  rcases OR cap (n+m) with h9|hge
  ·exact h9
  exact O1 ⟨g,cap,cur,Z,hj,hge⟩ hg
 have hA:∀j u,cs[j]?=some u->w.cell? ((⟨g,0,none⟩:Addr).add j)=some u:=I.cells (g:=g) Z;exact⟨_,_,(run_append_grow (P:=P) w t ty e i z h.u hi hz ⟨g,0,none⟩ n cap cs (by rw[O];exact I.1) hA a m c news (by rw[O];exact hl) Y U oa (growslice_fits U (by rw[ha];exact he))),new cap U _ Z,stp _,λb G=>fin b G⟩
theorem Q0 {e bys:Nat}[h:Sl P t e sz bys z]{s:O8}{v:O7}{cs:LV}(G:w.ownsRow base e sz v n cs)(I:ev f s=v)
  {a:Addr} {c:Nat} {news:LV} (J:ev f y=.slice (some a) m c) (hl:news.length=m*sz) {L:LN} (O:At L ↑w a news) (h1:∀u∈news,u.oneCell'=true)
  (hb:n+m<=1099511627776) (U:base<=↑w)
  (hK:∀v' w',w'.ownsRow base e sz v' (n+m) (cs++news)->xd (ob v) w w'->(∀b∈ob v',b∈ob v\/↑w<=b)->K (QP f d v') w') (V:bys<=128:=by decide):
  XO P ⟨d,.call ⟨.builtin .append,#[s,y],#[t,t]⟩,ty,pS,af,gd⟩ f w K:=by
 obtain⟨v',w',Y,h2,h3,h4⟩:=j0 (P:=P) (t:=t) (ty:=ty) G hl O.cells h1 hb V U (c:=c);have ha:(execOp (ev f) ⟨d,.call ⟨.builtin .append,#[s,y],#[t,t]⟩,ty,pS,af,gd⟩).run P w=.ok (.value v') w':=by
  simp[execOp,resolve,invoke,builtin,I,J,Y]
 exact xv ha (hK v' w' h2 h3 h4)
end
def Qrh (P:O9)(t:Nat):Option (LV×LN):=match P.info? t,P.underlying t with
 | some it,some (.struct fs)=>match it.zero,fs.toList.mapM (λf=>(P.info? f.type).bind λi=>if i.size=1 then some f.offset else none) with
  | some (.agg zs),some offs=>some (zs.toList,offs)
  | _,_=>none
 | some it,some (.array n e)=>match it.zero,P.info? e with
  | some (.agg zs),some ie=>if ie.size=1 then some (zs.toList,oM n) else none
  | _,_=>none
 | _,_=>none
class Bs (P:O9)(t:Nat)(zs:outParam (LV))(offs:outParam (LN)):Prop where
 h:Qrh P t=some (zs,offs):=by first|kernel_rfl|decide|rfl|exact sX (by kernel_rfl)
 b:offs.all (·<zs.length)=true:=by first|kernel_rfl|decide|rfl|exact sX (by kernel_rfl)
def bld (offs:LN)(zs:LV):List (Nat×O7)->LV
 | []=>zs
 | (j,v)::ps=>bld offs (zs.set (offs.getD j 0) v) ps
def Qpf:LV->Prop
 | []=>True
 | v::vs=>v.cells=#[v]/\Qpf vs
theorem jg {place:Nat->Option (Nat×Nat)}{offs:LN}(G:∀j,j<offs.length->place j=some (offs.getD j 0,1)):∀(ps:List (Nat×O7)) (zs:LV),Qpf (ps.map (·.2))->ps.all (λp=>p.1<offs.length)=true ->
  (∀o∈offs,o<zs.length)->Instr.fill place zs.toArray ps=some (bld offs zs ps).toArray
 | [],zs,_,_,_=>rfl
 | (j,v)::ps,zs,h1,h2,I=>by
  simp only[Oh,oK,decide_eq_true_eq]at h2;have O:offs.getD j 0<zs.length:=I _ (by simp[oQ,oX h2.1]);unfold Instr.fill;simp only[(G j h2.1)];have hc:v.cells=#[v]:=h1.1;simp only[hc];rw[OY (by rw[show(#[v]:Array O7).size=1 from rfl,L3];simp only[ne_eq,not_true,decide_false,Bool.false_or,decide_eq_true_eq];omega)];have:(#[v]:Array O7).zipIdx.foldl (λcs (x:O7×Nat)=>cs.setIfInBounds (offs.getD j 0+x.2) x.1) zs.toArray=(zs.set (offs.getD j 0) v).toArray:=by
   simp[Array.zipIdx]
  rw[this];exact jg G ps _ h1.2 h2.2 (λo J=>by rw[M2];exact I o J)
theorem QfC {zs:LV}{offs:LN}(h:Qrh P t=some (zs,offs))(hb:offs.all (·<zs.length)=true)(ps:List (Nat×O7))(h1:Qpf (ps.map (·.2)))(h2:ps.all (λp=>p.1<offs.length)=true):
  P.built t ps=some (bld offs zs ps).toArray:=by
 have Y:∀o∈offs,o<zs.length:=λo ho=>ox (Mo.1 hb o ho)
 unfold Qrh at h;unfold Program.built;cases hi:P.info? t with
 | none=>simp[hi]at h
 | some it =>
  cases hu:P.underlying t with
  | none=>simp[hi,hu]at h
  | some dd =>
   simp only[hi,hu]at h;cases dd <;> simp only[]at h <;> try (cases h)
   case struct fs =>
    cases G:it.zero with
    | none=>simp[G]at h
    | some z =>
     cases z <;> simp only[G]at h <;> try (cases h)
     rename_i za;cases O:fs.toList.mapM (λf=>(P.info? f.type).bind λi=>if i.size=1 then some f.offset else none) with
     | none=>simp[O]at h
     | some offs' =>
      simp only[O,Option.some.injEq,Prod.mk.injEq]at h;obtain⟨rfl,rfl⟩:=h;have key:∀(l:List Field) (offs:LN),l.mapM (λf=>(P.info? f.type).bind λi=>if i.size=1 then some f.offset else none)=some offs ->
        l.mapM (λf=>(P.info? f.type).map λi=>(f.offset,i.size))=some (offs.map λo=>(o,1)):=by
       intro l;induction l with
       | nil=>intro offs h;simp at h;subst h;rfl
       | cons f l ih =>
        intro offs h;simp only[List.mapM_cons]at h ⊢;cases U:P.info? f.type with
        | none=>simp[U]at h
        | some i =>
         by_cases I:i.size=1
         ·simp only[U,Option.bind_some,I,if_true,Option.bind_eq_bind]at h;cases hl:l.mapM (λf=>(P.info? f.type).bind λi=>if i.size=1 then some f.offset else none) with
          | none=>simp[hl]at h
          | some os =>
           simp[hl]at h;subst h;simp[ih os hl,I]
         simp[U,I]at h
      simp only[G,(key _ _ O),Value.cells];rw[<-jg (place:=λj=>((offs'.map λo=>(o,1)).toArray)[j]?) (λj J=>by simp[oX J,oQ]) ps za.toList h1 h2 Y]
   case array n e =>
    cases G:it.zero with
    | none=>simp[G]at h
    | some z =>
     cases z <;> simp only[G]at h <;> try (cases h)
     rename_i za;cases V:P.info? e with
     | none=>simp[V]at h
     | some ie =>
      simp only[V]at h;split at h
      ·rename_i I;simp only[Option.some.injEq,Prod.mk.injEq]at h;obtain⟨rfl,rfl⟩:=h;simp only[G,V,Value.cells];rw[<-jg (place:=λi=>some (i*ie.size,ie.size)) (λj J=>by simp at J;simp[I,oQ,J]) ps za.toList h1 h2 Y]
      cases h
theorem QD {f:Fr}{zs:LV}{offs:LN}[h:Bs P t zs offs]{parts:List (Nat×O8)}
  (h1:Qpf (parts.map λx=>ev f x.2)) (h2:parts.all (λp=>p.1<offs.length)=true:=by rfl):
  (execOp (ev f) ⟨d,.build t parts.toArray,ty,pS,af,gd⟩).run P w=.ok (.value (.agg (bld offs zs (parts.map λx=>(x.1,ev f x.2))).toArray)) w:=by
 simp only[execOp,Sem.run_bind,(run_build (P:=P) w t (parts.toArray.map λ(i,x)=>(i,ev f x)) _ (by simpa using(QfC h.h h.b (parts.map λx=>(x.1,ev f x.2)) (by rw[List.map_map];exact h1) (by rw[List.all_map];exact h2)))),Result.andThen_ok,Sem.run_pure]
section
variable {K:Fr->O6->Prop}{f:Fr}{l:xI}
theorem Q9 [Zb P t j off]{G:O8}{b o:Nat}(hx:ev f G=.pointer (some ⟨b,o,none⟩))(h:XL P ops K l (QP f d (.pointer (some ⟨b,o+off,none⟩))) w)(I:Yb ops f ⟨d,.fieldAddr t G j,ty,pS,af,gd⟩=true:=by rfl):XL P ops K (⟨d,.fieldAddr t G j,ty,pS,af,gd⟩::l) f w:=x (UJ hx) h I
theorem ZD [X2 P t]{G:O8}{b:Nat}{cs:LV}{u:O7}(I:QN ↑w b T cs)(hx:ev f G=.pointer (some ⟨b,j,none⟩))(J:cs[j]?=some u)(h:XL P ops K l (QP f d u) w)(O:Yb ops f ⟨d,.load t G,ty,pS,af,gd⟩=true:=by rfl):XL P ops K (⟨d,.load t G,ty,pS,af,gd⟩::l) f w:=x (Qj I hx J) h O
theorem Q7 [Ag P t sz]{G:O8}{b:Nat}{cs:LV}(I:QN ↑w b T cs)(hx:ev f G=sP b)(hl:cs.length=sz)(h:XL P ops K l (QP f d (sT cs)) w)(J:Yb ops f ⟨d,.load t G,ty,pS,af,gd⟩=true:=by rfl):XL P ops K (⟨d,.load t G,ty,pS,af,gd⟩::l) f w:=x (Zj I hx hl) h J
theorem QG {G:O8}{e I bys:Nat}[Sl P t e I bys z]{L:LN}{cs:LV}{v:O7}{H:xG}(hA:Zw L H v n sz cs)(J:ev f G=v)(h:XL P ops K l (QP f d (sS n)) w)(O:Yb ops f ⟨d,.call ⟨.builtin .len,#[G],#[t]⟩,ty,pS,af,gd⟩=true:=by rfl):XL P ops K (⟨d,.call ⟨.builtin .len,#[G],#[t]⟩,ty,pS,af,gd⟩::l) f w:=x (Y4 hA J) h O
theorem QH [Zb P t j off]{G:O8}{b o:Nat}(hx:ev f G=.pointer (some ⟨b,o,none⟩)):∀w',(execOp (ev f) ⟨d,.fieldAddr t G j,ty,pS,af,gd⟩).run P w'=.ok (.value (.pointer (some ⟨b,o+off,none⟩))) w':=λ_=>UJ hx
theorem Qs [Zb P t j off]{G:O8}{b o:Nat}{I:Nat}[X2 P I]{d2:xJ}{O:Nat}{pS2:String}{U:xH}{V:xz}{J:O8}{cs:LV}{u:O7}(hx:ev f G=.pointer (some ⟨b,o,none⟩))(Y:QN ↑w b T cs)(hy:ev (QP f d (.pointer (some ⟨b,o+off,none⟩))) J=.pointer (some ⟨b,i,none⟩))(hj:cs[i]?=some u)(h:XL P ops K l (QP (QP f d (.pointer (some ⟨b,o+off,none⟩))) d2 u) w)
  (hg:Yb ops f ⟨d,.fieldAddr t G j,ty,pS,af,gd⟩=true:=by rfl) (ha:Yb ops (QP f d (.pointer (some ⟨b,o+off,none⟩))) ⟨d2,.load I J,O,pS2,U,V⟩=true:=by rfl):XL P ops K (⟨d,.fieldAddr t G j,ty,pS,af,gd⟩::⟨d2,.load I J,O,pS2,U,V⟩::l) f w:=Q9 hx (ZD Y hy hj h ha) hg
theorem Q3 {e bys:Nat}[Sl P t e sz bys z]{parts:List (Nat×O8)}{K:Fr->O6->Prop}(us:List (LV))(hK:∀b w',sW w w'->↑w<=b->QN ↑w' b e us.flatten->K (QP f d (sL b n n)) w')(G:parts.map (·.1)=oP 0 n:=by rfl)(I:parts.length=n:=by rfl)(J:0<n:=by decide)(O:n*sz<=1000000:=by decide)(hc:yd sz (parts.map λx=>ev f x.2) us:=by first|exact(oy)|exact(oA)):XO P ⟨d,.buildSlice t n parts.toArray,ty,pS,af,gd⟩ f w K:=Yj G I J O hc hK
theorem Zd {G:O8}(us:LV)(hK:∀b w',sW w w'->↑w<=b->QN ↑w' b t us->XL P ops K l (QP f d (sP b)) w')(hx:(ev f G).cells=us.toArray:=by rfl)(I:Yb ops f ⟨d,.box t G,ty,pS,af,gd⟩=true:=by rfl):XL P ops K (⟨d,.box t G,ty,pS,af,gd⟩::l) f w:=xl I (zg hx hK)
end
section
variable {κ:Type}[DecidableEq κ]
def xq:List (κ×O7)->κ->Option O7
 | [],_=>none
 | (k',v)::m,k=>if k'=k then some v else xq m k
def xt:List (κ×O7)->κ->O7->List (κ×O7)
 | [],k,v=>[(k,v)]
 | (k',v')::m,k,v=>if k'=k then(k',v)::m else(k',v')::xt m k v
theorem JC (m:List (κ×O7))(k k':κ)(v:O7):xq (xt m k v) k'=if k=k' then some v else xq m k':=by
 induction m with
 | nil=>simp[xq,xt]
 | cons p m ih =>
  obtain⟨q,u⟩:=p;simp only[xt];by_cases h:q=k
  ·subst h;simp[xq];by_cases h2:q=k' <;> simp[h2]
  simp only[h,if_false,xq,ih];by_cases h2:q=k'
  ·subst h2;simp[Ne.symm h]
  simp[h2]
def fnd (k:κ):List κ->List MapEntry->Nat->Option (Nat×O7)
 | q::ks,e::es,i=>if k=q then some (i,e.val) else fnd k ks es (i+1)
 | _,_,_=>none
end
class Key (P:O9)(kt:Nat){κ:Type}[DecidableEq κ](enc:κ->O7):Prop where
 check:∀(w:O6) (em:Bool) (k:κ),(Instr.checkKey em 10000 kt (enc k)).run P w=.ok () w
 find:∀(w:O6) (k:κ) (ks:List κ) (es:List MapEntry),es.map (·.key)=ks.map enc->(Instr.findKey kt (enc k) es).run P w=.ok (fnd k ks es 0) w
 same:∀k,Instr.sameBits 10000 (enc k) (enc k)=true
abbrev XS (n:Int):O7:=sS n
abbrev Ys (p:Int×Int):O7:=.agg #[sS p.1,sS p.2]
abbrev XJ (s:ByteArray):O7:=.string s
theorem Qof (I:P.underlying kt=some (.int .i64)):Key P kt XS:=by
 refine⟨λw em k=>?_,λw k ks es h=>?_,λk=>by simp[Instr.sameBits]⟩
 ·have hck:∀n,(Instr.checkKey em (n+1) kt (XS k)).run P w=.ok () w:=λn=>by simp[Instr.checkKey,run_underlying I]
  exact hck 9999
 have key:∀(ks:LI) (es:List MapEntry) (i:Nat),es.map (·.key)=ks.map XS->Instr.findNow (.int .i64) (XS k) es i=some (fnd k ks es i):=by
  intro ks;induction ks with
  | nil=>intro es i h;simp at h;subst h;rfl
  | cons q ks ih =>
   intro es i h;cases es with
   | nil=>simp at h
   | cons e es =>
    simp only[oU,List.cons.injEq]at h;simp only[Instr.findNow,h.1,Instr.sameNow,XS,if_true,fnd];by_cases G:k=q
    ·subst G;simp
    have:(k == q)=false:=by simpa using G
    simp[G,this,(ih es (i+1) h.2)]
 simp[Instr.findKey,run_underlying I,key ks es 0 h]
theorem Qoe (I:P.underlying kt=some .string):Key P kt XJ:=by
 refine⟨λw em k=>?_,λw k ks es h=>?_,λk=>by simp[Instr.sameBits,(MapKept.bytes_beq k k).2 rfl]⟩
 ·have hck:∀n,(Instr.checkKey em (n+1) kt (XJ k)).run P w=.ok () w:=λn=>by simp[Instr.checkKey,run_underlying I]
  exact hck 9999
 have key:∀(ks:List ByteArray) (es:List MapEntry) (i:Nat),es.map (·.key)=ks.map XJ->Instr.findNow .string (XJ k) es i=some (fnd k ks es i):=by
  intro ks;induction ks with
  | nil=>intro es i h;simp at h;subst h;rfl
  | cons q ks ih =>
   intro es i h;cases es with
   | nil=>simp at h
   | cons e es =>
    simp only[oU,List.cons.injEq]at h;simp only[Instr.findNow,h.1,Instr.sameNow,XJ,fnd];by_cases G:k=q
    ·subst G;simp[(MapKept.bytes_beq k k).2 rfl]
    have:(k == q)=false:=by
     cases hb:(k == q) with
     | false=>rfl
     | true=>exact O1 ((MapKept.bytes_beq k q).1 hb) G
    simp[G,this,(ih es (i+1) h.2)]
 simp[Instr.findKey,run_underlying I,key ks es 0 h]
theorem yq {e:Nat}(Y:P.underlying kt=some (.array 2 e))(O:P.underlying e=some (.int .i64))(G:(P.info? e).map (·.size)=some 1)(w:O6)(p q:Int×Int):
  (Op.equal kt (Ys p) (Ys q)).run P w=.ok (decide (p=q)) w:=by
 obtain⟨a,b⟩:=p;obtain⟨c,d⟩:=q;cases hi:P.info? e with
 | none=>simp[hi]at G
 | some ie =>
  simp[hi]at G;have U:∀w,(isAgg e).run P w=.ok false w:=λw=>by simp[isAgg,run_underlying O]
  have I:∀(x y:Int) (w:O6),(part e #[sS x,sS y] 0).run P w=.ok (sS x) w:=λx y w=>by simp[part,U]
  have V:∀(x y:Int) (w:O6),(part e #[sS x,sS y] 1).run P w=.ok (sS y) w:=λx y w=>by simp[part,U]
  have J:∀(m:Nat) (x y:Int) (w:O6),(Op.equalIn (m+1) e (sS x) (sS y)).run P w=.ok (x == y) w:=λm x y w=>by simp[Op.equalIn,run_underlying O]
  simp only[Op.equal,Op.maxDepth,Ys];unfold Op.equalIn;simp only[Sem.run_bind,run_underlying Y,Result.andThen_ok,sizeOf,typeInfo,run_program,hi,Sem.run_pure,G];simp only[Std.Legacy.Range.forIn_eq_forIn_range',Std.Legacy.Range.size,OS,Nat.add_sub_cancel,Nat.div_one,OE,List.range'_zero,List.forIn_cons,List.forIn_nil,Nat.zero_mul,OQ,Ob];by_cases h1:a=c
  ·subst h1;by_cases h2:b=d
   ·subst h2;simp[I,V,J]
   simp[I,V,J,h2]
  simp[I,J,h1]
theorem Qdu {e:Nat}(G:P.underlying kt=some (.array 2 e))(J:P.underlying e=some (.int .i64))(I:(P.info? e).map (·.size)=some 1):Key P kt Ys:=by
 refine⟨λw em k=>?_,λw k ks es h=>?_,λk=>?_⟩
 ·obtain⟨a,b⟩:=k;cases hi:P.info? e with
  | none=>simp[hi]at I
  | some ie =>
   simp[hi]at I;have O:∀w,(isAgg e).run P w=.ok false w:=λw=>by simp[isAgg,run_underlying J]
   have V:∀(x y:Int) (w:O6),(part e #[sS x,sS y] 0).run P w=.ok (sS x) w:=λx y w=>by simp[part,O]
   have Y:∀(x y:Int) (w:O6),(part e #[sS x,sS y] 1).run P w=.ok (sS y) w:=λx y w=>by simp[part,O]
   have hck:∀(m:Nat) (x:Int) (w:O6),(Instr.checkKey em (m+1) e (sS x)).run P w=.ok () w:=λm x w=>by simp[Instr.checkKey,run_underlying J]
   simp only[Ys];unfold Instr.checkKey;simp only[Sem.run_bind,run_underlying G,Result.andThen_ok,sizeOf,typeInfo];simp[Std.Legacy.Range.forIn_eq_forIn_range',Std.Legacy.Range.size,OE,hi,I,V,Y,hck]
 ·have ha:∀es i,es.map (·.key)=ks.map Ys->Instr.findNow (.array 2 e) (Ys k) es i=none\/es=[]:=by
   intro es i h;cases es with
   | nil=>exact .inr Z
   | cons e es=>left;simp[Instr.findNow,Instr.sameNow]
  have ask:∀(ks:xD) (es:List MapEntry) (i:Nat),es.map (·.key)=ks.map Ys->(Instr.findAsking kt (Ys k) es i).run P w=.ok (fnd k ks es i) w:=by
   intro ks;induction ks with
   | nil=>intro es i h;simp at h;subst h;simp[Instr.findAsking,fnd]
   | cons q ks ih =>
    intro es i h;cases es with
    | nil=>simp at h
    | cons e es =>
     simp only[oU,List.cons.injEq]at h;simp only[Instr.findAsking,h.1,Sem.run_bind,yq G J I,Result.andThen_ok,fnd];by_cases U:k=q
     ·subst U;simp
     simp[U,(ih es (i+1) h.2)]
  rcases ha es 0 h with h1|h1
  ·simp[Instr.findKey,run_underlying G,h1,ask ks es 0 h]
  subst h1;have:ks=[]:=by simpa using h.symm
  subst this;simp[Instr.findKey,run_underlying G,Instr.findNow,fnd]
 simp[Instr.sameBits]
class Mp (P:O9)(t:Nat)(kt et:outParam Nat)(z:outParam O7):Prop where
 u:P.underlying t=some (.map kt et):=by first|kernel_rfl|decide|rfl|exact sX (by kernel_rfl)
 z:(P.info? et).map (·.zero)=some (some z):=by first|kernel_rfl|decide|rfl|exact sX (by kernel_rfl)
def ZV {κ:Type}(enc:κ->O7)(H:xG)(b:Nat)(m:List (κ×O7)):Prop :=
 ∃es clock,H[b]?=some (.map es clock)/\es.toList.map (λe=>(e.key,e.val))=m.map (λp=>(enc p.1,p.2))
section
variable {κ:Type}{enc:κ->O7}
theorem ZV.lt {H:xG}{b:Nat}{m:List (κ×O7)}(h:ZV enc H b m):b<H.size:=by
 obtain⟨es,c,h1,_⟩:=h;exact(LM.1 h1).1
theorem ZV.J {X:LN}{b:Nat}{m:List (κ×O7)}(h:ZV enc ↑w b m)(G:xd X w w')(hb:b∉X):ZV enc ↑w' b m:=by
 have hl:=h.lt;obtain⟨es,c,h1,h2⟩:=h;exact⟨es,c,by rw[G.block b hl hb];exact h1,h2⟩
theorem ZV.I {b:Nat}{m:List (κ×O7)}(h:ZV enc ↑w b m)(G:sW w w'):ZV enc ↑w' b m:=h.J G oe
theorem QbP {m:List (κ×O7)}{es:List MapEntry}(h:es.map (λe=>(e.key,e.val))=m.map (λp=>(enc p.1,p.2))):es.map (·.key)=(m.map (·.1)).map enc:=by
 have:=O0 (OX Prod.fst) h;simp only[List.map_map]at this ⊢;exact this
variable [DecidableEq κ]
theorem U4 {k:κ}:∀{m:List (κ×O7)}{es:List MapEntry}{i:Nat},es.map (λe=>(e.key,e.val))=m.map (λp=>(enc p.1,p.2))->xq m k=none->fnd k (m.map (·.1)) es i=none
 | [],es,i,h,_=>by simp[fnd]
 | (q,u)::m,[],i,h,_=>by simp at h
 | (q,u)::m,e::es,i,h,G=>by
  simp only[oU,List.cons.injEq]at h;simp only[xq]at G;by_cases I:q=k
  ·simp[I]at G
  simp only[I,if_false]at G;simp only[oU,fnd,Ne.symm I,if_false];exact U4 h.2 G
theorem U3 {k:κ}{u:O7}:∀{m:List (κ×O7)}{es:List MapEntry}{i:Nat},es.map (λe=>(e.key,e.val))=m.map (λp=>(enc p.1,p.2))->xq m k=some u ->
  ∃j,fnd k (m.map (·.1)) es i=some (i+j,u)/\j<es.length/\(∃e,es[j]?=some e/\e.key=enc k) /\
   ∀v,(es.modify j λe=>{ e with key:=enc k,val:=v }).map (λe=>(e.key,e.val))=(xt m k v).map (λp=>(enc p.1,p.2))
 | [],es,i,_,h=>by simp[xq]at h
 | (q,x)::m,[],i,h,_=>by simp at h
 | (q,x)::m,e::es,i,h,G=>by
  simp only[oU,List.cons.injEq,Prod.mk.injEq]at h;simp only[xq]at G;by_cases I:q=k
  ·subst I;simp at G;subst G;refine⟨0,by simp[fnd,h.1.2],oe,⟨e,rfl,h.1.1⟩,λv=>?_⟩;simp[xt,h.2]
  simp only[I,if_false]at G;obtain⟨j,h1,h2,⟨e',J,O⟩,U⟩:=U3 (i:=i+1) h.2 G;refine⟨j+1,?_,by simp;omega,⟨e',ox J,O⟩,λv=>?_⟩
  ·simp only[oU,fnd,Ne.symm I,if_false,h1];congr 2;omega
  simp only[xt,I,if_false,List.modify_succ_cons,oU,U v,h.1]
end
section
variable {K:Fr->O6->Prop}{f:Fr}{κ:Type}[DecidableEq κ]
omit [DecidableEq κ] in
theorem Z1 (enc:κ->O7)
  (hK:∀b w',sW w w'->↑w<=b->ZV enc ↑w' b []->K (QP f d (.map (some b))) w'):XO P ⟨d,.makeMap t none,ty,pS,af,gd⟩ f w K:=by
 have G:(execOp (ev f) ⟨d,.makeMap t none,ty,pS,af,gd⟩).run P w=.ok (.value (.map (some ↑w))) (w.alloc (.map #[] 0)):=by
  simp[execOp,Instr.makeMap]
 exact xv G (hK _ _ (xd.alloc w _) (Lr _) ⟨#[],0,VB w _,Z⟩)
theorem X6 {b:Nat}{es:Array MapEntry}{c:Nat}(h:w.heap[b]?=some (.map es c)):(getObj b).run P w=.ok (.map es c) w:=by
 simp[getObj,Sem.run,h]
theorem V5 {b:Nat}{es G:Array MapEntry}{c I:Nat}(h:w.heap[b]?=some (.map es c)):(setObj b (.map G I)).run P w=.ok () { w with heap:=w.heap.setIfInBounds b (.map G I) }:=by
 simp[setObj,Sem.run,h]
theorem Vl [hm:Mp P t kt et z]{enc:κ->O7}[G:Key P kt enc]{x:O8}{b:Nat}{m:List (κ×O7)}{k:κ}(h:ZV enc ↑w b m)(hx:ev f x=.map (some b))(J:ev f y=enc k):
  (execOp (ev f) ⟨d,.lookup t x y true,ty,pS,af,gd⟩).run P w=.ok (.value (match xq m k with|some u=>.tuple #[u,.bool true]|none=>.tuple #[z,.bool false])) w:=by
 obtain⟨es,c,h1,h2⟩:=h;have O:(zeroValue et).run P w=.ok z w:=by
  have:=hm.z;cases hi:P.info? et with
  | none=>simp[hi]at this
  | some i=>simp[hi]at this;simp[zeroValue,typeInfo,hi,this]
 simp only[execOp,Sem.run_bind,Instr.lookup,run_underlying hm.u,Result.andThen_ok,hx,J,X6 h1,Sem.run_pure,G.check,(G.find w k (m.map (·.1)) es.toList (QbP h2))];cases I:xq m k with
 | none=>rw[U4 h2 I];simp[O]
 | some u =>
  obtain⟨j,U,_⟩:=U3 (i:=0) h2 I;rw[U];simp
theorem JA [hm:Mp P t kt et z]{enc:κ->O7}[G:Key P kt enc]{x:O8}{b:Nat}{m:List (κ×O7)}{k:κ}(h:ZV enc ↑w b m)(hx:ev f x=.map (some b))(J:ev f y=enc k):
  (execOp (ev f) ⟨d,.lookup t x y false,ty,pS,af,gd⟩).run P w=.ok (.value (match xq m k with|some u=>u|none=>z)) w:=by
 obtain⟨es,c,h1,h2⟩:=h;have O:(zeroValue et).run P w=.ok z w:=by
  have:=hm.z;cases hi:P.info? et with
  | none=>simp[hi]at this
  | some i=>simp[hi]at this;simp[zeroValue,typeInfo,hi,this]
 simp only[execOp,Sem.run_bind,Instr.lookup,run_underlying hm.u,Result.andThen_ok,hx,J,X6 h1,Sem.run_pure,G.check,(G.find w k (m.map (·.1)) es.toList (QbP h2))];cases I:xq m k with
 | none=>rw[U4 h2 I];simp[O]
 | some u =>
  obtain⟨j,U,_⟩:=U3 (i:=0) h2 I;rw[U];simp
theorem yp [hm:Mp P t kt et z]{enc:κ->O7}[J:Key P kt enc]{b:Nat}{m:List (κ×O7)}{k:κ}{u:O7}(h:ZV enc ↑w b m):
  ∃w',(Instr.mapUpdate t (.map (some b)) (enc k) u).run P w=.ok () w'/\xd [b] w w'/\ZV enc ↑w' b (xt m k u):=by
 have hl:=h.lt;obtain⟨es,c,h1,h2⟩:=h;have G:=J.find w k (m.map (·.1)) es.toList (QbP h2);have stp:∀U V,xd [b] w { w with heap:=w.heap.setIfInBounds b (.map U V) }:=λU V =>
  ⟨rfl,rfl,rfl,oe,λi hi Y=>by
   have:b≠i:=λe=>Y (by simp[e]);simp[Array.getElem?_setIfInBounds_ne this]⟩
 cases I:xq m k with
 | none =>
  rw[U4 h2 I]at G;refine⟨_,?_,stp (es.push { key:=enc k,val:=u,born:=c }) (c+1),es.push { key:=enc k,val:=u,born:=c },c+1,?_,?_⟩
  ·simp only[Instr.mapUpdate,Sem.run_bind,run_underlying hm.u,Result.andThen_ok,X6 h1,J.check,G,V5 h1]
  ·simp[hl]
  have ha:xt m k u=m++[(k,u)]:=by
   clear h2 G;induction m with
   | nil=>rfl
   | cons p m ih =>
    obtain⟨q,x⟩:=p;by_cases O:q=k
    ·simp[xq,O]at I
    simp only[xq,O,if_false]at I;simp[xt,O,ih I]
  simp[ha,h2]
 | some u0 =>
  obtain⟨j,hj,hs,⟨e,he,hh⟩,ho⟩:=U3 (i:=0) h2 I;rw[hj]at G;simp only[Ob]at G;have hp:∀w,(Instr.keyThatStays (enc k) (enc k)).run P w=.ok (enc k) w:=λw=>by simp[Instr.keyThatStays,J.same]
  have hr:((es[j]?).map (·.key)).getD (enc k)=enc k:=by
   have:es[j]?=some e:=by simpa using he
   simp[this,hh]
  refine⟨_,?_,stp (es.modify j λe=>{ e with key:=enc k,val:=u }) c,es.modify j λe=>{ e with key:=enc k,val:=u },c,?_,?_⟩
  ·simp only[Instr.mapUpdate,Sem.run_bind,run_underlying hm.u,Result.andThen_ok,X6 h1,J.check,G,hr,hp,V5 h1]
  ·simp[hl]
  rw[Array.toList_modify];exact ho u
theorem YV [hm:Mp P t kt et z]{enc:κ->O7}[hk:Key P kt enc]{x v:O8}{b:Nat}{m:List (κ×O7)}{k:κ}(h:ZV enc ↑w b m)(hx:ev f x=.map (some b))(G:ev f y=enc k)
  (hK:∀w',xd [b] w w'->ZV enc ↑w' b (xt m k (ev f v))->K (QP f d undef) w'):XO P ⟨d,.mapUpdate t x y v,ty,pS,af,gd⟩ f w K:=by
 obtain⟨w',h1,h2,I⟩:=yp (P:=P) (t:=t) (k:=k) (u:=ev f v) h;exact xk (w':=w') (by simp[execOp,hx,G,h1]) (hK w' h2 I)
theorem Yy [hm:Mp P t kt et z]{enc:κ->O7}[hk:Key P kt enc]{x v:O8}{b:Nat}{m:List (κ×O7)}{k:κ}(h:ZV enc ↑w b m)(hx:ev f x=.map (some b))(G:ev f y=enc k)
  (hK:∀w',xd [b] w w'->ZV enc ↑w' b (xt m k (ev f v))->K (QP f d undef) w'):XO P ⟨d,.insert t x y v,ty,pS,af,gd⟩ f w K:=by
 obtain⟨w',h1,h2,I⟩:=yp (P:=P) (t:=t) (k:=k) (u:=ev f v) h;exact xk (w':=w') (by simp[execOp,hx,G,h1]) (hK w' h2 I)
end
section
variable {K:Fr->O6->Prop}{f:Fr}{l:xI}
theorem JG {b:Nat}{cs G:LV}(h:QN ↑w b T cs):QN (w.setRow b G.toArray).heap b T G:=setRow_heap w b cs.toArray G.toArray T (0,0) h
theorem V4 (cs:LV)(j:Nat)(u:O7)(h:j<cs.length):cs.take j++[u]++cs.drop (j+1)=cs.set j u:=by
 rw[List.set_eq_take_append_cons_drop,OZ h];simp
theorem Qv [h1:X2 P t]{x:O8}{b:Nat}{cs:LV}{u:O7}(G:QN ↑w b T cs)(hx:ev f x=.pointer (some ⟨b,j,none⟩))(O:ev f y=u)(U:j<cs.length)(I:u.oneCell'=true)
  (hK:∀w',xd [b] w w'->QN ↑w' b T (cs.set j u)->K (QP f d undef) w'):XO P ⟨d,.store t x y,ty,pS,af,gd⟩ f w K:=by
 have hc:u.cells=#[u]:=by cases u <;> first|rfl|cases I
 have J:=run_storeCells_at P b j T [u] 0 cs.toArray w G (by simp;omega) (by simp[I]);simp only[OC,oL,V4 cs j u U]at J;refine xk (w':=w.setRow b (cs.set j u).toArray) ?_ (hK _ (xd.setRow _ _ _) (JG G));simp[execOp,hx,O,Instr.storeAt,Instr.sureAddr,storeVar,yn,hc,J]
def ZN:LV->Prop
 | []=>True
 | u::us=>u.oneCell'=true/\ZN us
theorem ZN.all:∀{us:LV},ZN us->∀u∈us,u.oneCell'=true
 | [],_,u,G=>by cases G
 | v::us,h,u,G=>by
  rcases Ll.1 G with rfl|G
  ·exact h.1
  exact ZN.all h.2 u G
theorem ZM [h1:Ag P t sz]{x:O8}{b:Nat}{cs us:LV}(G:QN ↑w b T cs)(hx:ev f x=sP b)(J:ev f y=sT us)(hl:us.length=sz)(O:cs.length=sz)(U:ZN us)
  (hK:∀w',xd [b] w w'->QN ↑w' b T us->K (QP f d undef) w'):XO P ⟨d,.store t x y,ty,pS,af,gd⟩ f w K:=by
 have I:=run_storeCells_at P b 0 T us 0 cs.toArray w G (by simp;omega) U.all;have e:(cs.take 0++us++cs.drop us.length)=us:=by rw[hl,<-O];simp
 simp only[OC,Ob,e]at I;refine xk (w':=w.setRow b us.toArray) ?_ (hK _ (xd.setRow _ _ _) (JG G));subst hl;simp[execOp,hx,J,Instr.storeAt,Instr.sureAddr,storeVar,qy (sz:=us.length),Value.cells,I]
theorem QE {x:O8}{e bys:Nat}[h:Sl P t e sz bys z]{b o c:Nat}{k:IntKind}(hx:ev f x=.slice (some ⟨b,o,none⟩) n c)(G:ev f y=.int k i)(h1:i<n):
  (execOp (ev f) ⟨d,.indexAddr t x y,ty,pS,af,gd⟩).run P w=.ok (.value (.pointer (some ⟨b,o+i*sz,none⟩))) w:=by
 have:=X7 (P:=P) (w:=w) (d:=d) (ty:=ty) (pS:=pS) (af:=af) (gd:=gd) (t:=t) hx G oa oa;rw[Jc]at this;simpa using this
theorem QnM {e bys:Nat}[h:Sl P t e sz bys z]{x:O8}{k:IntKind}(hx:ev f x=.int k n)(O:ev f y=.int k' n)(U:bys*n<=281474976710656)(hn:n<=1099511627776)
  (hK:∀b w',sW w w'->↑w<=b->QN ↑w' b e (oI n z.cells.toList).flatten->K (QP f d (sL b n n)) w'):
  XO P ⟨d,.makeSlice t x y,ty,pS,af,gd⟩ f w K:=by
 obtain⟨i,hi,V,Y,ha⟩:=Sl.info h;have hb:i.bytes*n<=281474976710656:=by rw[ha];exact U
 have he:(i.bytes:Int)*(n:Int)<=281474976710656:=by
  have h:((i.bytes*n:Nat):Int)<=281474976710656:=oa
  rwa [Int.natCast_mul]at h
 have I:=run_make (P:=P) w t e i z h.u hi V k k' n n oa (Ms _) he oa;simp only[OD]at I;have hf:madeCells z.cells (n*i.size)=(oI n z.cells.toList).flatten.toArray:=by
  have hg:z.cells.size=i.size:=by rw[h.zs,Y]
  apply Array.ext';apply Nw;intro j;simp only[madeCells,<-hg,Array.toList_map,Array.toList_range,List.getElem?_map];have hh:∀n,(oI n z.cells.toList).flatten.length=n*z.cells.size:=λn=>oe
  have key:∀n j,j<n*z.cells.size->(oI n z.cells.toList).flatten[j]?=some z.cells[j % z.cells.size]!:=by
   intro n;induction n with
   | zero=>intro j G;omega
   | succ n ih =>
    intro j G;rw[List.replicate_succ,List.flatten_cons];by_cases J:j<z.cells.size
    ·rw[LT (ox J),NS J];simp[J]
    rw[MA (by simp;omega)];have:=ih (j - z.cells.size) (by rw[MI]at G;omega);rw[Array.length_toList,this];rw[<-Nat.mod_eq_sub_mod oa]
  by_cases G:j<n*z.cells.size
  ·rw[key n j G];simp[G]
  rw[Mk (ox (Nat.le_of_not_lt G)),List.getElem?_eq_none (by rw[hh];omega)];rfl
 rw[hf]at I;refine xv (w':=w.alloc (.cells (oI n z.cells.toList).flatten.toArray e)) (v:=.slice (some ⟨↑w,0,none⟩) n n) ?_ (hK _ _ (xd.alloc w _) (Lr _) (VB w _));simp[execOp,hx,O,I]
theorem Y5 {e bys:Nat}[h:Sl P t e sz bys z]{x:O8}{k:IntKind}(hx:ev f x=.int k n)(I:ev f y=.int k' n)(G:n<=1099511627776)
  (hK:∀b w',sW w w'->↑w<=b->QN ↑w' b e (oI n z.cells.toList).flatten->K (QP f d (sL b n n)) w') (J:bys<=128:=by decide):
  XO P ⟨d,.makeSlice t x y,ty,pS,af,gd⟩ f w K:=QnM hx I (LA (Nj J G) oa) G hK
theorem YE {k:IntKind}{y:Nat}{c:BoundsCode}(h:i<=y):(Instr.sliceBound (.int k i) y c).run P w=.ok i w:=by
 simp[Instr.sliceBound,asIntOf,h]
theorem Zw.cut {L:LN}{H:xG}{a:Addr}{cap:Nat}{cs:LV}(h:Zw L H (.slice (some a) n cap) n sz cs){lo hi:Nat}(h1:lo<=hi)(h2:hi<=n):
  Zw L H (.slice (if cap=lo then some a else some (a.add (lo*sz))) (hi - lo) (cap - lo)) (hi - lo) sz ((cs.drop (lo*sz)).take ((hi - lo)*sz)):=by
 obtain⟨O,V,U⟩:=h;rcases U with⟨I,_⟩|⟨a',cap',I,Y,J⟩
 ·cases I
 cases I
 refine⟨?_,oa,.inr ?_⟩
 ·simp only[OL,OK,O,<-Nat.sub_mul];rw[M9];exact MY _ oa
 split
 ·rename_i hc;have:hi - lo=0:=oa
  refine⟨a,cap - lo,by rw[this],oa,λu G=>?_,λu G=>?_,λj u G=>?_⟩
  ·simp[this]at G
  ·simp[this]at G
  simp[this]at G
 refine⟨a.add (lo*sz),cap - lo,Z,oa,λu G=>by rw[YJ];exact J.out u (MZ (Ma G)),λu G=>by rw[YJ];exact J.lt u (MZ (Ma G)),λj u G=>?_⟩;rw[Addr.add_add];rw[L6]at G;split at G
 ·exact J.cell _ u (ox G)
 cases G
theorem Qgo {e bys:Nat}[h:Sl P t e sz bys z]{x y1 y2:O8}{L:LN}{v:O7}{cs:LV}{H:xG}{k:IntKind}{lo hi:Nat}(hA:Zw L H v n sz cs)(hx:ev f x=v)(hl:ev f y1=.int k lo)(I:ev f y2=.int k' hi)
  (h1:lo<=hi) (h2:hi<=n):∃v',Zw L H v' (hi - lo) sz ((cs.drop (lo*sz)).take ((hi - lo)*sz))/\∀w,(execOp (ev f) ⟨d,.slice t x (some y1) (some y2) none,ty,pS,af,gd⟩).run P w=.ok (.value v') w:=by
 obtain⟨i,hi',_,J,_⟩:=Sl.info h;rcases hA.2.2 with⟨G,O⟩|⟨a,cap,G,hc,U⟩
 ·have e1:hi=0:=oa
  have e2:lo=0:=oa
  subst e1 e2;refine⟨nS,⟨oe,oa,.inl ⟨rfl,rfl⟩⟩,λw=>?_⟩;simp[execOp,hx,G,hl,I,Instr.sliceAt,Instr.slice,run_underlying h.u,Instr.sliceBounds,Instr.sliceBound,asIntOf,sizeOf,typeInfo,hi']
 subst G;refine⟨_,hA.cut h1 h2,λw=>?_⟩;have e1:(Instr.sliceBound (.int k' hi) cap .sliceAcap).run P w=.ok hi w:=YE oa;have e2:(Instr.sliceBound (.int k lo) hi .sliceB).run P w=.ok lo w:=YE oa;simp[execOp,hx,hl,I,Instr.sliceAt,Instr.slice,run_underlying h.u,Instr.sliceBounds,e1,e2,sizeOf,typeInfo,hi',J]
theorem QjJ {e bys:Nat}[h:Sl P t e sz bys z]{x y1:O8}{L:LN}{v:O7}{cs:LV}{H:xG}{k:IntKind}{lo:Nat}(hA:Zw L H v n sz cs)(hx:ev f x=v)(hl:ev f y1=.int k lo)
  (h1:lo<=n):∃v',Zw L H v' (n - lo) sz (cs.drop (lo*sz))/\∀w,(execOp (ev f) ⟨d,.slice t x (some y1) none none,ty,pS,af,gd⟩).run P w=.ok (.value v') w:=by
 obtain⟨i,hi',_,J,_⟩:=Sl.info h;rcases hA.2.2 with⟨G,O⟩|⟨a,cap,G,hc,U⟩
 ·have e2:lo=0:=oa
  subst e2 O;have:cs=[]:=Lu (ox hA.1);subst this;refine⟨nS,⟨oe,oa,.inl ⟨rfl,rfl⟩⟩,λw=>?_⟩;simp[execOp,hx,G,hl,Instr.sliceAt,Instr.slice,run_underlying h.u,Instr.sliceBounds,Instr.sliceBound,asIntOf,sizeOf,typeInfo,hi']
 subst G;have I:=hA.cut h1 (Lr n);have e:(cs.drop (lo*sz)).take ((n - lo)*sz)=cs.drop (lo*sz):=Ls (by rw[My,hA.1,<-Nat.sub_mul];exact Lr _);rw[e]at I;refine⟨_,I,λw=>?_⟩;have e2:(Instr.sliceBound (.int k lo) n .sliceB).run P w=.ok lo w:=YE h1;simp[execOp,hx,hl,Instr.sliceAt,Instr.slice,run_underlying h.u,Instr.sliceBounds,e2,sizeOf,typeInfo,hi',J]
theorem QjK {e bys:Nat}[h:Sl P t e sz bys z]{x y2:O8}{L:LN}{v:O7}{cs:LV}{H:xG}{k:IntKind}{hi:Nat}(hA:Zw L H v n sz cs)(hx:ev f x=v)(I:ev f y2=.int k hi)
  (h1:hi<=n):∃v',Zw L H v' hi sz (cs.take (hi*sz))/\∀w,(execOp (ev f) ⟨d,.slice t x none (some y2) none,ty,pS,af,gd⟩).run P w=.ok (.value v') w:=by
 obtain⟨i,hi',_,O,_⟩:=Sl.info h;rcases hA.2.2 with⟨G,U⟩|⟨a,cap,G,hc,V⟩
 ·have e2:hi=0:=oa
  subst e2;refine⟨nS,⟨oe,oa,.inl ⟨rfl,rfl⟩⟩,λw=>?_⟩;simp[execOp,hx,G,I,Instr.sliceAt,Instr.slice,run_underlying h.u,Instr.sliceBounds,Instr.sliceBound,asIntOf,sizeOf,typeInfo,hi']
 subst G;have J:=hA.cut (Lp hi) h1;simp only[Nat.zero_mul,List.drop_zero,OS]at J;refine⟨_,J,λw=>?_⟩;have e2:(Instr.sliceBound (.int k hi) cap .sliceAcap).run P w=.ok hi w:=YE oa;simp[execOp,hx,I,Instr.sliceAt,Instr.slice,run_underlying h.u,Instr.sliceBounds,e2,sizeOf,typeInfo,hi']
end
section
variable {K:Fr->O6->Prop}{C:xF}{f:Fr}{w0:O6}{pl:xA}{i0:Nat}
theorem pi {x:O8}{e bys:Nat}[Sl P t e sz bys z]{L:LN}{cs:LV}{v:O7}{H:xG}{k:IntKind}
  (G:QR ops i0=⟨d,.indexAddr t x y,ty,pS,af,gd⟩) (h:Zw L H v n sz cs) (I:ev f x=v) (J:ev f y=.int k i) (hi:i<n)
  (hK:∀a,At L H a ((cs.drop (i*sz)).take sz)->XP P ops C K pl (QP f d (.pointer (some a))) w) (O:Yb ops f (QR ops i0)=true:=by rfl):
  XP P ops C K ((i0,true)::pl) f w:=by
 obtain⟨a,cap,h1,h2⟩:=h.at hi;refine Lg.p (λw'=>by rw[G];exact X7 (I.D h1) J oa oa) ?_ O;rw[G];refine hK _ ?_;simpa using h2
theorem pii {x:O8}{e bys:Nat}[Sl P t e 1 bys z]{L:LN}{li:LI}{v:O7}{H:xG}{k:IntKind}
  (G:QR ops i0=⟨d,.indexAddr t x y,ty,pS,af,gd⟩) (h:Qu L H v li) (I:ev f x=v) (J:ev f y=.int k i) (hi:i<li.length)
  (hK:∀a,At L H a [sS li[i]]->XP P ops C K pl (QP f d (.pointer (some a))) w) (O:Yb ops f (QR ops i0)=true:=by rfl):
  XP P ops C K ((i0,true)::pl) f w:=by
 obtain⟨a,cap,h1,h2⟩:=Qu.at h hi;refine Lg.p (λw'=>by rw[G];exact X7 (I.D h1) J oa oa) ?_ O;rw[G];refine hK _ ?_;simpa using h2
end
abbrev Ed:=Int×Int×Int
def Qp (e:Ed):LV:=[sS e.1,sS e.2.1,sS e.2.2]
abbrev qn (L:LN)(H:xG)(v:O7)(es:List Ed):Prop:=Zw L H v es.length 3 (es.flatMap Qp)
theorem Jv {α:Type}(g:α->LV)(sz:Nat)(G:∀x,(g x).length=sz):∀(l:List α) (i:Nat) (h:i<l.length),((l.flatMap g).drop (i*sz)).take sz=g l[i]
 | x::l,0,_=>by simp[G]
 | x::l,i+1,h=>by
  have:=Jv g sz G l i (ox h);simp only[oV,List.getElem_cons_succ];rw[<-this,MI,NT,M4,List.drop_append,G];simp[Nat.add_sub_cancel_left,List.drop_eq_nil_of_le,G]
theorem Vy (g:α->LV)(sz:Nat)(G:∀x,(g x).length=sz)(l:List α):(l.flatMap g).length=l.length*sz:=by
 induction l with
 | nil=>simp
 | cons x l ih=>simp[ih,G,Oz,Nat.add_comm]
theorem J3 (e:Ed):(Qp e).length=3:=rfl
structure Qz where
 al:LI
 st:Int
 mr:LI
 ed:List Ed
structure Zv (L:LN)(H:xG)(va vm ve:O7)(a:Qz):Prop where
 al:Qu L H va a.al
 mr:Qu L H vm a.mr
 ed:qn L H ve a.ed
def Qt6 (L:LN)(H:xG)(v:O7)(a:Qz):Prop:=∃va vm ve,v=.agg #[va,sS a.st,vm,ve]/\Zv L H va vm ve a
theorem Zv.I {L:LN}{w w':O6}{va vm ve:O7}{a:Qz}(h:Zv L ↑w va vm ve a)(G:sW w w'):Zv L ↑w' va vm ve a:=⟨h.al.I G,h.mr.I G,h.ed.I G⟩
theorem Zv.st {L:LN}{w w':O6}{va vm ve:O7}{a:Qz}(h:Zv L ↑w va vm ve a)(G:xd L w w'):Zv L ↑w' va vm ve a:=⟨h.al.st G,h.mr.st G,h.ed.st G⟩
theorem Zv.up {L L':LN}{H:xG}{va vm ve:O7}{a:Qz}(h:Zv L H va vm ve a)(G:∀b∈L',b∈L\/H.size<=b):Zv L' H va vm ve a:=⟨h.al.up G,h.mr.up G,h.ed.up G⟩
section
variable {f:Fr}
class Ik (P:O9)(t:Nat)(k:outParam IntKind):Prop where
 u:P.underlying t=some (.int k):=by first|kernel_rfl|decide|rfl|exact sX (by kernel_rfl)
theorem Yi {k:IntKind}[h:Ik P t k][h':Ik P G k']{x:O8}{n:Int}{I:IntKind}(hx:ev f x=.int I n)(J:inK k' n):
  (execOp (ev f) ⟨d,.convert t G x,ty,pS,af,gd⟩).run P w=.ok (.value (.int k' n)) w:=by
 simp[execOp,hx,convert,run_underlying h.u,run_underlying h'.u,Conv.intToInt,X4 J]
theorem Qr1 {x:O8}{a b:Int}{k:IntKind}{ts:Array Nat}(hx:ev f x=.int k a)(G:ev f y=.int k b):
  (execOp (ev f) ⟨d,.call ⟨.builtin .min,#[x,y],ts⟩,ty,pS,af,gd⟩).run P w=.ok (.value (.int k (min a b))) w:=by
 simp[execOp,resolve,invoke,builtin,Builtin.min_,Builtin.min2,hx,G];split <;> omega
theorem Qr2 {x:O8}{a b:Int}{k:IntKind}{ts:Array Nat}(hx:ev f x=.int k a)(G:ev f y=.int k b):
  (execOp (ev f) ⟨d,.call ⟨.builtin .max,#[x,y],ts⟩,ty,pS,af,gd⟩).run P w=.ok (.value (.int k (max a b))) w:=by
 simp[execOp,resolve,invoke,builtin,Builtin.max_,Builtin.max2,hx,G];split <;> omega
class Bk (P:O9)(t:Nat):Prop where
 u:P.underlying t=some .bool
class St (P:O9)(t:Nat):Prop where
 u:P.underlying t=some .string
theorem QeR [h:Bk P t]{x:O8}{a b:Bool}(hx:ev f x=.bool a)(I:ev f y=.bool b):
  (execOp (ev f) ⟨d,.binOp .eql t x y G,ty,pS,af,gd⟩).run P w=.ok (.value (.bool (a == b))) w:=by
 have J:(eqGuard .eql t x y (.bool a) (.bool b)).run P w=.ok () w:=by simp[eqGuard]
 simp[execOp,hx,I,J,run_eql_bool (P:=P) (w:=w) t a b h.u]
end
theorem QZ {l:List α}{k:Nat}(h:k<l.length):l.drop k=l[k]::l.drop (k+1):=Mi h
theorem qn.at {L:LN}{H:xG}{v:O7}{es:List Ed}(h:qn L H v es){i:Nat}(hi:i<es.length):
  ∃a cap,v=.slice (some a) es.length cap/\At L H (a.add (i*3)) (Qp es[i]):=by
 obtain⟨a,cap,h1,h2⟩:=Zw.at h hi;rw[Jv Qp 3 J3 es i hi]at h2;exact⟨a,cap,h1,h2⟩
section
variable {K:Fr->O6->Prop}{f:Fr}{l:xI}{C:xF}{pl:xA}{i0:Nat}
theorem xie {x:O8}{e bys:Nat}[Sl P t e 3 bys z]{L:LN}{es:List Ed}{v:O7}{k:IntKind}
  (h:qn L ↑w v es) (G:ev f x=v) (I:ev f y=.int k i) (hi:i<es.length)
  (hK:∀a,At L ↑w a (Qp es[i])->XL P ops K l (QP f d (.pointer (some a))) w) (J:Yb ops f ⟨d,.indexAddr t x y,ty,pS,af,gd⟩=true:=by rfl):
  XL P ops K (⟨d,.indexAddr t x y,ty,pS,af,gd⟩::l) f w:=by
 obtain⟨a,cap,h1,h2⟩:=qn.at h hi;refine xl J (xv (X7 (G.D h1) I oa oa) (hK _ ?_));simpa using h2
theorem pie {x:O8}{e bys:Nat}[Sl P t e 3 bys z]{L:LN}{es:List Ed}{v:O7}{H:xG}{k:IntKind}
  (G:QR ops i0=⟨d,.indexAddr t x y,ty,pS,af,gd⟩) (h:qn L H v es) (I:ev f x=v) (J:ev f y=.int k i) (hi:i<es.length)
  (hK:∀a,At L H a (Qp es[i])->XP P ops C K pl (QP f d (.pointer (some a))) w) (O:Yb ops f (QR ops i0)=true:=by rfl):
  XP P ops C K ((i0,true)::pl) f w:=by
 obtain⟨a,cap,h1,h2⟩:=qn.at h hi;refine Lg.p (λw'=>by rw[G];exact X7 (I.D h1) J oa oa) ?_ O;rw[G];refine hK _ ?_;simpa using h2
end
section
variable {f:Fr}
theorem Qax {x:O8}{k:IntKind}{a:Int}(hx:ev f x=.int k a)(I:ev f y=.int k' n)(J:n<=k.bits):
  (execOp (ev f) ⟨d,.binOp .shr t x y G,ty,pS,af,gd⟩).run P w=.ok (.value (.int k (a / 2 ^ n))) w:=by
 refine Kq hx I ?_;have h1:¬((n:Int)<0):=oa
 simp only[binOp,Op.shift,h1,if_false,OD,Nat.min_eq_left J,Sem.run_pure];rw[Int.fdiv_eq_ediv_of_nonneg _ (Int.le_of_lt (Int.pow_pos oh))]
class S3 (P:O9)(t:Nat):Prop where
 u:∃f0 f1 f2,P.underlying t=some (.struct #[f0,f1,f2])/\f0.name ≠ "_" /\ f1.name ≠ "_" /\ f2.name ≠ "_" /\ f0.offset=0/\f1.offset=1/\f2.offset=2 /\
  P.underlying f0.type=some (.int .i64)/\P.underlying f1.type=some (.int .i64)/\P.underlying f2.type=some (.int .i64)
 s:P.stoodInHeld t=false
 g:P.eqGuardType P.depth t=false
end
theorem xd.O {L:LN}{w0:O6}{b:Nat}(h:xd L w0 w)(k:xd [b] w w')(hb:↑w0<=b):xd L w0 w':=h.Z k (λc hc=>.inr (by simp at hc;omega))
section
variable {K:Fr->O6->Prop}{f:Fr}
theorem Qnq {e bys:Nat}[h:Sl P t e sz bys z]{x:O8}{a:Option Addr}{c:Nat}(hx:ev f x=.slice a n c)(I:ev f y=nS):
  (execOp (ev f) ⟨d,.binOp .eql t x y G,ty,pS,af,gd⟩).run P w=.ok (.value (.bool a.isNone)) w:=by
 have J:(eqGuard .eql t x y (.slice a n c) (nS)).run P w=.ok () w:=by simp[eqGuard]
 have key:∀m,(Op.equalIn (m+1) t (.slice a n c) (nS)).run P w=.ok a.isNone w:=by
  intro m;unfold Op.equalIn;cases a <;> simp[run_underlying h.u]
 have O:(Op.equal t (.slice a n c) (nS)).run P w=.ok a.isNone w:=key 9999;simp only[execOp,hx,I,Sem.run_bind,J,Result.andThen_ok,binOp,O,Sem.run_pure]
theorem Qe3 {e bys:Nat}[h:Sl P t e sz bys z]
  (hK:∀b w',sW w w'->↑w<=b->QN ↑w' b e []->K (QP f d (sL b 0 0)) w'):XO P ⟨d,.buildSlice t 0 #[],ty,pS,af,gd⟩ f w K:=by
 obtain⟨ie,G,J,O,_⟩:=Sl.info h;have I:(execOp (ev f) ⟨d,.buildSlice t 0 #[],ty,pS,af,gd⟩).run P w=.ok (.value (.slice (some ⟨↑w,0,none⟩) 0 0)) (w.alloc (.cells #[] e)):=by
  simp[execOp,Instr.buildSlice,run_underlying h.u,sizeOf,typeInfo,G,Instr.fill,newRow];have e0:Array.map (λ_=>(default:O7)) (Array.range 0)=#[]:=by apply Array.ext';simp
  rw[e0]
 exact xv I (hK _ _ (xd.alloc w _) (Lr _) (VB w _))
end
abbrev Qh (e base:Nat)(w:O6)(v:O7)(l:LI):Prop:=w.ownsRow base e 1 v l.length (l.map (.int .i64))
theorem Qh.ints {e:Nat}{v:O7}{l:LI}{L:LN}(h:Qh e base w v l)(G:l.length<=1099511627776)(I:∀b∈L,b<base):Qu L ↑w v l :=
 QO h G (λb hb J=>ou (Qi h b hb).1 (I b J))
theorem UL (l:LI):∀u∈l.map (Value.int .i64),u.oneCell'=true:=by
 intro u G;obtain⟨n,_,rfl⟩:=Lt.1 G;rfl
section
variable {P:O9}{ops:xI}{K:Fr->O6->Prop}{f:Fr}{w:O6}{d:xJ}{ty:Nat}{pS:String}{af:xH}{gd:xz}{l:xI}{C:xF}{pl:xA}{i0:Nat}
 {t e sz bys:Nat} {z:O7} {x y1 y2:O8} {L:LN} {v:O7} {n:Nat} {cs:LV} {H:xG} {k k':IntKind} {lo hi:Nat}
theorem Qp8 [h:Sl P t e sz bys z](G:QR ops i0=⟨d,.slice t x (some y1) none none,ty,pS,af,gd⟩)(hA:Zw L H v n sz cs)(hx:ev f x=v)(hl:ev f y1=.int k lo)(h1:lo<=n)(hK:∀v',Zw L H v' (n - lo) sz (cs.drop (lo*sz))->XP P ops C K pl (QP f d v') w)
  (I:Yb ops f (QR ops i0)=true:=by rfl):XP P ops C K ((i0,true)::pl) f w:=by
 obtain⟨v',h2,J⟩:=QjJ (P:=P) (d:=d) (ty:=ty) (pS:=pS) (af:=af) (gd:=gd) (t:=t) hA hx hl h1;exact Lg.p (λw'=>by rw[G];exact J w') (by rw[G];exact hK v' h2) I
theorem Qth [h:Sl P t e sz bys z](hA:Zw L H v n sz cs)(hx:ev f x=v)(hl:ev f y1=.int k lo)(G:ev f y2=.int k' hi)(h1:lo<=hi)(h2:hi<=n)(hK:∀v',Zw L H v' (hi - lo) sz ((cs.drop (lo*sz)).take ((hi - lo)*sz))->XL P ops K l (QP f d v') w)
  (I:Yb ops f ⟨d,.slice t x (some y1) (some y2) none,ty,pS,af,gd⟩=true:=by rfl):XL P ops K (⟨d,.slice t x (some y1) (some y2) none,ty,pS,af,gd⟩::l) f w:=by
 obtain⟨v',J,O⟩:=Qgo (P:=P) (d:=d) (ty:=ty) (pS:=pS) (af:=af) (gd:=gd) (t:=t) hA hx hl G h1 h2;exact xl I (xv (O w) (hK v' J))
theorem QpM [h:Sl P t e sz bys z](hA:Zw L H v n sz cs)(hx:ev f x=v)(G:ev f y2=.int k hi)(h1:hi<=n)(hK:∀v',Zw L H v' hi sz (cs.take (hi*sz))->XL P ops K l (QP f d v') w)
  (I:Yb ops f ⟨d,.slice t x none (some y2) none,ty,pS,af,gd⟩=true:=by rfl):XL P ops K (⟨d,.slice t x none (some y2) none,ty,pS,af,gd⟩::l) f w:=by
 obtain⟨v',h2,J⟩:=QjK (P:=P) (d:=d) (ty:=ty) (pS:=pS) (af:=af) (gd:=gd) (t:=t) hA hx G h1;exact xl I (xv (J w) (hK v' h2))
end
theorem Qu.drop {L:LN}{H:xG}{v:O7}{l:LI}{lo:Nat}(h:Zw L H v (l.length - lo) 1 ((l.map (Value.int .i64)).drop (lo*1))):Qu L H v (l.drop lo):=by
 rw[OV,<-List.map_drop]at h;have e:(l.drop lo).length=l.length - lo:=My;unfold Qu;rw[e];exact h
theorem Qh.snoc {e:Nat}{v:O7}{l:LI}{n:Int}(h:w.ownsRow base e 1 v (l.length+1) (l.map (Value.int .i64)++[sS n])):Qh e base w v (l++[n]):=by
 unfold Qh;rw[Le,Lv];exact h
def Dj (u v:O7):Prop:=∀b∈ob u,b∉ob v
theorem Dj.symm {u v:O7}(h:Dj u v):Dj v u:=λb hb G=>h b G hb
theorem Dj.nil (v:O7):Dj (nS) v:=λb hb=>by simp[ob]at hb
theorem Dj.nil' (v:O7):Dj v (nS):=(Dj.nil v).symm
theorem Dj.grow {u v:O7}(h:Dj u v)(G:∀b∈ob v',b∈ob v\/N<=b)(I:∀b∈ob u,b<N):Dj u v' :=
 λb hb J=>by rcases G b J with h1|h1;exact h b hb h1;have:=I b hb;omega
theorem QW {e:Nat}{v:O7}{cs:LV}(h:w.ownsRow base e sz v n cs):∀b∈ob v,b<w.heap.size:=λb hb=>(Qi h b hb).2
theorem QJ {e:Nat}{v:O7}{cs:LV}(h:w.ownsRow base e sz v n cs){b:Nat}(hb:b<base):b∉ob v:=λG=>oq (Qi h b G).1
abbrev Ye (e base:Nat)(w:O6)(v:O7)(l:List Ed):Prop:=w.ownsRow base e 3 v l.length (l.flatMap Qp)
theorem Ye.snoc {e:Nat}{v:O7}{l:List Ed}{n:Ed}(h:w.ownsRow base e 3 v (l.length+1) (l.flatMap Qp++Qp n)):Ye e base w v (l++[n]):=by
 unfold Ye;rw[Le,LJ];simpa using h
theorem Ye.eds {e:Nat}{v:O7}{l:List Ed}{L:LN}(h:Ye e base w v l)(G:l.length<=1099511627776)(I:∀b∈L,b<base):qn L ↑w v l :=
 QO h G (λb hb J=>ou (Qi h b hb).1 (I b J))
def Xu (N:Nat)(H:xG)(v:O7)(a:Qz):Prop:=∃va vm ve,v=.agg #[va,sS a.st,vm,ve]/\∀L:LN,(∀b∈L,b<N)->Zv L H va vm ve a
theorem Xu.v {N:Nat}{H:xG}{v:O7}{a:Qz}(h:Xu N H v a){L:LN}(G:∀b∈L,b<N):Qt6 L H v a:=let⟨va,vm,ve,h1,h2⟩:=h;⟨va,vm,ve,h1,h2 L G⟩
theorem Xu.I {N:Nat}{w w':O6}{v:O7}{a:Qz}(h:Xu N ↑w v a)(G:sW w w'):Xu N ↑w' v a:=let⟨va,vm,ve,h1,h2⟩:=h;⟨va,vm,ve,h1,λL I=>(h2 L I).I G⟩
theorem Xu.S {M:Nat}{H:xG}{v:O7}{a:Qz}(h:Xu N H v a)(G:M<=N):Xu M H v a:=let⟨va,vm,ve,h1,h2⟩:=h;⟨va,vm,ve,h1,λL I=>h2 L (λb hb=>LX (I b hb) G)⟩
section
variable {K:Fr->O6->Prop}{f:Fr}
theorem zS [X2 P t]{x:O8}{b:Nat}{l:LI}(h:QN ↑w b T (l.map (.int .i64)))(hx:ev f x=.pointer (some ⟨b,0+i*1,none⟩))(hi:i<l.length):
  (execOp (ev f) ⟨d,.load t x,ty,pS,af,gd⟩).run P w=.ok (.value (sS l[i])) w:=Qj h hx (by simp[hi])
theorem Kt [h1:X2 P t]{x:O8}{b:Nat}{l:LI}{u:Int}(G:QN ↑w b T (l.map (.int .i64)))(hx:ev f x=.pointer (some ⟨b,0+i*1,none⟩))(I:ev f y=sS u)(hi:i<l.length)
  (hK:∀w',xd [b] w w'->QN ↑w' b T ((l.set i u).map (.int .i64))->K (QP f d undef) w'):XO P ⟨d,.store t x y,ty,pS,af,gd⟩ f w K:=by
 refine Qv G hx I (ox hi) rfl λw' J O=>hK w' J ?_;rw[NI];simpa using O
end
theorem Qc3 (n:Nat)(u:O7):(oI n [u]).flatten=oI n u:=by
 induction n with
 | zero=>rfl
 | succ n ih=>simp[List.replicate_succ,ih]
section
variable {K:Fr->O6->Prop}{f:Fr}{l:xI}
theorem Q6 [Ag P t sz]{G I:O8}{b:Nat}{cs:LV}(us:LV)(J:QN ↑w b T cs)(O:ZN us)(hK:∀w',xd [b] w w'->QN ↑w' b T us->XL P ops K l (QP f d undef) w')(hx:ev f G=sP b:=by rfl)(U:ev f I=sT us:=by rfl)(hl:us.length=sz:=by rfl)(V:cs.length=sz:=by rfl)(Y:Yb ops f ⟨d,.store t G I,ty,pS,af,gd⟩=true:=by rfl):XL P ops K (⟨d,.store t G I,ty,pS,af,gd⟩::l) f w:=xl Y (ZM J hx U hl V O hK)
theorem QV [Ze P t z](us:LV)(hK:∀b w',sW w w'->↑w<=b->QN ↑w' b t us->XL P ops K l (QP f d (sP b)) w')(G:z.cells=us.toArray:=by rfl)(I:Yb ops f ⟨d,.alloc t,ty,pS,af,gd⟩=true:=by rfl):XL P ops K (⟨d,.alloc t,ty,pS,af,gd⟩::l) f w:=xl I (Y0 G hK)
theorem Kh {ad b:Nat}{us:LV}[Ag P t sz](G:QN ↑w b T us)(h1:f ad=sP b:=by rfl)(h2:us.length=sz:=by rfl):∃a,f ad=.pointer (some a)/\(loadVar t a).run P w=.ok (sT us) w:=⟨_,h1,Yc h2 (G.at (L:=[]) oe).cells⟩
theorem qI {K:Fr->O6->Prop}[Ag P t sz]{G I:O8}{b:Nat}{cs:LV}(us:LV)(J:QN ↑w b T cs)(O:ZN us)(hK:∀w',xd [b] w w'->QN ↑w' b T us->K (QP f d undef) w')(hx:ev f G=sP b:=by rfl)(U:ev f I=sT us:=by rfl)(hl:us.length=sz:=by rfl)(V:cs.length=sz:=by rfl):XO P ⟨d,.store t G I,ty,pS,af,gd⟩ f w K:=ZM J hx U hl V O hK
end
abbrev YD (l:LI):Prop:=l.Pairwise (·<·)
def yR:Option Int->Int->Bool
 | none,_=>false
 | some b,a=>decide (a<=b)
def Ki (n:Int):Option Int->LI->Int
 | _,[]=>0
 | pr,a::l=>if a<0\/n<=a then 2 else if yR pr a=true then 5 else Ki n (some a) l
def pv {α:Type}(l:List α)(k:Nat):Option α:=if k=0 then none else l[k - 1]?
theorem KS {l:List α}{k:Nat}(h:k<l.length):pv l (k+1)=some l[k]:=by simp[pv,h]
def edO:Option Ed->Ed->Bool
 | none,_=>false
 | some y,a=>decide (a.1<y.1\/(a.1=y.1/\a.2.1<=y.2.1))
def ckE (al:LI)(st:Int):Option Ed->List Ed->Int
 | _,[]=>0
 | pr,a::l=>if a.1<0\/st<=a.1\/a.2.2<0\/st<=a.2.2 then 2 else if a.2.1∉al then 9 else if edO pr a=true then 5 else ckE al st (some a) l
def Jj (a:Qz):Int :=
 if Ki 32 none a.al≠0 then Ki 32 none a.al else if a.st<0 then 2 else if 4096<a.st then 3 else if Ki a.st none a.mr≠0 then Ki a.st none a.mr else ckE a.al a.st none a.ed
def Jt:LI->LI->Bool
 | [],_=>false
 | _::_,[]=>true
 | a::_,b::_=>decide (a<=b)
def tl (c:Bool)(l:LI):LI:=bif c then l.tail else l
def hx (a b:LI):Int:=bif Jt b a then b.headD 0 else a.headD 0
def j7 (keep:Bool->Bool->Bool):Nat->LI->LI->LI
 | 0,_,_=>[]
 | n+1,a,b=>if a=[]/\b=[]then[]else(bif keep (Jt a b) (Jt b a) then[hx a b]else[])++j7 keep n (tl (Jt a b) a) (tl (Jt b a) b)
def mrg (keep:Bool->Bool->Bool)(a b:LI):LI:=j7 keep (a.length+b.length) a b
theorem yY {a b:LI}(h:¬(a=[]/\b=[])):(tl (Jt a b) a).length+(tl (Jt b a) b).length<a.length+b.length:=by
 cases a with
 | nil=>cases b with
  | nil=>simp at h
  | cons y b=>simp[Jt,tl]
 | cons x a=>cases b with
  | nil=>simp[Jt,tl]
  | cons y b =>
   simp only[Jt,tl];by_cases h1:x<=y <;> by_cases h2:y<=x <;> simp[h1,h2] <;> omega
theorem QaG (keep:Bool->Bool->Bool):∀(n:Nat) (a b:LI),a.length+b.length<=n->j7 keep n a b=mrg keep a b:=by
 have key:∀(n m:Nat) (a b:LI),a.length+b.length<=n->a.length+b.length<=m->j7 keep n a b=j7 keep m a b:=by
  intro n;induction n with
  | zero =>
   intro m a b h1 _;have G:a=[]:=Lu oa;have hb:b=[]:=Lu oa;subst G hb;cases m <;> simp[j7]
  | succ n ih =>
   intro m a b h1 h2;by_cases h:a=[]/\b=[]
   ·obtain⟨rfl,rfl⟩:=h;cases m <;> simp[j7]
   have I:=yY h;cases m with
   | zero=>omega
   | succ m=>rw[j7,j7,OY h,OY h,ih m _ _ oa oa]
 intro n a b h;exact key n _ a b h (Lr _)
theorem KU (keep:Bool->Bool->Bool):mrg keep [] []=[]:=rfl
theorem Kz (keep:Bool->Bool->Bool){a b:LI}(h:¬(a=[]/\b=[])):
  mrg keep a b=(bif keep (Jt a b) (Jt b a) then[hx a b]else[])++mrg keep (tl (Jt a b) a) (tl (Jt b a) b):=by
 have G:=yY h;rw[<-QaG keep (a.length+b.length - 1+1) a b oa,j7,OY h,QaG keep _ _ _ oa]
theorem Qe5 (keep:Bool->Bool->Bool):∀(n:Nat) (a b:LI),a.length+b.length<=n->(mrg keep a b).length<=a.length+b.length:=by
 intro n;induction n with
 | zero =>
  intro a b h;have G:a=[]:=Lu oa;have hb:b=[]:=Lu oa;subst G hb;simp[KU]
 | succ n ih =>
  intro a b I;by_cases h:a=[]/\b=[]
  ·obtain⟨rfl,rfl⟩:=h;simp[KU]
  have J:=yY h;rw[Kz keep h];have:=ih (tl (Jt a b) a) (tl (Jt b a) b) oa;cases keep (Jt a b) (Jt b a) <;> simp <;> omega
theorem zW (keep:Bool->Bool->Bool)(a b:LI):(mrg keep a b).length<=a.length+b.length:=Qe5 keep _ a b (Lr _)
theorem js (q:α->Bool)(es:List α)(lo hi:Nat)(h1:lo<=hi)(h2:hi<=es.length)(J:∀m (G:m<es.length),m<lo->q es[m]=false)(hb:∀m (G:m<es.length),lo<=m->m<hi->q es[m]=true)
  (hc:∀m (G:m<es.length),hi<=m->q es[m]=false):(es.drop lo).take (hi - lo)=es.filter q:=by
 have e1:es=es.take lo++((es.drop lo).take (hi - lo)++es.drop hi):=by
  conv=>lhs;rw[<-ML lo es]
  congr 1;conv=>lhs;rw[<-ML (hi - lo) (es.drop lo)]
  rw[List.drop_drop];congr 2;omega
 have f1:(es.take lo).filter q=[]:=by
  rw[MU];intro a I;obtain⟨m,G,rfl⟩:=LQ I;rw[LH]at G;rw[Ng,J m oa oa];simp
 have f3:(es.drop hi).filter q=[]:=by
  rw[MU];intro a I;obtain⟨m,G,rfl⟩:=LQ I;rw[My]at G;rw[List.getElem_drop,hc (hi+m) oa oa];simp
 have f2:((es.drop lo).take (hi - lo)).filter q=(es.drop lo).take (hi - lo):=by
  rw[NK];intro a I;obtain⟨m,G,rfl⟩:=LQ I;rw[LH,My]at G;rw[Ng,List.getElem_drop];exact hb (lo+m) oa oa oa
 conv=>rhs;rw[e1]
 rw[LW,LW,f1,f2,f3];simp
def QK (es:List Ed)(s:Int):List Ed:=es.filter λe=>decide (e.1=s)
structure QL (a:Qz):Prop where
 al:∀e∈a.al,0<=e/\e<32
 ali:YD a.al
 st0:0<=a.st
 st1:a.st<=4096
 mr:∀s∈a.mr,0<=s/\s<a.st
 mri:YD a.mr
 ed:∀e∈a.ed,0<=e.1/\e.1<a.st/\e.2.1∈a.al/\0<=e.2.2/\e.2.2<a.st
 edi:a.ed.Pairwise λx y=>x.1<y.1\/(x.1=y.1/\x.2.1<y.2.1)
theorem Xl (n:Int):∀(l:LI) (pr:Option Int),Ki n pr l=0↔(∀x∈l,0<=x/\x<n)/\YD l/\∀y,pr=some y->∀x∈l,y<x
 | [],pr=>by simp[Ki]
 | a::l,pr=>by
  rw[Ki];by_cases h1:a<0\/n<=a
  ·rw[OZ h1];simp only[Ow];constructor
   ·intro h;cases h
   rintro⟨⟨h,_⟩,_⟩;omega
  rw[OY h1];by_cases h2:yR pr a=true
  ·rw[OZ h2];constructor
   ·intro h;cases h
   rintro⟨_,_,h⟩;cases pr with
   | none=>simp[yR]at h2
   | some y=>simp[yR]at h2;have:=h y Z a Lj;omega
  rw[OY h2,(Xl n l (some a))];simp only[Ow,OH];constructor
  ·rintro⟨I,J,G⟩;refine⟨⟨oa,I⟩,⟨λb hb=>G a Z b hb,J⟩,?_⟩;rintro y rfl;simp[yR]at h2;exact⟨h2,λz O=>oq (G a Z z O)⟩
  rintro⟨⟨_,I⟩,⟨J,G⟩,_⟩;exact⟨I,G,λy U z O=>by cases U;exact J z O⟩
theorem Qd2 (al:LI)(st:Int):∀(l:List Ed) (pr:Option Ed),ckE al st pr l=0↔(∀e∈l,0<=e.1/\e.1<st/\e.2.1∈al/\0<=e.2.2/\e.2.2<st)/\(l.Pairwise λx y=>x.1<y.1\/(x.1=y.1/\x.2.1<y.2.1)) /\
  ∀y,pr=some y->∀e∈l,y.1<e.1\/(y.1=e.1/\y.2.1<e.2.1)
 | [],pr=>by simp[ckE]
 | a::l,pr=>by
  rw[ckE];by_cases h1:a.1<0\/st<=a.1\/a.2.2<0\/st<=a.2.2
  ·rw[OZ h1];simp only[Ow];constructor
   ·intro h;cases h
   rintro⟨⟨h,_⟩,_⟩;omega
  rw[OY h1];by_cases h2:a.2.1∉al
  ·rw[OZ h2];constructor
   ·intro h;cases h
   rintro⟨h,_⟩;exact O1 (h a Lj).2.2.1 h2
  rw[OY h2];by_cases G:edO pr a=true
  ·rw[OZ G];constructor
   ·intro h;cases h
   rintro⟨_,_,h⟩;cases pr with
   | none=>simp[edO]at G
   | some y=>simp[edO]at G;have:=h y Z a Lj;omega
  rw[OY G,(Qd2 al st l (some a))];simp only[Ow,OH];have V:a.2.1∈al:=Ly.1 h2;constructor
  ·rintro⟨J,O,I⟩;refine⟨⟨⟨oa,oa,V,oa,oa⟩,J⟩,⟨λb hb=>I a Z b hb,O⟩,?_⟩;rintro y rfl;simp[edO]at G;have Y:y.1<a.1\/y.1=a.1/\y.2.1<a.2.1:=oa
   exact⟨Y,λz U=>oq (I a Z z U)⟩
  rintro⟨⟨_,J⟩,⟨O,I⟩,_⟩;exact⟨J,I,λy hy z U=>by cases hy;exact O z U⟩
theorem ZA (a:Qz):Jj a=0↔QL a:=by
 unfold Jj;by_cases h1:Ki 32 none a.al≠0
 ·rw[OZ h1];exact⟨λh=>O1 h h1,λh=>O1 ((Xl 32 a.al none).2 ⟨h.al,h.ali,λ_ h=>by cases h⟩) h1⟩
 rw[OY h1];have I:=(Xl 32 a.al none).1 (Ly.1 h1);by_cases h2:a.st<0
 ·rw[OZ h2];exact⟨λh=>(by cases h),λh=>(oq h.st0)⟩
 rw[OY h2];by_cases J:4096<a.st
 ·rw[OZ J];exact⟨λh=>(by cases h),λh=>(oq h.st1)⟩
 rw[OY J];by_cases G:Ki a.st none a.mr≠0
 ·rw[OZ G];exact⟨λh=>O1 h G,λh=>O1 ((Xl a.st a.mr none).2 ⟨h.mr,h.mri,λ_ h=>by cases h⟩) G⟩
 rw[OY G,Qd2];have O:=(Xl a.st a.mr none).1 (Ly.1 G);exact⟨λh=>⟨I.1,I.2.1,oa,oa,O.1,O.2.1,h.1,h.2.1⟩,λh=>⟨h.ed,h.edi,λ_ h=>by cases h⟩⟩
theorem XW:∀(l:LI) (a n:Int),YD l->(∀x∈l,a<=x/\x<n)->(l.length:Int)<=max 0 (n - a)
 | [],a,n,_,_=>by simp;omega
 | x::l,a,n,h1,h2=>by
  simp only[OH,Ow]at h1 h2;have:=XW l (x+1) n h1.2 (λy G=>⟨oq (h1.1 y G),(h2.2 y G).2⟩);simp only[oS];omega
theorem QL.al_le {a:Qz}(h:QL a):a.al.length<=32:=by have:=XW a.al 0 32 h.ali h.al;omega
theorem QL.mr_le {a:Qz}(h:QL a):a.mr.length<=4096:=by have:=XW a.mr 0 a.st h.mri h.mr;have:=h.st1;omega
theorem QL.eds {a:Qz}(h:QL a):a.ed.Pairwise λx y=>x.1<=y.1:=h.edi.imp λh=>oa
structure Cs where
 ord:LI
 num:LI
 mk':LI
 ed:List Ed
def ZZ (l:LI)(k:Int):Int:=l.getD k.toNat 0
def Zu (i:Nat)(c:Cs)(e:Ed):Cs :=
 if ZZ c.num e.2.2<0 then⟨c.ord++[e.2.2],c.num.set e.2.2.toNat c.ord.length,c.mk',c.ed++[((i:Int),e.2.1,(c.ord.length:Int))]⟩
 else⟨c.ord,c.num,c.mk',c.ed++[((i:Int),e.2.1,ZZ c.num e.2.2)]⟩
def Yo (a:Qz)(i:Nat)(c:Cs):Cs:=if ZZ c.ord i∈a.mr then⟨c.ord,c.num,c.mk'++[(i:Int)],c.ed⟩else c
def zy (a:Qz)(i:Nat)(c:Cs):Cs:=(QK a.ed (ZZ c.ord i)).foldl (Zu i) (Yo a i c)
def Xg (a:Qz):Nat->Nat->Cs->Cs
 | 0,_,c=>c
 | f+1,i,c=>if i<c.ord.length then Xg a f (i+1) (zy a i c) else c
def Z3 (a:Qz):Cs:=⟨[0],(oI a.st.toNat (-1)).set 0 0,[],[]⟩
def YB (a:Qz):Qz:=if a.st=0 then⟨a.al,0,[],[]⟩else
 let c:=Xg a a.st.toNat 0 (Z3 a);⟨a.al,c.ord.length,c.mk',c.ed⟩
def neg (l:LI):Nat:=(l.filter (·<0)).length
theorem UR:∀(l:LI) (k:Nat) (v:Int) (h:k<l.length),l[k]<0->0<=v->neg (l.set k v)+1=neg l
 | a::l,0,v,_,h1,h2=>by
  have G:a<0:=h1;simp[neg,G,show ¬v<0 by omega]
 | a::l,k+1,v,h,h1,h2=>by
  have ih:=UR l k v (ox h) h1 h2;unfold neg at *;simp only[List.set_cons_succ,OF];split
  ·simp only[oS];omega
  exact ih
structure Uu (st:Int)(c:Cs):Prop where
 nl:c.num.length=st.toNat
 sum:c.ord.length+neg c.num=st.toNat
 ord:∀s∈c.ord,0<=s/\s<st
 num:∀v∈c.num,v<c.ord.length
 el:c.ed.length<=1000000000
theorem Uu.le {st:Int}{c:Cs}(h:Uu st c):c.ord.length<=st.toNat:=by have:=h.sum;omega
theorem U0 {l:LI}{k:Int}(h:k.toNat<l.length):ZZ l k=l[k.toNat]:=by unfold ZZ;simp[oQ,h]
theorem QcQ {st:Int}{c:Cs}{e:Ed}(h:Uu st c)(U:0<=e.2.2)(h1:e.2.2<st)(hl:c.ed.length+1<=1000000000):Uu st (Zu i c e):=by
 have J:e.2.2.toNat<c.num.length:=by rw[h.nl];omega
 unfold Zu;split
 ·rename_i O;rw[U0 J]at O;refine⟨by simp[h.nl],?_,?_,?_,ox hl⟩
  ·have:=UR c.num e.2.2.toNat c.ord.length J O oa;have:=h.sum;simp only[oO,oL];omega
  ·intro s G;simp only[oZ,oH]at G;rcases G with G|rfl
   ·exact h.ord s G
   exact⟨U,h1⟩
  intro v I;simp only[oO,oL];rcases ND I with I|rfl
  ·have:=h.num v I;omega
  omega
 exact⟨h.nl,h.sum,h.ord,h.num,ox hl⟩
theorem QcS (i:Nat)(c:Cs)(e:Ed):(Zu i c e).ed.length=c.ed.length+1:=by unfold Zu;split <;> simp
theorem QkA {a:Qz}{st:Int}{c:Cs}(h:Uu st c):Uu st (Yo a i c):=by
 unfold Yo;split
 ·exact⟨h.nl,h.sum,h.ord,h.num,h.el⟩
 exact h
theorem Zy {es:List Ed}{e:Ed}(h:e∈QK es s):e∈es/\e.1=s:=by unfold QK at h;simpa using h
theorem Qhq {a:Qz}(U:0<a.st):Uu a.st (Z3 a):=by
 have J:0<a.st.toNat:=oa
 refine⟨by simp[Z3],?_,?_,?_,by simp[Z3]⟩
 ·have O:0<(oI a.st.toNat (-1:Int)).length:=by simpa using J
  have h1:=UR (oI a.st.toNat (-1)) 0 0 O oe (Ms _);have h2:neg (oI a.st.toNat (-1))=a.st.toNat:=by
   unfold neg;rw[NK.2 (by intro b hb;have:=NJ hb;subst this;rfl)];simp
  simp only[Z3,oL];omega
 ·intro s I;simp[Z3]at I;subst I;omega
 intro v G;simp only[Z3,oL]at *;rcases ND G with G|rfl
 ·have:=NJ G;omega
 omega
theorem Qa2 {a:Qz}{f:Nat}{c:Cs}(h:¬i<c.ord.length):Xg a f i c=c:=by
 cases f with
 | zero=>rfl
 | succ f=>rw[Xg,OY h]
theorem QL.ed_le {a:Qz}(h:QL a):a.ed.length<=131072:=by
 have h1:YD (a.ed.map λe=>e.1*32+e.2.1):=by
  refine Mj.2 (List.Pairwise.imp_of_mem ?_ h.edi);intro x y hx I U;have h2:=h.al _ (h.ed x hx).2.2.1;have G:=h.al _ (h.ed y I).2.2.1;omega
 have h2:=XW _ 0 131072 h1 (by
  intro v J;obtain⟨e,O,rfl⟩:=Lt.1 J;have G:=h.ed e O;have V:=h.al _ G.2.2.1;have:=h.st1;omega)
 simp only[OB]at h2;omega
theorem Yg (es:List Ed)(s:Int):(QK es s).length<=es.length:=LO _ _
section
variable {K:Fr->O6->Prop}{f:Fr}{l:xI}{C:xF}{pl:xA}{i0:Nat}
theorem xo {g:α->LV}{x:O8}{e bys:Nat}[Sl P t e sz bys z](G:∀x,(g x).length=sz){L:LN}{es:List α}{v:O7}{k:IntKind}
  (h:Zw L ↑w v es.length sz (es.flatMap g)) (I:ev f x=v) (J:ev f y=.int k i) (hi:i<es.length)
  (hK:∀a,At L ↑w a (g es[i])->XL P ops K l (QP f d (.pointer (some a))) w) (O:Yb ops f ⟨d,.indexAddr t x y,ty,pS,af,gd⟩=true:=by rfl):
  XL P ops K (⟨d,.indexAddr t x y,ty,pS,af,gd⟩::l) f w:=by
 obtain⟨a,cap,h1,h2⟩:=Zw.at h hi;rw[Jv g sz G es i hi]at h2;refine xl O (xv (X7 (I.D h1) J oa oa) (hK _ ?_));simpa using h2
theorem pig {g:α->LV}{x:O8}{e bys:Nat}[Sl P t e sz bys z](G:QR ops i0=⟨d,.indexAddr t x y,ty,pS,af,gd⟩)(I:∀x,(g x).length=sz){L:LN}{es:List α}{v:O7}{H:xG}{k:IntKind}
  (h:Zw L H v es.length sz (es.flatMap g)) (J:ev f x=v) (O:ev f y=.int k i) (hi:i<es.length)
  (hK:∀a,At L H a (g es[i])->XP P ops C K pl (QP f d (.pointer (some a))) w) (U:Yb ops f (QR ops i0)=true:=by rfl):
  XP P ops C K ((i0,true)::pl) f w:=by
 obtain⟨a,cap,h1,h2⟩:=Zw.at h hi;rw[Jv g sz I es i hi]at h2;refine Lg.p (λw'=>by rw[G];exact X7 (J.D h1) O oa oa) ?_ U;rw[G];refine hK _ ?_;simpa using h2
end
theorem Zw.grow {X X' Y:LN}{v:O7}{cs:LV}(h:Zw X ↑w v n sz cs)(G:xd Y w w')(I:∀b∈Y,b∈X)(hX:∀b∈X',b∈X\/↑w<=b):Zw X' ↑w' v n sz cs:=by
 have h1:Zw (X++X') ↑w v n sz cs:=h.up (λb hb=>by
  rcases Lk.1 hb with h1|h1
  ·exact .inl h1
  exact hX b h1)
 exact(h1.J G (λb hb=>Lk.2 (.inl (I b hb)))).up (λb hb=>.inl (Lk.2 (.inr hb)))
structure AV where
 va:O7
 vm:O7
 ve:O7
 a:Qz
abbrev ZJ (p:AV):LV:=[p.va,sS p.a.st,p.vm,p.ve]
structure Jd (L:LN)(H:xG)(v:O7)(ps:List AV):Prop where
 arr:Zw L H v ps.length 4 (ps.flatMap ZJ)
 each:∀p∈ps,Zv L H p.va p.vm p.ve p.a
theorem Jd.I {L:LN}{w w':O6}{v:O7}{ps:List AV}(h:Jd L ↑w v ps)(G:sW w w'):Jd L ↑w' v ps:=⟨h.arr.I G,λp I=>(h.each p I).I G⟩
theorem Jd.st {L:LN}{w w':O6}{v:O7}{ps:List AV}(h:Jd L ↑w v ps)(G:xd L w w'):Jd L ↑w' v ps:=⟨h.arr.st G,λp I=>(h.each p I).st G⟩
theorem Jd.up {L L':LN}{H:xG}{v:O7}{ps:List AV}(h:Jd L H v ps)(G:∀b∈L',b∈L\/H.size<=b):Jd L' H v ps:=⟨h.arr.up G,λp I=>(h.each p I).up G⟩
abbrev TV:=O7×LI
abbrev YP (p:TV):LV:=[p.1]
structure JS (L:LN)(H:xG)(v:O7)(ps:List TV):Prop where
 arr:Zw L H v ps.length 1 (ps.flatMap YP)
 each:∀p∈ps,Qu L H p.1 p.2
theorem JS.I {L:LN}{w w':O6}{v:O7}{ps:List TV}(h:JS L ↑w v ps)(G:sW w w'):JS L ↑w' v ps:=⟨h.arr.I G,λp I=>(h.each p I).I G⟩
theorem JS.st {L:LN}{w w':O6}{v:O7}{ps:List TV}(h:JS L ↑w v ps)(G:xd L w w'):JS L ↑w' v ps:=⟨h.arr.st G,λp I=>(h.each p I).st G⟩
theorem JS.up {L L':LN}{H:xG}{v:O7}{ps:List TV}(h:JS L H v ps)(G:∀b∈L',b∈L\/H.size<=b):JS L' H v ps:=⟨h.arr.up G,λp I=>(h.each p I).up G⟩
def QfI (N:Nat)(H:xG)(v:O7)(l:List (LI)):Prop:=∃ps:List TV,ps.map (·.2)=l/\∀L:LN,(∀b∈L,b<N)->JS L H v ps
theorem QfI.S {M:Nat}{H:xG}{v:O7}{l:List (LI)}(h:QfI N H v l)(G:M<=N):QfI M H v l:=let⟨ps,h1,h2⟩:=h;⟨ps,h1,λL I=>h2 L (λb hb=>LX (I b hb) G)⟩
abbrev zG (e base:Nat)(w:O6)(v:O7)(ps:List TV):Prop:=w.ownsRow base e 1 v ps.length (ps.flatMap YP)
theorem zG.snoc {e:Nat}{v:O7}{ps:List TV}{p:TV}(h:w.ownsRow base e 1 v (ps.length+1) (ps.flatMap YP++[p.1])):zG e base w v (ps++[p]):=by
 unfold zG;rw[Le,LJ];simpa using h
theorem qH {e:Nat}{v:O7}{cs:LV}(h:w.ownsRow base e sz v n cs)(G:0<n):∃g cap,v=sL g n cap:=by
 rcases h.2 with⟨_,I⟩|⟨g,cap,cur,h1,_⟩
 ·omega
 exact⟨g,cap,h1⟩
section
variable {K:Fr->O6->Prop}{f:Fr}{l:xI}
theorem Qdj [h1:X2 P t]{x:O8}{e cap:Nat}{cs:LV}{u:O7}(h:w.ownsRow base e 1 (sL g n cap) n cs)(hx:ev f x=.pointer (some ⟨g,0+i*1,none⟩))(I:ev f y=u)(hi:i<n)(J:u.oneCell'=true)
  (hK:∀w',xd [g] w w'->w'.ownsRow base e 1 (sL g n cap) n (cs.set i u)->K (QP f d undef) w'):XO P ⟨d,.store t x y,ty,pS,af,gd⟩ f w K:=by
 obtain⟨hl,h⟩:=h;rcases h with⟨O,_⟩|⟨g',cap',cur,e1,hb,U,V,Y,G,ha⟩
 ·cases O
 cases e1
 have hB:QN ↑w g e cur.toList:=by unfold QN;simpa using U
 refine Qv (j:=i) hB (by rw[hx];simp) I (by simp[G];omega) J λw' hs he=>hK w' hs ⟨ox hl,.inr ⟨g,cap,(cur.toList.set i u).toArray,rfl,hb,he,V,Y,ox G,?_⟩⟩;rw[<-ha];simp[List.take_set]
end
section
variable {f:Fr}{κ:Type}[DecidableEq κ]
theorem qD [hm:Mp P t kt et z]{enc:κ->O7}[hk:Key P kt enc]{x:O8}{b:Nat}{m:List (κ×O7)}{k:κ}{u:O7}(h:ZV enc ↑w b m)(hx:ev f x=.map (some b))(G:ev f y=enc k)(I:xq m k=some u):
  (execOp (ev f) ⟨d,.lookup t x y true,ty,pS,af,gd⟩).run P w=.ok (.value (.tuple #[u,.bool true])) w:=by
 have:=Vl (P:=P) (t:=t) (d:=d) (ty:=ty) (pS:=pS) (af:=af) (gd:=gd) h hx G;rw[I]at this;exact this
theorem Qay [hm:Mp P t kt et z]{enc:κ->O7}[hk:Key P kt enc]{x:O8}{b:Nat}{m:List (κ×O7)}{k:κ}(h:ZV enc ↑w b m)(hx:ev f x=.map (some b))(G:ev f y=enc k)(I:xq m k=none):
  (execOp (ev f) ⟨d,.lookup t x y true,ty,pS,af,gd⟩).run P w=.ok (.value (.tuple #[z,.bool false])) w:=by
 have:=Vl (P:=P) (t:=t) (d:=d) (ty:=ty) (pS:=pS) (af:=af) (gd:=gd) h hx G;rw[I]at this;exact this
end
def ckL:List Qz->Int
 | []=>0
 | a::l=>if Jj a≠0 then Jj a else ckL l
def K9 (l:List Qz):Int:=if 12<l.length then 3 else ckL l
theorem qc:∀(l:List Qz),ckL l=0↔∀a∈l,QL a
 | []=>by simp[ckL]
 | a::l=>by
  rw[ckL];by_cases h:Jj a=0
  ·rw[OY (ox h),qc l];simp[(ZA a).1 h]
  rw[OZ h];simp only[Ow];exact⟨λe=>O1 e h,λe=>O1 ((ZA a).2 e.1) h⟩
def evs (l:List Qz):LI:=l.foldl (λacc a=>mrg (· || ·) acc a.al) []
def K8 (m:List ((Int×Int)×O7))(es:List Ed):List ((Int×Int)×O7):=es.foldl (λm e=>xt m (e.1,e.2.1) (sS e.2.2)) m
def xu:List Ed->Int->Int->Option Int
 | [],_,_=>none
 | e::l,s,v=>if e.1=s/\e.2.1=v then some e.2.2 else xu l s v
theorem VR {l:List Ed}{v:Int}(h:∀e∈l,¬(e.1=s/\e.2.1=v)):xu l s v=none:=by
 induction l with
 | nil=>rfl
 | cons e l ih =>
  rw[xu,OY (h e Lj)];exact ih λe G=>h e (Lh _ G)
theorem qU:∀(es:List Ed) (m:List ((Int×Int)×O7)) (s v:Int),(es.Pairwise λx y=>x.1<y.1\/(x.1=y.1/\x.2.1<y.2.1)) ->
  xq (K8 m es) (s,v)=match xu es s v with|some t=>some (sS t)|none=>xq m (s,v)
 | [],m,s,v,_=>rfl
 | e::es,m,s,v,h=>by
  simp only[OH]at h;have ih:=qU es (xt m (e.1,e.2.1) (sS e.2.2)) s v h.2;unfold K8 at *;rw[LP,ih,xu];by_cases G:e.1=s/\e.2.1=v
  ·rw[OZ G,VR (λx hx J=>oq (h.1 x hx))];simp only[JC];rw[OZ (by rw[G.1,G.2])]
  rw[OY G];cases xu es s v with
  | some t=>rfl
  | none =>
   simp only[JC];rw[OY (λI=>G (ox I))]
def QU (ev:Int):List Qz->LI->Option (LI)
 | a::bs,t::ts=>if ev∉a.al then(QU ev bs ts).map (t::·) else match xu a.ed t ev with|none=>none|some u=>(QU ev bs ts).map (u::·)
 | _,_=>some []
def Yh:List Qz->LI->Bool
 | a::bs,t::ts=>decide (t∈a.mr) && Yh bs ts
 | _,_=>true
structure Sy where
 tup:List (LI)
 mk':LI
 ed:List Ed
def syE (aa:List Qz)(i:Nat)(t:LI)(s:Sy)(v:Int):Option Sy :=
 match QU v aa t with
 | none=>some s
 | some u=>if u∈s.tup then some ⟨s.tup,s.mk',s.ed++[((i:Int),v,(s.tup.idxOf u:Int))]⟩
  else if s.tup.length=4096 then none else some ⟨s.tup++[u],s.mk',s.ed++[((i:Int),v,(s.tup.length:Int))]⟩
def Vf (aa:List Qz)(i:Nat)(t:LI):LI->Sy->Option Sy
 | [],s=>some s
 | v::vs,s=>(syE aa i t s v).bind (Vf aa i t vs)
def ZP (aa:List Qz)(i:Nat)(t:LI)(s:Sy):Sy:=if Yh aa t=true then⟨s.tup,s.mk'++[(i:Int)],s.ed⟩else s
def Jk (s:Sy)(i:Nat):LI:=s.tup.getD i []
def syL (aa:List Qz):Nat->Nat->Sy->Option Sy
 | 0,_,s=>some s
 | f+1,i,s=>if i<s.tup.length then(Vf aa i (Jk s i) (evs aa) (ZP aa i (Jk s i) s)).bind (syL aa f (i+1)) else some s
def zt (aa:List Qz):Sy:=⟨[oI aa.length 0],[],[]⟩
def xw (aa:List Qz):Option (Qz×List (LI)):=
 if ∃a∈aa,a.st=0 then some (⟨evs aa,0,[],[]⟩,[]) else(syL aa 4096 0 (zt aa)).map λs=>(⟨evs aa,s.tup.length,s.mk',s.ed⟩,s.tup)
theorem Qjg {aa:List Qz}{f:Nat}{s:Sy}(h:¬i<s.tup.length):syL aa f i s=some s:=by
 cases f with
 | zero=>rfl
 | succ f=>rw[syL,OY h]
def Vt (aa:List Qz)(t:LI):Prop:=t.length=aa.length/\∀i (h:i<t.length) (G:i<aa.length),0<=t[i]/\t[i]<aa[i].st
theorem Vt.cons {a:Qz}{aa:List Qz}{u:Int}{t:LI}(G:0<=u)(h1:u<a.st)(h:Vt aa t):Vt (a::aa) (u::t):=by
 refine⟨by simp[h.1],λi h2 I=>?_⟩;cases i with
 | zero=>exact⟨G,h1⟩
 | succ i=>exact h.2 i (ox h2) (ox I)
theorem YI {l:List Ed}{v u:Int}(h:xu l s v=some u):(s,v,u)∈l:=by
 induction l with
 | nil=>cases h
 | cons e l ih =>
  rw[xu]at h;split at h
  ·rename_i G;obtain⟨e1,e2⟩:=G;cases h
   obtain⟨a,b,c⟩:=e;subst e1 e2;exact Lj
  exact Lh _ (ih h)
theorem Xw {v:Int}:∀{aa:List Qz}{t u:LI},(∀a∈aa,QL a)->Vt aa t->QU v aa t=some u->Vt aa u
 | [],t,u,_,h,G=>by
  cases t with
  | nil=>simp[QU]at G;subst G;exact h
  | cons x t=>have:=h.1;simp at this
 | a::aa,[],u,_,h,G=>by have:=h.1;simp at this
 | a::aa,x::t,u,I,h,G=>by
  have hx:=h.2 0 oe oe;have ht:Vt aa t:=⟨by have:=h.1;simpa using this,λi h2 O=>h.2 (i+1) (ox h2) (ox O)⟩;have J:∀a∈aa,QL a:=λa U=>I a (Lh _ U);rw[QU]at G;split at G
  ·obtain⟨V,h1,rfl⟩:=LZ.1 G;exact Vt.cons hx.1 hx.2 (Xw J ht h1)
  split at G
  ·cases G
  rename_i q Y;obtain⟨V,h1,rfl⟩:=LZ.1 G;have:=(I a Lj).ed _ (YI Y);exact Vt.cons this.2.2.2.1 this.2.2.2.2 (Xw J ht h1)
structure q7 (aa:List Qz)(s:Sy):Prop where
 v:∀t∈s.tup,Vt aa t
 le:s.tup.length<=4096
theorem Qam {aa:List Qz}{t:LI}{s:Sy}(h:q7 aa s):q7 aa (ZP aa i t s):=by
 unfold ZP;split
 ·exact⟨h.v,h.le⟩
 exact h
theorem Qjk {aa:List Qz}{t:LI}{s I:Sy}{v:Int}(J:∀a∈aa,QL a)(h:q7 aa s)(ht:Vt aa t)(G:syE aa i t s v=some I):q7 aa I:=by
 unfold syE at G;split at G
 ·cases G;exact h
 rename_i u O;split at G
 ·cases G;exact⟨h.v,h.le⟩
 split at G
 ·cases G
 cases G
 have:=h.le;refine⟨λt ht=>?_,by simp;omega⟩;simp only[oZ,oH]at ht;rcases ht with ht|rfl
 ·exact h.v t ht
 exact(Xw J ht O)
structure Uw where
 en:LI
 dis:LI
 mk':Bool
 ps:Bool
def Qq4:Uw:=⟨[],[],false,false⟩
def QpP (l:LI)(v:Int):LI:=mrg (· || ·) l [v]
def QtP (p s:Qz)(x y:Int)(c:Uw)(v:Int):Uw :=
 match xu p.ed x v with
 | none=>c
 | some _=>match xu s.ed y v with
  | some _=>⟨QpP c.en v,c.dis,c.mk',c.ps⟩
  | none=>⟨c.en,QpP c.dis v,c.mk',c.ps⟩
def QtQ (p s:Qz)(x y:Int)(c:Uw):Uw:=⟨c.en,c.dis,decide (y∈s.mr),c.ps || decide (x∈p.mr)⟩
def QtO (p s:Qz)(x y:Int)(c:Uw):Uw:=s.al.foldl (QtP p s x y) (QtQ p s x y c)
def px (q:LI):Int:=q.getD 0 0
def py (q:LI):Int:=q.getD 1 0
def QtN (p s:Qz)(l:List Uw)(q:LI):List Uw:=l.set (py q).toNat (QtO p s (px q) (py q) (l.getD (py q).toNat Qq4))
def ctls (p s:Qz)(pairs:List (LI)):List Uw:=pairs.foldl (QtN p s) (oI s.st.toNat Qq4)
def occs (n:Nat)(pairs:List (LI)):List Bool:=pairs.foldl (λo q=>o.set (py q).toNat true) (oI n false)
def meets (a b:LI):LI:=mrg (· && ·) a b
def QsD (a b:Uw):Bool:=decide ((meets a.en b.dis).length+(meets b.en a.dis).length=0) && (!a.ps || !b.ps || a.mk' == b.mk')
def xh (l:LI)(i:Nat):Int:=l.getD i 0
def Qkz (cl:LI)(x y:Nat):LI:=cl.map λc=>if c=xh cl y then xh cl x else c
def lget (l:List Uw)(i:Nat):Uw:=l.getD i Qq4
def to0 (s:Qz)(x:Nat)(v:Int):Int:=match xu s.ed x v with|some u=>u|none=>0
def clE (s:Qz)(x y:Nat)(z:LI×Bool)(v:Int):LI×Bool :=
 if xh z.1 (to0 s x v).toNat≠xh z.1 (to0 s y v).toNat then(Qkz z.1 (to0 s x v).toNat (to0 s y v).toNat,true) else z
def clY (s:Qz)(l:List Uw)(x:Nat)(z:LI×Bool)(y:Nat):LI×Bool :=
 if xh z.1 x<0\/xh z.1 x≠xh z.1 y then z else(meets (lget l x).en (lget l y).en).foldl (clE s x y) z
def clX (s:Qz)(l:List Uw)(n:Nat)(z:LI×Bool)(x:Nat):LI×Bool:=(oP (x+1) (n - (x+1))).foldl (clY s l x) z
def pass (s:Qz)(l:List Uw)(cl:LI):LI×Bool:=(oP 0 cl.length).foldl (clX s l cl.length) (cl,false)
def Ql2 (s:Qz)(l:List Uw):Nat->LI->LI
 | 0,cl=>cl
 | f+1,cl=>if(pass s l cl).2=true then Ql2 s l f (pass s l cl).1 else(pass s l cl).1
def QoO (l:List Uw)(cl:LI):Bool :=
 (oP 0 cl.length).all λx=>(oP 0 x).all λy=>!(decide (0<=xh cl x/\xh cl x=xh cl y) && !QsD (lget l x) (lget l y))
def Qtj (s:Qz)(l:List Uw)(cl:LI)(x y:Nat):LI :=
 if xh cl x<0\/xh cl y<0\/xh cl x=xh cl y then cl else
  let d:=Ql2 s l (cl.length*cl.length+1) (Qkz cl x y)
  if QoO l d=true then d else cl
def Qti (s:Qz)(l:List Uw)(n:Nat)(cl:LI)(x:Nat):LI:=(oP (x+1) (n - (x+1))).foldl (λc y=>Qtj s l c x y) cl
def QtS (o:List Bool):LI:=(oP 0 o.length).map λi=>if o.getD i false=true then(i:Int) else -1
def QtR (s:Qz)(l:List Uw)(cl:LI):LI:=(oP 0 cl.length).foldl (Qti s l cl.length) cl
def QtE (z:LI×LI)(c:Int):LI×LI :=
 if c∈z.1 then(z.1,z.2++[(z.1.idxOf c:Int) - 1]) else(z.1++[c],z.2++[(z.1.length:Int) - 1])
def nums (cl:LI):LI:=(cl.foldl QtE ([-1],[])).2
def QsI (p s:Qz)(pairs:List (LI)):LI:=nums (QtR s (ctls p s pairs) (QtS (occs s.st.toNat pairs)))
end Go.Lg
namespace Go.Proofs
open Go.Proofs.Tryz
open Go.Lg
instance:Sl sV 32 183 4 4 (.agg #[.int .u8 0,.int .u8 0,.int .u8 0,.int .u8 0]):={}
instance:Sl sV 41 94 5 32 (.agg #[.string ByteArray.empty,.bool false,.bool false,.bool false,sS 0]):={}
instance:Sl sV 42 81 5 96 (.agg #[.string ByteArray.empty,nS,sS 0,nS,nS]):={}
instance:Sl sV 43 186 2 40 (.agg #[.string ByteArray.empty,nS]):={}
instance:Sl sV 44 191 3 48 (.agg #[.string ByteArray.empty,nS,sS 0]):={}
instance:Sl sV 47 3 1 8 (sS 0):={}
instance:Sl sV 51 179 3 24 (.agg #[sS 0,sS 0,sS 0]):={}
instance:Sl sV 54 47 1 24 (nS):={}
instance:Sl sV 64 53 4 80 (.agg #[nS,sS 0,nS,nS]):={}
instance:Sl sV 86 5 1 1 (.int .u8 0):={}
instance:Sl sV 87 173 4 32 (.agg #[sS 0,sS 0,sS 0,sS 0]):={}
instance:Sl sV 119 123 2 24 (.agg #[.string ByteArray.empty,.nilFunc]):={}
instance:Sl sV 135 55 1 8 (sS 0):={}
instance:Sl sV 144 323 4 32 (.agg #[sS 0,sS 0,sS 0,sS 0]):={}
instance:Sl sV 184 188 2 16 (.agg #[sS 0,sS 0]):={}
instance:Sl sV 189 193 2 16 (.agg #[sS 0,sS 0]):={}
instance:Sl sV 199 51 1 24 (nS):={}
instance:Sl sV 223 249 1 8 (.map none):={}
instance:Sl sV 240 239 3 56 (.agg #[sS 0,nS,nS]):={}
instance:Sl sV 254 253 4 32 (.agg #[sS 0,sS 0,sS 0,sS 0]):={}
instance:Sl sV 270 334 1 8 (.nilFunc):={}
instance:Sl sV 301 4 1 1 (.bool false):={}
instance:Sl sV 356 355 3 24 (.agg #[sS 0,sS 0,sS 0]):={}
instance:Sl sV 362 361 3 72 (.agg #[nS,nS,nS]):={}
instance:Sl sV 383 382 2 32 (.agg #[nS,sS 0]):={}
instance:Zb sV 28 0 0:={}
instance:Zb sV 28 1 1:={}
instance:Zb sV 28 2 2:={}
instance:Zb sV 36 0 0:={}
instance:Zb sV 36 1 5:={}
instance:Zb sV 36 2 6:={}
instance:Zb sV 36 3 9:={}
instance:Zb sV 36 4 90:={}
instance:Zb sV 36 5 91:={}
instance:Zb sV 36 6 93:={}
instance:Zb sV 36 7 147:={}
instance:Zb sV 36 8 148:={}
instance:Zb sV 36 9 151:={}
instance:Zb sV 38 0 0:={}
instance:Zb sV 38 1 152:={}
instance:Zb sV 46 0 0:={}
instance:Zb sV 46 1 1:={}
instance:Zb sV 46 2 2:={}
instance:Zb sV 46 3 3:={}
instance:Zb sV 46 4 4:={}
instance:Zb sV 53 0 0:={}
instance:Zb sV 53 1 1:={}
instance:Zb sV 53 2 2:={}
instance:Zb sV 53 3 3:={}
instance:Zb sV 59 0 0:={}
instance:Zb sV 59 1 1:={}
instance:Zb sV 59 2 2:={}
instance:Zb sV 59 3 3:={}
instance:Zb sV 59 4 4:={}
instance:Zb sV 59 5 5:={}
instance:Zb sV 59 6 6:={}
instance:Zb sV 59 7 7:={}
instance:Zb sV 81 0 0:={}
instance:Zb sV 81 1 1:={}
instance:Zb sV 89 0 0:={}
instance:Zb sV 89 1 4:={}
instance:Zb sV 89 2 5:={}
instance:Zb sV 89 3 6:={}
instance:Zb sV 89 4 7:={}
instance:Zb sV 94 0 0:={}
instance:Zb sV 94 1 1:={}
instance:Zb sV 94 2 2:={}
instance:Zb sV 94 3 3:={}
instance:Zb sV 94 4 4:={}
instance:Zb sV 113 0 0:={}
instance:Zb sV 113 1 5:={}
instance:Zb sV 113 2 9:={}
instance:Zb sV 113 3 10:={}
instance:Zb sV 118 0 0:={}
instance:Zb sV 118 1 8:={}
instance:Zb sV 123 1 1:={}
instance:Zb sV 146 0 0:={}
instance:Zb sV 146 1 1:={}
instance:Zb sV 146 2 2:={}
instance:Zb sV 148 0 0:={}
instance:Zb sV 148 1 3:={}
instance:Zb sV 148 2 4:={}
instance:Zb sV 148 3 8:={}
instance:Zb sV 163 0 0:={}
instance:Zb sV 163 1 1:={}
instance:Zb sV 163 2 2:={}
instance:Zb sV 166 0 0:={}
instance:Zb sV 166 1 5:={}
instance:Zb sV 166 2 9:={}
instance:Zb sV 166 3 10:={}
instance:Zb sV 166 4 14:={}
instance:Zb sV 166 5 15:={}
instance:Zb sV 166 6 18:={}
instance:Zb sV 173 0 0:={}
instance:Zb sV 179 0 0:={}
instance:Zb sV 179 1 1:={}
instance:Zb sV 179 2 2:={}
instance:Zb sV 186 0 0:={}
instance:Zb sV 186 1 1:={}
instance:Zb sV 188 0 0:={}
instance:Zb sV 188 1 1:={}
instance:Zb sV 191 0 0:={}
instance:Zb sV 191 1 1:={}
instance:Zb sV 191 2 2:={}
instance:Zb sV 193 0 0:={}
instance:Zb sV 193 1 1:={}
instance:Zb sV 201 0 0:={}
instance:Zb sV 201 1 1:={}
instance:Zb sV 201 2 2:={}
instance:Zb sV 201 3 3:={}
instance:Zb sV 225 0 0:={}
instance:Zb sV 225 1 1:={}
instance:Zb sV 225 2 2:={}
instance:Zb sV 236 0 0:={}
instance:Zb sV 236 1 4:={}
instance:Zb sV 236 2 5:={}
instance:Zb sV 236 3 6:={}
instance:Zb sV 239 0 0:={}
instance:Zb sV 239 1 1:={}
instance:Zb sV 239 2 2:={}
instance:Zb sV 251 0 0:={}
instance:Zb sV 251 1 1:={}
instance:Zb sV 251 2 2:={}
instance:Zb sV 253 0 0:={}
instance:Zb sV 253 1 2:={}
instance:Zb sV 253 2 3:={}
instance:Zb sV 261 0 0:={}
instance:Zb sV 261 1 1:={}
instance:Zb sV 304 0 0:={}
instance:Zb sV 304 1 4:={}
instance:Zb sV 323 0 0:={}
instance:Zb sV 327 0 0:={}
instance:Zb sV 327 1 4:={}
instance:Zb sV 327 2 5:={}
instance:Zb sV 327 3 6:={}
instance:Zb sV 355 0 0:={}
instance:Zb sV 355 1 1:={}
instance:Zb sV 355 2 2:={}
instance:Zb sV 361 0 0:={}
instance:Zb sV 361 1 1:={}
instance:Zb sV 361 2 2:={}
instance:Zb sV 382 0 0:={}
instance:Zb sV 382 1 1:={}
instance:X2 sV 3:={}
instance:X2 sV 4:={}
instance:X2 sV 5:={}
instance:X2 sV 9:={}
instance:X2 sV 24:={}
instance:X2 sV 32:={}
instance:X2 sV 33:={}
instance:X2 sV 41:={}
instance:X2 sV 42:={}
instance:X2 sV 43:={}
instance:X2 sV 44:={}
instance:X2 sV 47:={}
instance:X2 sV 51:={}
instance:X2 sV 54:={}
instance:X2 sV 55:={}
instance:X2 sV 64:={}
instance:X2 sV 86:={}
instance:X2 sV 87:={}
instance:X2 sV 121:={}
instance:X2 sV 128:={}
instance:X2 sV 144:={}
instance:X2 sV 152:={}
instance:X2 sV 159:={}
instance:X2 sV 164:={}
instance:X2 sV 184:={}
instance:X2 sV 189:={}
instance:X2 sV 199:={}
instance:X2 sV 223:={}
instance:X2 sV 242:={}
instance:X2 sV 249:={}
instance:X2 sV 259:={}
instance:X2 sV 275:={}
instance:X2 sV 301:={}
instance:X2 sV 325:={}
instance:X2 sV 334:={}
instance:X2 sV 356:={}
instance:Ag sV 23 5:={}
instance:Ag sV 28 27:={}
instance:Ag sV 36 152:={}
instance:Ag sV 38 153:={}
instance:Ag sV 46 5:={}
instance:Ag sV 53 4:={}
instance:Ag sV 59 8:={}
instance:Ag sV 81 5:={}
instance:Ag sV 89 8:={}
instance:Ag sV 94 5:={}
instance:Ag sV 113 11:={}
instance:Ag sV 123 2:={}
instance:Ag sV 148 9:={}
instance:Ag sV 156 2:={}
instance:Ag sV 163 3:={}
instance:Ag sV 173 4:={}
instance:Ag sV 179 3:={}
instance:Ag sV 183 4:={}
instance:Ag sV 186 2:={}
instance:Ag sV 188 2:={}
instance:Ag sV 191 3:={}
instance:Ag sV 193 2:={}
instance:Ag sV 201 4:={}
instance:Ag sV 225 3:={}
instance:Ag sV 239 3:={}
instance:Ag sV 304 5:={}
instance:Ag sV 323 4:={}
instance:Ag sV 361 3:={}
instance:Ag sV 382 2:={}
instance:Ze sV 3 (sS 0):={}
instance:Ze sV 46 (.agg #[nS,nS,nS,nS,nS]):={}
instance:Ze sV 47 (nS):={}
instance:Ze sV 53 (.agg #[nS,sS 0,nS,nS]):={}
instance:Ze sV 55 (sS 0):={}
instance:Ze sV 59 (.agg #[.bool false,nS,.bool false,nS,nS,.bool false,nS,sS 0]):={}
instance:Ze sV 81 (.agg #[.string ByteArray.empty,nS,sS 0,nS,nS]):={}
instance:Ze sV 89 (.agg #[nS,sS 0,nS,nS,nS,nS,nS,nS]):={}
instance:Ze sV 94 (.agg #[.string ByteArray.empty,.bool false,.bool false,.bool false,sS 0]):={}
instance:Ze sV 113 (.agg #[nS,nS,nS,nS,nS,nS,sS 0,nS,nS,nS,nS]):={}
instance:Ze sV 123 (.agg #[.string ByteArray.empty,.nilFunc]):={}
instance:Ze sV 148 (.agg #[nS,nS,nS,sS 0,nS,sS 0,nS,nS,nS]):={}
instance:Ze sV 152 (.pointer none):={}
instance:Ze sV 156 (.agg #[sS 0,sS 0]):={}
instance:Ze sV 163 (.agg #[nS,nS,nS]):={}
instance:Ze sV 173 (.agg #[sS 0,sS 0,sS 0,sS 0]):={}
instance:Ze sV 179 (.agg #[sS 0,sS 0,sS 0]):={}
instance:Ze sV 183 (.agg #[.int .u8 0,.int .u8 0,.int .u8 0,.int .u8 0]):={}
instance:Ze sV 186 (.agg #[.string ByteArray.empty,nS]):={}
instance:Ze sV 188 (.agg #[sS 0,sS 0]):={}
instance:Ze sV 191 (.agg #[.string ByteArray.empty,nS,sS 0]):={}
instance:Ze sV 193 (.agg #[sS 0,sS 0]):={}
instance:Ze sV 201 (.agg #[nS,nS,nS,nS]):={}
instance:Ze sV 225 (.agg #[nS,nS,nS]):={}
instance:Ze sV 239 (.agg #[sS 0,nS,nS]):={}
instance:Ze sV 261 (.agg #[.pointer none,nS]):={}
instance:Ze sV 301 (nS):={}
instance:Ze sV 304 (.agg #[nS,sS 0,nS,nS,nS]):={}
instance:Ze sV 323 (.agg #[sS 0,sS 0,sS 0,sS 0]):={}
instance:Ze sV 356 (nS):={}
instance:Ze sV 361 (.agg #[nS,nS,nS]):={}
instance:Ze sV 382 (.agg #[nS,sS 0]):={}
instance:Bs sV 46 [nS,nS,nS,nS,nS] [0,1,2,3,4]:={}
instance:Bs sV 53 [nS,sS 0,nS,nS] [0,1,2,3]:={}
instance:Bs sV 94 [.string ByteArray.empty,.bool false,.bool false,.bool false,sS 0] [0,1,2,3,4]:={}
instance:Bs sV 123 [.string ByteArray.empty,.nilFunc] [0,1]:={}
instance:Bs sV 143 [sS 0,sS 0] [0,1]:={}
instance:Bs sV 156 [sS 0,sS 0] [0,1]:={}
instance:Bs sV 163 [nS,nS,nS] [0,1,2]:={}
instance:Bs sV 173 [sS 0,sS 0,sS 0,sS 0] [0,1,2,3]:={}
instance:Bs sV 179 [sS 0,sS 0,sS 0] [0,1,2]:={}
instance:Bs sV 186 [.string ByteArray.empty,nS] [0,1]:={}
instance:Bs sV 188 [sS 0,sS 0] [0,1]:={}
instance:Bs sV 191 [.string ByteArray.empty,nS,sS 0] [0,1,2]:={}
instance:Bs sV 193 [sS 0,sS 0] [0,1]:={}
instance:Bs sV 225 [nS,nS,nS] [0,1,2]:={}
instance:Bs sV 239 [sS 0,nS,nS] [0,1,2]:={}
instance:Bs sV 251 [.map none,.map none,sS 0] [0,1,2]:={}
instance:Bs sV 300 [nS,nS] [0,1]:={}
instance:Bs sV 323 [sS 0,sS 0,sS 0,sS 0] [0,1,2,3]:={}
instance:Bs sV 355 [sS 0,sS 0,sS 0] [0,1,2]:={}
instance:Bs sV 361 [nS,nS,nS] [0,1,2]:={}
instance:Bs sV 382 [nS,sS 0] [0,1]:={}
instance:Ik sV 3 .i64:={}
instance:Bk sV 4:=⟨underlying4⟩
instance:Ik sV 5 .u8:={}
instance:St sV 9:=⟨underlying9⟩
instance:Ik sV 21 .i32:={}
instance:Ik sV 33 .i8:={}
instance:Ik sV 246 .u64:={}
instance:Ik sV 317 .u32:={}
instance:S3 sV 179:=⟨⟨_,_,_,underlying179,oh,oh,oh,Z,Z,Z,underlying3,underlying3,underlying3⟩,od,od⟩
instance:Mp sV 164 9 3 (sS 0):={}
instance:Key sV 9 XJ:=Qoe underlying9
instance:Mp sV 217 9 4 (.bool false):={}
instance:Mp sV 242 3 4 (.bool false):={}
instance:Key sV 3 XS:=Qof underlying3
instance:Mp sV 249 143 3 (sS 0):={}
instance:Key sV 143 Ys:=Qdu underlying143 underlying3 od
instance:Mp sV 255 156 4 (.bool false):={}
instance:Key sV 156 Ys:=Qdu underlying156 underlying3 od
instance:Mp sV 297 3 296 (.nilFunc):={}
instance:Mp sV 325 3 47 (nS):={}
instance:Mp sV 371 3 3 (sS 0):={}
instance:Fu sV 59 f59:=Ji func59
instance:Fu sV 60 f60:=Ji func60
instance:Fu sV 64 f64:=Ji func64
instance:Fu sV 65 f65:=Ji func65
instance:Fu sV 72 f72:=Ji func72
instance:Fu sV 86 f86:=Ji func86
instance:Fu sV 88 f88:=Ji func88
instance:Fu sV 124 f124:=Ji func124
instance:Fu sV 125 f125:=Ji func125
instance:Fu sV 126 f126:=Ji func126
instance:Fu sV 133 f133:=Ji func133
instance:Fu sV 136 f136:=Ji func136
instance:Fu sV 138 f138:=Ji func138
instance:Fu sV 142 f142:=Ji func142
instance:Fu sV 144 f144:=Ji func144
instance:Fu sV 145 f145:=Ji func145
instance:Fu sV 147 f147:=Ji func147
instance:Fu sV 148 f148:=Ji func148
instance:Fu sV 149 f149:=Ji func149
instance:Fu sV 150 f150:=Ji func150
instance:Fu sV 154 f154:=Ji func154
instance:Fu sV 157 f157:=Ji func157
instance:Fu sV 158 f158:=Ji func158
instance:Fu sV 159 f159:=Ji func159
instance:Fu sV 160 f160:=Ji func160
instance:Fu sV 169 f169:=Ji func169
instance:Fu sV 171 f171:=Ji func171
instance:Fu sV 172 f172:=Ji func172
instance:Fu sV 174 f174:=Ji func174
instance:Fu sV 175 f175:=Ji func175
instance:Fu sV 178 f178:=Ji func178
instance:Fu sV 187 f187:=Ji func187
instance:Fu sV 190 f190:=Ji func190
instance:Fu sV 200 f200:=Ji func200
instance:Fu sV 201 f201:=Ji func201
instance:Fu sV 205 f205:=Ji func205
instance:Fu sV 207 f207:=Ji func207
instance:Fu sV 208 f208:=Ji func208
instance:Fu sV 210 f210:=Ji func210
instance:Fu sV 232 f232:=Ji func232
instance:Fu sV 237 f237:=Ji func237
instance:Fu sV 239 f239:=Ji func239
instance:Fu sV 255 f255:=Ji func255
instance:Fu sV 256 f256:=Ji func256
instance:Fu sV 268 f268:=Ji func268
instance:Fu sV 270 f270:=Ji func270
instance:Fu sV 271 f271:=Ji func271
instance:Fu sV 279 f279:=Ji func279
instance:Fu sV 285 f285:=Ji func285
instance:Fu sV 299 f299:=Ji func299
instance:Fu sV 309 f309:=Ji func309
theorem mixed:sV.follows .mixedOrders=true:=od
theorem ZK {all:xI}{f:Fr}{Q:Exit->Fr->O6->Prop}(L:LN)(pl:xA)(h:XP sV all (xd L w) (λf w=>Q .normal f w) pl f { w with drawn:=w.drawn+1 })(G:XG n all=true:=by rfl)(I:yB all pl=true:=by kernel_rfl):W sV n (.region id all.toArray true) Q f w:=Ur (xd L w) pl mixed G I (xd.Y _ _) h
theorem brG {B:Func}(h1:((((P.funcs[g]?).map Func.name).getD "") == "runtime.NumGoroutine")=false) (h2:P.funcs[g]?=some { B with name:=((P.funcs[g]?).map Func.name).getD "" }):∃nm:String,(nm == "runtime.NumGoroutine")=false/\P.funcs[g]?=some { B with name:=nm }:=⟨_,h1,h2⟩
theorem lyS {p:Prop}(h:p:=by constructor <;> first|kernel_rfl|decide|(intro _;kernel_rfl)|(apply brG <;> kernel_rfl)|(constructor <;> first|kernel_rfl|decide|(intro _;kernel_rfl)|(apply brG <;> kernel_rfl))):p:=h
end Go.Proofs
namespace Go.Lg
def Rn (t e k:Nat):Go.Shelf.Ren:=⟨λn=>n,λ|22=>t|23=>e|25=>k|n=>n,λn=>n⟩
def fix {α:Type}(q:α->Bool):Nat->List α->Int
 | _,[]=>-1
 | i,e::l=>if q e=true then(i:Int) else fix q (i+1) l
theorem YH (q:α->Bool)(i:Nat)(a:α)(l:List α):fix q i (a::l)=if q a=true then(i:Int) else fix q (i+1) l:=rfl
structure LdE {α:Type}(e:Nat)(c:α->LV)(el:α->O7):Prop where
 ld:∀{f:Fr} {w:O6} {d:xJ} {E:O8} {ty:Nat} {pS:String} {af:xH} {gd:xz} {L:LN} {a:Addr} {q:α},At L ↑w a (c q)->ev f E=.pointer (some a)->(execOp (ev f) ⟨d,.load e E,ty,pS,af,gd⟩).run sV w=.ok (.value (el q)) w
theorem ld1 {e:Nat}[X2 sV e]{c:α->LV}{el:α->O7}(hc:∀q,c q=[el q]):LdE e c el:=⟨λh hx=>Qq (by rw[<-hc];exact h) hx⟩
theorem ldA {e:Nat}[Ag sV e m]{c:α->LV}(hc:∀q,(c q).length=m):LdE e c λq=>sT (c q):=⟨λh hx=>QF h hx (hc _)⟩
abbrev UZ (n:Int):LV:=[sS n]
theorem Qk7 (n:Int):(UZ n).length=1:=rfl
theorem Qpx:∀l:LI,l.flatMap UZ=l.map (.int .i64)
 | []=>rfl
 | a::l=>by rw[LR,Qpx l];rfl
theorem Qu.fl {L:LN}{H:xG}{v:O7}{l:LI}(h:Qu L H v l):Zw L H v l.length 1 (l.flatMap UZ):=by rw[Qpx];exact h
theorem QgA {c:α->LV}(h:∀q,ZN (c q))(l:List α):∀u∈l.flatMap c,u.oneCell'=true:=λu G=>by
 obtain⟨q,_,I⟩:=Mh.1 G;exact(h q).all u I
theorem U7 {α:Type}(q:α->Bool):∀(l:List α) (i:Nat),decide (0<=fix q i l)=l.any q
 | [],i=>rfl
 | a::l,i=>by
  rw[YH,List.any_cons];cases h:q a with
  | true=>rw[OZ rfl];simp
  | false=>rw[OY oh,U7 q l (i+1)];rfl
def IxQ {α:Type}(q:α->Bool)(es:List α)(r:O7):Prop:=(r=sS (-1)/\∀m (G:m<es.length),q (es[m]'G)=false)\/∃(i:Nat) (hi:i<es.length),r=sS i/\q (es[i]'hi)=true/\∀m (G:m<i),q (es[m]'oa)=false
theorem Qli {α:Type}(q:α->Bool):∀(l:List α) (i:Nat),(fix q i l=-1/\∀m (G:m<l.length),q (l[m]'G)=false)\/∃k,∃I:k<l.length,fix q i l=((i+k:Nat):Int)/\q (l[k]'I)=true/\∀m (G:m<k),q (l[m]'oa)=false
 | [],i=>.inl ⟨Z,λm G=>by cases G⟩
 | a::l,i=>by
  rw[YH];cases h:q a with
  | true=>exact .inr ⟨0,oe,rfl,h,λm G=>by cases G⟩
  | false =>
   rcases Qli q l (i+1) with⟨h1,h2⟩|⟨k,I,h1,h2,J⟩
   ·exact .inl ⟨h1,λm G=>by cases m with|zero=>exact h|succ m=>exact h2 m (ox G)⟩
   exact .inr ⟨k+1,ox I,by rw[OY oh,h1];congr 1;omega,h2,λm G=>by cases m with|zero=>exact h|succ m=>exact J m oa⟩
theorem Qoo (q:α->Bool)(l:List α):IxQ q l (sS (fix q 0 l)):=by
 rcases Qli q l 0 with⟨h1,h2⟩|⟨k,G,h1,h2,I⟩
 ·exact .inl ⟨by rw[h1],h2⟩
 exact .inr ⟨k,G,by rw[h1,LY],h2,I⟩
section
variable {e bys:Nat}[hS:Sl sV t e m bys z]{L L':LN}{v:O7}
include hS in
theorem ju (hB:Bears sV n (SlBodyN.n41 (Rn t e 0))){k:Nat}{cs:LV}(h:Zw L ↑w v k m cs)(ho:∀u∈cs,u.oneCell'=true)(hb:bys<=128:=by decide):
  QT sV n [v] w λr w'=>sW w w'/\w'.ownsRow ↑w e m r k cs:=by
 obtain⟨nm,_,O⟩:=hB;obtain⟨ρ,hρ,ha⟩:∃ρ,Rn t e 0=ρ/\ρ.t 22=t:=⟨_,Z,Z⟩;rw[hρ]at O;clear hρ;subst ha;have hh:=h.le;refine QT.of_W O Z (n:=8) Z Z oe ?_;refine Qc<|Qb ?_;obtain⟨ao,cap,G⟩:=h.shape;refine Qd<|Ql<|x (Qnq (show ev _ _=_ from G) Z)<|xe<|Q5 rfl (λI=>?_) (λI=>?_)
 ·refine Qc<|Qb<|Qk ⟨[nS],Lb,xd.C _ _,?_⟩;rcases h.2.2 with⟨h1,h2⟩|⟨a,c,h1,_⟩
  ·have J:cs=[]:=Lu (by rw[h.1,h2];simp);subst J h2;exact QM _ _ _ _
  rw[h1]at G;cases G;cases I
 rcases h.2.2 with⟨h1,h2⟩|⟨a,c,h1,h2,J⟩
 ·rw[h1]at G;injection G with e1;subst e1;cases I
 refine Qf<|Qc<|Qo<|Qe3 λb5 w1 U V Y=>Qa<|Qo<|Q0 (base:=↑w) (Y.own (n:=0) (sz:=m) oe oa V) rfl (show ev _ _=_ from h1) h.1 (J.I U) ho oa (oq Y.lt) (λv2 w2 he hg hj=>Qb ?_) hb;refine Qk ⟨[v2],Lb,U.O hg V,?_⟩;simpa[tup]using he
include hS in
theorem ixG {c:α->LV}{el:α->O7}{k:Nat}(hB:Bears sV n (SlBodyH.n6 (Rn t e k)))(hc:∀q,(c q).length=m)(hl:LdE e c el)[Fu sV gp fn]{cap:LV}{q:α->Bool}{l:List α}(h:Zw L ↑w v l.length m (l.flatMap c))
  (hk:∀e∈l,∀I:O6,sW w I->QT sV gp ([el e]++cap) I λr w'=>r=.bool (q e)/\sW I w'):
  QT sV n [v,.func (.func gp) #[] cap.toArray] w λr w'=>r=sS (fix q 0 l)/\sW w w':=by
 obtain⟨nm,_,Y⟩:=hB;obtain⟨ρ,hρ,he,hg⟩:∃ρ,Rn t e k=ρ/\ρ.t 22=t/\ρ.t 23=e:=⟨_,Z,Z,Z⟩;rw[hρ]at Y;clear hρ;subst he hg;have hn:=h.le;refine QT.of_W Y Z (n:=19) Z Z oe ?_;refine Qc<|Qb<|Qd<|Ql<|QG h Z<|Qa<|xe<|QY (α:=Nat) [(4,5),(8,18)] (λz=>[(8,sS z)]) (λz w'=>z<=l.length/\sW w w'/\fix q z (l.drop z)=fix q 0 l) (λz=>l.length - z) 0 Lb
  ⟨Lp _,xd.C _ _,Z⟩ ?_
 rintro k g I ⟨hk1,J,G⟩;refine Zk rfl Z (λU=>?_) (λU=>?_)
 ·refine Qt ?_;have hh:l.length<=k:=by have hj:¬(k:Int)<(l.length:Int):=U;omega
  rw[Lx hh]at G;refine Qc<|Qb<|Qk ⟨[_],Lb,by rw[<-G];rfl,J⟩
 have O:k<l.length:=by have hj:(k:Int)<(l.length:Int):=U;omega
 rw[QZ O,YH]at G;refine Qf<|Qd<|Qn<|Ql<|Qb<|Ql<|Qa<|Qa<|xo hc (h.I J) Z Z O λho hm=>?_;refine x (hl.ld hm Z)<|Qo<|xc (first:=[]) (capt:=cap) Z<|(hk _ (Lm O) I J).S ?_;rintro r2 w2 ⟨rfl,ha⟩;refine xe<|Q5 rfl (λV=>?_) (λV=>?_)
 ·rw[OZ V]at G;refine Ql<|Qb<|Qk ⟨[_],Lb,by rw[<-G];rfl,J.D ha⟩
 rw[OY (by rw[V];decide)]at G;refine Qf<|Qr<|QC Z Z<|Qa<|xe ?_;exact⟨k+1,oa,Lb,O,J.D ha,G⟩
include hS in
theorem eqG [DecidableEq α]{c:α->LV}{el:α->O7}(hB:Bears sV n (SlBodyN.n33 (Rn t e 0)))(hc:∀q,(c q).length=m)(hl:LdE e c el){l l':List α}(h:Zw L ↑w v l.length m (l.flatMap c))(G:Zw L' ↑w v' l'.length m (l'.flatMap c))
  (hn:∀{f:Fr} {w:O6} {d:xJ} {X Y:O8} {ty:Nat} {pS:String} {af:xH} {gd:xz} {a b:α},a∈l->b∈l'->ev f X=el a->ev f Y=el b->(execOp (ev f) ⟨d,.binOp .neq e X Y e,ty,pS,af,gd⟩).run sV w=.ok (.value (.bool (decide (a≠b)))) w):
  QT sV n [v,v'] w λr w'=>r=.bool (decide (l=l'))/\sW w w':=by
 obtain⟨nm,_,hf⟩:=hB;obtain⟨ρ,hρ,hg,hh⟩:∃ρ,Rn t e 0=ρ/\ρ.t 22=t/\ρ.t 23=e:=⟨_,Z,Z,Z⟩;rw[hρ]at hf;clear hρ;subst hg hh;have hq:=h.le;refine QT.of_W hf Z (n:=26) Z Z oe ?_;refine Qc<|Qb<|Qd<|Ql<|QG h Z<|Qa<|QG G Z<|ZS Z Z<|xe<|Zh rfl (λha=>?_) (λha=>?_)
 ·refine Qc<|Qb<|Qk ⟨[.bool false],Lb,?_,xd.C _ _⟩;have:l≠l':=λe=>ha (by rw[e]);simp[tup,this]
 refine Qf<|Qd<|Ql<|QG h Z<|Qa<|xe<|QY (α:=Nat) [(4,5),(13,25)] (λk=>[(13,sS k)]) (λk w'=>sW w w'/\k<=l.length/\(l=l'↔l.drop k=l'.drop k)) (λk=>l.length - k) 0 Lb ⟨xd.C _ _,Lp _,oe⟩ ?_;rintro k g w1 ⟨I,hk,J⟩
 replace h:=h.I I
 replace G:=G.I I;refine Zk rfl Z (λhj=>?_) (λhj=>?_)
 ·refine Qt<|Qc<|Qb<|Qk ⟨[.bool true],Lb,?_,I⟩;rw[Lx oa,Lx oa]at J;simp[tup,J]
 have O:k<l.length:=oa
 have U:k<l'.length:=oa
 refine Qf<|Qd<|Qn<|Ql<|Qb<|Qd<|ZK [] (Xj 0 9 [])<|p Qx<|p Qx<|Lg.pig Z hc h Z Z O λhr ho=>pq (λ_ hc=>hl.ld (ho.I hc) Z) <|
  p Qx<|p Qx<|Lg.pig Z hc G Z Z U λhu hp=>pq (λ_ hc=>hl.ld (hp.I hc) Z)<|p (λ_=>hn (Lm O) (Lm U) Z Z)<|pe ?_
 have he:=I.D (xd.Y [] w1);refine Zh rfl (λV=>?_) (λV=>?_)
 ·refine Qc<|Qb<|Qk ⟨[.bool false],Lb,?_,he⟩;have:l≠l':=λe=>V (by subst e;rfl);simp[tup,this]
 refine Qf<|Qr<|QC Z Z<|Qa<|xe<|⟨k+1,oa,Lb,he,oa,?_⟩;rw[J,QZ O,QZ U,Ly.1 V];exact⟨λh=>(List.cons.inj h).2,λh=>by rw[h]⟩
end
def nxt (es:List Ed)(s e:Int):Int:=match es with
 | []=>-1
 | x::es=>if x.1=s/\x.2.1=e then x.2.2 else nxt es s e
section
def eqV:O7->O7->Bool
 | .int _ a,.int _ b=>a == b
 | .string a,.string b=>a == b
 | .bool a,.bool b=>a == b
 | _,_=>false
def tvB:LN->LV->LV->Bool
 | [],[],[]=>true
 | 0::ks,oD oE _::xs,oD oE _::ys=>tvB ks xs ys
 | 1::ks,.string _::xs,.string _::ys=>tvB ks xs ys
 | 2::ks,.bool _::xs,.bool _::ys=>tvB ks xs ys
 | _,_,_=>false
def jm:LV->LV->Bool
 | x::xs,y::ys=>eqV x y && jm xs ys
 | _,_=>true
inductive Fks (P:O9):Nat->List Field->LN->Prop
 | nil {o:Nat}:Fks P o [] []
 | int {o:Nat} {f:Field} {fs:List Field} {ks:LN} (hn:f.name ≠ "_") (ho:f.offset=o) (hu:P.underlying f.type=some (.int .i64)) (h:Fks P (o+1) fs ks):Fks P o (f::fs) (0::ks)
 | str {o:Nat} {f:Field} {fs:List Field} {ks:LN} (hn:f.name ≠ "_") (ho:f.offset=o) (hu:P.underlying f.type=some .string) (h:Fks P (o+1) fs ks):Fks P o (f::fs) (1::ks)
 | flag {o:Nat} {f:Field} {fs:List Field} {ks:LN} (hn:f.name ≠ "_") (ho:f.offset=o) (hu:P.underlying f.type=some .bool) (h:Fks P (o+1) fs ks):Fks P o (f::fs) (2::ks)
theorem Qgu {k:Nat}{v:O7}{l:LV}(h:∀w,(isAgg t).run P w=.ok false w)(G:l[k]?=some v)(w:O6):(part t l.toArray k).run P w=.ok v w:=by
 have e:l.toArray[k]?=some v:=by simpa using G
 simp[part,h w,e]
theorem jn {d o:Nat}{f:Field}{fs:List Field}{x y:O7}{xs ys X Y:LV}(J:f.name ≠ "_") (O:f.offset=o) (G:∀w,(isAgg f.type).run P w=.ok false w) (U:∀m w,(Op.equalIn (m+1) f.type x y).run P w=.ok (eqV x y) w)
  (hX:X.drop o=x::xs) (I:Y.drop o=y::ys) (ih:X.drop (o+1)=xs->Y.drop (o+1)=ys->∀w,(Op.eqFields (d+1) X.toArray Y.toArray fs).run P w=.ok (jm xs ys) w) (w:O6):
  (Op.eqFields (d+1) X.toArray Y.toArray (f::fs)).run P w=.ok (jm (x::xs) (y::ys)) w:=by
 have hx:X[o]?=some x:=by rw[<-List.head?_drop,hX];rfl
 have V:Y[o]?=some y:=by rw[<-List.head?_drop,I];rfl
 have hf:X.drop (o+1)=xs:=by rw[<-List.tail_drop,hX];rfl
 have hg:Y.drop (o+1)=ys:=by rw[<-List.tail_drop,I];rfl
 simp only[Op.eqFields,J,ne_eq,not_false_eq_true,if_true,Sem.run_bind,O,Qgu G hx,Qgu G V,U,Result.andThen_ok,Sem.run_ite,jm];cases hv:eqV x y with
 | false=>simp
 | true=>simpa using ih hf hg w
theorem Fks.run {d:Nat}{o:Nat}{fs:List Field}{ks:LN}(h:Fks P o fs ks):∀{xs ys X Y:LV},tvB ks xs ys=true->X.drop o=xs->Y.drop o=ys->∀w,(Op.eqFields (d+1) X.toArray Y.toArray fs).run P w=.ok (jm xs ys) w:=by
 induction h with
 | nil =>
  intro xs ys X Y ht _ _ w;cases xs with
  | nil=>simp[Op.eqFields,jm]
  | cons x xs=>cases ys <;> simp[tvB]at ht
 | @int o f fs ks I J G h ih =>
  intro xs ys X Y ht hX O w
  match xs,ys,ht with
  | oD oE a::xs,oD oE b::ys,ht=>exact jn I J (λw=>by simp[isAgg,run_underlying G]) (λm w=>by simp[Op.equalIn,run_underlying G,eqV]) hX O (λh1 h2=>ih ht h1 h2) w
 | @str o f fs ks I J G h ih =>
  intro xs ys X Y ht hX O w
  match xs,ys,ht with
  | .string a::xs,.string b::ys,ht=>exact jn I J (λw=>by simp[isAgg,run_underlying G]) (λm w=>by simp[Op.equalIn,run_underlying G,eqV]) hX O (λh1 h2=>ih ht h1 h2) w
 | @flag o f fs ks I J G h ih =>
  intro xs ys X Y ht hX O w
  match xs,ys,ht with
  | .bool a::xs,.bool b::ys,ht=>exact jn I J (λw=>by simp[isAgg,run_underlying G]) (λm w=>by simp[Op.equalIn,run_underlying G,eqV]) hX O (λh1 h2=>ih ht h1 h2) w
class Sk (P:O9)(t:Nat)(ks:outParam (LN)):Prop where
 u:∃fs:List Field,P.underlying t=some (.struct fs.toArray)/\Fks P 0 fs ks
 s:P.stoodInHeld t=false
 g:P.eqGuardType P.depth t=false
theorem UE {ks:LN}[h:Sk P t ks]{xs ys:LV}(J:tvB ks xs ys=true)(w:O6):(Op.equal t (sT xs) (sT ys)).run P w=.ok (jm xs ys) w:=by
 obtain⟨fs,G,O⟩:=h.u;have I:P.fieldsOf t=fs.toArray:=by unfold Program.fieldsOf;rw[G]
 have U:P.underlying t=some (.struct (P.fieldsOf t)):=by rw[I];exact G
 have h1:=run_equalIn_struct (P:=P) w 9999 t xs.toArray ys.toArray U h.s;rw[I]at h1;exact h1.D (O.run (d:=9998) J Z Z w)
instance {t:Nat}[h:S3 P t]:Sk P t [0,0,0]:=let⟨f0,f1,f2,hu,G,I,J,O,o1,o2,U,V,u2⟩:=h.u;⟨⟨[f0,f1,f2],hu,.int G O U<|.int I o1 V<|.int J o2 u2 .nil⟩,h.s,h.g⟩
theorem QlF (p q:Ed):jm (Qp p) (Qp q)=decide (p=q):=by
 rw[Bool.eq_iff_iff];simp only[Qp,jm,eqV,oK,beq_iff_eq,decide_eq_true_eq,Prod.ext_iff,and_true]
theorem Qbr [S3 P t](w:O6)(p q:Ed):(Op.equal t (sT (Qp p)) (sT (Qp q))).run P w=.ok (decide (p=q)) w:=by
 rw[<-QlF];exact UE Z w
variable {f:Fr}
theorem Qc6 {ks:LN}[h:Sk P t ks]{x:O8}{xs ys:LV}(I:tvB ks xs ys=true)(hx:ev f x=sT xs)(J:ev f y=sT ys):
  (execOp (ev f) ⟨d,.binOp .neq t x y G,ty,pS,af,gd⟩).run P w=.ok (.value (.bool (!jm xs ys))) w:=by
 have O:(eqGuard .neq t x y (sT xs) (sT ys)).run P w=.ok () w:=by simp[eqGuard,h.g]
 simp only[execOp,hx,J,Sem.run_bind,O,Result.andThen_ok,binOp,UE I,Sem.run_pure]
theorem UH [S3 P t]{x:O8}{p q:Ed}(hx:ev f x=sT (Qp p))(I:ev f y=sT (Qp q)):
  (execOp (ev f) ⟨d,.binOp .neq t x y G,ty,pS,af,gd⟩).run P w=.ok (.value (.bool (decide (¬p=q)))) w :=
 (Qc6 Z hx I).D (by rw[QlF];simp)
end
theorem QaQ {L:LN}{v:O7}{l:LI}(h:Qu L ↑w v l)(n:Int):
  QT sV 139 [v,sS n] w λr w'=>w'=w/\r=sS (fix (λe=>decide (n=e)) 0 l):=by
 have V:=h.le;refine Zn func139 ?_;refine Qc<|Qb<|Qd<|Ql<|QG h Z<|Qa<|xe<|QY (α:=Nat) [(4,5),(8,18)] (λk=>[(8,sS k)]) (λk w'=>w'=w/\k<=l.length/\fix (λe=>decide (n=e)) k (l.drop k)=fix (λe=>decide (n=e)) 0 l) (λk=>l.length - k) 0 Lb ⟨Z,Lp _,Z⟩ ?_;rintro k g Y ⟨rfl,hk,G⟩;refine Zk rfl Z (λO=>?_) (λO=>?_)
 ·refine Qt<|Qc<|Qb ?_;rw[Lx oa]at G;exact Qk ⟨[sS (-1)],Lb,Z,by rw[<-G];rfl⟩
 have J:k<l.length:=oa
 rw[QZ J,YH]at G;refine Qf<|Qd<|Qn<|Ql<|Qb<|Ql<|Qa<|Qa<|xii h Z Z J λha U=>x (Qq U Z)<|x (Zc Z Z)<|xe<|Zh rfl (λI=>?_) (λI=>?_)
 ·refine Ql<|Qb ?_;rw[OZ (O2 I)]at G;exact Qk ⟨[sS k],Lb,Z,by rw[<-G];rfl⟩
 refine Qf<|Qr<|QC Z Z<|Qa<|xe ?_;rw[OY (ox I)]at G;exact⟨k+1,oa,Lb,Z,oa,G⟩
theorem Qk6 {L:LN}{v:O7}{l:LI}(h:Qu L ↑w v l)(n:Int):
  QT sV 139 [v,sS n] w λr w'=>w'=w/\∃i:Int,r=sS i/\(0<=i↔n∈l):=
 (QaQ h n).S λ_ _ ⟨h1,h2⟩=>⟨h1,_,h2,by have:=U7 (λe=>decide (n=e)) l 0;rw[<-decide_eq_true_iff (p:=0<=_),this];simp⟩
theorem ZG {L:LN}{v:O7}{l:LI}(h:Qu L ↑w v l)(n:Int):
  QT sV 61 [v,sS n] w λr w'=>r=.bool (decide (n∈l))/\w'=w:=by
 refine Zn func61 ?_;refine Qc<|Qb<|Ql<|Qa<|Qw<|(Qk6 h n).S ?_;rintro G I ⟨rfl,i,rfl,hi⟩;refine x (Yn Z Z)<|Qb<|Qk ⟨[.bool (decide (0<=i))],Lb,?_,Z⟩;simp[tup,hi]
theorem qR {L L':LN}{v:O7}{l l':LI}(h:Qu L ↑w v l)(G:Qu L' ↑w v' l'):
  QT sV 99 [v,v'] w λr w'=>r=.bool (decide (l=l'))/\sW w w' :=
 eqG ⟨_,Z,func99⟩ Qk7 (ld1 λ_=>Z) (Qu.fl h) (Qu.fl G) λ_ _ hx I=>J0 hx I
theorem Qip {L L':LN}{v:O7}{l l':List Ed}(h:qn L ↑w v l)(G:qn L' ↑w v' l'):
  QT sV 100 [v,v'] w λr w'=>r=.bool (decide (l=l'))/\sW w w' :=
 eqG (c:=Qp) ⟨_,Z,func100⟩ (λ_=>Z) (ldA λ_=>Z) h G λ_ _ hx I=>UH hx I
theorem Qk2 (n:Int):QT sV 284 [sS n] w λr w'=>r=.bool false/\w'=w:=by
 refine Zn func284 ?_;refine Qc<|Qb<|Ql<|Qa<|ZS Z Z<|Qb<|Qk ⟨[.bool (decide (¬n=n))],Lb,by simp[tup],rfl⟩
theorem Qih (n:Int):QT sV 262 [sS n] w λr w'=>r=.bool false/\w'=w:=by
 refine Zn func262 ?_;refine Qc<|Qb<|Ql<|Qa<|ZS Z Z<|Qb<|Qk ⟨[.bool (decide (¬n=n))],Lb,by simp[tup],rfl⟩
theorem Qn9 (m n:Int):QT sV 217 [sS m,sS n] w λr w'=>r=.bool (decide (m<n))/\w'=w:=by
 refine Zn func217 ?_;refine Qc<|Qb<|Ql<|Qw<|(Qih m).S ?_;rintro G I ⟨rfl,rfl⟩;refine Qa<|Zs<|QB Z<|Qa<|Qa<|Qa<|ZT Z Z<|QB Z<|Qb<|Qk ⟨[.bool (decide (m<n))],Lb,Z,Z⟩
theorem YD.get {l:LI}(h:YD l)(G:j<l.length)(I:i<j):l[i]<l[j]:=Mn.1 h i j oa G I
def lwB (l:LI)(n:Int):Nat:=(l.filter λx=>decide (x<n)).length
theorem Qqo {l:LI}{n:Int}(_:YD l)(hi:i<=l.length)(h1:∀m (G:m<l.length),m<i->l[m]<n)(h2:∀m (G:m<l.length),i<=m->n<=l[m]):lwB l n=i:=by
 unfold lwB;have e1:(l.take i).filter (λx=>decide (x<n))=l.take i:=NK.2 λx hx=>by
  obtain⟨m,G,rfl⟩:=LQ hx;rw[Ng];have I:m<i/\m<l.length:=by rw[LH]at G;omega
  exact O2 (h1 m I.2 I.1)
 have e2:(l.drop i).filter (λx=>decide (x<n))=[]:=MU.2 λx hx=>by
  obtain⟨m,G,rfl⟩:=LQ hx;rw[List.getElem_drop];have I:i+m<l.length:=by rw[My]at G;omega
  have:=h2 (i+m) I oa;simp;omega
 have J:l.filter (λx=>decide (x<n))=l.take i:=by
  conv=>lhs;rw[<-ML i l]
  rw[LW,e1,e2,LK]
 rw[J,LH];omega
theorem Qeb {L:LN}{v:O7}{l:LI}(h:Qu L ↑w v l)(hi:YD l)(n:Int):
  QT sV 253 [v,sS n] w λr w'=>w'=w/\r=.tuple #[sS (lwB l n),.bool (decide (n∈l))]:=by
 have hz:=h.le;refine Zn func253 ?_;refine Qc<|x Qe<|Qb<|Ql<|QG h Z<|Qb<|Ql<|x Qe<|Qb<|Qd<|QY (α:=Nat×Nat) [(7,9),(13,30)] (λz=>[(7,sS z.1),(8,sS z.2)])
  (λz w'=>w'=w/\z.1<=z.2/\z.2<=l.length/\(∀m (G:m<l.length),m<z.1->l[m]<n)/\(∀m (G:m<l.length),z.2<=m->n<=l[m])) (λz=>z.2 - z.1) (0,l.length) oy
  ⟨Z,Lp _,Lr _,λm _ U=>O1 U (NF m),λm h1 U=>O1 h1 (by simp only[]at U;omega)⟩ ?_
 rintro⟨i,j⟩ g w1 ⟨rfl,h3,hj,I,V⟩;refine Qd<|Ql<|Qa<|ZT Z Z<|xe<|Zp rfl (λhg=>?_) (λhg=>?_)
 ·have e:i=j:=oa
  subst e;refine Qt<|QX (α:=Bool) [(4,5),(31,53)] (λz=>[(4,sS i),(5,.bool z)]) (λz w'=>w'=w1/\z=decide (n∈l)) ol ?_ ?_
  ·refine Qr<|Qa<|Qa<|Qa<|xb (YF Z Z) (λhk=>?_) (λhk=>?_)
   ·have J:i<l.length:=oa
    refine Qa<|Qa<|Qa<|xii h Z Z J λh4 hn=>x (Qq hn Z)<|Qa<|xb (Zc Z Z) (λY=>?_) (λY=>?_)
    ·refine Qa<|Zs<|Zs<|Zs<|QB Z<|QB Z<|x Qe<|Qb ?_;have:n∈l:=by rw[<-Y];exact Lm J
     exact⟨true,oy,Z,by simp[this]⟩
    refine Qa<|Qa<|Qa<|xii h Z Z J λh5 ho=>x (Qq ho Z)<|Qw<|(Qk2 _).S ?_;rintro r3 w3 ⟨rfl,rfl⟩;refine Qa<|YN<|QB Z<|QB Z<|QB Z<|x Qe<|Qb<|⟨false,oy,Z,?_⟩;have:n∉l:=by
     intro G;obtain⟨m,O,ha⟩:=LQ G;by_cases hp:m<i
     ·have:=I m O hp;omega
     by_cases hr:m=i
     ·subst hr;exact Y ha
     have:=YD.get hi O (show i<m by omega);have:=V i J (Lr _);omega
    simp[this]
   refine Qa<|Zs<|Zs<|Zs<|Zs<|Zs<|Kd<|xs Z <|
    QB rfl<|x Qe<|Qb<|⟨false,oy,Z,?_⟩
   have:n∉l:=by
    intro G;obtain⟨m,O,ha⟩:=LQ G;have:=I m O oa;omega
   simp[this]
  rintro z g w7 ⟨rfl,rfl⟩;exact Qk ⟨[sS i,.bool (decide (n∈l))],oy,Z,by rw[Qqo hi (show i<=l.length by omega) I V];rfl⟩
 refine Qf<|Qn<|Ql<|Qa<|QC Z Z<|x (Yi Z (by exact⟨oa,oa⟩))<|x (Qax (n:=1) Z Z oh)<|x (Yi Z (by exact⟨oa,oa⟩))<|Qb ?_;have hh:(((i:Int)+(j:Int)) / 2 ^ 1)=(((i+j) / 2:Nat):Int):=oa
 rw[hh];generalize hq:(i+j) / 2=q;have hs:i<=q:=oa
 have hu:q<j:=oa
 have he:q<l.length:=oa
 refine Ql<|Qa<|xii h Z Z he λh6 hv=>x (Qq hv Z)<|Qa<|Qw<|(Qn9 _ _).S ?_;rintro r8 w8 ⟨rfl,rfl⟩;refine xe<|Zp rfl (λhf=>?_) (λhf=>?_)
 ·refine Qr<|Qa<|Qb<|⟨(i,q),og,oy,Z,hs,oa,I,λm G hw=>?_⟩;by_cases e:q=m
  ·subst e;omega
  have:=YD.get hi G (show q<m by simp only[]at hw;omega);omega
 refine Qr<|Qa<|QC Z Z<|Qb<|⟨(q+1,j),og,oy,Z,hu,hj,λm G hy=>?_,V⟩;by_cases e:m=q
 ·subst e;exact hf
 have:=YD.get hi he (show m<q by simp only[]at hy;omega);omega
theorem jF {L:LN}{v:O7}{l:LI}(h:Qu L ↑w v l)(hi:YD l)(n:Int):
  QT sV 253 [v,sS n] w λr w'=>w'=w/\∃i:Int,r=.tuple #[sS i,.bool (decide (n∈l))]:=
 (Qeb h hi n).S λ_ _ ⟨h1,h2⟩=>⟨h1,_,h2⟩
theorem Kk {L:LN}{v:O7}{l:LI}(h:Qu L ↑w v l)(hi:YD l)(n:Int):
  QT sV 188 [v,sS n] w λr w'=>r=.bool (decide (n∈l))/\w'=w:=by
 refine Zn func188 ?_;refine Qc<|Qb<|Ql<|Qa<|Qw<|(jF h hi n).S ?_;rintro G I ⟨rfl,i,rfl⟩;refine Qa<|QS Z Z<|QS Z Z<|x Qe<|Qb<|Ql<|Qb<|Qk ⟨[.bool (decide (n∈l))],Lb,Z,Z⟩
theorem zn {L:LN}{v:O7}{l:LI}(h:Qu L ↑w v l)(n:Int):
  QT sV 202 [v,sS n] w λr w'=>r=sS (Ki n none l)/\w'=w:=by
 have hh:=h.le;refine Zn func202 ?_;refine Qc<|Qb<|Qd<|Ql<|QG h Z<|Qa<|xe<|QY (α:=Nat) [(4,6),(9,34)] (λk=>[(9,sS k)]) (λk w'=>w'=w/\k<=l.length/\Ki n (pv l k) (l.drop k)=Ki n none l) (λk=>l.length - k) 0 Lb ⟨Z,Lp _,Z⟩ ?_;rintro k g Y ⟨rfl,hk,G⟩;refine Zk rfl Z (λha=>?_) (λha=>?_)
 ·refine Qt<|Qc<|Qb<|Qk ⟨[sS 0],Lb,?_,Z⟩;rw[<-G,Lx oa];rfl
 have I:k<l.length:=oa
 rw[(QZ I),Ki]at G;refine Qf<|Qd<|Qn<|Ql<|xii h Z Z I λhj he=>x (Qq he Z)<|x Qe<|Qb<|Qn<|QX (α:=Bool) [(14,21)] (λz=>[(14,.bool z)]) (λz w'=>w'=Y/\z=decide (l[k]<0\/n<=l[k])) ol ?_ ?_
 ·refine Qr<|Qa<|xb (YF Z Z) (λJ=>?_) (λJ=>?_)
  ·refine Qa<|Zs<|QB Z<|Qb<|⟨true,Lb,Z,by simp[J]⟩
  refine Qa<|Qa<|Qa<|x (Yn Z Z)<|QB Z<|Qb<|⟨_,Lb,Z,by simp[J]⟩
 rintro z g w2 ⟨rfl,rfl⟩;refine Zh rfl (λO=>?_) (λO=>?_)
 ·refine Qc<|Qb<|Qk ⟨[sS 2],Lb,?_,Z⟩;rw[<-G,OZ O];rfl
 rw[OY O]at G;refine QX (α:=Bool) [(22,33)] (λz=>[(22,.bool z)]) (λz w'=>w'=w2/\z=yR (pv l k) l[k]) ol ?_ ?_
 ·refine Qr<|Qa<|xb (Ya Z Z) (λhf=>?_) (λhf=>?_)
  ·have hk1:((k:Int) - 1)=((k - 1:Nat):Int):=oa
   refine Qa<|Qa<|Qa<|Qa<|x (JH Z Z ⟨oa,oa⟩)<|xii (i:=k - 1) h Z (by show Value.int _ ((k:Int) - 1)=_;rw[hk1]) oa λhn hg=>x (Qq hg rfl)<|x (Jl rfl rfl)<|QB rfl<|Qb<|⟨_,⟨rfl,La⟩,rfl,?_⟩;have:pv l k=some l[k - 1]:=by
    have U:k≠0:=oa
    simp[pv,U,show k - 1<l.length by omega]
   rw[this];rfl
  refine Qa<|Zs<|Zs<|Kd<|QB Z<|Qb ?_;have U:k=0:=oa
  exact⟨false,Lb,Z,by simp[pv,U,yR]⟩
 rintro z g w3 ⟨rfl,rfl⟩;refine Q5 rfl (λV=>?_) (λV=>?_)
 ·refine Qc<|Qb<|Qk ⟨[sS 5],Lb,?_,Z⟩;rw[<-G,OZ V];rfl
 rw[OY (by simp[V])]at G;refine Qf<|Qr<|QC Z Z<|Qa<|xe ?_;exact⟨k+1,oa,Lb,Z,oa,by rw[KS I];exact G⟩
theorem j8 {L:LN}{a:Qz}(h:Zv L ↑w va vm ve a):
  QT sV 203 [.agg #[va,sS a.st,vm,ve]] w λr w'=>r=sS (ckE a.al a.st none a.ed)/\sW w w':=by
 obtain⟨U,_,J⟩:=h;have hC:=J.le;refine Zn func203 ?_;refine Qc<|Zd [va,sS a.st,vm,ve] λb1 w1 hf hD O=>Qb ?_
 replace U:=U.I hf
 replace J:=J.I hf;refine Qd<|Qc<|Qs Z O Z Z<|QG J Z<|Qa<|xe<|QY (α:=Nat) [(2,5),(9,71)] (λk=>[(9,sS k)]) (λk w'=>sW w1 w'/\k<=a.ed.length/\ckE a.al a.st (pv a.ed k) (a.ed.drop k)=ckE a.al a.st none a.ed) (λk=>a.ed.length - k) 0 Lb
  ⟨xd.C _ _,Lp _,Z⟩ ?_
 rintro k g w2 ⟨V,hk,G⟩
 replace U:=U.I V
 replace J:=J.I V
 replace O:=O.I V;refine Zk rfl Z (λhz=>?_) (λhz=>?_)
 ·refine Qt<|Qc<|Qb<|Qk ⟨[sS 0],Lb,?_,hf.D V⟩;rw[<-G,Lx oa];rfl
 have hg:k<a.ed.length:=oa
 rw[(QZ hg),ckE]at G;refine Qf<|Qd<|Qn<|Ql<|xie J Z Z hg λhE h3=>x (QF h3 Z Z)<|QV [sS 0,sS 0,sS 0] λb4 w3 h4 h5 I=>x Qe <|
  Qo<|ZM I Z Z Z Z oz λw4 h6 I=>xe ?_
 have Y:=h4.O h6 h5
 replace U:=U.I Y
 replace J:=J.I Y
 replace O:=O.I Y;have ha:=(hf.D V).D Y;refine Qd<|Qn<|QX (α:=Bool) [(14,36)] (λz=>[(14,.bool z)]) (λz w'=>w'=w4/\z=decide (a.ed[k].1<0\/a.st<=a.ed[k].1\/a.ed[k].2.2<0\/a.st<=a.ed[k].2.2)) ol ?_ ?_
 ·refine Qr<|Qs Z I Z Z<|xb (YF Z Z) (λhh=>?_) (λhh=>?_)
  ·refine Qa<|Zs<|YN<|QB Z<|Qa<|Zs<|QB Z<|Qa<|Zs<|YN<|QB Z<|Qb<|⟨true,Lb,Z,by simp[hh]⟩
  refine Qa<|Qs Z I Z Z<|Qs Z O Z Z<|xb (Yn Z Z) (λhj=>?_) (λhj=>?_)
  ·refine QB Z<|Qa<|Zs<|QB Z<|Qa<|Zs<|YN<|QB Z<|Qb<|⟨true,Lb,Z,by simp[hj]⟩
  refine QB Z<|Qa<|Qs Z I Z Z<|xb (YF Z Z) (λho=>?_) (λho=>?_)
  ·refine QB Z<|Qa<|Zs<|YN<|QB Z<|Qb<|⟨true,Lb,Z,by simp[ho]⟩
  refine QB Z<|Qa<|Qs Z I Z Z<|Qs Z O Z Z<|x (Yn Z Z)<|QB Z<|Qb<|⟨_,Lb,Z,by simp[hh,hj,ho]⟩
 rintro z g w5 ⟨rfl,rfl⟩;refine Zh rfl (λhq=>?_) (λhq=>?_)
 ·refine Qc<|Qb<|Qk ⟨[sS 2],Lb,?_,ha⟩;rw[<-G,OZ hq];rfl
 rw[OY hq]at G;refine Qc<|Qs Z O Z Z<|Qs Z I Z Z<|Qw<|(ZG U _).S ?_;rintro r4 w6 ⟨rfl,rfl⟩;refine x (Zi Z)<|Qb<|Q5 Z (λhr=>?_) (λhr=>?_)
 ·have hn:a.ed[k].2.1∉a.al:=by simpa using hr
  refine Qc<|Qb<|Qk ⟨[sS 9],Lb,?_,ha⟩;rw[<-G,OZ hn];rfl
 have hn:¬(a.ed[k].2.1∉a.al):=by simpa using hr
 rw[OY hn]at G;refine Qf<|Qd<|Ql<|x (Zc Z Z)<|xe<|Zh rfl (λh7=>?_) (λh7=>?_)
 ·have h0:k=0:=oa
  rw[OY (by simp[pv,h0,edO])]at G;refine Qt<|Qr<|QC Z Z<|Qa<|xe ?_;exact⟨k+1,oa,Lb,V.D Y,oa,by rw[KS hg];exact G⟩
 have h0:k≠0:=oa
 have hk1:((k:Int) - 1)=((k - 1:Nat):Int):=oa
 have hy:k - 1<a.ed.length:=oa
 refine Qf<|Qc<|Qs Z O Z Z<|Qa<|x (JH Z Z ⟨oa,oa⟩)<|xie (i:=k - 1) J Z (by show Value.int _ ((k:Int) - 1)=_;rw[hk1]) hy λhF h8 =>
  x (QF h8 Z Z)<|QV [sS 0,sS 0,sS 0] λb5 w7 h9 hA he=>Qo<|ZM he Z Z Z Z oz λw8 hB he=>xe ?_
 have hs:=h9.O hB hA
 replace I:=I.I hs
 replace ha:=ha.D hs;have hp:pv a.ed k=some a.ed[k - 1]:=by simp[pv,h0,hy]
 rw[hp]at G;refine QX (α:=Bool) [(52,70)] (λz=>[(70,.bool z)]) (λz w'=>w'=w8/\z=edO (some a.ed[k - 1]) a.ed[k]) ol ?_ ?_
 ·refine Qr<|Qs Z I Z Z<|Qs Z he Z Z<|xb (YF Z Z) (λhu=>?_) (λhu=>?_)
  ·refine Qa<|Zs<|Zs<|Zs<|Zs<|QB Z<|xe ?_;exact⟨true,Lb,Z,by simp[edO,hu]⟩
  refine Qa<|Qs Z I Z Z<|Qs Z he Z Z<|xb (Zc Z Z) (λhv=>?_) (λhv=>?_)
  ·refine Qa<|Qs Z I Z Z<|Qs Z he Z Z<|x (Jl Z Z)<|QB Z<|QB Z<|xe ?_;exact⟨_,Lb,Z,by simp[edO,hv]⟩
  refine Qa<|Zs<|YN<|QB Z<|QB Z<|xe ?_;exact⟨false,Lb,Z,by simp[edO,hv,hu]⟩
 rintro z g w9 ⟨rfl,rfl⟩;refine Q5 rfl (λhw=>?_) (λhw=>?_)
 ·refine Qc<|Qb<|Qk ⟨[sS 5],Lb,?_,ha⟩;rw[<-G,OZ hw];rfl
 rw[OY (by simp[hw])]at G;refine Qf<|Qr<|QC Z Z<|Qa<|xe ?_;exact⟨k+1,oa,Lb,(V.D Y).D hs,oa,by rw[KS hg];exact G⟩
theorem Xb {L:LN}{a:Qz}(h:Zv L ↑w va vm ve a):
  QT sV 130 [.agg #[va,sS a.st,vm,ve]] w λr w'=>r=sS (Jj a)/\sW w w':=by
 refine Zn func130 ?_;refine Qc<|Zd [va,sS a.st,vm,ve] λb1 w1 G ha I=>Qb ?_
 replace h:=h.I G;refine Qd<|Qc<|Qs Z I Z Z<|Qw<|(zn h.al 32).S ?_;rintro r2 w2 ⟨rfl,rfl⟩;refine Qb<|Ql<|ZS Z Z<|xe<|Zh rfl (λJ=>?_) (λJ=>?_)
 ·refine Ql<|Qb<|Qk ⟨[sS (Ki 32 none a.al)],Lb,?_,G⟩;rw[Jj,OZ J];rfl
 refine Qf<|Qd<|Qn<|Qc<|Qs Z I Z Z<|ZT Z Z<|Qb<|Zh Z (λO=>?_) (λO=>?_)
 ·refine Qc<|Qb<|Qk ⟨[sS 2],Lb,?_,G⟩;rw[Jj,OY J,OZ O];rfl
 refine Qc<|Qs Z I Z Z<|x (Ya Z Z)<|Qb<|Zh Z (λU=>?_) (λU=>?_)
 ·refine Qc<|Qb<|Qk ⟨[sS 3],Lb,?_,G⟩;rw[Jj,OY J,OY O,OZ U];rfl
 refine Qf<|Qd<|Qc<|Qs Z I Z Z<|Qs Z I Z Z<|Qw<|(zn h.mr a.st).S ?_;rintro r3 w3 ⟨rfl,rfl⟩;refine Qb<|Ql<|ZS Z Z<|xe<|Zh rfl (λV=>?_) (λV=>?_)
 ·refine Ql<|Qb<|Qk ⟨[sS (Ki a.st none a.mr)],Lb,?_,G⟩;rw[Jj,OY J,OY O,OY U,OZ V];rfl
 refine Qf<|Qc<|Q7 I Z Z<|Qw<|(j8 h).S ?_;rintro r4 w4 ⟨rfl,Y⟩;refine Qb<|Qk ⟨[sS (ckE a.al a.st none a.ed)],Lb,?_,G.D Y⟩;rw[Jj,OY J,OY O,OY U,OY V];rfl
theorem Z0 {L:LN}{v:O7}{l:LI}(h:Qu L ↑w v l):
  QT sV 64 [v] w λr w'=>sW w w'/\Qh 3 ↑w w' r l :=
 ju ⟨_,Z,func64⟩ h (UL l)
theorem Qdo [Fu sV g fn]{keep:Bool->Bool->Bool}(hk:∀(p q:Bool) (w:O6),QT sV g [.bool p,.bool q] w λr w'=>r=.bool (keep p q)/\w'=w)
  {L L':LN}   {a b:LI} (J:Qu L ↑w va a) (hb:Qu L' ↑w vb b) (hM:a.length+b.length<=1099511627776):
  QT sV 146 [va,vb,.func (.func g) #[] #[]] w λr w'=>sW w w'/\Qh 3 ↑w w' r (mrg keep a b):=by
 refine Zn func146 ?_;refine Qc<|Qb<|Qc<|Qb<|Qd<|QY (α:=(LI×O7)×(LI×O7)×(LI×O7)) [(0,1),(7,72)] (λz=>[(0,z.1.2),(1,z.2.1.2),(7,z.2.2.2)])
  (λz w'=>Qu L ↑w z.1.2 z.1.1/\Qu L' ↑w z.2.1.2 z.2.1.1/\Qh 3 ↑w w' z.2.2.2 z.2.2.1/\sW w w'/\z.2.2.1++mrg keep z.1.1 z.2.1.1=mrg keep a b/\z.2.2.1.length+z.1.1.length+z.2.1.1.length<=1099511627776)
  (λz=>z.1.1.length+z.2.1.1.length) ((a,va),(b,vb),([],nS)) oz ⟨J,hb,QM _ _ _ _,xd.C _ _,Z,by simp;omega⟩ ?_
 clear J hb;rintro⟨⟨a1,h7⟩,⟨G,h8⟩,⟨o,vo⟩⟩ g1 w1 ⟨J,hb,O,I,V,hl⟩;simp only[]at J hb O I V hl;refine Qd<|QX (α:=Bool) [(11,18)] (λz=>[(18,.bool z)]) (λz w'=>w'=w1/\z=decide (¬(a1=[]/\G=[]))) ol ?_ ?_
 ·refine Qr<|Qa<|QG J Z<|xb (Ya Z Z) (λhq=>?_) (λhq=>?_)
  ·refine Qa<|Zs<|QB Z<|xe ?_;have:a1≠[]:=by intro e;subst e;simp at hq
   exact⟨true,Lb,Z,by simp[this]⟩
  refine Qa<|Qa<|QG hb Z<|x (Ya Z Z)<|QB Z<|xe ?_;have:a1=[]:=Lu oa;refine⟨_,Lb,Z,?_⟩;cases G <;> simp[this]
 rintro z g2 w2 ⟨rfl,rfl⟩;refine Zp rfl (λhf=>?_) (λhf=>?_)
 ·refine Qt<|Ql<|Qb<|Qk ⟨[vo],Lb,I,?_⟩;obtain⟨rfl,rfl⟩:=Ly.1 hf;rw[KU,LK]at V;rw[<-V];exact O
 refine Qf ?_;rw[Kz keep hf]at V;have hr:=yY hf;have hN:=J.le;have hO:=hb.le;refine Qn<|QX (α:=Bool) [(8,8),(19,35)] (λz=>[(8,.bool z)]) (λz w'=>sW w2 w'/\z=Jt a1 G) ol ?_ ?_
 ·refine ZK [] (Xj 0 18 [])<|p Qx<|p (λ_=>Y4 J Z)<|pb (λ_=>Ya Z Z) (λhu=>?_) (λhu=>?_)
  ·refine p Qx<|p Qx<|p (λ_=>Y4 hb Z)<|pb (λ_=>Zc Z Z) (λh9=>?_) (λh9=>?_)
   ·refine p Qx<|ps<|ps<|ps<|ps<|ps<|ps<|ps<|p (YS Z)<|p (YS Z)<|p ZH<|pe ?_;refine⟨true,Lb,xd.Y _ _,?_⟩;have:G=[]:=Lu oa;subst this;cases a1 with
    | nil=>simp at hu
    | cons y a1=>rfl
   have hA:0<a1.length:=oa
   have U:0<G.length:=oa
   refine p Qx<|p Qx<|pii Z (i:=0) (J.I I) Z Z hA λhP hC=>pq (λ_ hc=>Qq (hC.I hc) Z) <|
    p Qx<|pii Z (i:=0) (hb.I I) Z Z U λhQ hD=>pq (λ_ hc=>Qq (hD.I hc) Z)<|p (λ_=>Jl Z Z) <|
    p (YS rfl)<|p (YS Z)<|p ZH<|pe ?_
   refine⟨_,Lb,xd.Y _ _,?_⟩;cases a1 with
   | nil=>simp at hA
   | cons y a1=>cases G with
    | nil=>simp at U
    | cons z G=>rfl
  refine p Qx<|ps<|ps<|ps<|ps<|ps<|ps<|ps<|ps<|ps<|ps<|ps<|ps<|p (YS Z)<|p ZH<|pe ?_;refine⟨false,Lb,xd.Y _ _,?_⟩;have:a1=[]:=Lu oa;subst this;rfl
 rintro z g3 w3 ⟨hv,rfl⟩
 replace O:=Qm O hv
 replace I:=I.D hv;refine QX (α:=Bool) [(9,9),(36,52)] (λz=>[(9,.bool z)]) (λz w'=>sW w3 w'/\z=Jt G a1) ol ?_ ?_
 ·refine ZK [] (Xj 0 18 [])<|p Qx<|p (λ_=>Y4 hb Z)<|pb (λ_=>Ya Z Z) (λhw=>?_) (λhw=>?_)
  ·refine p Qx<|p Qx<|p (λ_=>Y4 J Z)<|pb (λ_=>Zc Z Z) (λhE=>?_) (λhE=>?_)
   ·refine p Qx<|ps<|ps<|ps<|ps<|ps<|ps<|ps<|p (YS Z)<|p (YS Z)<|p ZH<|pe ?_;refine⟨true,Lb,xd.Y _ _,?_⟩;have:a1=[]:=Lu oa;subst this;cases G with
    | nil=>simp at hw
    | cons y G=>rfl
   have hA:0<a1.length:=oa
   have U:0<G.length:=oa
   refine p Qx<|p Qx<|pii Z (i:=0) (hb.I I) Z Z U λhR hF=>pq (λ_ hc=>Qq (hF.I hc) Z) <|
    p Qx<|pii Z (i:=0) (J.I I) Z Z hA λhS hG=>pq (λ_ hc=>Qq (hG.I hc) Z)<|p (λ_=>Jl Z Z) <|
    p (YS rfl)<|p (YS Z)<|p ZH<|pe ?_
   refine⟨_,Lb,xd.Y _ _,?_⟩;cases a1 with
   | nil=>simp at hA
   | cons y a1=>cases G with
    | nil=>simp at U
    | cons z G=>rfl
  refine p Qx<|ps<|ps<|ps<|ps<|ps<|ps<|ps<|ps<|ps<|ps<|ps<|ps<|p (YS Z)<|p ZH<|pe ?_;refine⟨false,Lb,xd.Y _ _,?_⟩;have:G=[]:=Lu oa;subst this;rfl
 rintro z g4 w4 ⟨hy,rfl⟩
 replace O:=Qm O hy
 replace I:=I.D hy;refine Qc<|Qb<|QX (α:=O7) [(0,0),(10,10),(53,58)] (λz=>[(0,z),(10,sS (bif Jt a1 G then a1.headD 0 else 0))]) (λz w'=>sW w4 w'/\Qu L ↑w z (tl (Jt a1 G) a1)) ol ?_ ?_
 ·refine Ql<|xe<|Q5 Z (λY=>?_) (λY=>?_)
  ·have hA:0<a1.length:=by cases a1 with|nil=>simp[Jt]at Y|cons y a1=>simp
   refine ZK [] (Xj 0 7 [])<|p Qx<|pii Z (i:=0) (J.I I) Z Z hA λhH hg=>pq (λ_ hc=>Qq (hg.I hc) Z)<|p Qx <|
    Qp8 rfl (lo:=1) J Z Z hA λv' hh=>p ZH<|p ZH<|pe ?_
   have hj:=Qu.drop hh;refine⟨v',⟨Z,?_,La⟩,xd.Y _ _,?_⟩
   ·show sS a1[0]=_;rw[Y];cases a1 with|nil=>simp at hA|cons y a1=>rfl
   rw[Y];simpa[tl]using hj
  refine Qf<|⟨h7,⟨Z,by show _=_;rw[Y];rfl,La⟩,xd.C _ _,?_⟩;rw[Y];exact J
 rintro hz g5 w5 ⟨h0,h3⟩
 replace O:=Qm O h0
 replace I:=I.D h0;refine QX (α:=O7) [(1,1),(10,10),(59,64)] (λz=>[(1,z),(10,sS (bif Jt G a1 then G.headD 0 else bif Jt a1 G then a1.headD 0 else 0))]) (λz w'=>sW w5 w'/\Qu L' ↑w z (tl (Jt G a1) G)) ol ?_ ?_
 ·refine Ql<|xe<|Q5 Z (λhe=>?_) (λhe=>?_)
  ·have U:0<G.length:=by cases G with|nil=>simp[Jt]at he|cons y G=>simp
   refine ZK [] (Xj 0 7 [])<|p Qx<|pii Z (i:=0) (hb.I I) Z Z U λhH hg=>pq (λ_ hc=>Qq (hg.I hc) Z)<|p Qx <|
    Qp8 rfl (lo:=1) hb Z Z U λv' hh=>p ZH<|p ZH<|pe ?_
   have hj:=Qu.drop hh;refine⟨v',⟨Z,?_,La⟩,xd.Y _ _,?_⟩
   ·show sS G[0]=_;rw[he];cases G with|nil=>simp at U|cons y G=>rfl
   rw[he];simpa[tl]using hj
  refine Qf<|⟨h8,⟨Z,by show _=_;rw[he];rfl,La⟩,xd.C _ _,?_⟩;rw[he];exact hb
 rintro h4 g6 w6 ⟨h5,h6⟩
 replace O:=Qm O h5
 replace I:=I.D h5;have hI:(bif Jt G a1 then G.headD 0 else bif Jt a1 G then a1.headD 0 else 0)=hx a1 G:=by
  unfold hx;cases e:Jt G a1 with
  | true=>rfl
  | false =>
   cases e2:Jt a1 G with
   | true=>rfl
   | false=>rw[e,e2]at hr;simp[tl]at hr
 refine Ql<|Qa<|Qa<|Qo<|xc (first:=[]) (capt:=[]) Z<|(hk _ _ _).S ?_;rintro r7 w7 ⟨rfl,rfl⟩;refine xe<|Q5 rfl (λhn=>?_) (λhn=>?_)
 ·refine Qr ?_;rw[hn,cond_true]at V;refine Qa<|Qa<|Qo<|Yj (us:=[[sS (hx a1 G)]]) Z Z oh oe ⟨by rw[<-hI];rfl,Z,La⟩ λhT w8 hp hU hJ =>
   Qo<|Q0 (news:=[sS (hx a1 G)]) (L:=[]) (Qm O hp) Z Z Z (hJ.at oe) oo oa (ou I.size hp.size) λv9 w9 hK hL hV=>Qb ?_
  have hge:=Qi O;refine⟨((tl (Jt a1 G) a1,hz),(tl (Jt G a1) G,h4),(o++[hx a1 G],v9)),og,oz,h3,h6,?_,(I.D hp).Z hL (λb hb=>.inr (hge b hb).1),by rw[LC];exact V,by simp only[oO,oL];omega⟩;exact Qh.snoc hK
 rw[hn,cond_false,MC]at V;refine Qf ?_;exact⟨((tl (Jt a1 G) a1,hz),(tl (Jt G a1) G,h4),(o,vo)),og,oz,h3,h6,O,I,V,og⟩
theorem Qsc (p q:Bool)(w:O6):QT sV 147 [.bool p,.bool q] w λr w'=>r=.bool (p || q)/\w'=w:=by
 refine Zn func147 ?_;refine Qc<|Qb<|Qc ?_;cases p
 ·refine Qa<|Qa<|Qa<|QB Z<|Qb<|Qk ⟨[.bool q],Lb,Z,Z⟩
 refine Qa<|Qa<|Kd<|QB Z<|Qb<|Qk ⟨[.bool true],Lb,Z,Z⟩
theorem Qky (p q:Bool)(w:O6):QT sV 237 [.bool p,.bool q] w λr w'=>r=.bool (p && !q)/\w'=w:=by
 refine Zn func237 ?_;refine Qc<|Qb<|Qc ?_;cases p
 ·refine Qa<|Qa<|YN<|QB Z<|Qb<|Qk ⟨[.bool false],Lb,Z,Z⟩
 refine Qa<|Qa<|Qa<|x (Zi Z)<|QB Z<|Qb<|Qk ⟨[.bool (!q)],Lb,Z,Z⟩
theorem jK {L L':LN}{a b:LI}(G:Qu L ↑w va a)(hb:Qu L' ↑w vb b)(I:a.length+b.length<=1099511627776):
  QT sV 71 [va,vb] w λr w'=>sW w w'/\Qh 3 ↑w w' r (mrg (· || ·) a b):=by
 refine Zn func71 ?_;refine Qc<|Qb<|Ql<|Qa<|Qw<|(Qdo Qsc G hb I).S ?_;rintro J V ⟨O,U⟩;refine Qb<|Qk ⟨[J],Lb,O,U⟩
theorem QmB {L L':LN}{a b:LI}(G:Qu L ↑w va a)(hb:Qu L' ↑w vb b)(I:a.length+b.length<=1099511627776):
  QT sV 164 [va,vb] w λr w'=>sW w w'/\Qh 3 ↑w w' r (mrg (λp q=>p && !q) a b):=by
 refine Zn func164 ?_;refine Qc<|Qb<|Ql<|Qa<|Qw<|(Qdo Qky G hb I).S ?_;rintro J V ⟨O,U⟩;refine Qb<|Qk ⟨[J],Lb,O,U⟩
theorem Qba {L L':LN}{a b:LI}(G:Qu L ↑w va a)(hb:Qu L' ↑w vb b)(I:a.length+b.length<=1099511627776):
  QT sV 90 [va,vb] w λr w'=>sW w w'/\r=.bool (decide (mrg (λp q=>p && !q) a b=[])):=by
 refine Zn func90 ?_;refine Qc<|Qb<|Ql<|Qa<|Qw<|(QmB G hb I).S ?_;rintro U V ⟨J,O⟩;have Y:=zW (λp q=>p && !q) a b;refine QG (Qh.ints (L:=[]) O oa oe) rfl<|x (Zc rfl rfl)<|Qb<|Qk ⟨[.bool (decide (((mrg (λp q=>p && !q) a b).length:Int)=0))],⟨rfl,La⟩,J,?_⟩;simp[tup]
theorem Qmi [Fu sV g fn](hk:∀(e:Ed) (s:Int) (w:O6),0<=e.1->e.1<=1099511627776->0<=s->s<=1099511627776->QT sV g [sT (Qp e),sS s] w λr w'=>r=sS (e.1 - s)/\sW w w')
  {L:LN}  {v:O7} {es:List Ed} (h:qn L ↑w v es) (hi:es.Pairwise (λa b=>a.1<=b.1)) (hb:∀e∈es,0<=e.1/\e.1<=1099511627776) (s:Int) (hs0:0<=s) (ha:s<=1099511627776):
  QT sV 156 [v,sS s,.func (.func g) #[] #[]] w λr w'=>sW w w'/\∃(i:Nat) (b:Bool),r=.tuple #[sS i,.bool b]/\i<=es.length /\
   (∀m (G:m<es.length),m<i->es[m].1<s)/\(∀m (G:m<es.length),i<=m->s<=es[m].1):=by
 have h8:=h.le;have he:∀{i j:Nat} (I:j<es.length) (O:i<j),es[i].1<=es[j].1:=λ{i j} I O=>Mn.1 hi i j oa I O;have hf:∀m (G:m<es.length),0<=es[m].1/\es[m].1<=1099511627776:=λm G=>hb _ (Lm G);refine Zn func156 ?_;refine Qc<|x Qe<|Qb<|Ql<|QG h Z<|Qb<|Ql<|x Qe<|Qb<|Qd<|QY (α:=Nat×Nat) [(9,11),(15,34)] (λz=>[(9,sS z.1),(10,sS z.2)])
  (λz w'=>sW w w'/\z.1<=z.2/\z.2<=es.length/\(∀m (G:m<es.length),m<z.1->es[m].1<s)/\(∀m (G:m<es.length),z.2<=m->s<=es[m].1)) (λz=>z.2 - z.1) (0,es.length) oy
  ⟨xd.C _ _,Lp _,Lr _,λm _ U=>O1 U (NF m),λm h1 U=>O1 h1 (by simp only[]at U;omega)⟩ ?_
 rintro⟨i,j⟩ g1 w1 ⟨J,O,I,hg,hn⟩;refine Qd<|Ql<|Qa<|ZT Z Z<|xe<|Zp rfl (λhs=>?_) (λhs=>?_)
 ·have e:i=j:=oa
  subst e;refine Qt<|QX (α:=Bool) [(6,7),(35,48)] (λz=>[(6,sS i),(7,.bool z)]) (λz w'=>sW w1 w') ol ?_ ?_
  ·refine Qr<|Qa<|Qa<|Qa<|xb (YF Z Z) (λhu=>?_) (λhu=>?_)
   ·have ho:i<es.length:=oa
    have V:=hf i ho;refine Qa<|Qa<|Qa<|Qa<|xie (h.I J) Z Z ho λh9 hv=>x (QF hv Z Z)<|Qa<|Qo<|xc (first:=[]) (capt:=[]) Z<|(hk es[i] s _ V.1 V.2 hs0 ha).S ?_;rintro r2 w2 ⟨rfl,hw⟩;refine x (Zc Z Z)<|QB Z<|x Qe<|Qb<|⟨_,oy,hw⟩
   refine Qa<|Zs<|Zs<|YN<|QB Z<|x Qe<|Qb<|⟨false,oy,xd.C _ _⟩
  rintro z g3 w3 hy;exact Qk ⟨[sS i,.bool z],oy,J.D hy,i,z,Z,I,hg,hn⟩
 refine Qf<|Qn<|Ql<|Qa<|QC Z Z<|x (Yi Z (by exact⟨oa,oa⟩))<|x (Qax (n:=1) Z Z oh)<|x (Yi Z (by exact⟨oa,oa⟩))<|Qb ?_;have hh:(((i:Int)+(j:Int)) / 2 ^ 1)=(((i+j) / 2:Nat):Int):=oa
 rw[hh];generalize V:(i+j) / 2=q;have hz:i<=q:=oa
 have h3:q<j:=oa
 have Y:q<es.length:=oa
 have hp:=hf q Y;refine Ql<|Qa<|Qa<|xie (h.I J) Z Z Y λhA h4=>x (QF h4 Z Z)<|Qa<|Qo<|xc (first:=[]) (capt:=[]) Z<|(hk es[q] s _ hp.1 hp.2 hs0 ha).S ?_;rintro r4 w4 ⟨rfl,hr⟩;refine ZT rfl Z<|xe<|Zp rfl (λh5=>?_) (λh5=>?_)
 ·refine Qr<|Qa<|Qb<|⟨(i,q),og,oy,J.D hr,hz,oa,hg,λm G h6=>?_⟩;by_cases e:q=m
  ·subst e;omega
  have:=he G (show q<m by simp only[]at h6;omega);omega
 refine Qr<|Qa<|QC Z Z<|Qb<|⟨(q+1,j),og,oy,J.D hr,h3,I,λm G h7=>?_,hn⟩;by_cases e:m=q
 ·subst e;omega
 have:=he Y (show m<q by simp only[]at h7;omega);omega
theorem QnG (e:Ed)(s:Int)(w:O6)(J:0<=e.1)(h1:e.1<=1099511627776)(h2:0<=s)(O:s<=1099511627776):
  QT sV 157 [sT (Qp e),sS s] w λr w'=>r=sS (e.1 - s)/\sW w w':=by
 refine Zn func157 ?_;refine Qc<|Zd (Qp e) λU V G Y I=>Qb<|Qc<|Qs Z I Z Z<|Qa<|x (JH Z Z ⟨oa,oa⟩)<|Qb<|Qk ⟨[sS (e.1 - s)],Lb,Z,G⟩
theorem QnF (e:Ed)(s:Int)(w:O6)(J:0<=e.1)(h1:e.1<=1099511627776)(h2:0<=s)(O:s<=1099511627776):
  QT sV 158 [sT (Qp e),sS s] w λr w'=>r=sS (e.1 - s)/\sW w w':=by
 refine Zn func158 ?_;refine Qc<|Zd (Qp e) λU V G Y I=>Qb<|Qc<|Qs Z I Z Z<|Qa<|x (JH Z Z ⟨oa,oa⟩)<|Qb<|Qk ⟨[sS (e.1 - s)],Lb,Z,G⟩
theorem QbC {L:LN}{st:Int}{es:List Ed}(h:qn L ↑w ve es)(hi:es.Pairwise (λa b=>a.1<=b.1))(hb:∀e∈es,0<=e.1/\e.1<=1099511627776)(s:Int)(hs0:0<=s)(hp:s<1099511627776):
  QT sV 80 [.agg #[va,sS st,vm,ve],sS s] w λr w'=>sW w w'/\qn L ↑w' r (QK es s):=by
 refine Zn func80 ?_;refine Qc<|Zd [va,sS st,vm,ve] λb2 w1 U hq G=>Qb ?_
 replace h:=h.I U;refine Qc<|Qs Z G Z Z<|Qa<|Qw<|(Qmi QnG h hi hb s hs0 oa).S ?_;rintro r2 w2 ⟨J,lo,b,rfl,hr,V,hf⟩
 replace h:=h.I J
 replace G:=G.I J;refine Qa<|QS Z Z<|QS Z Z<|x Qe<|Qb<|Qc<|Qs Z G Z Z<|Qa<|QC Z Z<|Qw<|(Qmi QnF h hi hb (s+1) oa oa).S ?_;rintro r3 w3 ⟨O,hi',b',rfl,Y,hg,ha⟩
 replace h:=h.I O
 replace G:=G.I O;refine Qa<|QS Z Z<|QS Z Z<|x Qe<|Qb ?_;have he:lo<=hi':=by
  rcases OR hi' lo with hh|hge
  ·have h1:=V hi' oa hh;have h2:=ha hi' oa (Lr _);omega
  exact hge
 refine Qc<|Qs Z G Z Z<|Qa<|Qa<|Qth h Z Z Z he Y λv' hj=>Qb<|Qk ⟨[v'],Lb,(U.D J).D O,?_⟩;have hc:=js (λe:Ed=>decide (e.1=s)) es lo hi' he Y (λm I hk=>by have:=V m I hk;simp;omega) (λm I h1 h2=>by have:=hf m I h1;have:=hg m I h2;simp;omega) (λm I h1=>by have:=ha m I h1;simp;omega);have hn:(QK es s).length=hi' - lo:=by unfold QK;rw[<-hc,LH,My];omega
 show Zw L ↑w3 v' (QK es s).length 3 _;rw[hn];have e1:(QK es s).flatMap Qp=((es.flatMap Qp).drop (lo*3)).take ((hi' - lo)*3):=by
  unfold QK;rw[<-hc];have key:∀(l:List Ed) (k:Nat),(l.flatMap Qp).drop (k*3)=(l.drop k).flatMap Qp:=by
   intro l;induction l with
   | nil=>intro k;simp
   | cons a l ih=>intro k;cases k with
    | zero=>simp
    | succ k=>simp only[oV,List.drop_succ_cons,Oz,OQ];rw[M4,<-List.drop_drop,show(Qp a++l.flatMap Qp).drop 3=l.flatMap Qp from rfl,ih]
  have ho:∀(l:List Ed) (k:Nat),(l.flatMap Qp).take (k*3)=(l.take k).flatMap Qp:=by
   intro l;induction l with
   | nil=>intro k;simp
   | cons a l ih=>intro k;cases k with
    | zero=>simp
    | succ k =>
     simp only[oV,List.take_succ_cons,Oz,OQ];rw[NM,J3,<-ih,Ls (by simp[J3])];simp
  rw[key,ho]
 rw[e1];exact hj
structure K6 (b3 b22:Nat)(r3:O7)(wS:O6)(c:Cs)(vo vk ve:O7)(w:O6):Prop where
 st:xd [b3,b22] wS w
 B3:QN ↑w b3 53 [r3,sS 0,vk,ve]
 B22:QN ↑w b22 3 (c.num.map (Value.int .i64))
 o:Qh 3 ↑wS w vo c.ord
 k:Qh 3 ↑wS w vk c.mk'
 e:Ye 179 ↑wS w ve c.ed
 d1:Dj vo vk
 d2:Dj vo ve
 d3:Dj vk ve
theorem K6.I {b3 b22:Nat}{r3:O7}{wS:O6}{c:Cs}{vo vk ve:O7}{w w':O6}(h:K6 b3 b22 r3 wS c vo vk ve w)(G:sW w w'):K6 b3 b22 r3 wS c vo vk ve w' :=
 ⟨h.st.D G,h.B3.I G,h.B22.I G,Qm h.o G,Qm h.k G,Qm h.e G,h.d1,h.d2,h.d3⟩
section
variable {b3 b22:Nat}{r3:O7}{wS:O6}{c:Cs}{w'':O6}
theorem K6.setK (h:K6 b3 b22 r3 wS c vo vk ve w)(l3:b3<wS.heap.size)(V:b22<wS.heap.size)(ne:b3≠b22){I:O7}{m:LI}(J:xd (ob vk) w w')(O:Qh 3 ↑wS w' I m)
  (U:∀b∈ob I,b∈ob vk\/↑w<=b) (G:xd [b3] w' w'') (Y:QN ↑w'' b3 53 [r3,sS 0,I,ve]):K6 b3 b22 r3 wS ⟨c.ord,c.num,m,c.ed⟩ vo I ve w'':=by
 refine⟨(h.st.Z J (λb hb=>.inr ((Qi h.k) b hb).1)).Z G (λb hb=>.inl (by simp at hb;simp[hb])),Y,(h.B22.J J (QJ h.k V)).J G (by simp;omega),
  Qg (Qg h.o J h.d1) G (λb hb=>by have:=(Qi h.o b hb).1;simp;omega),Qg O G (λb hb=>by have:=(Qi O b hb).1;simp;omega),
  Qg (Qg h.e J h.d3.symm) G (λb hb=>by have:=(Qi h.e b hb).1;simp;omega),h.d1.grow U (QW h.o),h.d2,(h.d3.symm.grow U (QW h.e)).symm⟩
theorem K6.setE (h:K6 b3 b22 r3 wS c vo vk ve w)(l3:b3<wS.heap.size)(V:b22<wS.heap.size)(ne:b3≠b22){I:O7}{m:List Ed}(J:xd (ob ve) w w')(O:Ye 179 ↑wS w' I m)
  (U:∀b∈ob I,b∈ob ve\/↑w<=b) (G:xd [b3] w' w'') (Y:QN ↑w'' b3 53 [r3,sS 0,vk,I]):K6 b3 b22 r3 wS ⟨c.ord,c.num,c.mk',m⟩ vo vk I w'':=by
 refine⟨(h.st.Z J (λb hb=>.inr ((Qi h.e) b hb).1)).Z G (λb hb=>.inl (by simp at hb;simp[hb])),Y,(h.B22.J J (QJ h.e V)).J G (by simp;omega),
  Qg (Qg h.o J h.d2) G (λb hb=>by have:=(Qi h.o b hb).1;simp;omega),Qg (Qg h.k J h.d3) G (λb hb=>by have:=(Qi h.k b hb).1;simp;omega),
  Qg O G (λb hb=>by have:=(Qi O b hb).1;simp;omega),h.d1,h.d2.grow U (QW h.o),h.d3.grow U (QW h.k)⟩
theorem K6.setN (h:K6 b3 b22 r3 wS c vo vk ve w)(J:b22<wS.heap.size)(ne:b3≠b22){m:LI}(G:xd [b22] w w')(I:QN ↑w' b22 3 (m.map (Value.int .i64))):K6 b3 b22 r3 wS ⟨c.ord,m,c.mk',c.ed⟩ vo vk ve w' :=
 ⟨h.st.Z G (λb hb=>.inl (by simp at hb;simp[hb])),h.B3.J G (by simp;omega),I,Qg h.o G (λb hb=>by have:=(Qi h.o b hb).1;simp;omega),
  Qg h.k G (λb hb=>by have:=(Qi h.k b hb).1;simp;omega),Qg h.e G (λb hb=>by have:=(Qi h.e b hb).1;simp;omega),h.d1,h.d2,h.d3⟩
theorem K6.setO (h:K6 b3 b22 r3 wS c vo vk ve w)(O:b3<wS.heap.size)(U:b22<wS.heap.size){I:O7}{m:LI}(G:xd (ob vo) w w')(V:Qh 3 ↑wS w' I m)
  (J:∀b∈ob I,b∈ob vo\/↑w<=b):K6 b3 b22 r3 wS ⟨m,c.num,c.mk',c.ed⟩ I vk ve w' :=
 ⟨h.st.Z G (λb hb=>.inr (Qi h.o b hb).1),h.B3.J G (QJ h.o O),h.B22.J G (QJ h.o U),V,Qg h.k G h.d1.symm,Qg h.e G h.d2.symm,
  (h.d1.symm.grow J (QW h.k)).symm,(h.d2.symm.grow J (QW h.e)).symm,h.d3⟩
end
def Yz (c:Cs)(e:Ed):Cs:=if ZZ c.num e.2.2<0 then⟨c.ord++[e.2.2],c.num.set e.2.2.toNat c.ord.length,c.mk',c.ed⟩else c
theorem QnP (c:Cs)(e:Ed):(Yz c e).num.length=c.num.length:=by unfold Yz;split <;> simp
theorem yk {c:Cs}{e:Ed}(h:e.2.2.toNat<c.num.length):Zu i c e=⟨(Yz c e).ord,(Yz c e).num,(Yz c e).mk',(Yz c e).ed++[((i:Int),e.2.1,ZZ (Yz c e).num e.2.2)]⟩:=by
 unfold Zu Yz;split
 ·simp[ZZ,oQ,h]
 rfl
theorem KZ {L:LN}{a:Qz}(h:Zv L ↑w va vm ve a)(hok:QL a):
  QT sV 241 [.agg #[va,sS a.st,vm,ve]] w λr w'=>sW w w'/\Xu ↑w ↑w' r (YB a):=by
 have hst0:=hok.st0;have hst1:=hok.st1;refine Zn func241 ?_;refine Qc<|Zd [va,sS a.st,vm,ve] λb1 w1 gm hb1 hj=>QV [nS,sS 0,nS,nS] λb2 w2 hf hb2 ho=>xe ?_;have hl1:=hj.lt;have hl2:=ho.lt;refine Qc<|Qs Z (hj.I hf) Z Z<|Qw<|(Z0 ((h.al.I gm).I hf)).S ?_;rintro r3 w3 ⟨V,I⟩;have hz3:=V.size;refine x (QD ⟨(Qh.ints (L:=[]) I h.al.le oe).cells,La⟩)<|QV [nS,sS 0,nS,nS] λb3 w4 kr kt hp =>
  Q6 [r3,sS 0,nS,nS] hp ⟨(Qh.ints (L:=[]) I h.al.le oe).one,rfl,rfl,rfl,La⟩ λw5 ku hp=>xe ?_
 have G:sW w3 w5:=kr.O ku kt;have hl3:=hp.lt;have gn:sW w w5:=((gm.D hf).D V).D G;refine Qd<|Qc<|Q9 Z<|x (Qj (((hj.I hf).I V).I G) Z Z)<|x (Zc Z Z)<|xe<|Zh rfl (λhL=>?_) (λhL=>?_)
 ·refine Qc<|Q7 hp Z Z<|Q6 [r3,sS 0,nS,nS] ((ho.I V).I G) ⟨(Qh.ints (L:=[]) I h.al.le oe).one,rfl,rfl,rfl,La⟩ λw6 gq ho=>xe ?_;refine Qk ⟨[.agg #[r3,sS 0,nS,nS]],⟨Kh ho,La⟩,gn.O gq oa,?_⟩;have kv:=Qg (Qm I G) gq (λb hb=>by have:=(Qi I b hb).1;simp;omega);unfold YB;rw[OZ hL];exact⟨r3,_,_,Z,λL' hr=>⟨Qh.ints kv h.al.le (λb hb=>oq (hr b hb)),Zw.nil _ _ _,Zw.nil _ _ _⟩⟩
 have kw:0<a.st:=oa
 obtain⟨n,hn⟩:∃n:Nat,a.st=n:=⟨a.st.toNat,oa⟩;have kx:a.st.toNat=n:=oa
 refine Qf<|Qc<|Q9 Z<|x (Qj (((hj.I hf).I V).I G) Z Z)<|Qo<|Y5 (n:=n) (O0 sS hn) (O0 sS hn) oa λb22 w7 hv hb22 hM=>Qb ?_;have hl22:=hM.lt;have kz:=gn.D hv;rw[show(oI n (sS 0).cells.toList).flatten=((oI n 0).map (Value.int .i64)) by rw[show(sS 0).cells.toList=[sS 0] from rfl,Qc3,List.map_replicate]]at hM;have k0:sW w3 w7:=G.D hv;refine Qd<|Ql<|x (Qaz Z)<|Qa<|xe<|QY (α:=Nat) [(5,5),(25,31)] (λk=>[(25,sS k)]) (λk w'=>xd [b22] w7 w'/\k<=n/\QN ↑w' b22 3 ((oI k (-1)++oI (n - k) 0).map (Value.int .i64))) (λk=>n - k) 0 Lb
  ⟨xd.C _ _,Lp _,ox hM⟩ ?_
 rintro k g w8 ⟨hN,hk,hO⟩;refine Zk rfl Z (λk4=>?_) (λk4=>?_)
 rotate_left
 ·have O:k<n:=oa
  refine Qf<|Qd<|Qn<|Ql<|Qb<|Qr<|Qa<|Qa<|x (QE Z Z O)<|Qo<|Kt hO Z Z (by simp;omega) λw9 h7 gr=>xe ?_;refine Qr<|QC Z Z<|Qa<|xe<|⟨k+1,oa,Lb,hN.Q h7,oa,?_⟩;have e:(oI k (-1:Int)++oI (n - k) 0).set k (-1)=oI (k+1) (-1)++oI (n - (k+1)) 0:=by
   rw[List.set_append_right _ _ oe];obtain⟨m,hm⟩:∃m,n - k=m+1:=⟨n - k - 1,oa⟩;rw[hm,show n - (k+1)=m by omega,List.replicate_succ,List.replicate_succ' (n:=k)];simp
  rw[e]at gr;exact gr
 have k5:n=k:=oa
 subst k5;simp only[OT,List.replicate_zero,Oq]at hO;refine Qt<|Ql<|x (QE (i:=0) Z Z oa)<|Qo<|Kt (i:=0) hO Z Z (by simp;omega) λwS h7 k6=>xe ?_;have hzS:w8.heap.size<=wS.heap.size:=h7.size;have hz8:=hN.size;have hw:xd [b22] w7 wS:=hN.Q h7;have hP:sW w wS:=kz.O hw oa;have hA:Zv [b3,b22] ↑wS va vm ve a:=(h.up (λb hb=>.inr (by simp at hb;omega))).I hP;have gs:QN ↑wS b1 53 [va,sS a.st,vm,ve]:=((((hj.I hf).I V).I G).I hv).J hw (by simp;omega);have k9:QN ↑wS b2 53 [nS,sS 0,nS,nS]:=(((ho.I V).I G).I hv).J hw (by simp;omega);have ma:QN ↑wS b3 53 [r3,sS 0,nS,nS]:=(hp.I hv).J hw (by simp;omega);have mc:Qh 3 ↑w2 wS r3 a.al:=Qg (Qm I k0) hw (λb hb=>by have:=QW I b hb;simp;omega);have mf:∀b∈ob r3,b<w3.heap.size:=QW I;have hy:b3<wS.heap.size:=oa
 have hz:b22<wS.heap.size:=oa
 have hQ:b3≠b22:=oa
 refine Qc<|Qo<|Q3 [[sS 0]] λgt mg hR hb34 mh=>Qb ?_;have mj:Qh 3 ↑wS mg (sL gt 1 1) [0]:=mh.own (n:=1) (sz:=1) Z oa oa;refine Qd<|Qc<|Qb ?_;have hedle:=hok.ed_le;have mo:∀e∈a.ed,0<=e.1/\e.1<=1099511627776:=λe he=>oq (hok.ed e he)
 refine QY (α:=Nat×Cs×O7×O7×O7) [(6,9),(11,11),(35,100)] (λz=>[(6,z.2.2.1),(7,sS z.1)])
  (λz w'=>K6 b3 b22 r3 wS z.2.1 z.2.2.1 z.2.2.2.1 z.2.2.2.2 w'/\z.1<=z.2.1.ord.length/\Uu a.st z.2.1/\z.2.1.mk'.length<=z.1/\z.2.1.ed.length<=z.1*131072/\Xg a (a.st.toNat - z.1) z.1 z.2.1=Xg a a.st.toNat 0 (Z3 a))
  (λz=>a.st.toNat - z.1) (0,Z3 a,sL gt 1 1,nS,nS) oy
  ⟨⟨hR.any,ma.I hR,by show QN _ _ _ (OX _ ((oI a.st.toNat (-1)).set 0 0));rw[kx];exact k6.I hR,mj,QM _ _ _ _,QM _ _ _ _,Dj.nil' _,Dj.nil' _,Dj.nil' _⟩,Lp _,Qhq kw,Lp _,Lp _,Z⟩ ?_
 rintro⟨i,c,vo,vk,J⟩ g2 mq ⟨hI,hi,hc,ms,mt,hS⟩;simp only[]at hI hi hc ms mt hS;have hcle:=hc.le;have hT:=Qh.ints (L:=[]) hI.o oa oe;have mu:=hA.st hI.st;have mv:=gs.J hI.st (by simp;omega);refine Qd<|Ql<|Qa<|QG hT Z<|ZT Z Z<|xe<|Zp rfl (λmw=>?_) (λmw=>?_)
 ·have my:c=Xg a a.st.toNat 0 (Z3 a):=by rw[<-hS,Qa2 oa]
  refine Qt<|Ql<|QG hT Z<|Q9 Z<|Qo<|Qv hI.B3 Z Z oe rfl λmz h8 m0=>xe ?_;refine Qc ?_;have m1:=Qh.ints (L:=[]) hI.k oa oe;have m2:=Ye.eds (L:=[]) hI.e (oq hc.el) oe;have m3:=Qh.ints (L:=[]) I h.al.le oe;refine Q7 m0 Z Z<|Q6 [r3,sS c.ord.length,vk,J] (((k9.J hI.st (by simp;omega))).J h8 (by simp;omega)) ⟨m3.one,Z,m1.one,m2.one,La⟩ λm4 h9 m5=>xe ?_;have gu:xd [b3,b22] wS mz:=hI.st.Z h8 (λb hb=>.inl (by simp at hb;simp[hb]));have m6:sW w m4:=(hP.Z gu (λb hb=>.inr (by simp at hb;omega))).O h9 oa;refine Qk ⟨[.agg #[r3,sS c.ord.length,vk,J]],⟨Kh m5,La⟩,m6,?_⟩;unfold YB;rw[OY hL];simp only[];rw[<-my];have k1:=Qg (Qg hI.k h8 (λb hb=>by have:=(Qi hI.k b hb).1;simp;omega)) h9 (λb hb=>by have:=(Qi hI.k b hb).1;simp;omega);have k2:=Qg (Qg hI.e h8 (λb hb=>by have:=(Qi hI.e b hb).1;simp;omega)) h9 (λb hb=>by have:=(Qi hI.e b hb).1;simp;omega);have k3:=Qg (Qg mc gu (λb hb=>by have:=mf b hb;simp;omega)) h9 (λb hb=>by have:=(Qi I b hb).1;simp;omega);exact⟨r3,vk,J,Z,λL' hr=>⟨Qh.ints k3 h.al.le (λb hb=>oq (hr b hb)),Qh.ints k1 (by show c.mk'.length<=_;omega) (λb hb=>oq (hr b hb)),Ye.eds k2 (by show c.ed.length<=_;have:=hc.el;omega) (λb hb=>oq (hr b hb))⟩⟩
 have O:i<c.ord.length:=oa
 refine Qf<|Qd<|Qn<|QX (α:=O7) [(8,9),(41,57)] (λz=>[]) (λz w'=>K6 b3 b22 r3 wS (Yo a i c) vo z J w') ol ?_ ?_
 ·refine Qd<|ZK [] (Xj 0 12 [6])<|p (QH Z)<|pq (λ_ hc=>Qj (mv.I hc) Z Z)<|p Qx<|p Qx<|pii Z hT Z Z O λa46 m7 =>
   pq (λ_ hc=>Qq (m7.I hc) Z)<|pk<|xg<|(jF (mu.mr.I (xd.Y _ _)) hok.mri _).S ?_
  rintro r14 w14 ⟨rfl,j14,rfl⟩;refine⟨xd.Y _ _,?_⟩;refine p Qx<|p (λ_=>Q2 Z Z)<|p (λ_=>Q2 Z Z)<|p ZH<|p ZH<|pe ?_;have hU:=hI.I (xd.Y [] mq);refine Ql<|xe ?_;have hB:ZZ c.ord i=c.ord[i]:=U0 (ox O);refine Zp Z (λhV=>?_) (λhV=>?_)
  ·refine Qf<|⟨vk,La,?_⟩;unfold Yo;rw[hB,OY hV];exact hU
  refine Qr<|Qs Z hU.B3 Z Z<|Qa<|Qo<|Q3 [[sS i]] λb55 w15 m8 hb55 m9=>?_;have h0:=hU.I m8;refine Qo<|Q0 (news:=[sS i]) (L:=[]) h0.k Z Z Z (m9.at oe) oo oa h0.st.size λgv pc pd gx pf=>?_;have gy:Qh 3 ↑wS pc gv (c.mk'++[(i:Int)]):=Qh.snoc pd;refine Q9 Z<|Qo<|Qv (h0.B3.J gx (QJ h0.k hy)) Z Z oe (Qh.ints (L:=[]) gy (by simp;omega) oe).one λw17 pg ph=>xe ?_;refine⟨gv,La,?_⟩;unfold Yo;rw[hB,OZ hV];exact h0.setK hy hz hQ gx gy pf pg ph
 rintro hW g3 h3 hg;have pn:Uu a.st (Yo a i c):=QkA hc;have hX:(Yo a i c).ord=c.ord:=by unfold Yo;split <;> rfl
 have po:(Yo a i c).ed=c.ed:=by unfold Yo;split <;> rfl
 have pp:(Yo a i c).mk'.length<=i+1:=by
  unfold Yo;split
  ·simp only[oO,oL];omega
  omega
 have gz:Qu [] ↑h3 vo (Yo a i c).ord:=Qh.ints (L:=[]) hg.o (by rw[hX];omega) oe;rw[hX]at gz;have pt:sW w h3:=hP.Z hg.st (λb hb=>.inr (by simp at hb;omega));have pu:Zv (b3::b22::(ob vo++ob J)) ↑h3 va vm ve a:=(h.up (λb hb=>.inr (by
  simp only[oN,oZ]at hb;rcases hb with rfl|rfl|hb|hb
  ·omega
  ·omega
  ·have:=(Qi hg.o b hb).1;omega
  have:=(Qi hg.e b hb).1;omega))).I pt
 have pw:=gs.J hg.st (by simp;omega);have hs:=hc.ord c.ord[i] (Lm O);refine Qd<|ZK [] [oB 0,oB 1,oB 2,oB 3,oB 4,oB 7,oC 5,oB 6]<|pq (λ_ hc=>Zj (pw.I hc) Z Z)<|p Qx<|p Qx<|pii Z gz Z Z O λa61 pz =>
  pq (λ_ hc=>Qq (pz.I hc) Z)<|p Qx<|pk<|xg<|(QbC (pu.ed.I (xd.Y _ _)) hok.eds mo c.ord[i] hs.1 oa).S ?_
 rintro r19 hh ⟨p0,g0⟩;have g6:sW h3 hh:=(xd.Y [] h3).D p0;refine⟨g6,?_⟩;refine p (λ_=>Y4 g0 Z)<|pe ?_;have p4:=hg.I g6;have hB:ZZ c.ord i=c.ord[i]:=U0 (ox O);have hol:=Yg a.ed c.ord[i];have p5:zy a i c=(QK a.ed c.ord[i]).foldl (Zu i) (Yo a i c):=by unfold zy;rw[hB]
 generalize p6:QK a.ed c.ord[i]=os at *;have p7:∀e∈os,0<=e.2.2/\e.2.2<a.st:=λe he=>by rw[<-p6]at he;have:=hok.ed e (Zy he).1;omega
 refine QY (α:=Nat×Cs×O7×O7) [(6,6),(11,11),(65,100)] (λz=>[(6,z.2.2.1),(65,sS z.1)])
  (λz w'=>K6 b3 b22 r3 wS z.2.1 z.2.2.1 hW z.2.2.2 w'/\xd (b3::b22::(ob vo++ob J)) hh w'/\(∀b∈ob z.2.2.1,b∈ob vo\/↑hh<=b)/\(∀b∈ob z.2.2.2,b∈ob J\/↑hh<=b)/\z.1<=os.length/\Uu a.st z.2.1/\z.2.1.mk'=(Yo a i c).mk'/\z.2.1.ed.length=c.ed.length+z.1/\c.ord.length<=z.2.1.ord.length/\(os.drop z.1).foldl (Zu i) z.2.1=zy a i c)
  (λz=>os.length - z.1) (0,Yo a i c,vo,J) oy
  ⟨p4,xd.C _ _,λ_ hb=>.inl hb,λ_ hb=>.inl hb,Lp _,pn,Z,by simp[po],by simp[hX],by rw[p5];rfl⟩ ?_
 rintro⟨k,d,g7,hC⟩ g4 p8 ⟨Y,hD,hE,hY,p9,U,hZ,ga,qf,h4⟩;simp only[]at Y hD hE hY p9 U hZ ga qf h4;refine Zk rfl Z (λqj=>?_) (λqj=>?_)
 ·rw[Lx oa,NP]at h4;subst h4;refine Qt<|Qr<|Qa<|QC Z Z<|Qb ?_;have ql:=U.le;refine⟨(i+1,zy a i c,g7,hW,hC),og,oy,Y,og,U,by simp only[];rw[hZ];exact pp,og,?_⟩;simp only[];rw[<-hS];obtain⟨m,hm⟩:∃m,a.st.toNat - i=m+1:=⟨a.st.toNat - i - 1,oa⟩;rw[hm,Xg,OZ O,show a.st.toNat - (i+1)=m by omega]
 have gb:k<os.length:=oa
 have q4:=QZ gb;rw[q4,LP]at h4;have hto:=p7 os[k] (Lm gb);have q5:=g0.st hD;have ql:=U.le;have hzS4:=hD.size;have hI4z:=Y.st.size;have j1:=Qh.ints (L:=[]) Y.o oa oe;obtain⟨q,hq⟩:∃q:Nat,os[k].2.2=q:=⟨os[k].2.2.toNat,oa⟩;have gc:os[k].2.2.toNat=q:=oa
 have ge:q<n:=oa
 have gg:q<d.num.length:=by rw[U.nl];omega
 have g8:ZZ d.num os[k].2.2=d.num[q]:=by rw[U0 oa];simp only[gc]
 have j2:=QW Y.e;have j3:=QW Y.o;refine Qf<|Qd<|Qn<|Qc<|xie q5 Z Z gb λa67 j4=>x (QF j4 Z Z)<|QV [sS 0,sS 0,sS 0] λb11 w21 za z0 ha=>Q6 (Qp os[k]) ha oz λz1 z2 ha=>xe ?_;have g9:sW p8 z1:=za.O z2 z0;have hF:=Y.I g9;have hl11:=ha.lt;have G:=hD.D g9;refine QX (α:=O7) [(6,6),(69,85)] (λz=>[(6,z)]) (λz w'=>K6 b3 b22 r3 wS (Yz d os[k]) z hW hC w'/\xd (b3::b22::(ob vo++ob J)) hh w'/\(∀b∈ob z,b∈ob vo\/↑hh<=b)/\QN ↑w' b11 179 (Qp os[k])) ol ?_ ?_
 ·refine Ql<|Qs Z ha Z Z<|x (QE Z (O0 sS hq) ge)<|x (zS hF.B22 Z gg)<|ZT Z Z<|xe<|Zp Z (λgh=>?_) (λgh=>?_)
  ·refine Qf<|⟨g7,Lb,?_,G,hE,ha⟩;unfold Yz;rw[g8,OY gh];exact hF
  refine Ql<|Qs Z ha Z Z<|Qa<|QG j1 Z<|x (QE Z (O0 sS hq) ge)<|Qo<|Kt hF.B22 Z Z gg λw23 hG z3=>xe ?_;have z4:=hF.setN hz hQ hG z3;have ka:=ha.J hG (by simp;omega);refine Qr<|Qa<|Qs Z ka Z Z<|Qo<|Yj (us:=[[sS os[k].2.2]]) Z Z oh oe ⟨rfl,rfl,La⟩ λb84 w24 hH hb84 z5=>?_;have gi:=z4.I hH;refine Qo<|Q0 (news:=[sS os[k].2.2]) (L:=[]) gi.o Z Z Z (z5.at oe) oo (by show d.ord.length+1<=_;omega) gi.st.size λkb w25 ho25 gj kc=>Qb ?_;have hk25:Qh 3 ↑wS w25 kb (d.ord++[os[k].2.2]):=Qh.snoc ho25;have hz23:=hG.size;have hz24:=hH.size;refine⟨kb,Lb,?_,?_,?_,(ka.I hH).J gj (λhb=>oq (j3 _ hb))⟩
  ·unfold Yz;rw[g8,OZ gh,gc];exact gi.setO hy hz gj hk25 kc
  ·refine((G.Z hG (λb hb=>.inl ?_)).D hH).Z gj (λb hb=>?_)
   ·simp at hb;simp[hb]
   rcases hE b hb with h1|h1
   ·exact .inl (by simp[h1])
   exact .inr h1
  intro b hb;rcases kc b hb with h1|h1
  ·exact hE b h1
  exact .inr oa
 rintro vo3 g5 ke ⟨h5,kf,hv8,kg⟩;have gk:Zu i d os[k]=⟨(Yz d os[k]).ord,(Yz d os[k]).num,(Yz d os[k]).mk',(Yz d os[k]).ed++[((i:Int),os[k].2.1,ZZ (Yz d os[k]).num os[k].2.2)]⟩:=yk oa;have hnl:q<(Yz d os[k]).num.length:=by rw[QnP];exact gg
 have hg2:ZZ (Yz d os[k]).num os[k].2.2=(Yz d os[k]).num[q]:=by rw[U0 oa];simp only[gc]
 have kh:=QJ h5.e hy;have hne22:=QJ h5.e hz;have ki:b11∉ob hC:=λhb=>oq (j2 _ hb)
 have kj:(Yz d os[k]).ed=d.ed:=by unfold Yz;split <;> rfl
 have hc5:Uu a.st (Zu i d os[k]):=QcQ U hto.1 hto.2 (by rw[ga];omega);refine ZK (ob hC) (Xj 0 15 [11,12,14])<|p (QH Z)<|pq (λ_ hc=>Qj (h5.B3.J hc kh) Z Z)<|p Qx<|p (QH Z)<|pq (λ_ hc=>Qj (kg.J hc ki) Z Z) <|
  p Qx<|p (QH Z)<|pq (λ_ hc=>Qj (kg.J hc ki) Z Z)<|p (λ_=>QE Z (O0 sS hq) ge) <|
  pq (λ_ hc=>zS (h5.B22.J hc hne22) Z hnl)<|p (λ_=>QD ⟨Z,Z,Z,La⟩)<|pk<|Q3 [Qp ((i:Int),os[k].2.1,(Yz d os[k]).num[q])] λb97 w27 hs27 hb97 hB97=>?_
 have h6:sW ke w27:=(xd.Y [] ke).D hs27;refine⟨h6.any,?_⟩;have hJ:=h5.I h6;refine pk<|Q0 (news:=Qp ((i:Int),os[k].2.1,(Yz d os[k]).num[q])) (L:=[]) hJ.e Z Z Z (hB97.at oe) (λu hu=>by simp only[Qp,oN,oJ,or_false]at hu;rcases hu with rfl|rfl|rfl <;> rfl) (by rw[kj];have:=U.el;omega) hJ.st.size λkk w28 ho28 hK kn=>?_
 refine⟨h6.any.Q hK,?_⟩;have ko:Ye 179 ↑wS w28 kk ((Yz d os[k]).ed++[((i:Int),os[k].2.1,(Yz d os[k]).num[q])]):=Ye.snoc ho28;refine p (QH Z)<|pkk<|Qv (hJ.B3.J hK kh) Z Z oe (Ye.eds (L:=[]) ko (by simp[kj];have:=U.el;omega) oe).one λw29 kq hB29=>pe ?_;have gl:=hJ.setE hy hz hQ hK ko kn kq hB29;rw[<-hg2]at gl;rw[<-gk]at gl;refine Qr<|QC Z Z<|Qa<|xe ?_;have hz26:=kf.size;have hz27:=h6.size;refine⟨(k+1,Zu i d os[k],vo3,kk),og,oy,gl,?_,hv8,?_,og,hc5,?_,?_,?_,h4⟩
 ·refine(((kf.D h6)).Z hK (λb hb=>?_)).Z kq (λb hb=>.inl (by simp at hb;simp[hb]));rcases hY b hb with h1|h1
  ·exact .inl (by simp[h1])
  exact .inr h1
 ·intro b hb;rcases kn b hb with h1|h1
  ·exact hY b h1
  exact .inr oa
 ·simp only[];rw[<-hZ,gk];simp only[];unfold Yz;split <;> rfl
 ·simp only[];rw[QcS,ga];omega
 simp only[];rw[gk];simp only[];unfold Yz;split
 ·simp only[oO];omega
 omega
end Go.Lg
namespace Go.Proofs
open Go.Proofs.Tryz
open Go.Shelf
def Tryz.lays169_ren:Go.Shelf.Ren:=⟨λ|169=>150|n=>n,λ|70=>259|9=>9|0=>0|72=>261|37=>86|127=>332|3=>3|5=>5|n=>n,λ|n=>n⟩
theorem Tryz.lays169:Go.Proofs.Lays.n169 sV Tryz.lays169_ren:=lyS
theorem Tryz.Builder_Extra_169:Builder.Extra sV Tryz.lays169_ren:=lyS
open Go.RowKit in
open Go.RowKit in
open Go.RowKit in
theorem Tryz.Builder_String_any (B b:Nat)(l:List UInt8)(w:O6)(h:Lib.IsBuilder 261 5 B b (Lib.byteCells l) w)(G:B<=↑w):
  Calls sV 150 #[sP b] w λe w'=>e=.returned (.string ⟨l.toArray⟩)/\Below B w w':=Any.Builder_String_any Tryz.lays169 Tryz.Builder_Extra_169 B b l w h G
def Tryz.laysM171_ren:Go.Shelf.Ren:=⟨λ|171=>149|243=>229|246=>267|283=>295|284=>296|285=>297|286=>298|129=>221|317=>314|318=>315|319=>316|320=>317|337=>323|338=>324|n=>n,λ|3=>3|9=>9|2=>2|4=>4|171=>396|0=>0|53=>319|37=>86|5=>5|173=>398|212=>410|51=>317|20=>20|213=>411|46=>246|232=>417|233=>418|n=>n,λ|17=>0|18=>1|19=>2|n=>n⟩
theorem Tryz.laysM171:Go.Proofs.LaysM.n171 sV Tryz.laysM171_ren:=lyS
open Go.RowKit Go.Sort Go.Lib in
theorem Tryz.strconv_Itoa (n:Int)(G:-9223372036854775808<=n)(h1:n<=9223372036854775807)(w:O6)(I:Lib.TabIs sV w "internal/strconv.uint64pow10" .u64 Lib.pow10Tab):
  Calls sV 149 #[sS n] w λe w'=>e=.returned (.string ⟨(Lib.itoa n).toArray⟩)/\∃k os,w'=grow (w.drewN k) os:=Any.strconv_Itoa Tryz.laysM171 n G h1 w I
def Tryz.lays171_ren:Go.Shelf.Ren:=⟨λ|171=>149|243=>229|246=>267|283=>295|284=>296|285=>297|286=>298|129=>221|317=>314|318=>315|319=>316|320=>317|337=>323|338=>324|n=>n,λ|3=>3|9=>9|2=>2|4=>4|171=>396|0=>0|53=>319|37=>86|5=>5|173=>398|212=>410|51=>317|20=>20|213=>411|46=>246|232=>417|233=>418|n=>n,λ|17=>0|18=>1|19=>2|n=>n⟩
theorem Tryz.lays171:Go.Proofs.Lays.n171 sV Tryz.lays171_ren:=lyS
open Go.RowKit Go.Sort Go.Lib in
theorem Tryz.strconv_Itoa_small (i:Nat)(hi:i<100)(w:O6):
  Calls sV 149 #[sS i] w λe w'=>e=.returned (.string ⟨(Lib.decDigits i).toArray⟩)/\w'=w:=Any.strconv_Itoa_small Tryz.lays171 i hi w
end Go.Proofs
namespace Go.Lg
open Go.RowKit
section
variable {K:Fr->O6->Prop}{f:Fr}
theorem Qgq {te:Nat}(I:P.underlying t=some (.pointer te)){x:O8}{a:Option Addr}(hx:ev f x=.pointer a)(J:ev f y=.pointer none):
  (execOp (ev f) ⟨d,.binOp .eql t x y G,ty,pS,af,gd⟩).run P w=.ok (.value (.bool a.isNone)) w:=by
 have O:(eqGuard .eql t x y (.pointer a) (.pointer none)).run P w=.ok () w:=by simp[eqGuard]
 have key:∀m,(Op.equalIn (m+1) t (.pointer a) (.pointer none)).run P w=.ok a.isNone w:=by
  intro m;unfold Op.equalIn;cases a <;> simp[run_underlying I]
 have U:(Op.equal t (.pointer a) (.pointer none)).run P w=.ok a.isNone w:=key 9999;simp only[execOp,hx,J,Sem.run_bind,O,Result.andThen_ok,binOp,U,Sem.run_pure]
theorem QhW {te:Nat}{j:TypeInfo}(I:P.underlying t=some (.pointer te))(J:P.info? te=some j){x:O8}{a:Addr}(hx:ev f x=.pointer (some a))(O:ev f y=.pointer (some a)):
  (execOp (ev f) ⟨d,.binOp .neq t x y G,ty,pS,af,gd⟩).run P w=.ok (.value (.bool false)) w:=by
 have U:(eqGuard .neq t x y (.pointer (some a)) (.pointer (some a))).run P w=.ok () w:=by simp[eqGuard]
 simp only[execOp,hx,O,Sem.run_bind,U,Result.andThen_ok,Lib.run_neq_ptr_same w a I J,Sem.run_pure]
theorem zT {x:O8}{v:O7}(hx:ev f x=v)(h:(convert t G v).run P w=.ok v' w):
  (execOp (ev f) ⟨d,.convert t G x,ty,pS,af,gd⟩).run P w=.ok (.value v') w:=by
 simp[execOp,hx,h]
theorem QjQ {e:Array O7->Sem O7}{x:O8}{v:O7}{ts:Array Nat}(G:P.funcs[g]?=some fn)(I:(fn.name == "runtime.NumGoroutine")=false)
  (hb:fn.body.isNone=true) (J:Extern.findNext fn=none) (O:Extern.find fn=some e) (h:(e #[ev f x]).run P w=.ok v w):
  (execOp (ev f) ⟨d,.call ⟨.value (.func g),#[x],ts⟩,ty,pS,af,gd⟩).run P w=.ok (.value v) w:=by
 have hc:=run_callFunc_extern G I hb J O #[ev f x] w;rw[h]at hc;have U:ev f (.func g)=.func (.func g) #[] #[]:=rfl;simp[execOp,resolve,U,Deferred.ofValue,invoke,hc,Result.andThen]
theorem Qqe {e u:Nat}[h:Sl P t e 1 1 (.int .u8 0)](G:P.underlying u=some .string){s:O8}{v:O7}{cs:LV}(I:w.ownsRow base e 1 v n cs)(J:ev f s=v)
  {b:ByteArray} (O:ev f y=.string b) (hb:n+b.size<=1099511627776) (U:base<=↑w)
  (hK:∀v' w',w'.ownsRow base e 1 v' (n+b.size) (cs++Lib.strCells b)->xd (ob v) w w'->K (QP f d v') w'):
  XO P ⟨d,.call ⟨.builtin .append,#[s,y],#[t,u]⟩,ty,pS,af,gd⟩ f w K:=by
 obtain⟨i,hi,V,Y,ha⟩:=Sl.info h;obtain⟨v',w',hr,h2,h3,_⟩:=Lib.run_append_own_string (P:=P) w base t u ty e i h.u G hi V Y ha v n cs I b (by simp only[maxLen];omega) oa U;have he:(execOp (ev f) ⟨d,.call ⟨.builtin .append,#[s,y],#[t,u]⟩,ty,pS,af,gd⟩).run P w=.ok (.value v') w':=by
  simp[execOp,resolve,invoke,builtin,J,O,hr]
 exact xv he (hK v' w' h2 (by rw[QbE];exact xd.of_grown h3))
theorem QjO {x:O8}{u:Nat}(G:P.underlying u=some .string){b:ByteArray}(hx:ev f x=.string b):
  (execOp (ev f) ⟨d,.call ⟨.builtin .len,#[x],#[u]⟩,ty,pS,af,gd⟩).run P w=.ok (.value (sS b.size)) w:=by
 simp[execOp,resolve,invoke,builtin,Builtin.len_,hx,run_underlying G,goInt]
end
def Bl (p:O7)(b:Nat)(G:List UInt8)(w:O6):Prop:=∃v,QN ↑w b 261 [p,v]/\w.ownsRow (b+1) 5 1 v G.length (Lib.byteCells G)
def me (b:Nat):O7:=sP b
theorem Qor (h:(P.info? t).map (·.size)=some n):∃j,P.info? t=some j/\j.size=n:=by
 simpa using h
theorem Qa5 {b:Nat}{cs:LV}(h:QN ↑w b T cs):w.shape? b=some (T,cs.length):=by
 unfold QN at h;simp[World.shape?,h]
theorem KY {I:O6}{b:Nat}{U:List UInt8}{p:O7}(V:sW I w)(hb:↑I<=b)(hp:p=.pointer none\/p=me b)(h:Bl p b U w):
  QT sV 228 [me b] w λr w'=>r=.tuple #[]/\sW I w'/\Bl (me b) b U w':=by
 obtain⟨v,G,J⟩:=h;obtain⟨j,O,ha⟩:=Qor (P:=sV) (t:=261) (n:=2) od;refine Zn func228 ?_;refine Qc ?_;rcases hp with rfl|rfl
 ·refine Qa<|Z8 Z<|Qs Z G Z Z<|x (Qgq underlying259 Z Z)<|xe<|jI Z ?_;refine Qr<|Qa<|Qa<|x (zT (v':=me b) Z (Lib.run_to_unsafe w ⟨b,0,none⟩ underlying259 underlying372 O (by rw[ha];decide) (Qa5 G) oe)) <|
   x (QjQ (v:=me b) func266 od od od (e:=Extern.AbiNoEscape.same) od Z) <|
   x (zT (v':=me b) Z (Lib.run_from_unsafe w ⟨b,0,none⟩ underlying372 underlying259 O (Qa5 G) od))<|x (Ug Z) <|
   Q9 rfl<|Qo<|Qv G Z Z oe rfl λw2 Y he=>xe ?_
  exact⟨[],La,Z,V.O Y hb,v,he,Qg J Y (λc hc=>by have:=(Qi J c hc).1;simp;omega)⟩
 refine Qa<|Z8 Z<|Qs Z G Z Z<|x (Qgq underlying259 Z Z)<|xe<|ZC Z<|Ql<|Z8 Z<|Qs Z G Z Z<|Qa<|x (QhW underlying259 O Z Z)<|xe<|ZC Z<|Qf ?_;exact⟨[],La,Z,V,v,G,J⟩
theorem KN {J:O6}{b:Nat}{G:List UInt8}{p:O7}(h0:sW J w)(hb:↑J<=b)(hp:p=.pointer none\/p=me b)(h:Bl p b G w)(c:UInt8)(hl:G.length+1<=1000000000):
  QT sV 187 [me b,.int .u8 c.toNat] w λ_ w'=>sW J w'/\Bl (me b) b (G++[c]) w':=by
 refine Zn func187 ?_;refine Qc<|Qb<|Ql<|Qw<|(KY h0 hb hp h).S ?_;rintro r1 w1 ⟨rfl,hf,v,O,U⟩;refine xe ?_;have hk:=O.lt;refine Ql<|Qa<|Z8 Z<|Qs Z O Z Z<|Qa<|Qo<|Q3 [[.int .u8 c.toNat]] λhm w2 I hn hg=>?_;have hq:=I.size;refine Qo<|Q0 (news:=[.int .u8 c.toNat]) (L:=[]) (Qm U I) Z Z Z (hg.at oe) oo oa oa λY w3 hh ha hr=>?_;have V:w3.ownsRow (b+1) 5 1 Y (G++[c]).length (Lib.byteCells (G++[c])):=by simpa[Lib.byteCells]using hh
 refine Z8 rfl<|Q9 Z<|Qo<|Qv ((O.I I).J ha (λhc=>oq (Qi U b hc).1)) Z Z oe (QO (L:=[]) V (by simp;omega) oe).one λw4 he hj=>xe ?_;refine Qc<|Qb<|Qk ⟨[.nilIface],Lb,(((hf.D I).Z ha (λc hc=>.inr ?_)).O he hb),Y,hj,Qg V he (λc hc=>by have:=(Qi V c hc).1;simp;omega)⟩;have:=(Qi U c hc).1;omega
theorem JF {I:O6}{b:Nat}{G:List UInt8}{p:O7}(h0:sW I w)(hb:↑I<=b)(hp:p=.pointer none\/p=me b)(h:Bl p b G w)(s:ByteArray)(hl:G.length+s.size<=1000000000):
  QT sV 148 [me b,.string s] w λ_ w'=>sW I w'/\Bl (me b) b (G++s.data.toList) w':=by
 refine Zn func148 ?_;refine Qc<|x Qe<|Qb<|Ql<|Qw<|(KY h0 hb hp h).S ?_;rintro r1 w1 ⟨rfl,hf,v,J,O⟩;refine xe ?_;have hj:=J.lt;refine Ql<|Qa<|Z8 Z<|Qs Z J Z Z<|Qa<|Qo<|Qqe underlying9 O Z Z oa oa λV w3 hg Y=>?_;have ha:s.size=s.data.toList.length:=rfl;have U:w3.ownsRow (b+1) 5 1 V (G++s.data.toList).length (Lib.byteCells (G++s.data.toList)):=by
  rw[Le,<-ha,show Lib.byteCells (G++s.data.toList)=Lib.byteCells G++Lib.strCells s by simp[Lib.byteCells,Lib.strCells_eq]];exact hg
 refine Z8 rfl<|Q9 Z<|Qo<|Qv (J.J Y (λhc=>oq (Qi O b hc).1)) Z Z oe (QO (L:=[]) U (by rw[Le,<-ha];omega) oe).one λw4 he hh=>xe ?_;refine Ql<|x (QjO underlying9 Z)<|x Qe<|Qb<|Qk ⟨[sS s.size,.nilIface],oy,((hf.Z Y (λc hc=>.inr ?_)).O he hb),V,hh,Qg U he (λc hc=>by have:=(Qi U c hc).1;simp;omega)⟩;have:=(Qi O c hc).1;omega
theorem VG {O:O6}{b:Nat}{J:List UInt8}{p:O7}(G:sW O w)(hb:↑O<=b)(hp:p=.pointer none\/p=me b)(h:Bl p b J w):
  QT sV 150 [me b] w λr w'=>r=.string ⟨J.toArray⟩/\sW O w':=by
 obtain⟨v,U,V⟩:=h;have ha:=U.lt;have Y:Lib.BuilderAt 261 5 b b p (Lib.byteCells J) w:=⟨Lr _,v,U,by rw[Lib.byteCells_length];exact Za V oa,λe=>by
  have:b∈ob v:=by rw[QbE,e];simp
  have:=(Qi V b this).1;omega⟩
 unfold QT;refine Calls.mono (Tryz.Builder_String_any b b J w (by rcases hp with rfl|rfl;exact .inl Y;exact .inr Y) oa) ?_
 rintro e w' ⟨rfl,I⟩;exact⟨Z,⟨I.os.D G.os,I.tape.D G.tape,I.output.D G.output,LA G.size I.size,λk hk hL=>(I.block k oa).D (G.block k hk hL)⟩⟩
def Tb (w:O6):Prop:=Lib.TabIs sV w "internal/strconv.uint64pow10" .u64 Lib.pow10Tab
theorem Qi6 {name:String}{v:Array O7}(h:w.var? P name=some v)(I:sW w w'):w'.var? P name=some v:=by
 unfold World.var? at *;rw[L7]at *;obtain⟨g,h1,h2⟩:=h;refine⟨g,h1,?_⟩;cases G:w.heap[g]? with
 | none=>rw[G]at h2;cases h2
 | some o =>
  have J:g<w.heap.size:=(LM.1 G).1;rw[I.block g J oe];exact h2
theorem Tb.I (h:Tb w)(G:sW w w'):Tb w':=Qi6 h G
def Kb (w:O6)(m:Int):Prop:=m<=100\/(m<=1000000/\Tb w)
theorem Kb.I {w w':O6}{m:Int}(h:Kb w m)(G:sW w w'):Kb w' m:=h.imp id λh=>⟨h.1,h.2.I G⟩
theorem Kb.le {m:Int}(h:Kb w m):m<=1000000:=by rcases h with h|h <;> omega
theorem QeH {k:Nat}{os:xG}:sW w (Sort.grow (w.drewN k) os):=by
 refine⟨Z,Z,Z,?_,λi hi _=>?_⟩
 ·show ↑w<=(w.heap++os).size;simp
 show(w.heap++os)[i]?=w.heap[i]?;rw[Array.getElem?_append_left hi]
theorem QbW {m:Int}(i:Nat)(hi:(i:Int)<m)(w:O6)(G:Kb w m):QT sV 149 [sS i] w λr w'=>r=.string ⟨(Lib.decDigits i).toArray⟩/\sW w w':=by
 unfold QT;rcases G with G|G
 ·refine Calls.mono (Tryz.strconv_Itoa_small i oa w) ?_;rintro e w' ⟨rfl,rfl⟩;exact⟨Z,xd.C _ _⟩
 refine Calls.mono (Tryz.strconv_Itoa i oa oa w G.2) ?_;rintro e w' ⟨rfl,k,os,rfl⟩;refine⟨?_,QeH⟩;unfold Lib.itoa;rw[OY oa,MD]
def YZ (l:LI):List UInt8:=l.flatMap λn=>Lib.decDigits n.toNat++[32]
theorem KD:∀(k u:Nat),u<10 ^ k->(Lib.decDigits u).length<=max 1 k
 | 0,u,h=>by
  unfold Lib.decDigits;rw[dif_pos (by simp at h;omega)];simp
 | k+1,u,h=>by
  unfold Lib.decDigits;split
  ·simp
  rename_i G;have ih:=KD k (u / 10) (by rw[OM]at h;omega);rw[Le];simp only[oL];have h1:k≠0:=λe=>by subst e;simp at h;omega
  omega
theorem Bl.I {w w':O6}{p:O7}{b:Nat}{G:List UInt8}(h:Bl p b G w)(I:sW w w'):Bl p b G w':=by
 obtain⟨v,h1,h2⟩:=h;exact⟨v,h1.I I,Qm h2 I⟩
theorem QbQ {L:LN}{v:O7}{l:LI}{m:Int}(h:Qu L ↑w v l)(Y:Kb w m)(hb:∀n∈l,0<=n/\n<m)(hl:l.length<=1000000):
  QT sV 120 [v] w λr w'=>r=.string ⟨(YZ l).toArray⟩/\sW w w':=by
 refine Zn func120 ?_;refine Qc<|Qb<|Qc<|QV [.pointer none,nS] λJ w1 hf O hg=>xe ?_;refine Qd<|Ql<|QG h Z<|Qa<|xe<|QY (α:=Nat×O7) [(5,5),(8,16)] (λz=>[(8,sS z.1)]) (λz w'=>z.1<=l.length/\sW w w'/\(z.2=.pointer none\/z.2=me J)/\Bl z.2 J (YZ (l.take z.1)) w'/\(YZ (l.take z.1)).length<=8*z.1) (λz=>l.length - z.1) (0,.pointer none) Lb
  ⟨Lp _,hf,.inl Z,⟨_,hg,QM _ _ _ _⟩,Lr _⟩ ?_
 rintro⟨k,p⟩ g w2 ⟨hk,G,U,I,hh⟩;simp only[]at hk U I hh;refine Zk rfl Z (λh9=>?_) (λh9=>?_)
 ·refine Qt<|Qc ?_;rw[Ls oa]at I;refine Vc<|(VG G O U I).S ?_;rintro r3 w3 ⟨rfl,hj⟩;refine Qb<|Qk ⟨[.string ⟨(YZ l).toArray⟩],Lb,Z,hj⟩
 have V:k<l.length:=oa
 have hv:=hb l[k] (Lm V);obtain⟨q,hq⟩:∃q:Nat,l[k]=q:=⟨l[k].toNat,oa⟩;have hm:l[k].toNat=q:=oa
 have hw:=KD 7 q (oq Y.le);have ha:YZ (l.take (k+1))=YZ (l.take k)++Lib.decDigits q++[32]:=by
  rw[Ln V];unfold YZ;rw[LJ,Nh,hm,LC]
 refine Qf<|Qd<|Qn<|Qc<|xii (h.I G) Z Z V λhy hn=>x (Qq hn Z)<|Qb<|Ql<|Qo<|xf ?_;refine(show QT _ _ [sS l[k]] _ _ by rw[hq];exact(QbW q oa w2 (Y.I G))).S ?_;rintro r4 w4 ⟨rfl,he⟩;refine Vc<|(JF (G.D he) O U (I.I he) ⟨(Lib.decDigits q).toArray⟩ (by show _+(Lib.decDigits q).toArray.size<=_;simp;omega)).S ?_;rintro r5 w5 ⟨ho,hr⟩;refine xe<|Qr<|Vc<|(KN ho O (.inr Z) hr 32 (by simp;omega)).S ?_;rintro r6 w6 ⟨hs,hu⟩;refine xe<|Qr<|QC Z Z<|Qa<|xe<|⟨(k+1,me J),og,Lb,og,hs,.inr Z,?_,?_⟩
 ·simp only[];rw[ha];simpa using hu
 simp only[];rw[ha];simp;omega
theorem Uo (p:AV):(ZJ p).length=4:=rfl
theorem KO (p:TV):(YP p).length=1:=rfl
theorem Jd.le {L:LN}{H:xG}{v:O7}{ps:List AV}(h:Jd L H v ps):ps.length<=1099511627776:=h.arr.le
theorem Ql6 {l:List Qz}{k:Nat}(h:k<l.length):ckL (l.drop k)=if Jj l[k]≠0 then Jj l[k]else ckL (l.drop (k+1)):=by
 rw[Mi h,ckL]
theorem Qh3 {L:LN}{v:O7}{ps:List AV}(h:Jd L ↑w v ps):
  QT sV 117 [v] w λr w'=>r=sS (K9 (ps.map (·.a)))/\sW w w':=by
 have hn:=Jd.le h;refine Zn func117 ?_;refine Qc<|Qb<|Qd<|Ql<|QG h.arr Z<|x (Ya Z Z)<|xe<|Zh rfl (λY=>?_) (λY=>?_)
 ·refine Qc<|Qb<|Qk ⟨[sS 3],Lb,?_,xd.C _ _⟩;unfold K9;rw[OZ (by simp;omega)];rfl
 refine Qf ?_;have hP:K9 (ps.map (·.a))=ckL (ps.map (·.a)):=by unfold K9;rw[OY (by simp;omega)]
 rw[hP];refine Qd<|Ql<|QG h.arr Z<|Qa<|xe<|QY (α:=Nat) [(2,2),(4,5),(11,20)] (λz=>[(11,sS z)]) (λz w'=>z<=ps.length/\sW w w'/\ckL (ps.map (·.a))=ckL ((ps.map (·.a)).drop z)) (λz=>ps.length - z) 0 Lb
  ⟨Lp _,xd.C _ _,Z⟩ ?_
 rintro k g w1 ⟨hk,G,hck⟩;refine Zk rfl Z (λha=>?_) (λha=>?_)
 ·refine Qt<|Qc<|Qb<|Qk ⟨[sS 0],Lb,?_,G⟩;rw[hck,Lx (by simp;omega)];rfl
 have I:k<ps.length:=oa
 have he:k<(ps.map (·.a)).length:=by simpa using I
 rw[Ql6 he,MM]at hck;refine Qf<|Qd<|Qn<|Qc<|xo Uo (h.I G).arr Z Z I λho hf=>x (QF hf Z Z)<|QV [nS,sS 0,nS,nS] λb4 w2 hg hh J=>?_;have hA:=h.each ps[k] (Lm I);refine Q6 (ZJ ps[k]) J ⟨hA.al.one,Z,hA.mr.one,hA.ed.one,La⟩ λw3 hj J=>xe ?_;have U:sW w1 w3:=hg.O hj hh;refine Qc<|Q7 J Z Z<|Qw<|(Xb ((hA.I G).I U)).S ?_;rintro r4 w4 ⟨rfl,hm⟩;refine Qb ?_;have V:=(G.D U).D hm;refine Ql<|ZS Z Z<|xe<|Zh rfl (λO=>?_) (λO=>?_)
 ·refine Ql<|Qb<|Qk ⟨[sS (Jj ps[k].a)],Lb,?_,V⟩;rw[hck,OZ O];rfl
 refine Qf<|Qr<|QC Z Z<|Qa<|xe<|⟨k+1,oa,Lb,I,V,?_⟩;rw[hck,OY O]
theorem Qlw {l:List Qz}{k:Nat}(h:k<l.length):evs (l.take (k+1))=mrg (· || ·) (evs (l.take k)) l[k].al:=by
 unfold evs;rw[Ln h,Mw];rfl
theorem Qb9 (l:List Qz)(h:∀a∈l,a.al.length<=32):(evs l).length<=32*l.length:=by
 have key:∀(l:List Qz) (acc:LI),(∀a∈l,a.al.length<=32)->(l.foldl (λacc a=>mrg (· || ·) acc a.al) acc).length<=acc.length+32*l.length:=by
  intro l;induction l with
  | nil=>intro acc _;simp
  | cons a l ih =>
   intro acc h;have h1:=ih (mrg (· || ·) acc a.al) (λa G=>h a (Lh _ G));have h2:=zW (· || ·) acc a.al;have I:=h a Lj;simp only[List.foldl_cons,oS];omega
 have:=key l [] h;unfold evs;simpa using this
theorem Qio {L:LN}{v:O7}{ps:List AV}(h:Jd L ↑w v ps)(hn:ps.length<=12)(V:∀p∈ps,p.a.al.length<=32):
  QT sV 186 [v] w λr w'=>sW w w'/\Qh 3 ↑w w' r (evs (ps.map (·.a))):=by
 refine Zn func186 ?_;refine Qc<|Qb<|Qc<|Qb<|Qd<|Ql<|QG h.arr Z<|Qa<|xe<|QY (α:=Nat×O7) [(3,3),(5,5),(8,16)] (λz=>[(3,z.2),(8,sS z.1)]) (λz w'=>z.1<=ps.length/\sW w w'/\Qh 3 ↑w w' z.2 (evs ((ps.map (·.a)).take z.1))) (λz=>ps.length - z.1) (0,nS) oy
  ⟨Lp _,xd.C _ _,QM _ _ _ _⟩ ?_
 rintro⟨k,vo⟩ g w1 ⟨hk,J,I⟩;simp only[]at hk I;have hq:=Qb9 ((ps.map (·.a)).take k) (λa ha=>by obtain⟨p,hp,rfl⟩:=Lt.1 (Ma ha);exact V p hp);have hr:((ps.map (·.a)).take k).length<=12:=by simp;omega
 refine Zk rfl Z (λh9=>?_) (λh9=>?_)
 ·refine Qt<|Ql<|Qb<|Qk ⟨[vo],Lb,J,?_⟩;rw[Ls (by simp;omega)]at I;exact I
 have G:k<ps.length:=oa
 refine Qf<|Qd<|Qn<|Qc<|xo Uo (h.I J).arr Z Z G λhs he=>x (QF he Z Z)<|QV [nS,sS 0,nS,nS] λb5 w2 hf hg O=>?_;have hA:=h.each ps[k] (Lm G);have hu:=V ps[k] (Lm G);refine Q6 (ZJ ps[k]) O ⟨hA.al.one,Z,hA.mr.one,hA.ed.one,La⟩ λw3 hh O=>xe ?_;have Y:sW w1 w3:=hf.O hh hg;have U:=J.D Y;refine Qr<|Qa<|Qs Z O Z Z<|Qw<|(jK (Qh.ints (L:=[]) (Qm I Y) oa oe) (hA.al.I U) oa).S ?_;rintro r4 w4 ⟨hj,hm⟩;refine Qb<|Qr<|QC Z Z<|Qa<|xe<|⟨(k+1,r4),og,oy,G,U.D hj,?_⟩;simp only[];rw[Qlw (ox G),MM];exact Za hm U.size
abbrev QgM (b:Nat):LV:=[.map (some b)]
structure VE (L:LN)(H:xG)(vl ve vs:O7)(ps:List AV)(ms:LN):Prop where
 al:Jd L H vl ps
 ev:Qu L H ve (evs (ps.map (·.a)))
 ml:ms.length=ps.length
 sl:Zw L H vs ms.length 1 (ms.flatMap QgM)
 mp:∀i (h:i<ms.length) (h':i<ps.length),ZV Ys H ms[i] (K8 [] ps[i].a.ed)/\ms[i]∉L
theorem VE.I {L:LN}{w w':O6}{vl ve vs:O7}{ps:List AV}{I:LN}(h:VE L ↑w vl ve vs ps I)(G:sW w w'):VE L ↑w' vl ve vs ps I :=
 ⟨h.al.I G,h.ev.I G,h.ml,h.sl.I G,λi h1 h2=>⟨(h.mp i h1 h2).1.I G,(h.mp i h1 h2).2⟩⟩
theorem VE.st {L:LN}{w w':O6}{vl ve vs:O7}{ps:List AV}{I:LN}(h:VE L ↑w vl ve vs ps I)(G:xd L w w'):VE L ↑w' vl ve vs ps I :=
 ⟨h.al.st G,h.ev.st G,h.ml,h.sl.st G,λi h1 h2=>⟨(h.mp i h1 h2).1.J G (h.mp i h1 h2).2,(h.mp i h1 h2).2⟩⟩
theorem VE.up {L L':LN}{H:xG}{vl ve vs:O7}{ps:List AV}{I:LN}(h:VE L H vl ve vs ps I)(G:∀b∈L',b∈L\/H.size<=b):VE L' H vl ve vs ps I :=
 ⟨h.al.up G,h.ev.up G,h.ml,h.sl.up G,λi h1 h2=>⟨(h.mp i h1 h2).1,λO=>by rcases G _ O with J|J;exact(h.mp i h1 h2).2 J;have:=(h.mp i h1 h2).1.lt;omega⟩⟩
theorem jo {m:List ((Int×Int)×O7)}{es:List Ed}{k:Nat}(h:k<es.length):K8 m (es.take (k+1))=xt (K8 m (es.take k)) (es[k].1,es[k].2.1) (sS es[k].2.2):=by
 unfold K8;rw[Ln h,Mw];rfl
theorem QnH {L:LN}{vl:O7}{ps:List AV}(h:Jd L ↑w vl ps)(hn:ps.length<=12)(hJ:∀p∈ps,p.a.al.length<=32)(hL:∀b∈L,b<↑w):
  QT sV 118 [vl] w λr w'=>sW w w'/\∃ve vs G,r=.agg #[vl,ve,vs]/\VE L ↑w' vl ve vs ps G/\Qh 3 ↑w w' ve (evs (ps.map (·.a))):=by
 refine Zn func118 ?_;refine Qc<|QV [nS,nS,nS] λb2 w1 h0 hV h3=>xe ?_;refine Ql<|Qa<|Qw<|(Qio (h.I h0) hn hJ).S ?_;rintro ve w2 ⟨hf,hg⟩;have hW:=Qb9 (ps.map (·.a)) (λa ha=>by obtain⟨p,hp,rfl⟩:=Lt.1 ha;exact hJ p hp);have kh:(evs (ps.map (·.a))).length<=1000:=by simp at hW;omega
 have h4:=Qh.ints (L:=[]) hg oa oe;refine x (QD ⟨h.arr.cells,h4.cells,La⟩)<|QV [nS,nS,nS] λb3 w3 hX hY hh =>
  Q6 [vl,ve,nS] hh ⟨h.arr.one,h4.one,Z,La⟩ λI hZ hh=>xe ?_
 have ga:=h0.size;have ki:=hf.size;have ho:sW w2 I:=hX.O hZ hY;have kj:=h3.lt;have kk:=hh.lt;have gb:sW w I:=(h0.D hf).D ho;have gc:=Qm hg ho;refine Qd<|Ql<|QG h.arr Z<|Qa<|xe ?_;have ge:=QW hg;refine QY (α:=Nat×LN×O7) [(5,6),(8,8),(15,42)] (λz=>[(15,sS z.1)])
  (λz w'=>z.1<=ps.length/\z.2.1.length=z.1/\xd [b3] I w'/\QN ↑w' b3 225 [vl,ve,z.2.2]/\w'.ownsRow ↑I 249 1 z.2.2 z.2.1.length (z.2.1.flatMap QgM) /\
   (∀i (h:i<z.2.1.length) (h':i<ps.length),ZV Ys ↑w' z.2.1[i] (K8 [] ps[i].a.ed)/\↑I<=z.2.1[i]/\z.2.1[i]∉ob z.2.2)) (λz=>ps.length - z.1) (0,[],nS) Lb
  ⟨Lp _,Z,xd.C _ _,hh,QM _ _ _ _,λi h=>by simp at h⟩ ?_
 rintro⟨k,G,vs⟩ g w5 ⟨hk,hr,J,h6,O,hs⟩;simp only[]at hk hr J h6 O hs;have hu:sW w w5:=gb.O J oa;have kn:=J.size;have hv:=Qi O;refine Zk rfl Z (λgg=>?_) (λgg=>?_)
 ·have gh:k=ps.length:=oa
  subst gh;refine Qt<|Qc ?_;have gi:=QO (L:=[]) O oa oe;refine Q7 h6 Z Z<|Q6 [vl,ve,vs] (((h3.I hf).I ho).J J (by simp;omega)) ⟨h.arr.one,h4.one,gi.one,La⟩ λw6 hw gj=>xe ?_;have hK:=hu.O hw hV;have hM:Qh 3 ↑w1 w6 ve _:=Qg (Qg gc J (λb hb=>by have:=ge b hb;simp;omega)) hw (λb hb=>by have:=(Qi hg b hb).1;simp;omega);have hN:=Qg O hw (λb hb=>by have:=(hv b hb).1;simp;omega);refine Qk ⟨[.agg #[vl,ve,vs]],⟨Kh gj,La⟩,hK,ve,vs,G,Z,⟨h.I hK,Qh.ints hM oa (λb hb=>oq (hL b hb)),hr,QO hN oa (λb hb h8=>ou (hL b h8) (Qi hN b hb).1),λi h1 h2=>⟨?_,λh8=>ou (hL _ h8) (hs i h1 h2).2.1⟩⟩,Za hM ga⟩;obtain⟨U,m2,_⟩:=hs i h1 h2;exact U.J hw (λhb=>by
   simp only[oH]at hb;have h7:=(((h3.I hf).I ho).J J (by simp;omega));rw[hb]at U;obtain⟨es,c,m4,_⟩:=U;unfold QN at h7;rw[h7]at m4;cases m4)
 have h9:k<ps.length:=oa
 have hA:=h.each ps[k] (Lm h9);refine Qf<|Qd<|Qn<|Qc<|xo Uo (h.I hu).arr Z Z h9 λko gk=>x (QF gk Z Z)<|QV [nS,sS 0,nS,nS] λb5 w7 gl gm gn =>
  Q6 (ZJ ps[k]) gn ⟨hA.al.one,Z,hA.mr.one,hA.ed.one,La⟩ λw8 gq hO=>xe ?_
 have gr:sW w5 w8:=gl.O gq gm;have kq:=hO.lt;refine Qc<|Qo<|Z1 Ys λbm w9 hP kr hQ=>Qb ?_;have kt:=hQ.lt;have hR:=gr.D hP;have gs:=hu.D hR;refine Qd<|Qc<|Qs Z (hO.I hP) Z Z<|QG hA.ed Z<|Qa<|xe ?_;have gt:=(hA.ed.up (L':=[bm]) (λb hb=>.inr (by simp at hb;have:=hu.size;omega))).I gs;have ku:=hA.ed.le;refine QY (α:=Nat) [(8,8),(23,35)] (λz=>[(23,sS z)]) (λz w'=>z<=ps[k].a.ed.length/\xd [bm] w9 w'/\ZV Ys ↑w' bm (K8 [] (ps[k].a.ed.take z))) (λz=>ps[k].a.ed.length - z) 0 Lb
  ⟨Lp _,xd.C _ _,hQ⟩ ?_
 rintro j g2 V ⟨hj,hy,hB⟩;have kv:=hy.size;refine Zk rfl Z (λgu=>?_) (λgu=>?_)
 ·refine Qt ?_;rw[Ls oa]at hB;have hC:sW w5 V:=hR.O hy oa;have hS:QN ↑V b3 225 [vl,ve,vs]:=h6.I hC;refine Qr<|Qs Z hS Z Z<|Qa<|Qo<|Q3 [[.map (some bm)]] λkw gv hz kx gx=>?_;have hD:=hC.D hz;have gy:=Qm O hD;have kz:=hD.size;refine Qo<|Q0 (news:=[.map (some bm)]) (L:=[]) gy Z Z Z (gx.at oe) oo oa oa λhE gz g0 hF hT=>?_;have hG:gz.ownsRow ↑I 249 1 hE (G++[bm]).length ((G++[bm]).flatMap QgM):=by
   rw[Le,LJ];simpa using g0
  have g3:=(hS.I hz).J hF (QJ O oa);refine Q9 Z<|Qo<|Qv g3 Z Z oe (QO (L:=[]) hG (by simp;omega) oe).one λg4 hH g5=>xe ?_;refine Qr<|QC Z Z<|Qa<|xe ?_;have g6:∀b∈ob hE,↑I<=b:=λb hb=>(Qi hG b hb).1;have k0:V.heap.size<=gv.heap.size:=hz.size;refine⟨(k+1,G++[bm],hE),og,Lb,h9,by simp[hr],?_,g5,Qg hG hH (λb hb=>by have:=g6 b hb;simp;omega),?_⟩
  ·exact((J.D hD).Z hF (λb hb=>.inr (hv b hb).1)).Q hH
  intro i h1 h2;simp only[oO,oL]at h1;have keep:∀(c:Nat) (m:List ((Int×Int)×O7)),ZV Ys ↑V c m->c≠b3->c∉ob vs->ZV Ys ↑g4 c m:=λc m hm g7 g8 =>
   ((hm.I hz).J hF g8).J hH (ox g7)
  by_cases hi:i<G.length
  ·obtain⟨U,m2,m3⟩:=hs i hi h2;simp only[List.getElem_append_left hi];refine⟨keep _ _ (U.I hC) oa m3,m2,λhb=>?_⟩;have k4:=U.lt;rcases hT _ hb with Y|Y
   ·exact m3 Y
   omega
  have hi':i=G.length:=oa
  subst hi';simp only[List.getElem_append_right (OG _),OT,List.getElem_singleton];have hq:G.length=k:=hr;have e2:ps[G.length]=ps[k]:=by simp only[hq]
  rw[e2];refine⟨keep _ _ hB oa (λhb=>oq (hv _ hb).2),oa,λhb=>?_⟩;rcases hT _ hb with Y|Y
  ·have:=(hv _ Y).2;omega
  omega
 have hI:j<ps[k].a.ed.length:=oa
 refine Qf<|Qd<|Qn<|Qc<|xie (gt.st hy) Z Z hI λk5 g9=>x (QF g9 Z Z)<|QV [sS 0,sS 0,sS 0] λb8 k6 ka kb he=>Q6 (Qp ps[k].a.ed[j]) he oz λkc ke he=>xe ?_;have hU:sW V kc:=ka.O ke kb;refine Qr<|Qa<|Qs Z he Z Z<|Qs Z he Z Z<|x (QD ⟨Z,Z,La⟩)<|x (UJ Z) <|
  ZD he rfl Z<|Qo<|YV (k:=(ps[k].a.ed[j].1,ps[k].a.ed[j].2.1)) (hB.I hU) Z Z λk9 kf kg=>xe ?_
 refine Qr<|QC Z Z<|Qa<|xe<|⟨j+1,oa,Lb,hI,(hy.D hU).Q kf,?_⟩;rw[jo hI];exact kg
theorem Qfg {L:LN}{vl:O7}{ps:List AV}{ms:LN}(h:VE L ↑w vl ve vs ps ms)(hn:ps.length<=12):
  QT sV 119 [.agg #[vl,ve,vs]] w λr w'=>sW w w' /\
   if ∃p∈ps,p.a.st=0 then r=.tuple #[nS,.bool false]else ∃v,r=.tuple #[v,.bool true]/\Qh 3 ↑w w' v (oI ps.length 0):=by
 refine Zn func119 ?_;refine Qc<|Zd [vl,ve,vs] λb1 w1 I hr V=>x Qe<|Qb<|Qd<|Qc<|Qs Z V Z Z<|QG h.al.arr Z<|Qa<|xe<|QY (α:=Nat) [(2,3),(5,5),(9,16)] (λz=>[(9,sS z)]) (λz w'=>z<=ps.length/\sW w1 w'/\∀i (h:i<ps.length),i<z->ps[i].a.st≠0) (λz=>ps.length - z) 0 Lb
  ⟨Lp _,xd.C _ _,λi _ h=>oa⟩ ?_
 rintro k g w2 ⟨hk,G,Y⟩;refine Zk rfl Z (λhf=>?_) (λhf=>?_)
 ·refine Qt<|Qc<|Qs Z (V.I G) Z Z<|QG h.al.arr Z<|Qo<|Y5 (n:=ps.length) Z Z oa λhg w3 hh hs ha=>x Qe<|Qb ?_;rw[show(oI ps.length (sS 0).cells.toList).flatten=((oI ps.length 0).map (Value.int .i64)) by rw[show(sS 0).cells.toList=[sS 0] from rfl,Qc3,List.map_replicate]]at ha;have hz:=(I.D G).size;refine Qk ⟨[sL hg ps.length ps.length,.bool true],oy,(I.D G).D hh,?_⟩;rw[OY (by
   rintro⟨p,hp,h0⟩;obtain⟨i,hi,rfl⟩:=LQ hp;exact Y i hi oa h0)]
  refine⟨_,Z,?_⟩;have:=ha.own (n:=ps.length) (sz:=1) (base:=↑w) oe oa oa;unfold Qh;rw[Np];exact this
 have J:k<ps.length:=oa
 have hA:=h.al.each ps[k] (Lm J);refine Qf<|Qd<|Qn<|Qc<|xo Uo ((h.al.I I).I G).arr Z Z J λhu hj=>x (QF hj Z Z)<|QV [nS,sS 0,nS,nS] λb5 w4 hm ho O =>
  Q6 (ZJ ps[k]) O ⟨hA.al.one,Z,hA.mr.one,hA.ed.one,La⟩ λw5 hq O=>xe ?_
 have he:sW w2 w5:=hm.O hq ho;refine Qc<|Qs Z O Z Z<|x (Zc Z Z)<|xe<|Zh rfl (λU=>?_) (λU=>?_)
 ·refine Qc<|x Qe<|Qb<|Qk ⟨[nS,.bool false],oy,(I.D G).D he,?_⟩;rw[OZ ⟨ps[k],Lm J,U⟩];rfl
 refine Qf<|Qr<|QC Z Z<|Qa<|xe<|⟨k+1,oa,Lb,J,G.D he,λi hi hv=>?_⟩;by_cases e:i=k
 ·subst e;exact U
 exact Y i hi oa
theorem Qe6 {aa:List Qz}{ts:LI}{k:Nat}(h:k<aa.length)(G:k<ts.length):Yh (aa.drop k) (ts.drop k)=(decide (ts[k]∈aa[k].mr) && Yh (aa.drop (k+1)) (ts.drop (k+1))):=by
 rw[Mi h,Mi G,Yh]
theorem Qia {L:LN}{vl:O7}{ps:List AV}{ms:LN}{ts:LI}(h:VE L ↑w vl ve vs ps ms)(ht:Qu L ↑w vt ts)(hl:ts.length=ps.length)(hi:∀p∈ps,YD p.a.mr)(hn:ps.length<=12):
  QT sV 121 [.agg #[vl,ve,vs],vt] w λr w'=>r=.bool (Yh (ps.map (·.a)) ts)/\sW w w':=by
 refine Zn func121 ?_;refine Qc<|Zd [vl,ve,vs] λb2 w1 he hr hf=>Qb<|Qd<|Qc<|Qs Z hf Z Z<|QG h.al.arr Z<|Qa<|xe<|QY (α:=Nat) [(4,6),(10,23)] (λz=>[(10,sS z)]) (λz w'=>z<=ps.length/\sW w w'/\Yh (ps.map (·.a)) ts=Yh ((ps.map (·.a)).drop z) (ts.drop z)) (λz=>ps.length - z) 0 Lb
  ⟨Lp _,he,Z⟩ ?_
 rintro k g w2 ⟨hk,J,I⟩;refine Zk rfl Z (λhg=>?_) (λhg=>?_)
 ·refine Qt<|Qc<|Qb<|Qk ⟨[.bool true],Lb,?_,J⟩;rw[I,Lx (by simp;omega)];rfl
 have G:k<ps.length:=oa
 have Y:k<ts.length:=oa
 have hA:=h.al.each ps[k] (Lm G);rw[Qe6 (ox G) Y,MM]at I;refine Qf<|Qd<|Qn<|Ql<|xo Uo (h.al.I J).arr Z Z G λhs hh=>x (QF hh Z Z)<|QV [nS,sS 0,nS,nS] λb6 w3 hj hm O=>x Qe <|
  Q6 (ZJ ps[k]) O ⟨hA.al.one,Z,hA.mr.one,hA.ed.one,La⟩ λw4 ho O=>xe ?_
 have hp:sW w2 w4:=hj.O ho hm;have U:=J.D hp;refine Qd<|ZK [] (Xj 0 8 [6])<|p (QH Z)<|pq (λ_ hc=>Qj (O.I hc) Z Z)<|p Qx<|p Qx<|pii Z (ht.I U) Z Z Y λhu hq =>
  pq (λ_ hc=>Qq (hq.I hc) Z)<|pk<|xg<|(Kk ((hA.mr.I U).I (xd.Y _ _)) (hi ps[k] (Lm G)) _).S ?_
 rintro r5 w5 ⟨rfl,rfl⟩;refine⟨xd.Y _ _,?_⟩;refine p (λ_=>Zi Z)<|pe ?_;have ha:=U.D (xd.Y [] w4);refine Q5 rfl (λV=>?_) (λV=>?_)
 ·refine Qc<|Qb<|Qk ⟨[.bool false],Lb,?_,ha⟩;rw[I,show decide (ts[k]∈ps[k].a.mr)=false by simpa using V];rfl
 refine Qf<|Qr<|QC Z Z<|Qa<|xe<|⟨k+1,oa,Lb,G,ha,?_⟩;rw[I,show decide (ts[k]∈ps[k].a.mr)=true by simpa using V,OP]
theorem QeJ {aa:List Qz}{ts:LI}{k:Nat}{v:Int}(h:k<aa.length)(G:k<ts.length):QU v (aa.drop k) (ts.drop k) =
  if v∉aa[k].al then(QU v (aa.drop (k+1)) (ts.drop (k+1))).map (ts[k]::·) else match xu aa[k].ed ts[k] v with|none=>none|some u=>(QU v (aa.drop (k+1)) (ts.drop (k+1))).map (u::·):=by
 rw[Mi h,Mi G];show(if v∉aa[k].al then _ else _)=_
 split
 ·rfl
 cases xu aa[k].ed ts[k] v <;> rfl
theorem QjU {L:LN}{vl:O7}{ps:List AV}{ms:LN}{ts:LI}(h:VE L ↑w vl ve vs ps ms)(ht:Qu L ↑w vt ts)(hl:ts.length=ps.length)(hi:∀p∈ps,YD p.a.al)
  (hz:∀p∈ps,p.a.ed.Pairwise λx y=>x.1<y.1\/(x.1=y.1/\x.2.1<y.2.1)) (hn:ps.length<=12) (v:Int):
  QT sV 122 [.agg #[vl,ve,vs],vt,sS v] w λr w'=>sW w w' /\
   match QU v (ps.map (·.a)) ts with|none=>r=.tuple #[nS,.bool false]|some u=>∃v',r=.tuple #[v',.bool true]/\Qh 3 ↑w w' v' u:=by
 refine Zn func122 ?_;refine Qc<|Zd [vl,ve,vs] λb3 w1 ha hN hf=>x Qe<|Qb<|Ql<|Qw<|(Z0 (ht.I ha)).S ?_;rintro vx w2 ⟨hg,hr⟩;refine Qb ?_;have h0:=ha.size;have hO:=hf.lt;have hh:=ha.D hg;refine Qd<|Qc<|Qs Z (hf.I hg) Z Z<|QG h.al.arr Z<|Qa<|xe ?_;have hge:=Qi hr;have h3:VE (ob vx) ↑w2 vl ve vs ps ms:=((h.up (L':=ob vx) (λb hb=>.inr (oq (hge b hb).1))).I hh);have h4:Qu (ob vx) ↑w2 vt ts:=((ht.up (L':=ob vx) (λb hb=>.inr (oq (hge b hb).1))).I hh);refine QY (α:=Nat×LI) [(6,7),(9,12),(18,49)] (λz=>[(18,sS z.1)])
  (λz w'=>z.1<=ps.length/\z.2.length=z.1/\xd (ob vx) w2 w'/\Qh 3 ↑w1 w' vx (z.2++ts.drop z.1)/\QU v (ps.map (·.a)) ts=(QU v ((ps.map (·.a)).drop z.1) (ts.drop z.1)).map (z.2++·)) (λz=>ps.length - z.1) (0,[]) Lb
  ⟨Lp _,Z,xd.C _ _,hr,oe⟩ ?_
 rintro⟨k,pre⟩ g w3 ⟨hk,V,O,U,G⟩;simp only[]at hk V U G;have hj:sW w w3:=hh.Z O (λb hb=>.inr (oq (hge b hb).1));refine Zk rfl Z (λh5=>?_) (λh5=>?_)
 ·refine Qt<|Ql<|x Qe<|Qb<|Qk ⟨[vx,.bool true],oy,hj,?_⟩;rw[Lx (by simp;omega),Lx oa]at G;rw[Lx oa]at U;rw[G];simp only[QU,OJ];exact⟨vx,Z,Za U h0⟩
 have I:k<ps.length:=oa
 have hm:k<ts.length:=oa
 have hs:k<ms.length:=by rw[h.ml];exact I
 have hA:=h.al.each ps[k] (Lm I);rw[QeJ (ox I) hm,MM]at G;have hu:=h3.st O;have h6:=h4.st O;refine Qf<|Qd<|Qn<|Ql<|xo Uo hu.al.arr Z Z I λhP h7=>x (QF h7 Z Z)<|QV [nS,sS 0,nS,nS] λb10 w4 h8 h9 ho=>x Qe <|
  Q6 (ZJ ps[k]) ho ⟨hA.al.one,Z,hA.mr.one,hA.ed.one,La⟩ λw5 hB ho=>xe ?_
 have J:sW w3 w5:=h8.O hB h9;have hC:=hj.D J;refine Qd<|Qc<|Qs Z ho Z Z<|Qa<|Qw<|(Kk (hA.al.I hC) (hi ps[k] (Lm I)) v).S ?_;rintro r6 w6 ⟨rfl,rfl⟩;refine x (Zi Z)<|xe ?_;have hv:=QZ hm;refine Q5 rfl (λhp=>?_) (λhp=>?_)
 ·have hD:v∉ps[k].a.al:=by simpa using hp
  refine Qt<|Qr<|QC Z Z<|Qa<|xe<|⟨(k+1,pre++[ts[k]]),og,Lb,I,by simp[V],O.D J,?_,?_⟩
  ·simp only[Om,OA];rw[<-hv];exact Qm U J
  simp only[];rw[G,OZ hD,Option.map_map];congr 1;funext l;simp
 have hE:¬(v∉ps[k].a.al):=by simpa using hp
 rw[OY hE]at G;refine Qf ?_;have hF:=(hf.I hg).J O (λhb=>oq (hge b3 hb).1);have hw:=hu.I J;obtain⟨hG,hQ⟩:=hw.mp k hs I;refine Qd<|ZK [] (Xj 0 17 [])<|p (QH Z)<|pq (λ_ hc=>Qj ((hF.I J).I hc) Z Z)<|p Qx<|pig Z (g:=QgM) (λ_=>Z) hw.sl Z Z hs λhR hH =>
  pq (λ_ hc=>Qq (hH.I hc) Z)<|p Qx<|p Qx<|pii Z (h6.I J) Z Z hm λhS hI=>pq (λ_ hc=>Qq (hI.I hc) Z) <|
  p Qx<|p (λ_=>QD ⟨Z,Z,La⟩)<|pq (λ_ hc=>Vl (k:=(ts[k],v)) (hG.I hc) Z Z)<|?_
 rw[qU ps[k].a.ed [] ts[k] v (hz ps[k] (Lm I))];have hq:sW w3 { w6 with drawn:=w6.drawn+1 }:=J.D (xd.Y [] w6)
 cases he:xu ps[k].a.ed ts[k] v with
 | none =>
  rw[he]at G;refine p Qx<|p (λ_=>Q2 Z Z)<|p (λ_=>Q2 Z Z)<|p ZH<|p ZH<|pe ?_;refine Qd<|Ql<|x (Zi Z)<|xe<|jI Z ?_;refine Qc<|x Qe<|Qb<|Qk ⟨[nS,.bool false],oy,hj.D hq,?_⟩;rw[G];rfl
 | some u =>
  rw[he]at G;refine p Qx<|p (λ_=>Q2 Z Z)<|p (λ_=>Q2 Z Z)<|p ZH<|p ZH<|pe ?_;refine Qd<|Ql<|x (Zi Z)<|xe<|ZC Z<|Qf ?_;have hy:=Qm U hq;have hT:(pre++ts.drop k).length=ts.length:=by simp;omega
  obtain⟨gx,cx,Y⟩:=qH U oa;have hJ:ob vx=[gx]:=by rw[Y];rfl
  refine Qr<|Qa<|Qa<|Qa<|x (QE Y Z oa)<|Qo<|Qdj (u:=sS u) (by rw[Y]at hy;exact hy) Z Z oa Z λw7 hK hL=>xe ?_;refine Qr<|QC Z Z<|Qa<|xe ?_;have hM:(pre++ts.drop k).set k u=(pre++[u])++ts.drop (k+1):=by
   rw[hv,List.set_append_right _ _ oa,V,OT,List.set_cons_zero,LC];rfl
  refine⟨(k+1,pre++[u]),og,Lb,I,by simp[V],(O.D hq).Z hK (λb hb=>.inl (by rw[hJ];exact hb)),?_,?_⟩
  ·simp only[];rw[<-hM];unfold Qh;rw[M2,NI,Y];exact hL
  simp only[];rw[G,Option.map_map];congr 1;funext l;simp
theorem XC (h:n<256):(UInt8.ofNat n).toNat=n:=by
 simp[Nat.mod_eq_of_lt h]
theorem QdS (u:Nat):(32:UInt8)∉Lib.decDigits u:=by
 induction u using Nat.strongRecOn with
 | _ u ih =>
  unfold Lib.decDigits;split
  ·intro h;simp only[oH]at h;have:=O0 UInt8.toNat h;rw[XC oa]at this;have G:(32:UInt8).toNat=32:=rfl;omega
  intro h;rcases Lk.1 h with h|h
  ·exact ih _ oa h
  simp only[oH]at h;have:=O0 UInt8.toNat h;rw[XC oa]at this;have G:(32:UInt8).toNat=32:=rfl;omega
def dval (l:List UInt8):Nat:=l.foldl (λa b=>a*10+(b.toNat - 48)) 0
theorem QdL (u:Nat):dval (Lib.decDigits u)=u:=by
 induction u using Nat.strongRecOn with
 | _ u ih =>
  unfold Lib.decDigits;split
  ·simp only[dval,List.foldl_cons,List.foldl_nil];rw[XC oa];omega
  have:=ih (u / 10) oa;unfold dval at *;rw[Mw,this];simp only[List.foldl_cons,List.foldl_nil];rw[XC oa];omega
theorem Qgd:∀{a b r r':List UInt8},(32:UInt8)∉a->(32:UInt8)∉b->a++32::r=b++32::r'->a=b/\r=r'
 | [],[],_,_,_,_,h=>ox h
 | [],y::b,_,_,_,hb,h=>by simp at h;exact O1 h.1 (by intro e;exact hb (by simp[e]))
 | x::a,[],_,_,G,_,h=>by simp at h;exact O1 h.1 (by intro e;exact G (by simp[e]))
 | x::a,y::b,_,_,G,hb,h=>by
  simp only[Og,List.cons.injEq]at h;have:=Qgd (λe=>G (Lh _ e)) (λe=>hb (Lh _ e)) h.2;exact⟨by rw[h.1,this.1],this.2⟩
theorem UW:∀{l l':LI},(∀n∈l,0<=n)->(∀n∈l',0<=n)->YZ l=YZ l'->l=l'
 | [],[],_,_,_=>rfl
 | [],y::b,_,_,h=>by simp[YZ]at h
 | x::a,[],_,_,h=>by simp[YZ]at h
 | x::a,y::b,I,hb,h=>by
  have J:Lib.decDigits x.toNat++32::YZ a=Lib.decDigits y.toNat++32::YZ b:=by simpa[YZ]using h
  obtain⟨h1,h2⟩:=Qgd (QdS _) (QdS _) J;have O:x.toNat=y.toNat:=by rw[<-QdL x.toNat,<-QdL y.toNat,h1]
  have U:=I x Lj;have V:=hb y Lj;rw[(UW (λn G=>I n (Lh _ G)) (λn G=>hb n (Lh _ G)) h2),show x=y by omega]
def Va (l:LI):ByteArray:=⟨(YZ l).toArray⟩
theorem QkR {l l':LI}(h1:∀n∈l,0<=n)(h2:∀n∈l',0<=n)(h:Va l=Va l'):l=l':=by
 refine UW h1 h2 ?_;have:=O0 (λb:ByteArray=>b.data.toList) h;simpa[Va]using this
def q9 (n:Nat)(m:List (ByteArray×O7))(tup:List (LI)):Prop :=
 ∀u:LI,u.length=n->(∀x∈u,0<=x)->xq m (Va u)=if u∈tup then some (sS (tup.idxOf u:Int)) else none
theorem q9.add {m:List (ByteArray×O7)}{tup:List (LI)}(h:q9 n m tup){u:LI}(I:u∉tup)(J:∀x∈u,0<=x):q9 n (xt m (Va u) (sS (tup.length:Int))) (tup++[u]):=by
 intro v O h1;rw[JC];by_cases e:u=v
 ·subst e;rw[OZ rfl,OZ oe,Mf,OY I];simp
 rw[OY (λU=>e (QkR J h1 U)),h v O h1];by_cases G:v∈tup
 ·rw[OZ G,OZ (by simp[G]),Mf,OZ G]
 rw[OY G,OY (by simp[G,Ne.symm e])]
structure zH (N b2 b38 b37:Nat)(ve:O7)(wS:O6)(s:Sy)(m:List (ByteArray×O7))(qs:List TV)(vt vk vd:O7)(w:O6):Prop where
 st:xd [b2,b38,b37] wS w
 A:QN ↑w b2 53 [ve,sS 0,vk,vd]
 M:ZV XJ ↑w b38 m
 t:zG 47 N w vt qs
 tb:∀b∈ob vt,b=b37\/↑wS<=b
 k:Qh 3 ↑wS w vk s.mk'
 e:Ye 179 ↑wS w vd s.ed
 q:qs.map (·.2)=s.tup
 el:∀p∈qs,Qh 3 N w p.1 p.2
 sep:∀p∈qs,∀b∈ob p.1,b≠b38/\b∉ob vt/\b∉ob vk/\b∉ob vd
 d1:Dj vt vk
 d2:Dj vt vd
 d3:Dj vk vd
section
variable {b2 b38 b37:Nat}{wS:O6}{s:Sy}{m:List (ByteArray×O7)}{qs:List TV}{vd:O7}{w'':O6}
theorem zH.I (h:zH N b2 b38 b37 ve wS s m qs vt vk vd w)(G:sW w w'):zH N b2 b38 b37 ve wS s m qs vt vk vd w' :=
 ⟨h.st.D G,h.A.I G,h.M.I G,Qm h.t G,h.tb,Qm h.k G,Qm h.e G,h.q,λp I=>Qm (h.el p I) G,h.sep,h.d1,h.d2,h.d3⟩
structure SyN (N b2 b38 b37:Nat)(wS:O6):Prop where
 l2:b2<N
 l38:b38<wS.heap.size
 l37:b37<wS.heap.size
 n37:N<=b37
 n38:b37<b38
 nS:N<=↑wS
theorem zH.setK (h:zH N b2 b38 b37 ve wS s m qs vt vk vd w)(n:SyN N b2 b38 b37 wS){O:O7}{l:LI}(J:xd (ob vk) w w')(V:Qh 3 ↑wS w' O l)
  (U:∀b∈ob O,b∈ob vk\/↑w<=b) (I:xd [b2] w' w'') (Y:QN ↑w'' b2 53 [ve,sS 0,O,vd]):zH N b2 b38 b37 ve wS ⟨s.tup,l,s.ed⟩ m qs vt O vd w'':=by
 have l2:=n.l2;have l38:=n.l38;have n37:=n.n37;have n38:=n.n38;have nS:=n.nS;refine⟨(h.st.Z J (λb hb=>.inr ((Qi h.k) b hb).1)).Z I (λb hb=>.inl (by simp at hb;simp[hb])),Y,(h.M.J J (QJ h.k oa)).J I (by simp;omega),
  Qg (Qg h.t J h.d1) I (λb hb=>by have:=(Qi h.t b hb).1;simp;omega),h.tb,Qg V I (λb hb=>by have:=(Qi V b hb).1;simp;omega),
  Qg (Qg h.e J h.d3.symm) I (λb hb=>by have:=(Qi h.e b hb).1;simp;omega),h.q,
  λp G=>Qg (Qg (h.el p G) J (λb hb=>(h.sep p G b hb).2.2.1)) I (λb hb=>by have:=(Qi (h.el p G) b hb).1;simp;omega),
  λp G b hb=>⟨(h.sep p G b hb).1,(h.sep p G b hb).2.1,λha=>?_,(h.sep p G b hb).2.2.2⟩,h.d1.grow U (QW h.t),h.d2,(h.d3.symm.grow U (QW h.e)).symm⟩
 rcases U b ha with h1|h1
 ·exact(h.sep p G b hb).2.2.1 h1
 have:=QW (h.el p G) b hb;omega
theorem zH.setE (h:zH N b2 b38 b37 ve wS s m qs vt vk vd w)(n:SyN N b2 b38 b37 wS){O:O7}{l:List Ed}(J:xd (ob vd) w w')(V:Ye 179 ↑wS w' O l)
  (U:∀b∈ob O,b∈ob vd\/↑w<=b) (I:xd [b2] w' w'') (Y:QN ↑w'' b2 53 [ve,sS 0,vk,O]):zH N b2 b38 b37 ve wS ⟨s.tup,s.mk',l⟩ m qs vt vk O w'':=by
 have l2:=n.l2;have l38:=n.l38;have n37:=n.n37;have n38:=n.n38;have nS:=n.nS;refine⟨(h.st.Z J (λb hb=>.inr ((Qi h.e) b hb).1)).Z I (λb hb=>.inl (by simp at hb;simp[hb])),Y,(h.M.J J (QJ h.e oa)).J I (by simp;omega),
  Qg (Qg h.t J h.d2) I (λb hb=>by have:=(Qi h.t b hb).1;simp;omega),h.tb,Qg (Qg h.k J h.d3) I (λb hb=>by have:=(Qi h.k b hb).1;simp;omega),
  Qg V I (λb hb=>by have:=(Qi V b hb).1;simp;omega),h.q,
  λp G=>Qg (Qg (h.el p G) J (λb hb=>(h.sep p G b hb).2.2.2)) I (λb hb=>by have:=(Qi (h.el p G) b hb).1;simp;omega),
  λp G b hb=>⟨(h.sep p G b hb).1,(h.sep p G b hb).2.1,(h.sep p G b hb).2.2.1,λha=>?_⟩,h.d1,h.d2.grow U (QW h.t),h.d3.grow U (QW h.k)⟩
 rcases U b ha with h1|h1
 ·exact(h.sep p G b hb).2.2.2 h1
 have:=QW (h.el p G) b hb;omega
theorem zH.setM (h:zH N b2 b38 b37 ve wS s m qs vt vk vd w)(n:SyN N b2 b38 b37 wS){I:List (ByteArray×O7)}(G:xd [b38] w w')(O:ZV XJ ↑w' b38 I):zH N b2 b38 b37 ve wS s I qs vt vk vd w':=by
 have l2:=n.l2;have l38:=n.l38;have n37:=n.n37;have n38:=n.n38;have nS:=n.nS;exact⟨h.st.Z G (λb hb=>.inl (by simp at hb;simp[hb])),h.A.J G (by simp;omega),O,Qg h.t G (λb hb=>by have:=h.tb b hb;simp;omega),h.tb,
  Qg h.k G (λb hb=>by have:=(Qi h.k b hb).1;simp;omega),Qg h.e G (λb hb=>by have:=(Qi h.e b hb).1;simp;omega),h.q,
  λp J=>Qg (h.el p J) G (λb hb=>by have:=(h.sep p J b hb).1;simpa using this),h.sep,h.d1,h.d2,h.d3⟩
theorem zH.setT (h:zH N b2 b38 b37 ve wS s m qs vt vk vd w)(n:SyN N b2 b38 b37 wS){J:O7}{u:LI}(hx:Qh 3 ↑wS w vx u)(U:∀b∈ob vx,b∉ob vt/\b∉ob vk/\b∉ob vd)(I:xd (ob vt) w w')
  (V:zG 47 N w' J (qs++[(vx,u)])) (O:∀b∈ob J,b∈ob vt\/↑w<=b):zH N b2 b38 b37 ve wS ⟨s.tup++[u],s.mk',s.ed⟩ m (qs++[(vx,u)]) J vk vd w':=by
 have l2:=n.l2;have l38:=n.l38;have n37:=n.n37;have n38:=n.n38;have nS:=n.nS;have he:=h.st.size;have nott:∀c,c<↑w->c∉ob vt->c∉ob J:=λc hc Y ha=>by
  rcases O c ha with h1|h1
  ·exact Y h1
  omega
 refine⟨h.st.Z I (λb hb=>by have:=h.tb b hb;simp;omega),h.A.J I (λhb=>oq (h.tb b2 hb)),h.M.J I (λhb=>oq (h.tb b38 hb)),V,
  λb hb=>?_,Qg h.k I h.d1.symm,Qg h.e I h.d2.symm,by rw[Lv,h.q];rfl,λp G=>?_,λp G b hb=>?_,(h.d1.symm.grow O (QW h.k)).symm,(h.d2.symm.grow O (QW h.e)).symm,h.d3⟩
 ·rcases O b hb with h1|h1
  ·exact h.tb b h1
  exact .inr oa
 ·rcases Lk.1 G with G|G
  ·exact Qg (h.el p G) I (λb hb=>(h.sep p G b hb).2.1)
  simp only[oH]at G;subst G;exact Za (Qg hx I (λb hb=>(U b hb).1)) nS
 rcases Lk.1 G with G|G
 ·have:=h.sep p G b hb;exact⟨this.1,nott b (QW (h.el p G) b hb) this.2.1,this.2.2⟩
 simp only[oH]at G;subst G;have h1:=(Qi hx b hb);have h2:=U b hb;exact⟨oa,nott b h1.2 h2.1,h2.2⟩
end
theorem QtC (o:Option α):o=none\/∃t,o=some t:=by cases o;exact .inl Z;exact .inr ⟨_,Z⟩
def zA:O7:=.agg #[nS,sS 0,nS,nS]
def Zq:O7:=nS
def YK (N:Nat)(H:xG)(aa:List Qz)(va vt:O7)(c:Int):Prop :=
 if K9 aa≠0 then c=K9 aa/\va=zA/\vt=Zq else match xw aa with
  | none=>c=3/\va=zA/\vt=Zq
  | some z=>c=0/\Xu N H va z.1/\QfI N H vt z.2
def Y3 (s:Sy)(u:LI):Sy:=if u∈s.tup then s else⟨s.tup++[u],s.mk',s.ed⟩
theorem Qjm (s:Sy)(u:LI):(Y3 s u).mk'=s.mk':=by unfold Y3;split <;> rfl
theorem Qjn (s:Sy)(u:LI):(Y3 s u).ed=s.ed:=by unfold Y3;split <;> rfl
theorem Qnb {aa:List Qz}{t u:LI}{s:Sy}{v:Int}(h:QU v aa t=some u)(hl:u∈s.tup\/s.tup.length≠4096):
  syE aa i t s v=some ⟨(Y3 s u).tup,(Y3 s u).mk',(Y3 s u).ed++[((i:Int),v,((Y3 s u).tup.idxOf u:Int))]⟩:=by
 unfold syE Y3;rw[h];simp only[];by_cases G:u∈s.tup
 ·simp only[OZ G]
 simp only[OY G];rw[OY (by rcases hl with h1|h1;exact O1 h1 G;exact h1),Mf,OY G];simp
theorem Qjl {aa:List Qz}{t u:LI}{s:Sy}{v:Int}(h:QU v aa t=some u)(G:u∉s.tup)(hl:s.tup.length=4096):syE aa i t s v=none:=by
 unfold syE;rw[h];simp only[];rw[OY G,OZ hl]
theorem Qjj {aa:List Qz}{t:LI}{s:Sy}{v:Int}(h:QU v aa t=none):syE aa i t s v=some s:=by
 unfold syE;rw[h]
theorem Qpl {s:Sy}{qs:List TV}(G:qs.map (·.2)=s.tup)(h:i<qs.length):Jk s i=qs[i].2:=by
 unfold Jk;rw[<-G];simp[oQ,h]
theorem Vt.bd {aa:List Qz}{t:LI}(h:Vt aa t){m:Int}(G:∀a∈aa,a.st<=m):∀x∈t,0<=x/\x<m:=by
 intro x hx;obtain⟨i,hi,rfl⟩:=LQ hx;have hi':i<aa.length:=by rw[<-h.1];exact hi
 have:=h.2 i hi hi';have:=G aa[i] (Lm hi');omega
theorem qh {L:LN}{vl:O7}{ps:List AV}{km:Int}(h:Jd L ↑w vl ps)(gm:Kb w km)(kg:0<km)(m8:∀p∈ps,p.a.st<=km):
  QT sV 49 [vl] w λr w'=>sW w w'/\∃va vt c,r=.tuple #[va,vt,sS c]/\YK ↑w ↑w' (ps.map (·.a)) va vt c:=by
 refine Zn func49 ?_;generalize V:ps.map (·.a)=aa;refine Qc<|QV [nS,sS 0,nS,nS] λO w1 hR hC gn=>x Qe<|Qb ?_;have hl2:=gn.lt;refine Qd<|Ql<|Qw<|(Qh3 (h.I hR)).S ?_;rintro r2 w2 ⟨rfl,hv⟩;refine Qb ?_;rw[V];refine Ql<|ZS Z Z<|xe<|Zh rfl (λh6=>?_) (λh6=>?_)
 ·refine Qc<|x (QD La)<|Qa<|Q6 [nS,sS 0,nS,nS] (gn.I hv) oA λw3 m9 pc=>x Qe<|Qb<|Qk ⟨[zA,Zq,sS (K9 aa)],⟨Kh pc,Z,Z,La⟩,(hR.D hv).O m9 hC,zA,Zq,K9 aa,Z,?_⟩;unfold YK;rw[OZ h6];exact⟨Z,Z,Z⟩
 have hck:K9 aa=0:=Ly.1 h6;have hn:ps.length<=12:=by
  unfold K9 at hck;split at hck
  ·cases hck
  rename_i h1;rw[<-V]at h1;simp at h1;exact h1
 have hD:∀a∈aa,QL a:=by
  unfold K9 at hck;split at hck
  ·cases hck
  exact(qc aa).1 hck
 have hok:∀p∈ps,QL p.a:=λp G=>hD p.a (by rw[<-V];exact LL G);have pd:∀p∈ps,p.a.al.length<=32:=λp G=>(hok p G).al_le;have pf:∀a∈aa,a.st<=km:=λa ha=>by rw[<-V]at ha;obtain⟨p,G,rfl⟩:=Lt.1 ha;exact m8 p G
 have hE:aa.length=ps.length:=by rw[<-V];simp
 refine Qf<|Ql<|Qw<|(QnH (L:=[O]) (((h.up (λb hb=>.inr (by simp at hb;omega))).I hR).I hv) hn pd (λb hb=>by simp at hb;have:=hv.size;omega)).S ?_;rintro r4 w4 ⟨gq,ve,vs,ms,rfl,kh,hq⟩;rw[V]at hq;have hel:=Qb9 aa (λa ha=>(hD a ha).al_le);have hevl:(evs aa).length<=1000:=oa
 have hS:=Qh.ints (L:=[]) hq oa oe;refine QV [nS,nS,nS] λb6 w5 pg ph hF=>Q6 [vl,ve,vs] hF ⟨h.arr.one,hS.one,kh.sl.one,La⟩ λw6 pn hF=>xe ?_;have hU:sW w4 w6:=pg.O pn ph;have hz2:=hv.size;have hz4:=gq.size;have hl6:=hF.lt;refine Qc<|Qs Z hF Z Z<|Q9 Z<|Qo<|Qv (((gn.I hv).I gq).I hU) Z Z oe hS.one λw7 hG po=>xe ?_;have hz7:=hG.size;have gr:sW w w7:=((((hR.D hv).D gq).D hU).O hG hC);have ki:VE [O] ↑w7 vl ve vs ps ms:=(kh.I hU).st hG;have kj:Qh 3 ↑w2 w7 ve (evs aa):=Qg (Qm hq hU) hG (λb hb=>by have:=(Qi hq b hb).1;simp;omega);have kk:=hF.J hG (by simp;omega);refine Qc<|Q7 kk Z Z<|Qw<|(Qfg ki hn).S ?_;rintro r8 w8 ⟨hm,hV⟩;have hz8:=hm.size;have gs:=po.I hm;have hW:(∃p∈ps,p.a.st=0)↔(∃a∈aa,a.st=0):=by
  rw[<-V];constructor
  ·rintro⟨p,G,h0⟩;exact⟨p.a,LL G,h0⟩
  rintro⟨a,ha,h0⟩;obtain⟨p,G,rfl⟩:=Lt.1 ha;exact⟨p,G,h0⟩
 by_cases hz:∃p∈ps,p.a.st=0
 ·rw[OZ hz]at hV;subst hV;refine Qa<|QS Z Z<|QS Z Z<|x Qe<|Qb<|Qd<|Ql<|x (Zi Z)<|xe<|jI Z ?_;refine Qc<|Q7 gs Z Z<|Q6 [ve,sS 0,nS,nS] gs ⟨hS.one,Z,Z,Z,La⟩ λw9 kn pp=>x Qe<|Qb<|Qk ⟨[.agg #[ve,sS 0,nS,nS],Zq,sS 0],⟨Kh pp,Z,Z,La⟩,(gr.D hm).O kn hC,_,Zq,0,Z,?_⟩;unfold YK;rw[OY h6];unfold xw;rw[OZ (hW.1 hz)];refine⟨Z,⟨ve,_,_,Z,λL' ho=>⟨Qh.ints (Qg (Qm kj hm) kn (λb hb=>by have:=(Qi hq b hb).1;simp;omega)) (by show(evs aa).length<=_;omega) (λb hb=>oq (ho b hb)),Zw.nil _ _ _,Zw.nil _ _ _⟩⟩,[],Z,λL' ho=>⟨Zw.nil _ _ _,λp G=>by cases G⟩⟩
 rw[OY hz]at hV;obtain⟨vf,rfl,gt⟩:=hV;have ko:=Qh.ints (L:=[]) gt (by simp;omega) oe;refine Qa<|QS Z Z<|QS Z Z<|x Qe<|Qb<|Qd<|Ql<|x (Zi Z)<|xe<|ZC rfl<|Qf<|Ql<|Qo<|Yj (us:=[[vf]]) Z Z oh oe ⟨ko.cells,rfl,La⟩ λY w10 gu hb37 kq=>Qb ?_;have hl37:=kq.lt;refine Qc<|Qo<|Z1 XJ λhh w11 hX hb38 kr=>?_;have hl38:=kr.lt;refine Qa<|Qw<|(QbQ ((ko.I gu).I hX) (gm.I ((gr.D hm).D (gu.D hX))) (λn hn=>oq (NJ hn)) (by simp;omega)).S ?_;rintro r12 pt ⟨rfl,hY⟩;have hz12:=hY.size;refine Qo<|Yy (k:=Va (oI ps.length 0)) (kr.I hY) Z Z λwS gv pu=>Qa<|Qb ?_;have hzS:=gv.size;have pw:sW w8 pt:=(gu.D hX).D hY;have h7:sW w8 wS:=pw.O gv oa;have hZ:sW w wS:=(gr.D hm).D h7;have pz:∀b∈[O,hh,Y],b∈[O]\/↑w8<=b:=λb hb=>by
  simp only[oN,oJ,or_false]at hb;rcases hb with rfl|rfl|rfl
  ·exact .inl oe
  ·exact .inr oa
  exact .inr oa
 have gx:VE [O,hh,Y] ↑wS vl ve vs ps ms:=((ki.I hm).up pz).I h7;have gy:QN ↑wS b6 225 [vl,ve,vs]:=(kk.I hm).I h7;have p0:Qh 3 ↑w2 wS ve (evs aa):=Qm (Qm kj hm) h7;have hH:SyN ↑w1 O hh Y wS:=⟨oa,oa,oa,oa,oa,oa⟩;have p4:zH ↑w1 O hh Y ve wS (zt aa) (xt [] (Va (oI ps.length 0)) (sS 0)) [(vf,oI ps.length 0)] (sL Y 1 1) Zq Zq wS:=by
  refine⟨xd.C _ _,gs.I h7,pu,?_,λb hb=>by simp[ob]at hb;exact .inl hb,QM _ _ _ _,QM _ _ _ _,by simp[zt,hE],λp G=>?_,λp G b hb=>?_,Dj.nil' _,Dj.nil' _,Dj.nil' _⟩
  ·exact(((kq.I hX).I hY).J gv (by simp;omega)).own (n:=1) (sz:=1) Z oa oa
  ·simp only[oH]at G;subst G;exact Za (Qm gt h7) oa
  simp only[oH]at G;subst G;have:=(Qi gt) b hb;refine⟨oa,?_,by simp[ob,Zq],by simp[ob,Zq]⟩;simp[ob];omega
 have p5:q9 ps.length (xt [] (Va (oI ps.length 0)) (sS 0)) (zt aa).tup:=by
  have kg:q9 ps.length [] []:=λu _ _=>Z;have:=kg.add (u:=oI ps.length 0) oe (λx hx=>oq (NJ hx));simpa[zt,hE]using this
 have p6:q7 aa (zt aa):=by
  refine⟨λt ht=>?_,by simp[zt]⟩;simp only[zt,oH]at ht;subst ht;refine⟨oe,λi h1 h2=>?_⟩;have h3:=(hD aa[i] (Lm h2)).st0;have h4:aa[i].st≠0:=λe=>hz (hW.2 ⟨aa[i],Lm h2,e⟩);simp only[Oy];omega
 generalize hT:syL aa 4096 0 (zt aa)=T;have p7:∀s,T=some s->xw aa=some (⟨evs aa,s.tup.length,s.mk',s.ed⟩,s.tup):=λs hs=>by
  unfold xw;rw[OY (λe=>hz (hW.2 e)),hT,hs];rfl
 have p8:T=none->xw aa=none:=λhs=>by unfold xw;rw[OY (λe=>hz (hW.2 e)),hT,hs];rfl
 refine Qd<|Qc<|Qb ?_;have gz:b6∉[O,hh,Y]:=by simp;omega
 refine QY (α:=Nat×Sy×List (ByteArray×O7)×List TV×O7×O7×O7) [(3,4),(10,10),(12,16),(42,111)] (λz=>[(3,z.2.2.2.2.1),(10,sS z.1)])
  (λz w'=>zH ↑w1 O hh Y ve wS z.2.1 z.2.2.1 z.2.2.2.1 z.2.2.2.2.1 z.2.2.2.2.2.1 z.2.2.2.2.2.2 w'/\q7 aa z.2.1/\q9 ps.length z.2.2.1 z.2.1.tup/\z.1<=z.2.1.tup.length/\z.2.1.mk'.length<=z.1/\z.2.1.ed.length<=z.1*1000/\syL aa (4096 - z.1) z.1 z.2.1=T)
  (λz=>4096 - z.1) (0,zt aa,_,_,_,Zq,Zq) oy ⟨p4,p6,p5,Lp _,Lp _,Lp _,hT⟩ ?_
 rintro⟨i,s,m,qs,vt,vk,vd⟩ g ga ⟨hI,gb,kt,hi,p9,ku,g0⟩;simp only[]at hI gb kt hi p9 ku g0;have hle:=gb.le;have qf:qs.length=s.tup.length:=by rw[<-hI.q];simp
 have kv:∀p∈qs,Vt aa p.2:=λp G=>gb.v p.2 (by rw[<-hI.q];exact LL G);have kw:∀p∈qs,p.2.length<=12:=λp G=>oq (kv p G).1
 have zh:=QO (L:=[]) hI.t oa oe;refine Qd<|Ql<|Qa<|QG zh Z<|ZT Z Z<|xe<|Zp rfl (λqj=>?_) (λqj=>?_)
 ·have ql:T=some s:=by rw[<-g0,Qjg oa]
  refine Qt<|Ql<|QG zh Z<|Q9 Z<|Qo<|Qv hI.A Z Z oe rfl λw15 q4 kx=>xe ?_;refine Qc<|Q7 kx Z Z<|Qa<|Q6 [ve,sS qs.length,vk,vd] kx ⟨hS.one,Z,(Qh.ints (L:=[]) hI.k oa oe).one,(Ye.eds (L:=[]) hI.e oa oe).one,La⟩ λg2 q5 j1=>x Qe<|Qb ?_;have h8:xd [O] ga g2:=q4.Q q5;have j2:sW w g2:=(hZ.Z hI.st (λb hb=>.inr (by simp at hb;omega))).O h8 hC;refine Qk ⟨[.agg #[ve,sS qs.length,vk,vd],vt,sS 0],⟨Kh j1,Z,Z,La⟩,j2,_,vt,0,Z,?_⟩;unfold YK;rw[OY h6,p7 s ql];have e1:(qs.length:Int)=s.tup.length:=by rw[qf]
  have k0:Qh 3 ↑w2 g2 ve (evs aa):=Qg (Qg p0 hI.st (λb hb=>by have:=(Qi hq b hb).1;have:=(QW hq) b hb;simp;omega)) h8 (λb hb=>by have:=(Qi hq b hb).1;simp;omega);have k1:=Qg hI.k h8 (λb hb=>by have:=(Qi hI.k b hb).1;simp;omega);have k2:=Qg hI.e h8 (λb hb=>by have:=(Qi hI.e b hb).1;simp;omega);have k3:=Qg hI.t h8 (λb hb=>by have:=(Qi hI.t b hb).1;simp;omega);refine⟨Z,⟨ve,vk,vd,by rw[e1],λL' ho=>⟨Qh.ints k0 (by show(evs aa).length<=_;omega) (λb hb=>oq (ho b hb)),Qh.ints k1 (by show s.mk'.length<=_;omega) (λb hb=>oq (ho b hb)),Ye.eds k2 (by show s.ed.length<=_;omega) (λb hb=>oq (ho b hb))⟩⟩,qs,hI.q,λL' ho=>⟨?_,λp G=>?_⟩⟩
  ·exact QO k3 oa (λb hb j3=>ou (Qi hI.t b hb).1 (ho b j3))
  exact Qh.ints (Qg (hI.el p G) h8 (λb hb=>by have:=(Qi (hI.el p G) b hb).1;simp;omega)) (oq (kw p G)) (λb hb=>oq (ho b hb))
 have j4:i<s.tup.length:=oa
 have he:i<qs.length:=oa
 have kz:=Qpl hI.q he;have h9:=kv (qs[i]'he) (Lm he);obtain⟨t,g5⟩:∃t,(qs[i]'he).2=t:=⟨_,Z⟩;rw[g5]at kz h9;refine Qf ?_;have za:(Vf aa i t (evs aa) (ZP aa i t s)).bind (syL aa (4096 - (i+1)) (i+1))=T:=by
  rw[<-g0];obtain⟨f,hf⟩:∃f,4096 - i=f+1:=⟨4096 - i - 1,oa⟩;rw[hf,syL,OZ j4,kz,show 4096 - (i+1)=f by omega]
 have z0:=gx.st hI.st;have z1:VE [] ↑ga vl ve vs ps ms:=z0.up (λ_ hb=>by cases hb);have z2:=gy.J hI.st gz;have z3:Qu [] ↑ga (qs[i]'he).1 t:=by rw[<-g5];exact Qh.ints (hI.el (qs[i]'he) (Lm he)) (oq (kw (qs[i]'he) (Lm he))) oe
 refine Qd<|Qn<|QX (α:=O7) [(48,59)] (λz=>[]) (λz w'=>zH ↑w1 O hh Y ve wS (ZP aa i t s) m qs vt z vd w') ol ?_ ?_
 ·refine Qd<|ZK [] (Xj 0 6 [5])<|pq (λ_ hc=>Zj (z2.I hc) Z Z)<|p Qx<|p Qx<|pig Z KO zh Z Z he λa51 z4 =>
   pq (λ_ hc=>Qq (z4.I hc) Z)<|pk<|xg<|(Qia (z1.I (xd.Y _ _)) (z3.I (xd.Y _ _)) (by rw[h9.1,hE]) (λp G=>(hok p G).mri) hn).S ?_
  rintro r17 w17 ⟨rfl,z5⟩;have k4:=(xd.Y [] ga).D z5;refine⟨k4,?_⟩;refine pe ?_;have g8:=hI.I k4;refine Q5 Z (λhJ=>?_) (λhJ=>?_)
  rotate_left
  ·refine Qf<|⟨vk,La,?_⟩;rw[V]at hJ;unfold ZP;rw[OY (by rw[hJ];simp)];exact g8
  refine Qr<|Qs Z g8.A Z Z<|Qa<|Qo<|Q3 [[sS i]] λb57 w18 hs18 hb57 hB57=>?_;have hK:=g8.I hs18;refine Qo<|Q0 (news:=[sS i]) (L:=[]) hK.k Z Z Z (hB57.at oe) oo oa hK.st.size λk5 w19 ho19 k6 hn19=>?_;have k9:Qh 3 ↑wS w19 k5 (s.mk'++[(i:Int)]):=Qh.snoc ho19;refine Q9 Z<|Qo<|Qv (hK.A.J k6 (QJ hK.k oa)) Z Z oe (Qh.ints (L:=[]) k9 (by simp;omega) oe).one λw20 hs20 hB20=>xe ?_;refine⟨k5,La,?_⟩;rw[V]at hJ;unfold ZP;rw[OZ hJ];exact hK.setK hH k6 k9 hn19 hs20 hB20
 rintro gc g3 w21 ma;have hsk2:q7 aa (ZP aa i t s):=Qam gb;have htup2:(ZP aa i t s).tup=s.tup:=by unfold ZP;split <;> rfl
 have hed2:(ZP aa i t s).ed=s.ed:=by unfold ZP;split <;> rfl
 have hmk2:(ZP aa i t s).mk'.length<=i+1:=by
  unfold ZP;split
  ·simp only[oO,oL];omega
  omega
 have mc:Qu [O,hh,Y] ↑wS ve (evs aa):=by have:=gx.ev;rw[V]at this;exact this
 refine Qc<|Qs Z (gy.J ma.st gz) Z Z<|QG mc Z<|Qa<|xe<|QY (α:=Nat×Sy×List (ByteArray×O7)×List TV×O7×O7) [(3,4),(12,16),(63,111)] (λz=>[(3,z.2.2.2.2.1),(63,sS z.1)])
  (λz w'=>zH ↑w1 O hh Y ve wS z.2.1 z.2.2.1 z.2.2.2.1 z.2.2.2.2.1 gc z.2.2.2.2.2 w'/\q7 aa z.2.1/\q9 ps.length z.2.2.1 z.2.1.tup/\z.1<=(evs aa).length/\z.2.1.mk'=(ZP aa i t s).mk'/\z.2.1.ed.length<=i*1000+z.1 /\
   (∃h:i<z.2.2.2.1.length,(z.2.2.2.1[i]'h).2=t)/\(Vf aa i t ((evs aa).drop z.1) z.2.1).bind (syL aa (4096 - (i+1)) (i+1))=T)
  (λz=>(evs aa).length - z.1) (0,ZP aa i t s,m,qs,vt,vd) oy
  ⟨ma,hsk2,by rw[htup2];exact kt,Lp _,Z,by rw[hed2];simpa using ku,⟨he,g5⟩,za⟩ ?_
 rintro⟨j,I,m4,hk,ge,gg⟩ g4 hL ⟨U,hM,hw,hj,gh,mf,⟨hr,hA⟩,hg⟩;simp only[]at U hM hw hj gh mf hg hr hA;have mg:hk.length=I.tup.length:=by rw[<-U.q];simp
 have hle4:=hM.le;refine Zk rfl Z (λh64=>?_) (λh64=>?_)
 ·rw[Lx oa,Vf]at hg;refine Qt<|Qr<|Qa<|QC Z Z<|Qb<|⟨(i+1,I,m4,hk,ge,gc,gg),og,oy,U,hM,hw,og,by simp only[];rw[gh];exact hmk2,og,hg⟩
 have gi:j<(evs aa).length:=oa
 rw[QZ gi,Vf]at hg;obtain⟨v,mh⟩:∃v,(evs aa)[j]=v:=⟨_,Z⟩;rw[mh]at hg;refine Qf<|Qd<|Qn<|Qc<|xii (mc.st U.st) Z Z gi λa65 mj=>?_;rw[mh]at mj;refine x (Qq mj Z)<|Qb ?_;have hB622:=gy.J U.st gz;have htA4:=QO (L:=[]) U.t oa oe;have htI4:Qu [] ↑hL (hk[i]'hr).1 t:=by rw[<-hA];exact Qh.ints (U.el (hk[i]'hr) (Lm hr)) (by rw[hA,h9.1];omega) oe
 refine Qd<|ZK [] (Xj 0 12 [6])<|pq (λ_ hc=>Zj (hB622.I hc) Z Z)<|p Qx<|p Qx<|pig Z KO htA4 Z Z hr λa71 h71 =>
  pq (λ_ hc=>Qq (h71.I hc) Z)<|p Qx<|pk<|xg<|(QjU (((gx.st U.st).up (L':=[]) (λ_ hb=>by cases hb)).I (xd.Y _ _)) (htI4.I (xd.Y _ _)) (by rw[h9.1,hE]) (λp G=>(hok p G).ali) (λp G=>(hok p G).edi) hn _).S ?_
 rintro r23 w23 ⟨hs23,hN⟩;rw[V]at hN;have mo:=(xd.Y [] hL).D hs23;refine⟨mo,?_⟩;have hO:=U.I mo;have hz22:=U.st.size;rcases QtC (QU v aa t) with h5|⟨u,h5⟩
 ·rw[h5]at hN;subst hN;rw[Qjj h5]at hg;refine p Qx<|p (λ_=>Q2 Z Z)<|p (λ_=>Q2 Z Z)<|p ZH<|p ZH<|pe ?_;refine Qd<|Ql<|x (Zi Z)<|xe<|jI Z ?_;refine Qt<|Qr<|QC Z Z<|Qa<|xe ?_;exact⟨(j+1,I,m4,hk,ge,gg),og,oy,hO,hM,hw,gi,gh,og,⟨hr,hA⟩,hg⟩
 rw[h5]at hN;obtain⟨vx,rfl,g9⟩:=hN;have mq:=Xw hD h9 h5;have mt:u.length=ps.length:=by rw[mq.1,hE]
 have ka:=mq.bd pf;have kb:∀x∈u,0<=x:=λx hx=>(ka x hx).1;refine p Qx<|p (λ_=>Q2 Z Z)<|p (λ_=>Q2 Z Z)<|p ZH<|p ZH<|pe ?_;refine Qd<|Ql<|x (Zi Z)<|xe<|ZC Z<|Qf ?_;have gj:=Qh.ints (L:=[]) g9 oa oe;have mu:=Qi g9;refine QX (α:=Unit) [(15,16),(79,85)] (λz=>[(15,sS (if u∈I.tup then(I.tup.idxOf u:Int) else 0)),(16,.bool (decide (u∈I.tup)))]) (λz w'=>sW w23 w') ol ?_ ?_
 ·refine Qr<|Qa<|Qa<|Qw<|(QbQ gj (gm.I (hZ.Z hO.st (λb hb=>.inr (by simp at hb;omega)))) ka oa).S ?_;rintro r24 w24 ⟨rfl,gk⟩;by_cases J:u∈I.tup
  ·refine x (qD (k:=Va u) ((hO.I gk).M) Z Z (by rw[hw u mt kb,OZ J]))<|Qa<|QS rfl rfl<|QS rfl rfl<|x Qe<|Qb<|⟨(),⟨O0 sS (OZ J).symm,O0 Value.bool (O2 J).symm,La⟩,gk⟩
  refine x (Qay (k:=Va u) ((hO.I gk).M) Z Z (by rw[hw u mt kb,OY J]))<|Qa<|QS rfl rfl<|QS rfl rfl<|x Qe<|Qb<|⟨(),⟨O0 sS (OY J).symm,O0 Value.bool (O4 J).symm,La⟩,gk⟩
 rintro _ g6 w25 kc;have hB:=hO.I kc;have hxA25:=gj.I kc;have hadd:∀b∈ob vx,b∉ob ge/\b∉ob gc/\b∉ob gg:=λb hb=>by
  have h1:=(mu b hb).1;have h1':↑hL<=b:=h1;exact⟨λhP=>oq (QW U.t b hP),λhP=>oq (QW U.k b hP),λhP=>oq (QW U.e b hP)⟩
 refine QX (α:=List (ByteArray×O7)×List TV×O7) [(3,4),(15,15),(86,101)] (λz=>[(3,z.2.2),(15,sS ((Y3 I u).tup.idxOf u:Int))])
  (λz w'=>zH ↑w1 O hh Y ve wS (Y3 I u) z.1 z.2.1 z.2.2 gc gg w'/\(u∈I.tup\/I.tup.length≠4096)/\q9 ps.length z.1 (Y3 I u).tup/\∃h:i<z.2.1.length,(z.2.1[i]'h).2=t) ol ?_ ?_
 ·refine Ql<|x (Zi Z)<|xe<|Q5 Z (λke=>?_) (λke=>?_)
  rotate_left
  ·have J:u∈I.tup:=by simpa using ke
   refine Qf ?_;have e1:Y3 I u=I:=by unfold Y3;rw[OZ J]
   have e2:(if u∈I.tup then(I.tup.idxOf u:Int) else 0)=((Y3 I u).tup.idxOf u:Int):=by rw[e1,OZ J]
   refine⟨(m4,hk,ge),⟨Z,O0 sS e2,La⟩,?_,.inl J,?_,hr,hA⟩
   ·rw[e1];exact hB
   rw[e1];exact hw
  have J:u∉I.tup:=by simpa using ke
  have mv:=QO (L:=[]) hB.t oa oe;refine Qd<|Ql<|QG mv Z<|x (Zc Z Z)<|xe<|Zh Z (λh90=>?_) (λh90=>?_)
  ·refine Qc<|x (QD La)<|Q6 [nS,sS 0,nS,nS] hB.A oA λw26 gl hB26=>x Qe<|Qb<|Qk ⟨[zA,Zq,sS 3],⟨Kh hB26,Z,Z,La⟩,(hZ.Z hB.st (λb hb=>.inr (by simp at hb;omega))).O gl hC,zA,Zq,3,Z,?_⟩;unfold YK;rw[Qjl h5 J oa]at hg;rw[OY h6,p8 hg.symm];exact⟨rfl,Z,Z⟩
  have hl4:I.tup.length≠4096:=oa
  refine Qf<|Ql<|QG mv Z<|Qb<|Ql<|Qa<|Qw<|(QbQ hxA25 (gm.I (hZ.Z hB.st (λb hb=>.inr (by simp at hb;omega)))) ka oa).S ?_;rintro r26 w26 ⟨rfl,gl⟩;have mw:=hB.I gl;refine Qa<|Qo<|YV (k:=Va u) mw.M Z Z λw27 my hm27=>xe ?_;have hx27:=Qg (Qm (Qm g9 kc) gl) my (λb hb=>by have:=(mu b hb).1;have h1':↑hL<=b:=this;simp;omega);refine Qr<|Qa<|Qa<|Qo<|Yj (us:=[[vx]]) Z Z oh oe ⟨gj.cells,rfl,La⟩ λb100 w28 mz hb100 hB100=>?_;have kf:=(mw.setM hH my hm27).I mz;refine Qo<|Q0 (news:=[vx]) (L:=[]) kf.t Z Z Z (hB100.at oe) (λy hy=>by simp only[oH]at hy;subst hy;exact gj.one) oa (ou kf.st.size hH.nS) λm0 w29 ho29 hs29 hn29=>Qb ?_;have hk29:zG 47 ↑w1 w29 m0 (hk++[(vx,u)]):=zG.snoc ho29;have hIA:=kf.setT hH (u:=u) (Za (Qm hx27 mz) (by show wS.heap.size<=↑hL;omega)) hadd hs29 hk29 hn29;have e1:Y3 I u=⟨I.tup++[u],I.mk',I.ed⟩:=by unfold Y3;rw[OY J]
  have e2:(hk.length:Int)=((Y3 I u).tup.idxOf u:Int):=by
   rw[e1];simp only[];rw[Mf,OY J,<-mg];simp
  refine⟨(xt m4 (Va u) (sS (hk.length:Int)),hk++[(vx,u)],m0),⟨Z,O0 sS e2,La⟩,?_,.inr hl4,?_,by simp;omega,?_⟩
  ·rw[e1];exact hIA
  ·rw[e1];simp only[];rw[mg];exact hw.add J kb
  simp only[];rw[L8 hr];exact hA
 rintro⟨m5,qs5,vt5⟩ g7 w30 ⟨m1,hlim,hkn5,hlt5,ht5⟩;have hed5:(Y3 I u).ed.length<=i*1000+j:=by rw[Qjn];exact mf
 have m2:=Qnb (aa:=aa) (i:=i) (s:=I) h5 hlim;rw[m2]at hg;refine Qr<|Qs Z m1.A Z Z<|Qa<|Qa<|Qa<|x (QD ⟨Z,Z,Z,La⟩)<|Qo<|Q3 [Qp ((i:Int),v,((Y3 I u).tup.idxOf u:Int))] λb108 w31 hs31 hb108 hB108=>?_;have hQ:=m1.I hs31;refine Qo<|Q0 (news:=Qp ((i:Int),v,((Y3 I u).tup.idxOf u:Int))) (L:=[]) hQ.e Z Z Z (hB108.at oe) (λy hy=>by simp only[Qp,oN,oJ,or_false]at hy;rcases hy with rfl|rfl|rfl <;> rfl) oa hQ.st.size λm3 w32 ho32 m6 hn32=>?_
 have m7:Ye 179 ↑wS w32 m3 ((Y3 I u).ed++[((i:Int),v,((Y3 I u).tup.idxOf u:Int))]):=Ye.snoc ho32;refine Q9 Z<|Qo<|Qv (hQ.A.J m6 (QJ hQ.e oa)) Z Z oe (Ye.eds (L:=[]) m7 (by simp;omega) oe).one λw33 hs33 hB33=>xe ?_;refine Qr<|QC Z Z<|Qa<|xe<|⟨(j+1,_,m5,qs5,vt5,m3),og,oy,(hQ.setE hH m6 m7 hn32 hs33 hB33),(Qjk hD hM h9 m2),hkn5,gi,?_,?_,⟨hlt5,ht5⟩,hg⟩
 ·simp only[];rw[Qjm];exact gh
 simp only[oO,oL];omega
theorem jL {L:LN}{vl:O7}{ps:List AV}(h:Jd L ↑w vl ps)(G:∀p∈ps,p.a.st<=100):
  QT sV 49 [vl] w λr w'=>sW w w'/\∃va vt c,r=.tuple #[va,vt,sS c]/\YK ↑w ↑w' (ps.map (·.a)) va vt c :=
 qh (km:=100) h (.inl (Ms _)) oh G
theorem xN {α:Type}(g:α->LV)(sz:Nat)(I:∀x,(g x).length=sz):∀(l:List α) (i j:Nat) (h:i<l.length) (y:α) (u:O7),j<sz->g y=(g l[i]).set j u ->
  (l.flatMap g).set (i*sz+j) u=(l.set i y).flatMap g
 | x::l,0,j,h,y,u,J,G=>by
  simp only[On]at G;simp only[Nat.zero_mul,Ob,oV,List.set_cons_zero];rw[List.set_append_left _ _ (by rw[I];exact J),G]
 | x::l,i+1,j,h,y,u,J,G=>by
  simp only[List.getElem_cons_succ]at G;simp only[oV,List.set_cons_succ];rw[List.set_append_right _ _ (by rw[I,MI];omega),I,show(i+1)*sz+j - sz=i*sz+j by rw[MI];omega,xN g sz I l i j (ox h) y u J G]
section
variable {f:Fr}{all:xI}{C:xF}{K:Fr->O6->Prop}
end
theorem Zo {l:LI}(h:i<l.length):l[i]=xh l i:=by simp[xh,oQ,h]
section
variable {l:xI}{K:Fr->O6->Prop}{f:Fr}{C:xF}{pl:xA}{i0:Nat}
theorem xic {x:O8}{e bys:Nat}[Sl P t e 1 bys z]{L:LN}{li:LI}{v:O7}{k:IntKind}
  (h:Qu L ↑w v li) (G:ev f x=v) (I:ev f y=.int k i) (hi:i<li.length)
  (hK:∀a,At L ↑w a [sS (xh li i)]->XL P ops K l (QP f d (.pointer (some a))) w) (J:Yb ops f ⟨d,.indexAddr t x y,ty,pS,af,gd⟩=true:=by rfl):
  XL P ops K (⟨d,.indexAddr t x y,ty,pS,af,gd⟩::l) f w :=
 xii h G I hi (λa O=>hK a (by rw[<-Zo hi];exact O)) J
theorem pic {x:O8}{e bys:Nat}[Sl P t e 1 bys z]{L:LN}{li:LI}{v:O7}{H:xG}{k:IntKind}
  (G:QR ops i0=⟨d,.indexAddr t x y,ty,pS,af,gd⟩) (h:Qu L H v li) (I:ev f x=v) (J:ev f y=.int k i) (hi:i<li.length)
  (hK:∀a,At L H a [sS (xh li i)]->XP P ops C K pl (QP f d (.pointer (some a))) w) (O:Yb ops f (QR ops i0)=true:=by rfl):XP P ops C K ((i0,true)::pl) f w :=
 pii G h I J hi (λa U=>hK a (by rw[<-Zo hi];exact U)) O
theorem QaD [h1:X2 P t]{x:O8}{e cap:Nat}{li:LI}{v:O7}{u:Int}(h:Qh e base w v li)(G:v=sL g li.length cap)(hx:ev f x=.pointer (some ⟨g,0+i*1,none⟩))(J:ev f y=sS u)(hi:i<li.length)
  (hK:∀w',xd (ob v) w w'->Qh e base w' v (li.set i u)->K (QP f d undef) w'):XO P ⟨d,.store t x y,ty,pS,af,gd⟩ f w K:=by
 have I:=h;unfold Qh at I;rw[G]at I;refine Qdj I hx J hi Z λw' O U=>hK w' (by rw[G];exact O) ?_;unfold Qh;rw[M2,NI,G];exact U
end
theorem QjD {a:Nat}(h:a<n):oP a (n - a)=a::oP (a+1) (n - (a+1)):=by
 rw[show n - a=(n - (a+1))+1 by omega,Nz]
theorem Qnl {a:Nat}(h:n<=a):oP a (n - a)=[]:=by rw[show n - a=0 by omega];rfl
section
variable {f:Fr}{κ:Type}[DecidableEq κ]
end
theorem Qga {aa:List Qz}{i:Nat}{t:LI}(I:∀a∈aa,QL a)(ht:Vt aa t):∀(vs:LI) (s G:Sy),q7 aa s->Vf aa i t vs s=some G->q7 aa G
 | [],s,G,h,e=>by cases e;exact h
 | v::vs,s,G,h,e=>by
  rw[Vf]at e;obtain⟨J,h1,h2⟩:=L7.1 e;exact Qga I ht vs J G (Qjk I h ht h1) h2
theorem Qje {aa:List Qz}(I:∀a∈aa,QL a):∀(f i:Nat) (s G:Sy),q7 aa s->syL aa f i s=some G->q7 aa G
 | 0,i,s,G,h,e=>by cases e;exact h
 | f+1,i,s,G,h,e=>by
  rw[syL]at e;split at e
  ·rename_i hi;obtain⟨J,h1,h2⟩:=L7.1 e;have O:Vt aa (Jk s i):=h.v _ (by unfold Jk;simp[oQ,hi]);exact Qje I f _ J G (Qga I O _ _ _ (Qam h) h1) h2
  cases e;exact h
theorem QpW {aa:List Qz}(G:∀a∈aa,QL a)(I:¬∃a∈aa,a.st=0):q7 aa (zt aa):=by
 refine⟨λt ht=>?_,by simp[zt]⟩;simp only[zt,oH]at ht;subst ht;refine⟨oe,λi h1 h2=>?_⟩;have J:=(G aa[i] (Lm h2)).st0;have O:aa[i].st≠0:=λe=>I ⟨aa[i],Lm h2,e⟩;simp only[Oy];omega
theorem zN {aa:List Qz}(G:∀a∈aa,QL a){z:Qz×List (LI)}(h:xw aa=some z):(∀t∈z.2,Vt aa t)/\z.2.length<=4096:=by
 unfold xw at h;split at h
 ·cases h;simp
 rename_i I;obtain⟨s,h1,rfl⟩:=LZ.1 h;have:=Qje G _ _ _ _ (QpW G I) h1;exact⟨this.v,this.le⟩
def opC (p s:Qz):Int:=if Jj p≠0 then Jj p else if Jj s≠0 then Jj s else if mrg (λp q=>p && !q) s.al p.al=[]then 0 else 9
def opE (p s:Qz):Int:=if opC p s≠0 then opC p s else match xw [p,s]with|none=>3|some _=>0
def opQ (p s:Qz):List (LI):=match xw [p,s]with|none=>[]|some z=>z.2
def Qsj (l:LI):Int:=(l.drop 1).foldl max (xh l 0)
theorem Je {b:Nat}{v:O7}{a:Qz}(h:Xu N ↑w v a)(hb:b<N)(G:xd [b] w w'):Xu N ↑w' v a:=by
 obtain⟨va,vm,ve,h1,h2⟩:=h;refine⟨va,vm,ve,h1,λL I=>?_⟩;exact((h2 (b::L) (λc hc=>by rcases Ll.1 hc with rfl|hc;exact hb;exact I c hc)).st (G.S oe)).up (λc hc=>.inl (Lh _ hc))
theorem Qmt {b:Nat}{v:O7}{l:List (LI)}(h:QfI N ↑w v l)(hb:b<N)(G:xd [b] w w'):QfI N ↑w' v l:=by
 obtain⟨ps,h1,h2⟩:=h;refine⟨ps,h1,λL I=>?_⟩;exact((h2 (b::L) (λc hc=>by rcases Ll.1 hc with rfl|hc;exact hb;exact I c hc)).st (G.S oe)).up (λc hc=>.inl (Lh _ hc))
theorem X3 {H:xG}{v:O7}{a:Qz}(h:Xu N H v a):∃us,v=sT us/\us.length=4/\ZN us:=by
 obtain⟨va,vm,ve,h1,h2⟩:=h;have:=h2 [] oe;exact⟨[va,sS a.st,vm,ve],h1,Z,this.al.one,Z,this.mr.one,this.ed.one,La⟩
theorem Qcv {L:LN}{a:Qz}(h:Zv L ↑w va vm ve a):
  QT sV 246 [.agg #[va,sS a.st,vm,ve]] w λr w'=>sW w w'/\∃v,r=.tuple #[v,sS (Jj a)]/\(Jj a≠0->v=zA)/\(Jj a=0->Xu ↑w ↑w' v (YB a)):=by
 refine Zn func246 ?_;refine Qc<|Zd [va,sS a.st,vm,ve] λb1 w1 Y ho ha=>QV [nS,sS 0,nS,nS] λb2 w2 I hp J=>Qb ?_;have O:=Y.D I;refine Qd<|Qc<|Q7 (ha.I I) Z Z<|Qw<|(Xb (h.I O)).S ?_;rintro r3 w3 ⟨rfl,G⟩;refine Qb ?_;have hq:=Y.size;refine Ql<|ZS Z Z<|xe<|Zh rfl (λU=>?_) (λU=>?_)
 ·refine Qc<|x (QD La)<|Qa<|Q6 [nS,sS 0,nS,nS] (J.I G) oA λw4 hj hk=>Qb<|Qk ⟨[zA,sS (Jj a)],⟨Kh hk,Z,La⟩,(O.D G).O hj oa,zA,Z,λ_=>Z,λe=>O1 e U⟩
 have hc:Jj a=0:=Ly.1 U;have hr:=J.lt;have V:=O.D G;refine Qf<|Qc<|Q7 ((ha.I I).I G) Z Z<|Qw<|(KZ (h.I V) ((ZA a).1 hc)).S ?_;rintro v w5 ⟨he,hF⟩;obtain⟨us,hf,hg,hm⟩:=X3 hF;have hs:=G.size;refine Qo<|ZM (us:=us) ((J.I G).I he) Z hf hg Z hm λw6 hh hn =>
  Qb<|Qk ⟨[sT us,sS 0],⟨⟨_,Z,Yc hg (hn.at (L:=[]) oe).cells⟩,rfl,La⟩,(V.D he).O hh oa,v,by rw[hc,hf];rfl,λe=>O1 hc e,λ_=>?_⟩
 exact(Je hF oa hh).S V.size
def gget:List ((Int×Int)×Int)->Int×Int->Option Int
 | [],_=>none
 | (k',v)::m,k=>if k'=k then some v else gget m k
def gput:List ((Int×Int)×Int)->Int×Int->Int->List ((Int×Int)×Int)
 | [],k,v=>[(k,v)]
 | (k',v')::m,k,v=>if k'=k then(k',v)::m else(k',v')::gput m k v
def Qtw (s:Qz)(cls:LI)(x:Nat)(m:List ((Int×Int)×Int))(v:Int):List ((Int×Int)×Int):=gput m (xh cls x,v) (xh cls (to0 s x v).toNat)
def Qtt (s:Qz)(l:List Uw)(cls:LI)(z:LI×List ((Int×Int)×Int))(x:Nat):LI×List ((Int×Int)×Int):=
 if xh cls x<0 then z else(if((lget l x).mk' && (lget l x).ps)=true then QpP z.1 (xh cls x) else z.1,(lget l x).en.foldl (Qtw s cls x) z.2)
def Qr0 (s:Qz)(l:List Uw)(cls:LI):LI×List ((Int×Int)×Int):=(oP 0 cls.length).foldl (Qtt s l cls) ([],[])
def Qtv (m:List ((Int×Int)×Int))(c:Nat)(v:Int):Option Ed:=(gget m ((c:Int),v)).map λt=>((c:Int),v,t)
def Qtu (m:List ((Int×Int)×Int))(al:LI)(n:Nat):List Ed:=(oP 0 n).flatMap λc=>al.filterMap (Qtv m c)
def Qtx (s:Qz)(l:List Uw)(cls:LI):Qz:=⟨s.al,Qsj cls+1,(Qr0 s l cls).1,Qtu (Qr0 s l cls).2 s.al (Qsj cls+1).toNat⟩
def red (p s:Qz):Qz:=Qtx s (ctls p s (opQ p s)) (QsI p s (opQ p s))
def xO (p s:Qz):Int:=if opE p s≠0 then opE p s else if opQ p s=[]then 0 else Jj (red p s)
theorem XH {l:LI}(h:i<l.length):xh l i∈l:=by rw[<-Zo h];exact Lm h
theorem Zg (a:α){Q:Prop}(h:∀b,a=b->Q):Q:=h a Z
theorem Qbf {H:xG}{a:Qz}{O V I J:Nat}(h1:QN H O 3 (a.al.map (.int .i64)))(h2:QN H U 3 (a.mr.map (.int .i64)))(h3:QN H V 179 (a.ed.flatMap Qp))(g1:N<=O)(g2:N<=U)(g3:N<=V)
  (l1:a.al.length=G) (l2:a.mr.length=I) (l3:a.ed.length=J) (m1:G<=1000) (m2:I<=1000) (m3:J<=1000):
  Xu N H (.agg #[sL O G G,sS a.st,sL U I I,sL V J J]) a:=by
 subst l1 l2 l3;refine⟨_,_,_,Z,λL Y=>⟨?_,?_,?_⟩⟩
 ·exact h1.arr (λhb=>oq (Y _ hb)) oe oa (Lr _)
 ·exact h2.arr (λhb=>oq (Y _ hb)) oe oa (Lr _)
 exact h3.arr (λhb=>oq (Y _ hb)) (by rw[Vy _ 3 J3]) oa (Lr _)
end Go.Lg
namespace Go.Lg
abbrev xE:=Fr->xF
end Go.Lg
