/- Merged out of 44 texts. -/
import Derived.Orders
import Derived.Below
import Derived.WalkKit
import Derived.Laws.AppendOwn
import Derived.Laws.Rows
import Derived.Laws.Tables
import Derived.Great.BuildSlice
import Derived.Deep.OwnRows
import Derived.MapKept
import Derived.Test.YtpfnhheoeaiomaaGreatDoorProg
import Derived.Shelf.SlBodiesH
import Derived.Shelf.SlBodiesN
import Derived.Shelf.SlGeneric
import Derived.Laws.StructEq
import Derived.Shelf.Strings.Builder1
import Derived.Shelf.Small.Bits
import Derived.Shelf.Strings.BuilderF
import Derived.Shelf.Strings.BuilderK
import Derived.Shelf.Strconv.Itoa0
import Derived.Shelf.Strconv.Itoa1
import Derived.Shelf.LaysM
import Derived.Shelf.Strconv.Itoa2
import Derived.Shelf.Strconv.Itoa3
import Derived.Shelf.Strings.BuilderCap
import Derived.Lib.Builder
import Derived.Laws.Externs
set_option maxHeartbeats 40000000
set_option maxRecDepth 100000
set_option linter.all false
abbrev Eq.D:=@Eq.trans
abbrev Iff.D:=@Iff.trans
abbrev List.Perm.D:=@List.Perm.trans
namespace Go
abbrev sL (b n c:Nat):Value:=.slice (some ⟨b,0,none⟩) n c
abbrev sP (b:Nat):Value:=.pointer (some ⟨b,0,none⟩)
instance:CoeOut World Nat:=⟨λw=>w.heap.size⟩
instance:CoeOut World (Array Obj):=⟨λw=>w.heap⟩
abbrev sS (n:Int):Value:=.int .i64 n
abbrev sT (l:List Value):Value:=.agg l.toArray
abbrev xj:=Option (Nat×Bool)
abbrev xo:=List (Nat×Bool)
abbrev xp:=List (Nat×Nat)
abbrev xq:=List (Int×Int)
abbrev xu:=World→Prop
abbrev xw:=Array Obj
abbrev xx:=Array Edge
abbrev xz:=List Oper
abbrev xA:=Option Nat
theorem oo{p q:Prop}(a:q)(h:q→p:=by intro _;omega):p:=h a
theorem oq{p q r:Prop}(a:q)(b:r)(h:q→r→p:=by intro _ _;omega):p:=h a b
theorem ot{p q r s:Prop}(a:q)(b:r)(c:s)(h:q→r→s→p:=by intro _ _ _;omega):p:=h a b c
theorem ou{p q:Prop}(a:q)(h:q→p:=by intro h;simpa using h):p:=h a
theorem oa{p:Prop}(h:p:=by omega):p:=h
theorem oc{p:Prop}(h:p:=by kernel_rfl):p:=h
theorem od{p:Prop}(h:p:=by simp):p:=h
theorem oe{p:Prop}(h:p:=by simp only[];omega):p:=h
theorem og{p:Prop}(h:p:=by decide):p:=h
theorem oh{p:Prop}(h:p:=by rfl):p:=h
theorem ol{p:Prop}(h:p:=by simp only[List.mem_singleton];omega):p:=h
theorem om{p:Prop}(h:p:=by simp[Value.oneCell']):p:=h
abbrev oz(j:Nat):Nat×Bool:=(j,true)
abbrev oA(j:Nat):Nat×Bool:=(j,false)
abbrev OP:=@if_neg
abbrev OQ:=@if_pos
abbrev OR:=@congrArg
abbrev OS:=@absurd
abbrev OT:=@decide_eq_true
abbrev OU:=@of_decide_eq_true
abbrev OV:=@decide_eq_false
abbrev OW:=@of_decide_eq_false
end Go
open Go
open Go.Value renaming int->oB
open Go.IntKind renaming i64->oC
open _root_.List renaming mem_singleton->oF,replicate->oG,not_mem_nil->oH,mem_cons->oJ,range->oK,length_singleton->oL,length_append->oM,range'->oN,getD->oO,length_cons->oQ,getElem?_toArray->oS,map_cons->oT,getElem?_eq_getElem->oU,mem_append->oV,flatMap_cons->oW,cons_append->o0,all_cons->Oa,size_toArray->Oc,all_eq_true->Og,forall_mem_cons->Oi,getElem_cons_zero->Oj,nil_append->Ol,length_map->Om,append_nil->On,append_assoc->Oq,range'_succ->Ot,pairwise_cons->Ou,drop_zero->OA,length_drop->OC,length_take->OD,filter_cons->OE,map->OO
open _root_.Bool renaming and_eq_true->oI,or_eq_false_iff->oZ,not_eq_true'->Od
open _root_.Array renaming replicate->oP
open _root_.Nat renaming zero_add->oX,add_mul->Ok,add_zero->Oo,mul_le_mul->Oz,le_refl->OB,one_mul->OI,lt_or_ge->OJ,sub_zero->OK,pow_succ->OL,mul_one->OM,beq->ON
open _root_.Option renaming map_some->Ov
open _root_.Int renaming toNat_natCast->Ox
open Go renaming World->OX,Value->OY,Operand->OZ,Program->O0
open Go.Proofs Go.Proofs.Tryz
open Go.Proofs.Tryz renaming prog->sV
variable {w w':OX}{n t i sz base T N j E m g id B kt ty G lo hi et gp off M:Nat}{α β:Type}{y:OZ}{ve va vm z vt vl vs vk vx v' vb vo:OY}{P:O0}{fn:Func}{s:Int}{d:xA}{pS:String}{af:xx}{gd:xj}{k':IntKind}{at_:Array Nat}{ops:xz}{q:Prop}
namespace Go
abbrev nS:OY:=.slice none 0 0
abbrev LI:=List Int
abbrev LN:=List Nat
abbrev LV:=List OY
theorem O.{u}{α:Sort u}{a:α}:a=a:=rfl
theorem Z:True:=trivial
theorem La.{u}{α:Sort u}{a:α}:a=a/\True:=⟨rfl,trivial⟩
abbrev Lb:=@List.mem_singleton
abbrev Lc:=@List.length_append
abbrev Le:=@List.mem_append
abbrev Lh:=@List.take_succ_eq_append_getElem
abbrev Lj:=@List.length_map
abbrev Lk:=@List.getElem_mem
abbrev Ll:=@List.mem_cons
abbrev Lm:=@List.mem_cons_of_mem
abbrev Ln:=@Nat.zero_le
abbrev Lo:=@List.mem_cons_self
abbrev Lp:=@Nat.le_refl
abbrev Lq:=@List.take_of_length_le
abbrev Lr:=@Decidable.not_not
abbrev Ls:=@List.drop_of_length_le
abbrev Lt:=@List.length_singleton
abbrev Lu:=@List.eq_nil_of_length_eq_zero
abbrev Lv:=@List.map_append
abbrev Lx:=@Nat.le_trans
abbrev Ly:=@List.not_mem_nil
abbrev Lz:=@List.mem_map
abbrev LA:=@List.length_take
abbrev LB:=@Bool.and_eq_true
abbrev LC:=@List.flatMap_append
abbrev LD:=@List.getElem?_eq_getElem
abbrev LE:=@List.append_assoc
abbrev LF:=@List.length_filter_le
abbrev LG:=@List.mem_map_of_mem
abbrev LH:=@List.append_nil
abbrev LJ:=@Array.getElem?_eq_some_iff
abbrev LK:=@List.flatMap_cons
abbrev LL:=@List.length_cons
abbrev LM:=@List.getElem_of_mem
abbrev LO:=@List.foldl_cons
abbrev LP:=@Nat.lt_of_lt_of_le
abbrev LQ:=@List.size_toArray
abbrev LR:=@List.filter_append
abbrev LS:=@List.mem_filter
abbrev LT:=@Nat.zero_add
abbrev LU:=@List.map_cons
abbrev LW:=@List.getElem?_take
abbrev LX:=@Nat.le_of_ble_eq_true
abbrev LY:=@List.getElem?_append_left
abbrev LZ:=@List.ext_getElem
abbrev L2:=@List.pairwise_cons
abbrev L3:=@List.mem_of_mem_take
abbrev L4:=@List.length_range
abbrev L5:=@List.drop_eq_getElem_cons
abbrev L6:=@List.filter_cons
abbrev L7:=@List.pairwise_map
abbrev L8:=@List.mem_append_left
abbrev L9:=@List.all_eq_true
abbrev Ma:=@List.getElem?_toArray
abbrev Mb:=@List.mem_flatMap
abbrev Mc:=@List.getElem?_eq_some_iff
abbrev Md:=@List.pairwise_iff_getElem
abbrev Me:=@List.mem_of_getElem?
abbrev Mf:=@List.length_drop
abbrev Mg:=@List.foldl_append
abbrev Mh:=@List.idxOf_append
abbrev Mi:=@List.getElem_append_left
abbrev Mj:=@List.pairwise_append
abbrev Mk:=@List.getElem?_append_right
abbrev Ml:=@List.nodup_nil
abbrev Mm:=@List.map_map
abbrev Mn:=@List.getElem?_eq_none
abbrev Mo:=@List.cons_append
abbrev Mq:=@List.getElem?_map
abbrev Mr:=@List.nodup_append
abbrev Ms:=@Nat.add_mul
abbrev Mt:=@Int.le_refl
abbrev Mu:=@List.mem_range'_1
abbrev Mv:=@Array.getElem?_append
abbrev Mw:=@List.filterMap_cons
abbrev Mx:=@List.nil_append
abbrev My:=@Array.size_modify
abbrev Mz:=@List.all_cons
abbrev MA:=@Array.getElem?_eq_getElem
abbrev MB:=@List.getElem_range
abbrev MC:=@Bool.false_ne_true
abbrev MD:=@List.mem_range
abbrev ME:=@Array.getElem?_toList
abbrev MF:=@List.take_append_drop
abbrev MG:=@List.idxOf_lt_length_of_mem
abbrev MH:=@Option.bind_eq_some_iff
abbrev MI:=@Nat.mul_le_mul_right
abbrev MJ:=@List.getElem?_drop
abbrev MK:=@List.mem_of_mem_drop
abbrev ML:=@Bool.or_eq_false_iff
abbrev MM:=@List.range'_1_concat
abbrev MN:=@List.filter_eq_nil_iff
abbrev MO:=@List.filter_sublist
abbrev MP:=@Int.toNat_natCast
abbrev MQ:=@Array.getElem?_modify
abbrev MR:=@List.length_set
abbrev MS:=@Nat.add_zero
abbrev MT:=@Nat.add_comm
abbrev MU:=@List.filter_nil
abbrev MV:=@List.headD_cons
abbrev MW:=@List.mem_filterMap
abbrev MX:=@Nat.add_sub_cancel_left
abbrev MY:=@List.getElem?_set_ne
abbrev MZ:=@List.getElem_take
abbrev M0:=@List.flatMap_singleton
abbrev M1:=@Bool.not_eq_true'
abbrev M2:=@List.tail_cons
abbrev M4:=@Option.map_eq_some_iff
abbrev M5:=@List.mergeSort_perm
abbrev M6:=@List.take_succ_cons
abbrev M7:=@Nat.min_eq_left
abbrev M8:=@List.getElem_append_right
abbrev M9:=@Bool.false_eq_true
abbrev Na:=@List.getElem_map
abbrev Nb:=@Nat.exists_eq_succ_of_ne_zero
abbrev Nc:=@List.forall_mem_cons
abbrev Nd:=@List.pairwise_lt_range'
abbrev Nf:=@List.range_succ
abbrev Ng:=@List.getElem_cons_zero
abbrev Nh:=@List.map_nil
abbrev Ni:=@Array.getD_eq_getD_getElem?
abbrev Nj:=@List.getElem_set
abbrev Nk:=@List.range'_succ
abbrev Nl:=@List.map_singleton
abbrev Nm:=@List.mem_append_right
abbrev Nn:=@List.mem_or_eq_of_mem_set
abbrev Np:=@Array.size_append
abbrev Nq:=@List.ext_getElem?
abbrev Nr:=@List.map_set
abbrev Ns:=@Bool.true_and
abbrev Nt:=@List.eq_of_mem_replicate
abbrev Nu:=@List.take_zero
abbrev Nv:=@List.take_append
abbrev Nw:=@List.pairwise_singleton
abbrev Nx:=@List.zipIdx_cons
abbrev Ny:=@List.foldl_nil
abbrev Nz:=@Nat.one_mul
abbrev NA:=@Option.map_some
theorem ov.{u,v}{α:Sort u}{β:Sort v}{a:α}{b:β}:a=a/\b=b/\True:=⟨rfl,rfl,trivial⟩
theorem ox.{u,v,w}{α:Sort u}{β:Sort v}{γ:Sort w}{a:α}{b:β}{c:γ}:a=a/\b=b/\c=c/\True:=⟨rfl,rfl,rfl,trivial⟩
theorem oy.{u,v,w,x}{α:Sort u}{β:Sort v}{γ:Sort w}{δ:Sort x}{a:α}{b:β}{c:γ}{d:δ}:a=a/\b=b/\c=c/\d=d/\True:=⟨rfl,rfl,rfl,rfl,trivial⟩
end Go
namespace Go.Lg
open Go.RowKit
abbrev Fr:=Nat->OY
def upd (f:Fr)(d:Nat)(v:OY):Fr:=λt=>bif ON t d then v else f t
def ev (f:Fr):OZ->OY
 | .tmp t=>f t
 | .const v=>v
 | .global g=>.pointer (some ⟨g,0,none⟩)
 | .func g=>.func (.func g) #[] #[]
def QO (f:Fr):xA->OY->Fr
 | some d,v=>upd f d v
 | none,_=>f
structure Rel (n:Nat)(a:Act)(f:Fr):Prop where
 size:a.tmps.size=n
 defers:a.defers=[]
 get:∀t,a.tmps.getD t undef=f t
theorem Xz (f:Fr)(d:Nat)(v:OY):upd f d v d=v:=by simp[upd]
theorem JG (f:Fr){d:Nat}(v:OY)(h:t≠d):upd f d v t=f t:=by
 have:ON t d=false:=by
  cases e:ON t d with
  | false=>rfl
  | true=>exact OS (Nat.eq_of_beq_eq_true e) h
 simp[upd,this]
theorem Rel.eval {n:Nat}{a:Act}{f:Fr}(h:Rel n a f):a.eval=ev f:=by
 funext x;cases x with
 | tmp t=>exact h.get t
 | _=>rfl
theorem Rel.put {n:Nat}{a:Act}{f:Fr}(h:Rel n a f){dst:xA}(hd:∀d,dst=some d->d<n)(v:OY):Rel n (a.put dst v) (QO f dst v):=by
 cases dst with
 | none=>exact h
 | some d =>
  have E:d<a.tmps.size:=by rw[h.size];exact hd d O
  refine⟨by simp[Act.put,h.size],h.defers,λt=>?_⟩;by_cases e:t=d
  ·subst e;rw[QO,Xz];simp[Act.put,E]
  rw[QO,JG _ _ e,<-h.get t];simp[Act.put,Array.getElem?_setIfInBounds_ne (Ne.symm e)]
def Ye (l:xz)(t:Nat):Bool:=l.any λo=>match o.dst with|some d=>ON d t|none=>false
def wrs:Code->Nat->Bool
 | .region _ ops _,t=>Ye ops.toList t
 | .seq a b,t=>wrs a t || wrs b t
 | .cond _ a b,t=>wrs a t || wrs b t
 | .block _ a,t=>wrs a t
 | .loop a,t=>wrs a t
 | .skip,_| .exit _,_| .label _,_| .goto _,_| .ret,_=>false
 | _,_=>true
def JH (D:xp)(t:Nat):Bool:=match D with
 | []=>false
 | (lo,hi)::D=>bif (Nat.ble lo t && Nat.ble t hi)then true else JH D t
def inD (D:xp)(d:xA):Bool:=match d with|none=>true|some d=>JH D d
def Qdy (D:xp)(l:xz):Bool:=l.all λo=>inD D o.dst
def wr (D:xp):Code->Bool
 | .region _ ops _=>Qdy D ops.toList
 | .seq a b=>wr D a && wr D b
 | .cond _ a b=>wr D a && wr D b
 | .block _ a=>wr D a
 | .loop a=>wr D a
 | .skip| .exit _| .label _| .goto _| .ret=>true
 | _=>false
theorem yo {D:xp}{l:xz}(h:Qdy D l=true)(G:JH D t=false):Ye l t=false:=by
 unfold Qdy at h;unfold Ye;rw[List.any_eq_false];intro o I;have E:=L9.1 h o I;cases hd:o.dst with
 | none=>simp
 | some d =>
  rw[hd]at E;simp only[inD]at E;intro e;have:=Nat.eq_of_beq_eq_true e;subst this;rw[E]at G;cases G
theorem Ks {D:xp}{t:Nat}(E:JH D t=false):∀c:Code,wr D c=true->wrs c t=false
 | .region _ ops _,h=>yo h E
 | .seq a b,h=>by simp only[wr,oI]at h;simp[wrs,Ks E a h.1,Ks E b h.2]
 | .cond _ a b,h=>by simp only[wr,oI]at h;simp[wrs,Ks E a h.1,Ks E b h.2]
 | .block _ a,h=>Ks E a (by simpa[wr]using h)
 | .loop a,h=>Ks E a (by simpa[wr]using h)
 | .skip,_=>rfl
 | .exit _,_=>rfl
 | .label _,_=>rfl
 | .goto _,_=>rfl
 | .ret,_=>rfl
 | .rangeFunc ..,h=>by simp[wr]at h
 | .scope _,h=>by simp[wr]at h
 | .refuse _,h=>by simp[wr]at h
def mix (D:xp)(f g:Fr):Fr:=λt=>bif JH D t then g t else f t
theorem Ky {D:xp}{f g:Fr}(h:∀t,JH D t=false->g t=f t):mix D f g=g:=by
 funext t;unfold mix;cases e:JH D t with
 | false=>exact(h t e).symm
 | true=>rfl
def Vc (S:List (Nat×OY))(f:Fr):Fr:=match S with
 | []=>f
 | (t,v)::S=>upd (Vc S f) t v
def YW (f:Fr):List (Nat×OY)->Prop
 | []=>True
 | (t,v)::S=>f t=v/\YW f S
theorem Xl {f:Fr}:∀{S:List (Nat×OY)},YW f S->Vc S f=f
 | [],_=>rfl
 | (t,v)::S,h=>by
  funext s;simp only[Vc,Xl h.2];by_cases e:s=t
  ·subst e;rw[Xz];exact h.1.symm
  exact JG _ _ e
def W (P:O0)(n:Nat)(c:Code)(Q:Exit->Fr->OX->Prop)(f:Fr)(w:OX):Prop :=
 ∀a,Rel n a f->c.wp P (λe E w'=>∃f',Rel n E f'/\(∀t,wrs c t=false->f' t=f t)/\Q e f' w') a w
def thn (K:Fr->OX->Prop)(Q:Exit->Fr->OX->Prop):Exit->Fr->OX->Prop
 | .normal,f,w=>K f w
 | e,f,w=>Q e f w
def blk (id:Nat)(Q:Exit->Fr->OX->Prop):Exit->Fr->OX->Prop
 | .exit i,f,w=>bif ON i id then Q .normal f w else Q (.exit i) f w
 | e,f,w=>Q e f w
section
variable {Q:Exit->Fr->OX->Prop}{f:Fr}
theorem W.Y {c:Code}{Q':Exit->Fr->OX->Prop}(h:W P n c Q f w)(E:∀e f w,Q e f w->Q' e f w):W P n c Q' f w :=
 λa G=>wp_mono (h a G) λ_ _ _ ⟨I,J,S,T⟩=>⟨I,J,S,E _ _ _ T⟩
theorem W.keeps {c:Code}(h:W P n c Q f w):W P n c (λe E w'=>(∀t,wrs c t=false->E t=f t)/\Q e E w') f w :=
 λa I=>wp_mono (h a I) λ_ _ _ ⟨E,J,G,S⟩=>⟨E,J,G,G,S⟩
theorem Qf (h:Q .normal f w):W P n .skip Q f w:=λ_ E=>wp_skip ⟨f,E,λ_ _=>O,h⟩
theorem Qu (h:Q (.exit i) f w):W P n (.exit i) Q f w:=λ_ E=>wp_exit ⟨f,E,λ_ _=>O,h⟩
theorem Qj (h:Q .ret f w):W P n .ret Q f w:=λ_ E=>wp_ret ⟨f,E,λ_ _=>O,h⟩
theorem Qe {x y:Code}(h:W P n x (thn (λf w=>W P n y Q f w) Q) f w):W P n (.seq x y) Q f w:=by
 intro a S;refine wp_seq (wp_mono (h a S) ?_);rintro e T w' ⟨E,G,U,I⟩;have k1:∀t,wrs (.seq x y) t=false->E t=f t:=λt J=>U t (by simp only[wrs,oZ]at J;exact J.1);cases e with
 | normal =>
  refine wp_mono (I T G) λ_ _ _ ⟨V,g1,Y,g3⟩=>⟨V,g1,λt J=>(Y t ?_).D (k1 t J),g3⟩;simp only[wrs,oZ]at J;exact J.2
 | exit id=>exact⟨E,G,k1,I⟩
 | goto l=>exact⟨E,G,k1,I⟩
 | ret=>exact⟨E,G,k1,I⟩
 | panic ch=>exact⟨E,G,k1,I⟩
 | outgrown=>exact⟨E,G,k1,I⟩
theorem QV {x y:Code}(D:xp)(S:α->List (Nat×OY))(I:α->OX->Prop)(hD:wr D x=true)
  (T:W P n x (thn (λG w'=>∃z,YW G (S z)/\I z w') Q) f w)
  (U:∀z g w',I z w'->W P n y Q (Vc (S z) (mix D f g)) w'):W P n (.seq x y) Q f w:=by
 refine Qe (T.keeps.Y ?_);rintro e G w' ⟨V,E⟩;cases e with
 | normal =>
  obtain⟨z,Y,hi⟩:=E;have J:=U z G w' hi;rw[Ky (λt ht=>V t (Ks ht x hD)),Xl Y]at J;exact J
 | exit id=>exact E
 | goto l=>exact E
 | ret=>exact E
 | panic ch=>exact E
 | outgrown=>exact E
theorem Q9 {c:OZ}{x y:Code}{t:Bool}(I:ev f c=.bool t)(E:t=true->W P n x Q f w)(J:t=false->W P n y Q f w):
  W P n (.cond c x y) Q f w:=by
 intro a G;have S:a.eval c=.bool t:=by rw[G.eval];exact I
 refine wp_cond_split S (λe=>wp_mono (E e a G) ?_) (λe=>wp_mono (J e a G) ?_) <;>
  (rintro e a' w' ⟨T,U,V,Y⟩
   refine⟨T,U,λt E=>V t ?_,Y⟩;simp only[wrs,oZ]at E
   first|exact E.1|exact E.2)
theorem Za {c:OZ}{x y:Code}{p:Prop}[Decidable p](E:ev f c=.bool (decide p))(G:p->W P n x Q f w)(I:¬p->W P n y Q f w):
  W P n (.cond c x y) Q f w :=
 Q9 E (λe=>G (OU e)) (λe=>I (OW e))
theorem Zp {c:OZ}{x y:Code}{p:Prop}[Decidable p](E:ev f c=.bool (decide p))(G:¬p->W P n y Q f w)(I:p->W P n x Q f w):
  W P n (.cond c x y) Q f w:=Za E I G
theorem zQ {c:OZ}{x y:Code}(E:ev f c=.bool true)(h:W P n x Q f w):W P n (.cond c x y) Q f w:=Q9 E (λ_=>h) (λe=>by cases e)
theorem Zz {c:OZ}{x y:Code}(E:ev f c=.bool false)(h:W P n y Q f w):W P n (.cond c x y) Q f w:=Q9 E (λe=>by cases e) (λ_=>h)
theorem Qn {c:Code}(h:W P n c (blk id Q) f w):W P n (.block id c) Q f w:=by
 intro a J;refine wp_block (wp_mono (h a J) ?_);rintro e U w' ⟨G,I,S,E⟩;have k1:∀t,wrs (.block id c) t=false->G t=f t:=λt T=>S t (by simpa[wrs]using T);cases e with
 | exit i =>
  simp only[Exit.inBlock];simp only[blk]at E;by_cases hi:i=id
  ·subst hi;simp only[Nat.beq_refl,cond_true]at E;simp only[if_true];exact⟨G,I,k1,E⟩
  have hb:ON i id=false:=by
   cases e:ON i id with
   | false=>rfl
   | true=>exact OS (Nat.eq_of_beq_eq_true e) hi
  rw[hb]at E;rw[OP hi];exact⟨G,I,k1,E⟩
 | normal=>exact⟨G,I,k1,E⟩
 | goto l=>exact⟨G,I,k1,E⟩
 | ret=>exact⟨G,I,k1,E⟩
 | panic ch=>exact⟨G,I,k1,E⟩
 | outgrown=>exact⟨G,I,k1,E⟩
theorem QnH {c:Code}(D:xp)(S:α->List (Nat×OY))(I:α->OX->Prop)(m:α->Nat)(hD:wr D c=true)(z:α)
  (h0:YW f (S z)) (hI:I z w)
  (round:∀x g w',I x w'->W P n c (thn (λG Y=>∃U,m U<m x/\YW G (S U)/\I U Y) Q) (Vc (S x) (mix D f g)) w'):W P n (.loop c) Q f w:=by
 intro a ha;refine wp_loop_ghost (λ(x:α) V w'=>∃G,Rel n V G/\(∀t,wrs c t=false->G t=f t)/\YW G (S x)/\I x w') m z ⟨f,ha,λ_ _=>O,h0,hI⟩ ?_;rintro x V w' ⟨G,h1,h2,h3,h4⟩;have h5:=round x G w' h4;rw[Ky (λt J=>h2 t (Ks J c hD)),Xl h3]at h5;refine wp_mono (h5 V h1) ?_;rintro e hc Y ⟨E,g1,g2,T⟩;have k1:∀t,wrs c t=false->E t=f t:=λt J=>(g2 t J).D (h2 t J);have k2:∀t,wrs (.loop c) t=false->E t=f t:=λt J=>k1 t (by simpa[wrs]using J);cases e with
 | normal=>obtain⟨U,hm,hs,hi⟩:=T;exact⟨U,hm,E,g1,k1,hs,hi⟩
 | exit id=>exact⟨E,g1,k2,T⟩
 | goto l=>exact⟨E,g1,k2,T⟩
 | ret=>exact⟨E,g1,k2,T⟩
 | panic ch=>exact⟨E,g1,k2,T⟩
 | outgrown=>exact⟨E,g1,k2,T⟩
 where
 wp_loop_ghost {α:Type} {P:O0} {c:Code} {Q:Exit->Act->OX->Prop} {a:Act} {w:OX} (J:α->Act->OX->Prop) (m:α->Nat) (z:α) (h₀:J z a w)
   (round:∀x a w,J x a w->c.wp P (Exit.then (λa' w'=>∃x',m x'<m x/\J x' a' w') Q) a w):(Code.loop c).wp P Q a w:=by
  intro b k cs
  have key:∀i x a w,m x=i->J x a w ->
    ∃e a' w',Q e a' w'/\Arrives P (lone (b.at a (.code c::.inLoop c::k)) cs w) b k cs e a' w':=by
   intro i
   induction i using Nat.strongRecOn with
   | _ i ih =>
    intro x a w hx hJ
    obtain⟨e,a₁,w₁,hq,harr⟩:=round x a w hJ b (.inLoop c::k) cs
    cases e with
    | normal =>
     obtain⟨x',hlt,hJ'⟩:=hq
     obtain⟨e₂,a₂,w₂,hq₂,harr₂⟩:=ih (m x') (hx ▸ hlt) x' a₁ w₁ rfl hJ'
     exact⟨e₂,a₂,w₂,hq₂,.of_steps (Steps.trans harr (.one step_inLoop)) harr₂⟩
    | exit id=>exact⟨_,a₁,w₁,hq,.pass (x:=.inLoop c) rfl (λ_ _=>.inl od) harr⟩
    | goto l=>exact⟨_,a₁,w₁,hq,.pass (x:=.inLoop c) rfl (λ_ _=>.inl od) harr⟩
    | ret=>exact⟨_,a₁,w₁,hq,.pass (x:=.inLoop c) rfl (λ_ _=>.inl od) harr⟩
    | panic ch=>exact⟨_,a₁,w₁,hq,.pass (x:=.inLoop c) rfl (λ_ _=>.inl od) harr⟩
    | outgrown=>exact⟨_,a₁,w₁,hq,.pass (x:=.inLoop c) rfl (λ_ _=>.inl od) harr⟩
  obtain⟨e,a',w',hq,harr⟩:=key _ z a w rfl h₀
  exact⟨e,a',w',hq,.of_steps (.one step_loop) harr⟩
end
def upF (P:O0)(dst:xA)(f:Fr)(K:Fr->OX->Prop):Result Next->Prop
 | .ok (.value v) w'=>K (QO f dst v) w'
 | .ok .skip w'=>K (QO f dst undef) w'
 | .ok (.enter g args) w'=>Calls P g args w' λe E=>match e with| .returned v=>K (QO f dst v) E|_=>False
 | _=>False
def XO (P:O0)(o:Oper)(f:Fr)(w:OX)(K:Fr->OX->Prop):Prop:=upF P o.dst f K ((execOp (ev f) o).run P w)
def Z3 (ops:xz)(f:Fr)(o:Oper):Bool:=match o.guard with
 | none=>true
 | some (j,want)=>match (ops[j]?).bind (·.dst)with
  | some d=>(match f d with| .bool b=>bif want then b else !b|_=>false)
  | none=>false
def XL (P:O0)(ops:xz)(K:Fr->OX->Prop):xz->Fr->OX->Prop
 | [],f,w=>K f w
 | o::l,f,w=>bif Z3 ops f o then XO P o f w (XL P ops K l)else XL P ops K l (QO f o.dst undef) w
theorem Uc {l:xz}{a:Act}{f:Fr}(h:Rel n a f)(I:∀o∈l,∀d,o.dst=some d->d<n)(o:Oper):Region.wanted o (yielded l.toArray a.tmps)=Z3 l f o:=by
 unfold Region.wanted Z3;cases o.guard with
 | none=>rfl
 | some p =>
  obtain⟨j,want⟩:=p;simp only[yielded,oS];cases J:(l[j]?)with
  | none=>simp
  | some o' =>
   cases hd:o'.dst with
   | none=>simp[hd]
   | some d =>
    have E:d<a.tmps.size:=by rw[h.size];exact I o' (Me J) d hd
    have G:=h.get d;simp only[Option.bind_some,hd,Array.getElem?_eq_getElem E];simp[E]at G;rw[G];cases f d <;> simp
    cases want <;> simp
theorem QlU {o:Oper}{a:Act}{f:Fr}{K:Fr->OX->Prop}{K':Act->OX->Prop}{Q:Exit->Act->OX->Prop}(h:Rel n a f)
  (hK:∀v w',K (QO f o.dst v) w'->K' (a.put o.dst v) w') (hx:XO P o f w K):o.wp P a w K' Q:=by
 unfold XO at hx;unfold Oper.wp;rw[h.eval];generalize (execOp (ev f) o).run P w=r at hx;cases r with
 | ok nx w' =>
  cases nx <;> simp only[upF]at hx <;> simp only[Oper.upon]
  case value v=>exact hK v w' hx
  case skip=>exact hK _ w' hx
  case enter g args =>
   refine Calls.mono hx λe G E=>?_;cases e with
   | returned v=>exact hK v G E
   | panicked c=>exact E.elim
   | outgrown=>exact E.elim
 | halt x w'=>exact hx.elim
theorem XO.Y {P:O0}{o:Oper}{f:Fr}{w:OX}{K K':Fr->OX->Prop}(hK:∀v w',K (QO f o.dst v) w'->K' (QO f o.dst v) w')(hx:XO P o f w K):XO P o f w K':=by
 unfold XO at *;generalize (execOp (ev f) o).run P w=r at *;cases r with
 | ok nx w' =>
  cases nx <;> simp only[upF]at hx ⊢
  case value v=>exact hK v w' hx
  case skip=>exact hK _ w' hx
  case enter g args =>
   refine Calls.mono hx λe G E=>?_;cases e with
   | returned v=>exact hK v G E
   | panicked c=>exact E.elim
   | outgrown=>exact E.elim
 | halt x w'=>exact hx.elim
def Xf (n:Nat)(l:xz):Bool:=l.all λo=>match o.dst with|some d=>Nat.blt d n|none=>true
theorem Xq {l:xz}(h:Xf n l=true):∀o∈l,∀d,o.dst=some d->d<n:=by
 intro o E d hd;have:=L9.1 h o E;simp only[hd,Nat.blt_eq]at this;exact this
theorem X6 {l:xz}{o:Oper}(E:o∈l)(h:Ye l t=false):o.dst≠some t:=by
 intro e;have:=List.any_eq_false.1 h o E;simp[e]at this
theorem YY {f:Fr}{dst:xA}(h:dst≠some t)(v:OY):QO f dst v t=f t:=by
 cases dst with
 | none=>rfl
 | some d=>exact JG _ _ (λe=>h (by rw[e]))
section
variable {Q:Exit->Fr->OX->Prop}{f:Fr}
theorem QlV {all:xz}(G:∀o∈all,∀d,o.dst=some d->d<n)(f0:Fr):
  ∀(l:xz) (k:Nat) (a:Act) (f:Fr) (w:OX),(∀j,l[j]?=all[k+j]?)->Rel n a f->(∀t,Ye all t=false->f t=f0 t) ->
   XL P all (λf w=>Q .normal f w) l f w ->
   wpOps P all.toArray (λe Y w'=>∃f',Rel n Y f'/\(∀t,Ye all t=false->f' t=f0 t)/\Q e f' w') (oN k l.length) a w
 | [],_,a,f,w,_,E,I,h=>⟨f,E,I,h⟩
 | o::l,k,a,f,w,S,E,I,h=>by
  have T:all[k]?=some o:=by simpa using(S 0).symm
  have J:o∈all:=Me T;have ih:=λa f w=>QlV G f0 l (k+1) a f w (λj=>by have:=S (j+1);simpa[Nat.add_assoc,Nat.add_comm 1 j]using this);have next:∀v,(∀t,Ye all t=false->QO f o.dst v t=f0 t):=λv t U=>(YY (X6 J U) v).D (I t U);simp only[oQ,Ot,wpOps,oS,T];rw[Uc E G o];simp only[XL]at h;cases V:Z3 all f o with
  | false =>
   rw[V]at h;exact ih _ _ _ (E.put (G o J) _) (next _) h
  | true =>
   rw[V]at h;exact .inl (QlU E (λv w' hx=>ih _ _ _ (E.put (G o J) v) (next v) hx) h)
theorem QbX {l:xz}(E:Xf n l=true)(h:XL P l (λf w=>Q .normal f w) l f w):W P n (.region id l.toArray false) Q f w:=by
 intro a G;refine wp_region ?_;have:=QlV (Xq E) f l 0 a f w od G (λ_ _=>rfl) h;simpa[List.range_eq_range',wrs]using this
end
def yc (o:Oper):Bool:=match o.op with
 | .move _| .assign _| .pick .. | .alloc _| .box .. | .build .. | .buildSlice .. | .store .. | .nilCheck _| .binOp .. | .unOp .. | .makeFunc .. | .makeMap .. | .makeSlice .. | .fieldAddr .. | .field .. | .indexAddr .. | .index .. | .extract .. | .insert .. | .mapUpdate ..=>false
 | .slice ..=>false
 | .call ⟨.builtin .append,_,_⟩=>false
 | .call ⟨.builtin .min,_,_⟩=>false
 | .call ⟨.builtin .max,_,_⟩=>false
 | .call ⟨.builtin .len,_,_⟩=>false
 | .call ⟨.value _,_,_⟩=>false
 | _=>true
def KB (all:xz)(j:Nat):Bool:=match all[j]? with
 | none=>false
 | some o=>(oK all.length).all λi=>match all[i]? with
  | none=>true
  | some oi=>!yc oi || i == j || o.after.any λe=>Region.binds .any e && e.on == i
def XA (P:O0)(all:xz)(C:xu)(K:Fr->OX->Prop):Nat->Array Bool->Fr->OX->Prop
 | 0,ls,f,w=>Region.ready .any all.toArray ls=[]/\K f w
 | k+1,ls,f,w=>(Region.ready .any all.toArray ls=[]->K f w) /\
  ∀i∈Region.ready .any all.toArray ls,∀o,all[i]?=some o ->
   bif Z3 all f o then XO P o f w (λE w'=>(KB all i=true\/w'=w\/C w')/\XA P all C K k (ls.setIfInBounds i true) E w')else XA P all C K k (ls.setIfInBounds i true) (QO f o.dst undef) w
section
variable {f:Fr}{all:xz}{C:xu}{K:Fr->OX->Prop}
theorem QeF {Q:Exit->Act->OX->Prop}(G:∀o∈all,∀d,o.dst=some d->d<n)(f0:Fr)
  (I:∀a f w,Rel n a f->(∀t,Ye all t=false->f t=f0 t)->K f w->Q .normal a w):
  ∀(k:Nat) (ls:Array Bool) (a:Act) (f:Fr) (w:OX),Rel n a f->(∀t,Ye all t=false->f t=f0 t)->XA P all C K k ls f w->wpAny P .any all.toArray Q k ls a w
 | 0,_,a,f,w,E,J,h=>⟨h.1,I a f w E J h.2⟩
 | k+1,ls,a,f,w,E,J,h=>by
  refine⟨λh0=>I a f w E J (h.1 h0),λi hi=>?_⟩;unfold wpOp;simp only[oS];cases T:all[i]? with
  | none =>
   exfalso;obtain⟨_,o,ha,_⟩:=mem_ready.1 hi;simp[T]at ha
  | some o =>
   have U:o∈all:=Me T;have S:=h.2 i hi o T;have next:∀v,(∀t,Ye all t=false->QO f o.dst v t=f0 t):=λv t V=>(YY (X6 U V) v).D (J t V);simp only[];rw[Uc E G o];cases Y:Z3 all f o with
   | false =>
    rw[Y]at S;exact QeF G f0 I k _ _ _ _ (E.put (G o U) _) (next _) S
   | true =>
    rw[Y]at S;exact .inl (QlU E (λv w' hx=>QeF G f0 I k _ _ _ _ (E.put (G o U) v) (next v) hx.2) S)
theorem Uq (f:Fr){x y:xA}(v u:OY)(h:∀d,x=some d->y≠some d):QO (QO f x v) y u=QO (QO f y u) x v:=by
 cases x with
 | none=>rfl
 | some d =>
  cases y with
  | none=>rfl
  | some e =>
   have I:d≠e:=λJ=>h d O (J ▸ O);funext t;simp only[QO];by_cases E:t=d
   ·subst E;rw[JG _ _ I,Xz,Xz]
   by_cases G:t=e
   ·subst G;rw[Xz,JG _ _ E,Xz]
   rw[JG _ _ G,JG _ _ E,JG _ _ E,JG _ _ G]
theorem Qk1 {f:Fr}{dst:xA}{v:OY}{x:OZ}(h:∀d,dst=some d->x≠.tmp d):ev (QO f dst v) x=ev f x:=by
 cases dst with
 | none=>rfl
 | some d =>
  cases x with
  | tmp t=>exact JG _ _ (λe=>h d O (by rw[e]))
  | _=>rfl
theorem Jy {o:Oper}(E:∀cs b,o.op≠.select cs b)(f:Fr)(dst:xA)(v:OY)(h:∀d,dst=some d->d∉o.looksAt all.toArray):
  execOp (ev (QO f dst v)) o=execOp (ev f) o :=
 execOp_congr o E λx hx=>Qk1 λd hd G=>h d hd (by
  subst G;exact L8 _ (MW.2 ⟨.tmp d,ou hx,rfl⟩))
theorem VT (o:Oper)(f:Fr)(dst:xA)(v:OY)(h:∀d,dst=some d->d∉o.looksAt all.toArray):Z3 all (QO f dst v) o=Z3 all f o:=by
 unfold Z3;cases E:o.guard with
 | none=>rfl
 | some gw =>
  obtain⟨g,want⟩:=gw;simp only[];cases G:(all[g]?).bind (·.dst)with
  | none=>rfl
  | some t =>
   have I:dst≠some t:=λe=>h t e (by simp[Oper.looksAt,E,G]);simp only[];rw[YY I]
def QeH (P:O0)(all:xz)(D:xu)(o:Oper)(v:OY)(f:Fr):Prop :=
 (Z3 all f o=true/\∀w,D w->(execOp (ev f) o).run P w=.ok (.value v) w)\/(Z3 all f o=false/\v=undef)
theorem Qkt {oi oj:Oper}(hi:all[i]?=some oi)(I:all[j]?=some oj)(J:yc oi=true)(S:j≠i)(G:KB all j=true)(T:∀e∈oj.after,Region.binds .any e=true->e.on≠i):False:=by
 simp only[KB,I,Og,List.mem_range]at G;have U:i<all.length:=(Mc.1 hi).1;have E:=G i U;simp only[hi,J,Bool.not_true,Bool.false_or,Bool.or_eq_true,beq_iff_eq,Array.any_eq_true',oI]at E;rcases E with E|⟨e,V,hb,Y⟩
 ·exact S E.symm
 exact T e V hb Y
theorem JW {oi:Oper}{v:OY}{D:xu}(hi:all[i]?=some oi)(hD:∀w,(yc oi=true->C w)->D w)(ha:∀(j:Nat) (o:Oper) cs b,all[j]?=some o->o.op≠.select cs b):
  ∀(fuel:Nat) (ls:Array Bool) (f:Fr) (w:OX),(yc oi=true->C w) ->
   (∀j oj,all[j]?=some oj->j≠i->ls.getD j true=false->(∀e∈oj.after,Region.binds .any e=true->e.on≠i)->oi.apart all.toArray oj=true) ->
   i∈Region.ready .any all.toArray ls->QeH P all D oi v f ->
   XA P all C K fuel (ls.setIfInBounds i true) (QO f oi.dst v) w->XA P all C K (fuel+1) ls f w:=by
 have hc:∀(fuel:Nat) (ls:Array Bool) (f:Fr) (w:OX),(yc oi=true->C w)->QeH P all D oi v f->XA P all C K fuel (ls.setIfInBounds i true) (QO f oi.dst v) w->∀o,all[i]?=some o ->
   bif Z3 all f o then XO P o f w (λf' w'=>(KB all i=true\/w'=w\/C w')/\XA P all C K fuel (ls.setIfInBounds i true) f' w')else XA P all C K fuel (ls.setIfInBounds i true) (QO f o.dst undef) w:=by
  intro fuel ls f w hC T H o ho;rw[hi]at ho;cases ho
  rcases T with⟨U,hv⟩|⟨U,rfl⟩
  ·rw[U];simp only[cond_true,XO,hv w (hD w hC),upF];exact⟨.inr (.inl Z),H⟩
  rw[U];exact H
 intro fuel;induction fuel with
 | zero =>
  intro ls f w hC _ J T H;refine⟨λh=>(by rw[h]at J;cases J),λj hj=>?_⟩;by_cases I:j=i
  ·subst I;exact hc _ _ _ _ hC T H
  have:=ready_mono hj I;rw[H.1]at this;cases this
 | succ fuel ih =>
  intro ls f w hC hf J T H;refine⟨λh=>(by rw[h]at J;cases J),λj hj=>?_⟩;by_cases I:j=i
  ·subst I;exact hc _ _ _ _ hC T H
  intro oj V;have E:=H.2 j (ready_mono hj I) oj V;obtain⟨hh,G,hm,ht⟩:=mem_ready.1 hj;have hu:G=oj:=by rw[Ma,V]at hm;exact(Option.some.inj hm).symm
  subst hu;have hn:∀e∈G.after,Region.binds .any e=true->e.on≠i:=λe S hb hw=>by
   have E:=ht e S hb;have h0:=(mem_ready.1 J).1;rw[hw]at E;rcases OJ i ls.size with h'|h'
   ·simp[h']at h0 E;rw[h0]at E;cases E
   simp[Array.getElem?_eq_none h']at E
  obtain⟨a1,a2,a3⟩:=Oper.apart_spec (hf j G V I hh hn);have hz:∀k ok,all[k]?=some ok->k≠i->(ls.setIfInBounds j true).getD k true=false ->
    (∀e∈ok.after,Region.binds .any e=true->e.on≠i)->oi.apart all.toArray ok=true:=λk ok hk h2 hp h3=>by
   refine hf k ok hk h2 ?_ h3;by_cases hq:j=k
   ·subst hq;exact hh
   rw[getD_set_ne true hq]at hp;exact hp
  have keep:∀u,QeH P all D oi v (QO f G.dst u):=λu=>by
   unfold QeH at *;rw[VT oi f G.dst u a3,Jy (all:=all) (ha i oi · · hi) f G.dst u a3];exact T
  have dOf:∀w',(KB all j=true\/w'=w\/C w')->(yc oi=true->C w'):=λw' Y hs=>by
   rcases Y with Y|rfl|Y
   ·exact(Qkt hi V hs I Y hn).elim
   ·exact hC hs
   exact Y
  have go:∀u w',(yc oi=true->C w')->XA P all C K fuel ((ls.setIfInBounds i true).setIfInBounds j true) (QO (QO f oi.dst v) G.dst u) w' ->
    XA P all C K (fuel+1) (ls.setIfInBounds j true) (QO f G.dst u) w':=λu w' h4 hx=>by
   refine ih _ _ _ h4 hz (ready_mono J (Ne.symm I)) (keep u) ?_;rw[Array.setIfInBounds_comm _ _ I,<-Uq f v u a2];exact hx
  rw[VT G f oi.dst v a1]at E;cases U:Z3 all f G with
  | false=>rw[U]at E;exact go _ _ hC E
  | true =>
   rw[U]at E;simp only[cond_true]at E ⊢;unfold XO at *;rw[Jy (all:=all) (ha j G · · V) f oi.dst v a1]at E;generalize (execOp (ev f) G).run P w=r at *;cases r with
   | ok nx w' =>
    cases nx <;> simp only[upF]at E ⊢
    case value u=>exact⟨E.1,go _ _ (dOf _ E.1) E.2⟩
    case skip=>exact⟨E.1,go _ _ (dOf _ E.1) E.2⟩
    case enter g args =>
     refine Calls.mono E λe h5 S=>?_;cases e with
     | returned u=>exact⟨S.1,go _ _ (dOf _ S.1) S.2⟩
     | panicked c=>exact S.elim
     | outgrown=>exact S.elim
   | halt x w'=>exact E.elim
def Y7 (all:Array Oper):xo->Array Bool->Bool
 | [],ls=>(Region.ready .any all ls).isEmpty
 | (i,true)::pl,ls=>(Region.ready .any all ls).contains i && Region.free .any all ls i && Y7 all pl (ls.setIfInBounds i true)
 | (i,false)::pl,ls=>Region.ready .any all ls == [i] && Y7 all pl (ls.setIfInBounds i true)
def qU (all:xz)(pl:xo):Bool:=Region.noSelect all.toArray && pl.length == all.length && Y7 all.toArray pl (oP all.length false)
def QR:xz->Nat->Oper
 | [],_=>default
 | o::_,0=>o
 | _::l,i+1=>QR l i
theorem ZD {l:xz}{o:Oper}(h:l[i]?=some o):QR l i=o:=by
 induction l generalizing i with
 | nil=>simp at h
 | cons a l ih=>cases i with
  | zero=>simp at h;subst h;rfl
  | succ i=>exact ih (ou h)
def XP (P:O0)(all:xz)(C:xu)(K:Fr->OX->Prop):xo->Fr->OX->Prop
 | [],f,w=>K f w
 | (i,q)::pl,f,w=>bif Z3 all f (QR all i)then
    (bif q then ∃v,(∀w',(yc (QR all i)=true->C w')->(execOp (ev f) (QR all i)).run P w'=.ok (.value v) w')/\XP P all C K pl (QO f (QR all i).dst v) w
     else XO P (QR all i) f w λE w'=>(KB all i=true\/w'=w\/C w')/\XP P all C K pl E w')
   else XP P all C K pl (QO f (QR all i).dst undef) w
def QbU (all:xz)(ls:Array Bool):Prop:=∀i o,all[i]?=some o->yc o=true->ls.getD i false=true
theorem QbU.set {ls:Array Bool}(h:QbU all ls)(i:Nat):QbU all (ls.setIfInBounds i true):=λj o E G=>getD_set_true (h j o E G)
theorem Yi (U:Region.noSelect all.toArray=true):∀(pl:xo) (ls:Array Bool) (f:Fr) (w:OX),ls.size=all.length->(C w\/QbU all ls)->Y7 all.toArray pl ls=true->XP P all C K pl f w ->
  XA P all C K pl.length ls f w
 | [],ls,f,w,_,_,I,h=>⟨by simpa[Y7]using I,h⟩
 | (i,true)::pl,ls,f,w,V,hC,I,h=>by
  simp only[Y7,oI]at I;obtain⟨⟨S,hf⟩,Y⟩:=I;simp only[XP]at h;have T:i∈Region.ready .any all.toArray ls:=by simpa using S
  cases E:all[i]? with
  | none =>
   exfalso;obtain⟨_,o,h3,_⟩:=mem_ready.1 T;simp[E]at h3
  | some o =>
   rw[ZD E]at h;have hq:∀(j:Nat) (o:Oper) cs b,all[j]?=some o->o.op≠.select cs b:=λj o cs b hj=>Region.noSelect_spec U j o cs b (ou hj);have ht:=λj oj hj=>Region.free_spec (ops:=all.toArray) (md:=.any) (i:=i) (oi:=o) (listed:=ls) (ou E) hf j oj (ou hj);have hu:=(mem_ready.1 T).1;have hw:yc o=true->C w:=λhh=>hC.resolve_right (λhm=>by
    have G:=hm i o E hh;have hn:i<ls.size:=by rw[V];exact(Mc.1 E).1
    simp[hn]at hu G;rw[hu]at G;cases G)
   have hy:C w\/QbU all (ls.setIfInBounds i true):=hC.imp id (λh=>h.set i);have ha:(ls.setIfInBounds i true).size=all.length:=by simpa using V
   cases J:Z3 all f o with
   | false =>
    rw[J]at h;exact JW (v:=undef) (D:=λw=>yc o=true->C w) E (λ_ h=>h) hq pl.length ls f w hw ht T (.inr ⟨J,O⟩) (Yi U pl _ _ _ ha hy Y h)
   | true =>
    rw[J]at h;simp only[cond_true]at h;obtain⟨v,hv,hx⟩:=h;exact JW (v:=v) (D:=λw=>yc o=true->C w) E (λ_ h=>h) hq pl.length ls f w hw ht T (.inl ⟨J,hv⟩) (Yi U pl _ _ _ ha hy Y hx)
 | (i,false)::pl,ls,f,w,V,hC,I,h=>by
  simp only[Y7,oI,beq_iff_eq]at I;obtain⟨S,Y⟩:=I;refine⟨λh0=>(by rw[h0]at S;cases S),?_⟩;have T:i∈Region.ready .any all.toArray ls:=by rw[S];simp
  rw[S];intro j hj o E;have:j=i:=by simpa using hj
  subst this;have ha:(ls.setIfInBounds j true).size=all.length:=by simpa using V
  simp only[XP,ZD E]at h;cases J:Z3 all f o with
  | false=>rw[J]at h;exact Yi U pl _ _ _ ha (hC.imp id (λh=>h.set j)) Y h
  | true =>
   rw[J]at h;simp only[cond_true,cond_false]at h ⊢;refine h.Y λv w' hx=>⟨hx.1,Yi U pl _ _ _ ha ?_ Y hx.2⟩;rcases hx.1 with hl|rfl|hc
   ·right;intro k ok hk hh;by_cases hz:k=j
    ·subst hz;have hn:k<ls.size:=by rw[V];exact(Mc.1 hk).1
     simp[hn]
    simp only[KB,E,Og,List.mem_range]at hl;have G:=hl k (Mc.1 hk).1;simp only[hk,hh,Bool.not_true,Bool.false_or,Bool.or_eq_true,beq_iff_eq,Array.any_eq_true',oI]at G;rcases G with G|⟨e,he,hb,h4⟩
    ·exact OS G hz
    obtain⟨_,o',h2,hm⟩:=mem_ready.1 T;have:o'=o:=by rw[Ma,E]at h2;exact(Option.some.inj h2).symm
    subst this;have:=hm e he hb;rw[h4]at this;exact getD_set_true this
   ·exact hC.imp id (λh=>h.set j)
   exact .inl hc
theorem Vq {Q:Exit->Fr->OX->Prop}(C:xu)(pl:xo)(J:P.follows .mixedOrders=true)(S:Xf n all=true)(G:qU all pl=true)
  (hC:C { w with drawn:=w.drawn+1 }) (h:XP P all C (λf w=>Q .normal f w) pl f { w with drawn:=w.drawn+1 }):W P n (.region id all.toArray true) Q f w:=by
 intro a T;simp only[qU,oI,beq_iff_eq]at G;obtain⟨⟨U,V⟩,G⟩:=G;refine wp_region_any J ?_;have I:=Yi U pl _ _ _ od (.inl hC) G h;rw[V]at I;have Y:=QeF (n:=n) (Q:=λe a' w'=>∃E,Rel n a' E/\(∀t,Ye all t=false->E t=f t)/\Q e E w') (Xq S) f
  (λa E w hr hk hq=>⟨E,hr,hk,hq⟩) _ _ a f _ T (λ_ _=>O) I
 simpa[wrs]using Y
theorem Jj {Q:Exit->Fr->OX->Prop}(C:xu)(G:P.follows .mixedOrders=true)(I:Xf n all=true)
  (h:XA P all C (λf w=>Q .normal f w) all.length (oP all.length false) f { w with drawn:=w.drawn+1 }):W P n (.region id all.toArray true) Q f w:=by
 intro a J;refine wp_region_any G ?_;have S:=QeF (n:=n) (Q:=λe T w'=>∃E,Rel n T E/\(∀t,Ye all t=false->E t=f t)/\Q e E w') (Xq I) f
  (λa E w U V Y=>⟨E,U,V,Y⟩) _ _ a f _ J (λ_ _=>O) h
 simpa[wrs]using S
end
theorem JC {all:xz}{C:xu}{K:Fr->OX->Prop}{k:Nat}{ls:Array Bool}{f:Fr}(E:Region.ready .any all.toArray ls=[]->K f w)
  (h:∀i∈Region.ready .any all.toArray ls,∀o,all[i]?=some o ->
   bif Z3 all f o then XO P o f w (λG w'=>(KB all i=true\/w'=w\/C w')/\XA P all C K k (ls.setIfInBounds i true) G w')else XA P all C K k (ls.setIfInBounds i true) (QO f o.dst undef) w):XA P all C K (k+1) ls f w:=⟨E,h⟩
attribute [irreducible] W XL XP XO XA
theorem sX {α:Type}{x:Option α}{f:α->Bool}(h:x.map f=some true):∃d,x=some d/\f d=true:=by cases x with |none=>cases h |some d=>exact⟨d,rfl,Option.some.inj h⟩
class Sl (P:O0)(t:Nat)(e sz bys:outParam Nat)(z:outParam OY):Prop where
 u:P.underlying t=some (.slice e):=by first|kernel_rfl|decide|rfl|exact sX (by kernel_rfl)
 i:(P.info? e).map (λi=>(i.zero,i.size,i.bytes))=some (some z,sz,bys):=by first|kernel_rfl|decide|rfl|exact sX (by kernel_rfl)
 zs:z.cells.size=sz:=by first|kernel_rfl|decide|rfl|exact sX (by kernel_rfl)
 pos:0<sz:=by first|kernel_rfl|decide|rfl|exact sX (by kernel_rfl)
def QoM (P:O0)(t j:Nat):xA:=match P.underlying t with
 | some (.struct fs)=>match fs[j]? with
  | some fd=>match P.info? fd.type with
   | some i=>if i.size=0 then none else some fd.offset
   | none=>none
  | none=>none
 | _=>none
class Zc (P:O0)(t j:Nat)(off:outParam Nat):Prop where
 h:QoM P t j=some off:=by first|kernel_rfl|decide|rfl|exact sX (by kernel_rfl)
class Xt (P:O0)(t:Nat):Prop where
 u:∃d,P.underlying t=some d/\(match d with| .struct _| .array ..=>false|_=>true)=true:=by first|kernel_rfl|decide|rfl|exact sX (by kernel_rfl)
 i:(P.info? t).map (·.size)=some 1:=by first|kernel_rfl|decide|rfl|exact sX (by kernel_rfl)
class Ag (P:O0)(t:Nat)(sz:outParam Nat):Prop where
 u:∃d,P.underlying t=some d/\(match d with| .struct _| .array ..=>true|_=>false)=true:=by first|kernel_rfl|decide|rfl|exact sX (by kernel_rfl)
 i:(P.info? t).map (·.size)=some sz:=by first|kernel_rfl|decide|rfl|exact sX (by kernel_rfl)
class Ze (P:O0)(t:Nat)(z:outParam OY):Prop where
 i:(P.info? t).map (·.zero)=some (some z):=by first|kernel_rfl|decide|rfl|exact sX (by kernel_rfl)
class Fu (P:O0)(g:Nat)(fn:outParam Func):Prop where
 f:P.funcs[g]?=some fn
 b:fn.body.isNone=false
 nm:(fn.name == "runtime.NumGoroutine")=false
section
variable {K:Fr->OX->Prop}{f:Fr}
theorem xe (h:K f w):XL P ops K [] f w:=by simp only[XL];exact h
theorem xl {o:Oper}{l:xz}(E:Z3 ops f o=true)(h:XO P o f w (XL P ops K l)):XL P ops K (o::l) f w:=by
 simp only[XL,E,cond_true];exact h
theorem xs {o:Oper}{l:xz}(E:Z3 ops f o=false)(h:XL P ops K l (QO f o.dst undef) w):XL P ops K (o::l) f w:=by
 simp only[XL,E,cond_false];exact h
theorem xv {o:Oper}{v:OY}(E:(execOp (ev f) o).run P w=.ok (.value v) w')(h:K (QO f o.dst v) w'):XO P o f w K:=by
 simp only[XO,E,upF];exact h
theorem xk {o:Oper}(E:(execOp (ev f) o).run P w=.ok .skip w')(h:K (QO f o.dst undef) w'):XO P o f w K:=by
 simp only[XO,E,upF];exact h
theorem x {o:Oper}{l:xz}{v:OY}(E:(execOp (ev f) o).run P w=.ok (.value v) w)(h:XL P ops K l (QO f o.dst v) w)(G:Z3 ops f o=true:=by rfl):XL P ops K (o::l) f w :=
 xl G (xv E h)
theorem xb {o:Oper}{l:xz}[Decidable q](E:(execOp (ev f) o).run P w=.ok (.value (.bool (decide q))) w)(I:q->XL P ops K l (QO f o.dst (.bool true)) w)(J:¬q->XL P ops K l (QO f o.dst (.bool false)) w)
  (G:Z3 ops f o=true:=by rfl):XL P ops K (o::l) f w:=by
 by_cases h:q
 ·rw[OT h]at E;exact x E (I h) G
 rw[OV h]at E;exact x E (J h) G
variable {C:xu}
theorem pe (h:K f w):XP P ops C K [] f w:=by simp only[XP];exact h
theorem pq {pl:xo}{v:OY}(E:∀w',C w'->(execOp (ev f) (QR ops i)).run P w'=.ok (.value v) w')(h:XP P ops C K pl (QO f (QR ops i).dst v) w)
  (hd:yc (QR ops i)=true:=by rfl) (G:Z3 ops f (QR ops i)=true:=by rfl):XP P ops C K ((i,true)::pl) f w:=by
 simp only[XP,G,cond_true];exact⟨v,λw' I=>E w' (I hd),h⟩
theorem p {pl:xo}{v:OY}(E:∀w',(execOp (ev f) (QR ops i)).run P w'=.ok (.value v) w')(h:XP P ops C K pl (QO f (QR ops i).dst v) w)
  (G:Z3 ops f (QR ops i)=true:=by rfl):XP P ops C K ((i,true)::pl) f w:=by
 simp only[XP,G,cond_true];exact⟨v,λw' _=>E w',h⟩
theorem ps {q:Bool}{pl:xo}(h:XP P ops C K pl (QO f (QR ops i).dst undef) w)
  (E:Z3 ops f (QR ops i)=false:=by rfl):XP P ops C K ((i,q)::pl) f w:=by
 simp only[XP,E,cond_false];exact h
theorem pb {pl:xo}[Decidable q](E:∀w',(execOp (ev f) (QR ops i)).run P w'=.ok (.value (.bool (decide q))) w')(I:q->XP P ops C K pl (QO f (QR ops i).dst (.bool true)) w)(J:¬q->XP P ops C K pl (QO f (QR ops i).dst (.bool false)) w)
  (G:Z3 ops f (QR ops i)=true:=by rfl):XP P ops C K ((i,true)::pl) f w:=by
 by_cases h:q
 ·rw[OT h]at E;exact p E (I h) G
 rw[OV h]at E;exact p E (J h) G
theorem pk {pl:xo}(h:XO P (QR ops i) f w λE w'=>C w'/\XP P ops C K pl E w')
  (G:Z3 ops f (QR ops i)=true:=by rfl):XP P ops C K ((i,false)::pl) f w:=by
 simp only[XP,G,cond_true,cond_false];exact h.Y λ_ _ hx=>⟨.inr (.inr hx.1),hx.2⟩
theorem pkl {pl:xo}(h:XO P (QR ops i) f w λE w'=>XP P ops C K pl E w')
  (G:KB ops i=true:=by rfl) (I:Z3 ops f (QR ops i)=true:=by rfl):XP P ops C K ((i,false)::pl) f w:=by
 simp only[XP,I,cond_true,cond_false];exact h.Y λ_ _ hx=>⟨.inl G,hx⟩
end
section
variable {f:Fr}
theorem Um {x:OZ}:(execOp (ev f) ⟨d,.move x,ty,pS,af,gd⟩).run P w=.ok (.value (ev f x)) w:=by simp[execOp]
theorem Qd {x:OZ}:(execOp (ev f) ⟨d,.assign x,ty,pS,af,gd⟩).run P w=.ok (.value (ev f x)) w:=by simp[execOp]
theorem Ul {c a b:OZ}{t:Bool}(h:ev f c=.bool t):(execOp (ev f) ⟨d,.pick c a b,ty,pS,af,gd⟩).run P w=.ok (.value (bif t then ev f a else ev f b)) w:=by
 cases t <;> simp[execOp,h,asBool]
theorem QZ {x:OZ}{vs:LV}{v:OY}(h:ev f x=.tuple vs.toArray)(E:vs[j]?=some v):(execOp (ev f) ⟨d,.extract x j,ty,pS,af,gd⟩).run P w=.ok (.value v) w:=by
 simp[execOp,h,Instr.extract,E]
theorem Qbt {op:BinOp}{t:TypeId}{x:OZ}{k:IntKind}{a b:Int}:(eqGuard op t x y (.int k a) (.int k' b)).run P w=.ok () w:=by
 simp only[eqGuard];split <;> simp
theorem JM {op:BinOp}{x:OZ}{k:IntKind}{a b:Int}{v:OY}(hx:ev f x=.int k a)(G:ev f y=.int k' b)
  (h:(binOp op t (.int k a) (.int k' b)).run P w=.ok v w):(execOp (ev f) ⟨d,.binOp op t x y E,ty,pS,af,gd⟩).run P w=.ok (.value v) w:=by
 simp[execOp,hx,G,Qbt,h]
def inK (k:IntKind)(n:Int):Prop:=match k with
 | .i64=>-9223372036854775808<=n/\n<=9223372036854775807
 | .u8=>0<=n/\n<=255
 | .u16=>0<=n/\n<=65535
 | .u32=>0<=n/\n<=4294967295
 | .u64=>0<=n/\n<=18446744073709551615
 | .i32=>-2147483648<=n/\n<=2147483647
 | _=>False
theorem Xu {k:IntKind}{n:Int}(h:inK k n):k.wrap n=n:=by
 cases k <;> simp only[inK]at h <;> simp only[IntKind.wrap,IntKind.bits,IntKind.signed] <;> first|exact h.elim|(simp;omega)
theorem YE {x:OZ}{k:IntKind}{a b:Int}(hx:ev f x=.int k a)(G:ev f y=.int k b)(h:inK k (a+b)):
  (execOp (ev f) ⟨d,.binOp .add t x y E,ty,pS,af,gd⟩).run P w=.ok (.value (.int k (a+b))) w:=JM hx G (by simp[binOp,Op.intArith,Xu h])
theorem X9 {x:OZ}{k:IntKind}{a b:Int}(hx:ev f x=.int k a)(G:ev f y=.int k b)(h:inK k (a - b)):
  (execOp (ev f) ⟨d,.binOp .sub t x y E,ty,pS,af,gd⟩).run P w=.ok (.value (.int k (a - b))) w:=JM hx G (by simp[binOp,Op.intArith,Xu h])
theorem QgJ {x:OZ}{k:IntKind}{a b:Int}(hx:ev f x=.int k a)(G:ev f y=.int k b)(h:inK k (a*b)):
  (execOp (ev f) ⟨d,.binOp .mul t x y E,ty,pS,af,gd⟩).run P w=.ok (.value (.int k (a*b))) w:=JM hx G (by simp[binOp,Op.intArith,Xu h])
theorem Yw {x:OZ}{k:IntKind}{a b:Int}(hx:ev f x=.int k a)(G:ev f y=.int k b):
  (execOp (ev f) ⟨d,.binOp .lss t x y E,ty,pS,af,gd⟩).run P w=.ok (.value (.bool (decide (a<b)))) w:=JM hx G (by simp[binOp,Op.intCmp])
theorem Ja {x:OZ}{k:IntKind}{a b:Int}(hx:ev f x=.int k a)(G:ev f y=.int k b):
  (execOp (ev f) ⟨d,.binOp .leq t x y E,ty,pS,af,gd⟩).run P w=.ok (.value (.bool (decide (a<=b)))) w:=JM hx G (by simp[binOp,Op.intCmp])
theorem Z2 {x:OZ}{k:IntKind}{a b:Int}(hx:ev f x=.int k a)(G:ev f y=.int k b):
  (execOp (ev f) ⟨d,.binOp .gtr t x y E,ty,pS,af,gd⟩).run P w=.ok (.value (.bool (decide (b<a)))) w:=JM hx G (by simp[binOp,Op.intCmp])
theorem Yd {x:OZ}{k:IntKind}{a b:Int}(hx:ev f x=.int k a)(G:ev f y=.int k b):
  (execOp (ev f) ⟨d,.binOp .geq t x y E,ty,pS,af,gd⟩).run P w=.ok (.value (.bool (decide (b<=a)))) w:=JM hx G (by simp[binOp,Op.intCmp])
theorem Q6 {x:OZ}{k:IntKind}{a b:Int}(hx:ev f x=.int k a)(G:ev f y=.int k b):
  (execOp (ev f) ⟨d,.binOp .eql t x y E,ty,pS,af,gd⟩).run P w=.ok (.value (.bool (decide (a=b)))) w :=
 JM hx G (by simp[binOp,Op.intCmp];by_cases h:a=b <;> simp[h])
theorem Kw {x:OZ}{k:IntKind}{a b:Int}(hx:ev f x=.int k a)(G:ev f y=.int k b):
  (execOp (ev f) ⟨d,.binOp .neq t x y E,ty,pS,af,gd⟩).run P w=.ok (.value (.bool (decide (¬a=b)))) w :=
 JM hx G (by simp[binOp,Op.intCmp];by_cases h:a=b <;> simp[h])
theorem Zh {x:OZ}{b:Bool}(hx:ev f x=.bool b):(execOp (ev f) ⟨d,.unOp .not t x,ty,pS,af,gd⟩).run P w=.ok (.value (.bool (!b))) w:=by
 simp[execOp,hx,Op.unary]
theorem qS {x:OZ}{e bys:Nat}[h:Sl P t e sz bys z]{a:Option Addr}{c:Nat}(hx:ev f x=.slice a n c):
  (execOp (ev f) ⟨d,.call ⟨.builtin .len,#[x],#[t]⟩,ty,pS,af,gd⟩).run P w=.ok (.value (sS n)) w:=by
 simp[execOp,resolve,invoke,builtin,Builtin.len_,hx,run_underlying h.u,goInt]
theorem Sl.info {e bys:Nat}(h:Sl P t e sz bys z):∃i,P.info? e=some i/\i.zero=some z/\i.size=sz/\i.bytes=bys:=by
 have:=h.i;cases hi:P.info? e with
 | none=>simp[hi]at this
 | some i=>simp[hi]at this;exact⟨i,O,this.1,this.2.1,this.2.2⟩
theorem Xw {x:OZ}{e bys:Nat}[h:Sl P t e sz bys z]{a:Addr}{c:Nat}{k:IntKind}{i:Int}(hx:ev f x=.slice (some a) n c)(E:ev f y=.int k i)(G:0<=i)(I:i<n):
  (execOp (ev f) ⟨d,.indexAddr t x y,ty,pS,af,gd⟩).run P w=.ok (.value (.pointer (some (a.add (i.toNat*sz))))) w:=by
 obtain⟨ii,hi,_,J,_⟩:=Sl.info h;simp[execOp,hx,E,Instr.indexAt,asIntOf,run_underlying h.u,G,I,sizeOf,typeInfo,hi,J]
theorem yQ [h:Xt P t]:(isAgg t).run P w=.ok false w:=by
 obtain⟨d,E,hd⟩:=h.u;unfold isAgg;cases d <;> simp at hd <;> simp[run_underlying E]
theorem QhN [h:Ag P t sz]:(isAgg t).run P w=.ok true w:=by
 obtain⟨d,E,hd⟩:=h.u;unfold isAgg;cases d <;> simp at hd <;> simp[run_underlying E]
theorem Y6 [h:Xt P t]{a:Addr}{v:OY}(E:w.cell? a=some v):(loadVar t a).run P w=.ok v w:=by
 simp[loadVar,yQ,E]
theorem qJ [h:Xt P t]:(sizeOf t).run P w=.ok 1 w:=by
 have:=h.i;cases hi:P.info? t with
 | none=>simp[hi]at this
 | some i=>simp[hi]at this;simp[sizeOf,typeInfo,hi,this]
theorem Uh [h:Ag P t sz]:(sizeOf t).run P w=.ok sz w:=by
 have:=h.i;cases hi:P.info? t with
 | none=>simp[hi]at this
 | some i=>simp[hi]at this;simp[sizeOf,typeInfo,hi,this]
theorem Jv {a:Addr}:∀(vs:LV) (i:Nat) (acc:Array OY),(∀j v,vs[j]?=some v->w.cell? (a.add (i+j))=some v)->(loadCellsFrom a i vs.length acc).run P w=.ok (acc++vs.toArray) w
 | [],_,acc,_=>by simp[loadCellsFrom]
 | v::vs,i,acc,h=>by
  have E:=h 0 v O;simp only[Oo]at E;simp[loadCellsFrom,E,(Jv vs (i+1) (acc.push v) (λj u G=>by have:=h (j+1) u (ou G);simpa[Nat.add_assoc,Nat.add_comm 1 j]using this))]
theorem ZB [h:Ag P t sz]{a:Addr}{vs:LV}(E:vs.length=sz)(G:∀j v,vs[j]?=some v->w.cell? (a.add j)=some v):(loadVar t a).run P w=.ok (sT vs) w:=by
 have:=Jv (P:=P) (w:=w) (a:=a) vs 0 #[] (ou G);subst E;simp[loadVar,QhN,Uh (sz:=vs.length),loadCells,this]
theorem QgK [h:Xt P t]{x:OZ}{a:Addr}{v:OY}(hx:ev f x=.pointer (some a))(E:w.cell? a=some v):
  (execOp (ev f) ⟨d,.load t x,ty,pS,af,gd⟩).run P w=.ok (.value v) w:=by
 simp[execOp,hx,Instr.loadAt,Instr.sureAddr,Y6 E]
theorem qk [h:Ag P t sz]{x:OZ}{a:Addr}{vs:LV}(hx:ev f x=.pointer (some a))(E:vs.length=sz)(G:∀j v,vs[j]?=some v->w.cell? (a.add j)=some v):
  (execOp (ev f) ⟨d,.load t x,ty,pS,af,gd⟩).run P w=.ok (.value (sT vs)) w:=by
 simp[execOp,hx,Instr.loadAt,Instr.sureAddr,ZB E G]
theorem ZN [h:Zc P t j off]{x:OZ}{a:Addr}(hx:ev f x=.pointer (some a)):
  (execOp (ev f) ⟨d,.fieldAddr t x j,ty,pS,af,gd⟩).run P w=.ok (.value (.pointer (some (a.add off)))) w:=by
 have E:=h.h;unfold QoM at E;cases I:P.underlying t with
 | none=>simp[I]at E
 | some dd =>
  cases dd <;> simp[I]at E
  rename_i fs;cases G:fs[j]? with
  | none=>simp[G]at E
  | some fd =>
   cases hi:P.info? fd.type with
   | none=>simp[G,hi]at E
   | some i =>
    simp[G,hi]at E;simp[execOp,hx,Instr.fieldAt,run_underlying I,G,Instr.sureAddr,fieldPlace,sizeOf,typeInfo,hi,E]
theorem Vf {x:OZ}{a:Addr}(hx:ev f x=.pointer (some a)):(execOp (ev f) ⟨d,.nilCheck x,ty,pS,af,gd⟩).run P w=.ok (.value (.pointer (some a))) w:=by
 simp[execOp,hx]
theorem Zl {fn:Fn}{l l':List OZ}:(execOp (ev f) ⟨d,.makeFunc fn l.toArray l'.toArray,ty,pS,af,gd⟩).run P w=.ok (.value (.func fn (l.map (ev f)).toArray (l'.map (ev f)).toArray)) w:=by
 simp[execOp,Instr.makeFunc]
end
def QT (P:O0)(g:Nat)(args:LV)(w:OX)(R:OY->OX->Prop):Prop :=
 Calls P g args.toArray w λe w'=>match e with| .returned v=>R v w'|_=>False
theorem QT.Y {P:O0}{g:Nat}{args:LV}{w:OX}{R R':OY->OX->Prop}(h:QT P g args w R)(G:∀v w',R v w'->R' v w'):QT P g args w R' :=
 Calls.mono h λe w' E=>by cases e <;> first|exact G _ _ E|exact E
theorem xc {f:Fr}{K:Fr->OX->Prop}{x:OZ}{l:List OZ}
    {first capt:LV} [hF:Fu P g fn] (hx:ev f x=.func (.func g) first.toArray capt.toArray) (h:QT P g (first++l.map (ev f)++capt) w λv w'=>K (QO f d v) w'):
  XO P ⟨d,.call ⟨.value x,l.toArray,at_⟩,ty,pS,af,gd⟩ f w K:=by
 have E:(execOp (ev f) ⟨d,.call ⟨.value x,l.toArray,at_⟩,ty,pS,af,gd⟩).run P w=.ok (.enter g (first++l.map (ev f)++capt).toArray) w:=by
  have G:¬fn.name = "runtime.NumGoroutine" := by simpa using hF.nm
  have I:¬fn.body=none:=by have:=hF.b;intro e;rw[e]at this;cases this
  simp[execOp,resolve,hx,Deferred.ofValue,invoke,callFunc,hF.f,G,I]
 simp only[XO,E,upF];exact h
theorem xf {f:Fr}{K:Fr->OX->Prop}{l:List OZ}
    [hF:Fu P g fn] (h:QT P g (l.map (ev f)) w λv w'=>K (QO f d v) w'):
  XO P ⟨d,.call ⟨.value (.func g),l.toArray,at_⟩,ty,pS,af,gd⟩ f w K :=
 xc (first:=[]) (capt:=[]) (g:=g) (fn:=fn) O (ou h)
def ent:LV->Fr
 | [],_=>undef
 | v::_,0=>v
 | _::l,t+1=>ent l t
def V8 (P:O0)(f:Fr)(w:OX):List ResultVar->LV->Prop
 | [],[]=>True
 | .tmp t::rs,v::vs=>f t=v/\V8 P f w rs vs
 | .cell a t::rs,v::vs=>(∃ad,f a=.pointer (some ad)/\(loadVar t ad).run P w=.ok v w)/\V8 P f w rs vs
 | _,_=>False
def tup:LV->OY
 | [v]=>v
 | vs=>.tuple vs.toArray
def rq (P:O0)(rs:List ResultVar)(R:OY->OX->Prop):Exit->Fr->OX->Prop
 | .ret,f,w=>∃vs,V8 P f w rs vs/\R (tup vs) w
 | .normal,f,w=>∃vs,V8 P f w rs vs/\R (tup vs) w
 | _,_,_=>False
theorem Ju {P:O0}{n:Nat}{a:Act}{f:Fr}{w:OX}(G:Rel n a f)(g:ResultVar->Sem OY)(g1:∀t,g (.tmp t)=pure (a.tmps.getD t undef))
  (I:∀ad t,g (.cell ad t)=(do loadVar t (<-asAddr (a.tmps.getD ad undef)))):∀(rs:List ResultVar) (vs:LV),V8 P f w rs vs->(rs.mapM g).run P w=.ok vs w
 | [],[],_=>od
 | [],_::_,h=>h.elim
 | .tmp t::rs,[],h=>h.elim
 | .cell _ _::rs,[],h=>h.elim
 | .tmp t::rs,v::vs,h=>by
  have ih:=Ju G g g1 I rs vs h.2;have E:=G.get t;rw[h.1]at E;simp only[List.mapM_cons,Sem.run_bind,Sem.run_pure,Result.andThen_ok,ih,E,g1]
 | .cell ad t::rs,v::vs,h=>by
  have ih:=Ju G g g1 I rs vs h.2;obtain⟨⟨J,S,T⟩,_⟩:=h;have E:=G.get ad;rw[S]at E;have U:(asAddr (.pointer (some J))).run P w=.ok J w:=rfl;simp only[List.mapM_cons,Sem.run_bind,I,E,U,Sem.run_pure,Result.andThen_ok,T,ih]
theorem QT.of_W {c:Code}{args:LV}{R:OY->OX->Prop}{rs:List ResultVar}
  (S:P.funcs[g]?=some fn) (hb:fn.body=some c) (T:fn.ntmps=n) (U:fn.results=rs.toArray) (hl:args.length<=n)
  (h:W P n c (rq P rs R) (ent args) w):QT P g args w R:=by
 unfold W at h;refine calls_of_wp S hb (wp_mono (h _ ?_) ?_)
 ·refine⟨by simp[T];omega,O,λt=>?_⟩;have key:∀(l:LV) (t:Nat),l[t]?.getD undef=ent l t:=by
   intro l;induction l with
   | nil=>intro t;rfl
   | cons v l ih=>intro t;cases t with|zero=>rfl|succ t=>simpa[ent]using ih t
  rw[<-key];simp only[Array.getD_eq_getD_getElem?,Array.getElem?_append,Oc,oS];by_cases G:t<args.length
  ·simp[G]
  simp[G,Array.getElem?_replicate];split <;> rfl
 rintro e I w' ⟨V,J,_,E⟩;have fin:(∃vs,V8 P V w' rs vs/\R (tup vs) w')->I.defers=[]/\∃v,(results fn I.tmps).run P w'=.ok v w'/\R v w':=by
  rintro⟨vs,Y,hR⟩;refine⟨J.defers,tup vs,?_,hR⟩;simp only[results,U,List.mapM_toArray,Sem.run_bind,Sem.run_map];rw[Ju J _ (λ_=>rfl) (λ_ _=>rfl) rs vs Y];cases vs with
  | nil=>rfl
  | cons v vs=>cases vs with|nil=>rfl|cons u us=>rfl
 cases e with
 | normal=>exact fin E
 | ret=>exact fin E
 | exit id=>exact E.elim
 | goto l=>exact E.elim
 | panic c=>exact E.elim
 | outgrown=>exact E.elim
attribute [irreducible] QT
theorem XJ (f:P.funcs[g]?=some fn)(b:fn.body.isNone=false:=by kernel_rfl)(nm:(fn.name == "runtime.NumGoroutine")=false:=by kernel_rfl):Fu P g fn:=⟨f,b,nm⟩
theorem Qc {f:Fr}{Q:Exit->Fr->OX->Prop}{l:xz}{y:Code}(h:XL P l (λf w=>thn (λf w=>W P n y Q f w) Q .normal f w) l f w)(E:Xf n l=true:=by rfl):W P n (.seq (.region id l.toArray false) y) Q f w:=Qe (QbX E h)
theorem Qs {f:Fr}{Q:Exit->Fr->OX->Prop}{l:xz}(h:XL P l (λf w=>Q .normal f w) l f w)(E:Xf n l=true:=by rfl):W P n (.region id l.toArray false) Q f w:=QbX E h
section
variable {K:Fr->OX->Prop}{f:Fr}{l:xz}
theorem Qa (h:XL P ops K l (QO f d (ev f y)) w)(E:Z3 ops f ⟨d,.move y,ty,pS,af,gd⟩=true:=by rfl):XL P ops K (⟨d,.move y,ty,pS,af,gd⟩::l) f w:=x Um h E
theorem QC {I:Nat}{E G:OZ}{k:IntKind}{a b:Int}(hx:ev f E=.int k a)(J:ev f G=.int k b)(h:XL P ops K l (QO f d (.int k (a+b))) w)(S:inK k (a+b):=by exact⟨oa,oa⟩)
  (T:Z3 ops f ⟨d,.binOp .add t E G I,ty,pS,af,gd⟩=true:=by rfl):XL P ops K (⟨d,.binOp .add t E G I,ty,pS,af,gd⟩::l) f w:=x (YE hx J S) h T
theorem Qb (h:K (QO f d (ev f y)) w)(E:Z3 ops f ⟨d,.assign y,ty,pS,af,gd⟩=true:=by rfl):XL P ops K [⟨d,.assign y,ty,pS,af,gd⟩] f w:=x Qd (xe h) E
end
section
variable {C:xu}{K:Fr->OX->Prop}{f:Fr}{l:xz}
theorem Qo {o:Oper}(h:XO P o f w (XL P ops K l))(E:Z3 ops f o=true:=by rfl):XL P ops K (o::l) f w:=xl E h
theorem J0 {o:Oper}(h:XL P ops K l (QO f o.dst undef) w)(E:Z3 ops f o=false:=by rfl):XL P ops K (o::l) f w:=xs E h
theorem QL {E:OZ}{vs:LV}{v:OY}(G:ev f E=.tuple vs.toArray)(I:vs[j]?=some v)(h:XL P ops K l (QO f d v) w)(J:Z3 ops f ⟨d,.extract E j,ty,pS,af,gd⟩=true:=by rfl):XL P ops K (⟨d,.extract E j,ty,pS,af,gd⟩::l) f w:=x (QZ G I) h J
theorem QA {c a b:OZ}{t:Bool}(E:ev f c=.bool t)(h:XL P ops K l (QO f d (bif t then ev f a else ev f b)) w)(G:Z3 ops f ⟨d,.pick c a b,ty,pS,af,gd⟩=true:=by rfl):XL P ops K (⟨d,.pick c a b,ty,pS,af,gd⟩::l) f w:=x (Ul E) h G
theorem ZI {I:Nat}{E G:OZ}{k:IntKind}{a b:Int}(hx:ev f E=.int k a)(J:ev f G=.int k b)(h:XL P ops K l (QO f d (.bool (decide (¬a=b)))) w)(S:Z3 ops f ⟨d,.binOp .neq t E G I,ty,pS,af,gd⟩=true:=by rfl):XL P ops K (⟨d,.binOp .neq t E G I,ty,pS,af,gd⟩::l) f w:=x (Kw hx J) h S
theorem ZX {I:Nat}{E G:OZ}{k:IntKind}{a b:Int}(hx:ev f E=.int k a)(J:ev f G=.int k b)(h:XL P ops K l (QO f d (.bool (decide (a<b)))) w)(S:Z3 ops f ⟨d,.binOp .lss t E G I,ty,pS,af,gd⟩=true:=by rfl):XL P ops K (⟨d,.binOp .lss t E G I,ty,pS,af,gd⟩::l) f w:=x (Yw hx J) h S
theorem Z0 {E:OZ}{a:Addr}(hx:ev f E=.pointer (some a))(h:XL P ops K l (QO f d (.pointer (some a))) w)(G:Z3 ops f ⟨d,.nilCheck E,ty,pS,af,gd⟩=true:=by rfl):XL P ops K (⟨d,.nilCheck E,ty,pS,af,gd⟩::l) f w:=x (Vf hx) h G
theorem Zn {c:Code}{args:LV}{R:OY->OX->Prop}{rs:List ResultVar}(E:P.funcs[g]?=some fn)(h:W P n c (rq P rs R) (ent args) w)(hb:fn.body=some c:=by rfl)(G:fn.ntmps=n:=by rfl)(I:fn.results=rs.toArray:=by rfl)(J:Nat.ble args.length n=true:=by rfl):QT P g args w R:=QT.of_W E hb G I (LX J) h
def Y4:Nat->Nat->LN->List (Nat×Bool)
 | _,0,_=>[]
 | i,n+1,fs=>(i,!fs.contains i)::Y4 (i+1) n fs
def fuB (P:O0)(g:Nat):Bool:=match P.funcs[g]? with|some fn=>!fn.body.isNone && !(fn.name == "runtime.NumGoroutine")|none=>false
theorem fuE (h:fuB P g=true):∃fn,Fu P g fn:=by
 unfold fuB at h;split at h
 ·next fn E=>simp only[oI,Od]at h;exact⟨fn,E,h.1,h.2⟩
 cases h
theorem xg {f:Fr}{K:Fr->OX->Prop}{l:List OZ}(h:QT P g (l.map (ev f)) w λv w'=>K (QO f d v) w')(E:fuB P g=true:=by kernel_rfl):XO P ⟨d,.call ⟨.value (.func g),l.toArray,at_⟩,ty,pS,af,gd⟩ f w K:=(fuE E).elim λ_ _=>xf h
theorem Qw {l':List OZ}(h:QT P g (l'.map (ev f)) w λv w'=>XL P ops K l (QO f d v) w')(E:fuB P g=true:=by kernel_rfl)(G:Z3 ops f ⟨d,.call ⟨.value (.func g),l'.toArray,at_⟩,ty,pS,af,gd⟩=true:=by rfl):XL P ops K (⟨d,.call ⟨.value (.func g),l'.toArray,at_⟩,ty,pS,af,gd⟩::l) f w:=xl G (xg h E)
theorem Kr {l':List OZ}[Fu P g fn](h:QT P g (l'.map (ev f)) w λv w'=>XL P ops K l (QO f d v) w')(E:Z3 ops f ⟨d,.call ⟨.value (.func g),l'.toArray,at_⟩,ty,pS,af,gd⟩=true:=by rfl):XL P ops K (⟨d,.call ⟨.value (.func g),l'.toArray,at_⟩,ty,pS,af,gd⟩::l) f w:=xl E (xf h)
theorem Qy {E:OZ}:∀w',(execOp (ev f) ⟨d,.move E,ty,pS,af,gd⟩).run P w'=.ok (.value (ev f E)) w':=λ_=>Um
theorem ZK {E:OZ}:∀w',(execOp (ev f) ⟨d,.assign E,ty,pS,af,gd⟩).run P w'=.ok (.value (ev f E)) w':=λ_=>Qd
theorem YI {c a b:OZ}{t:Bool}(h:ev f c=.bool t):∀w',(execOp (ev f) ⟨d,.pick c a b,ty,pS,af,gd⟩).run P w'=.ok (.value (bif t then ev f a else ev f b)) w':=λ_=>Ul h
theorem YC {E:OZ}{a:Addr}(hx:ev f E=.pointer (some a)):∀w',(execOp (ev f) ⟨d,.nilCheck E,ty,pS,af,gd⟩).run P w'=.ok (.value (.pointer (some a))) w':=λ_=>Vf hx
theorem Ql {Q:Exit->Fr->OX->Prop}{c:Code}(h:XL P (⟨d,.move y,ty,pS,af,gd⟩::l) (λf w=>thn (λf w=>W P n c Q f w) Q .normal f w) l (QO f d (ev f y)) w)(E:Z3 (⟨d,.move y,ty,pS,af,gd⟩::l) f ⟨d,.move y,ty,pS,af,gd⟩=true:=by rfl)(G:Xf n (⟨d,.move y,ty,pS,af,gd⟩::l)=true:=by rfl):W P n (.seq (.region id (⟨d,.move y,ty,pS,af,gd⟩::l).toArray false) c) Q f w:=Qc (Qa h E) G
theorem Zi {Q:Exit->Fr->OX->Prop}{I:Nat}{E G:OZ}{k:IntKind}{a b:Int}{J S c3:Code}(hx:ev f E=.int k a)(T:ev f G=.int k b)(U:¬a<b->W P n S (thn (λf w=>W P n c3 Q f w) Q) (QO f (some j) (.bool (decide (a<b)))) w)(V:a<b->W P n J (thn (λf w=>W P n c3 Q f w) Q) (QO f (some j) (.bool (decide (a<b)))) w)(Y:Z3 [⟨some j,.binOp .lss t E G I,ty,pS,af,gd⟩] f ⟨some j,.binOp .lss t E G I,ty,pS,af,gd⟩=true:=by rfl)(hn:Xf n [⟨some j,.binOp .lss t E G I,ty,pS,af,gd⟩]=true:=by rfl):W P n (.seq (.region id #[⟨some j,.binOp .lss t E G I,ty,pS,af,gd⟩] false) (.seq (.cond (.tmp j) J S) c3)) Q f w:=Qc (ZX hx T (xe (Qe (Zp (by simp[ev,QO,upd]) U V))) Y) hn
theorem YD {o o2:Oper}(h:XL P ops K l (QO (QO f o.dst undef) o2.dst undef) w)(E:Z3 ops (QO f o.dst undef) o2=false:=by rfl)(G:Z3 ops f o=false:=by rfl):XL P ops K (o::o2::l) f w:=J0 (J0 h E) G
theorem Zy {o o2 o3:Oper}(h:XL P ops K l (QO (QO (QO f o.dst undef) o2.dst undef) o3.dst undef) w)(E:Z3 ops (QO (QO f o.dst undef) o2.dst undef) o3=false:=by rfl)(G:Z3 ops (QO f o.dst undef) o2=false:=by rfl)(I:Z3 ops f o=false:=by rfl):XL P ops K (o::o2::o3::l) f w:=J0 (YD h E G) I
theorem pkk {pl:xo}(h:XO P (QR ops i) f w λE w'=>XP P ops C K pl E w')(G:KB ops i=true:=by kernel_rfl)(I:Z3 ops f (QR ops i)=true:=by rfl):XP P ops C K ((i,false)::pl) f w:=pkl h G I
theorem QW {Q:Exit->Fr->OX->Prop}{c:Code}(D:xp)(S:α->List (Nat×OY))(I:α->OX->Prop)(m:α->Nat)(z:α)(E:YW f (S z))(hI:I z w)(round:∀x g w',I x w'->W P n c (thn (λG J=>∃x',m x'<m x/\YW G (S x')/\I x' J) (blk id Q)) (Vc (S x) (mix D f g)) w')(hD:wr D c=true:=by rfl):W P n (.block id (.loop c)) Q f w:=Qn (QnH D S I m hD z E hI round)
end
structure O1 (L:LN)(w w':OX):Prop where
 os:w'.os=w.os
 tape:w'.tape=w.tape
 output:w'.output=w.output
 size:w.heap.size<=↑w'
 block:∀k,k<↑w->k∉L->w'.heap[k]?=w.heap[k]?
abbrev sW (w w':World):Prop:=O1 [] w w'
theorem O1.Z (L:LN)(w:OX):O1 L w w:=⟨O,O,O,Lp _,λ_ _ _=>O⟩
theorem O1.C (L:LN)(w:OX):O1 L w { w with drawn:=w.drawn+1 }:=⟨O,O,O,Lp _,λ_ _ _=>O⟩
theorem O1.Y {L L':LN}(h:O1 L w w')(E:∀b∈L,b∈L'):O1 L' w w' :=
 ⟨h.os,h.tape,h.output,h.size,λk G I=>h.block k G (λJ=>I (E k J))⟩
theorem O1.any {L:LN}(h:sW w w'):O1 L w w':=h.Y (λ_ hb=>by cases hb)
theorem O1.S {L L':LN}{E:OX}(h:O1 L E w)(k:O1 L' w w')(J:∀b∈L',b∈L\/↑E<=b):O1 L E w' :=
 ⟨k.os.D h.os,k.tape.D h.tape,k.output.D h.output,Lx h.size k.size,λi hi G =>
  (k.block i (LP hi h.size) (λS=>by rcases J i S with I|I;exact G I;omega)).D (h.block i hi G)⟩
theorem O1.D {L:LN}{E:OX}(h:O1 L E w)(k:sW w w'):O1 L E w':=h.S k (λ_ hb=>by cases hb)
theorem O1.Q {L:LN}{E:OX}(h:O1 L E w)(k:O1 L w w'):O1 L E w':=h.S k (λ_ hb=>.inl hb)
theorem O1.below (h:sW w w'):Below ↑w w w':=⟨h.os,h.tape,h.output,h.size,λk E=>h.block k E od⟩
theorem O1.of_below (h:Below ↑w w w'):sW w w':=⟨h.os,h.tape,h.output,h.size,λk E _=>h.block k E⟩
theorem O1.of_grown {row:xA}(h:w.grownBy w' row):O1 row.toList w w' :=
 ⟨h.os,h.tape,h.output,h.size,λk E G=>h.block k E (λe=>G (by simp[<-e]))⟩
theorem Qal (w:OX)(o:Obj)(k:Nat)(h:k<↑w):(w.alloc o).heap[k]?=w.heap[k]?:=by
 show(w.heap.push o)[k]?=_;rw[Array.getElem?_push,OP oa]
theorem KI (w:OX)(o:Obj):(w.alloc o).heap[w.heap.size]?=some o:=by
 show(w.heap.push o)[w.heap.size]?=_;simp
theorem qy (w:OX)(o:Obj):(w.alloc o).heap.size=w.heap.size+1:=by show(w.heap.push o).size=_;simp
theorem O1.alloc (w:OX)(o:Obj):sW w (w.alloc o):=⟨O,O,O,by rw[qy];omega,λk E _=>Qal w o k E⟩
theorem O1.setRow (w:OX)(g:Nat)(cs:Array OY):O1 [g] w (w.setRow g cs):=
 ⟨O,O,O,by simp[World.setRow],λk _ E=>setRow_other w g k cs (λe=>E (by simp[e]))⟩
def cel (H:xw)(a:Addr):Option OY:=match H[a.block]? with
 | some (.cells c _ _)=>if a.spot.isSome then none else c[a.off]?
 | _=>none
theorem X4 (w:OX)(a:Addr):w.cell? a=cel ↑w a:=rfl
structure At (L:LN)(H:xw)(a:Addr)(us:LV):Prop where
 out:∀u∈us,a.block∉L
 lt:∀u∈us,a.block<H.size
 cell:∀j u,us[j]?=some u->cel H (a.add j)=some u
theorem Ys (a:Addr)(j:Nat):(a.add j).block=a.block:=by unfold Addr.add;split <;> rfl
theorem QiM {L:LN}(h:O1 L w w'){a:Addr}(E:a.block∉L)(G:a.block<↑w):cel ↑w' a=cel ↑w a:=by
 unfold cel;rw[h.block _ G E]
theorem At.J {L X:LN}{a:Addr}{us:LV}(h:At L ↑w a us)(G:O1 X w w')(hX:∀b∈X,b∈L):At L ↑w' a us :=
 ⟨h.out,λu E=>LP (h.lt u E) G.size,λj u E=>by
  have I:=Me E;rw[QiM (L:=X) G (by rw[Ys];exact λhx=>h.out u I (hX _ hx)) (by rw[Ys];exact h.lt u I)];exact h.cell j u E⟩
theorem At.I {L:LN}{a:Addr}{us:LV}(h:At L ↑w a us)(E:sW w w'):At L ↑w' a us:=h.J E (λ_ hb=>by cases hb)
theorem At.st {L:LN}{a:Addr}{us:LV}(h:At L ↑w a us)(E:O1 L w w'):At L ↑w' a us:=h.J E (λ_ hb=>hb)
theorem At.one {L:LN}{a:Addr}{u:OY}(h:At L ↑w a [u]):w.cell? a=some u:=by
 have:=h.cell 0 u O;simp only[Addr.add,if_true]at this;exact this
theorem At.cells {L:LN}{a:Addr}{us:LV}(h:At L ↑w a us):∀j v,us[j]?=some v->w.cell? (a.add j)=some v:=h.cell
theorem Addr.add_add (a:Addr)(i j:Nat):(a.add i).add j=a.add (i+j):=by
 unfold Addr.add;by_cases hi:i=0
 ·subst hi;simp
 by_cases E:j=0
 ·subst E;simp
 simp[hi,E,Nat.add_assoc]
theorem At.fld {L:LN}{H:xw}{a:Addr}{us:LV}(h:At L H a us)(j:Nat)(u:OY)(E:us[j]?=some u):At L H (a.add j) [u]:=
 ⟨λ_ _=>by rw[Ys];exact h.out u (Me E),λ_ _=>by rw[Ys];exact h.lt u (Me E),λi v G=>by
  cases i with
  | zero=>simp at G;subst G;rw[Addr.add_add,MS];exact h.cell j u E
  | succ i=>simp at G⟩
theorem At.up {L L':LN}{H:xw}{a:Addr}{us:LV}(h:At L H a us)(I:∀b∈L',b∈L\/H.size<=b):At L' H a us :=
 ⟨λu E J=>by rcases I _ J with G|G;exact h.out u E G;have:=h.lt u E;omega,h.lt,h.cell⟩
def Zs (L:LN)(H:xw)(v:OY)(n sz:Nat)(cs:LV):Prop :=
 cs.length=n*sz/\n<=1099511627776/\((v=nS/\n=0)\/∃a cap,v=.slice (some a) n cap/\n<=cap/\At L H a cs)
theorem Zs.J {L X:LN}{w w':OX}{v:OY}{n sz:Nat}{cs:LV}(h:Zs L ↑w v n sz cs)(E:O1 X w w')(hX:∀b∈X,b∈L):Zs L ↑w' v n sz cs :=
 ⟨h.1,h.2.1,h.2.2.imp id λ⟨a,cap,G,I,J⟩=>⟨a,cap,G,I,J.J E hX⟩⟩
theorem Zs.I {L:LN}{v:OY}{cs:LV}(h:Zs L ↑w v n sz cs)(E:sW w w'):Zs L ↑w' v n sz cs:=h.J E (λ_ hb=>by cases hb)
theorem Zs.st {L:LN}{v:OY}{cs:LV}(h:Zs L ↑w v n sz cs)(E:O1 L w w'):Zs L ↑w' v n sz cs:=h.J E (λ_ hb=>hb)
theorem Zs.up {L L':LN}{H:xw}{v:OY}{n sz:Nat}{cs:LV}(h:Zs L H v n sz cs)(E:∀b∈L',b∈L\/H.size<=b):Zs L' H v n sz cs :=
 ⟨h.1,h.2.1,h.2.2.imp id λ⟨a,cap,G,I,J⟩=>⟨a,cap,G,I,J.up E⟩⟩
theorem Zs.nil (L:LN)(H:xw)(sz:Nat):Zs L H (nS) 0 sz []:=⟨od,oa,.inl ⟨rfl,rfl⟩⟩
theorem Zs.shape {L:LN}{H:xw}{v:OY}{cs:LV}(h:Zs L H v n sz cs):∃a cap,v=.slice a n cap:=by
 rcases h.2.2 with⟨E,G⟩|⟨a,cap,E,_⟩
 ·exact⟨none,0,by rw[E,G]⟩
 exact⟨some a,cap,E⟩
theorem Zs.one {L:LN}{H:xw}{v:OY}{cs:LV}(h:Zs L H v n sz cs):v.oneCell'=true:=by obtain⟨a,cap,rfl⟩:=h.shape;rfl
theorem Zs.cells {L:LN}{H:xw}{v:OY}{n sz:Nat}{cs:LV}(h:Zs L H v n sz cs):v.cells=#[v]:=by obtain⟨a,cap,rfl⟩:=h.shape;rfl
theorem Zs.le {L:LN}{H:xw}{v:OY}{cs:LV}(h:Zs L H v n sz cs):n<=1099511627776:=h.2.1
theorem Zs.at {L:LN}{H:xw}{v:OY}{n sz:Nat}{cs:LV}(h:Zs L H v n sz cs){i:Nat}(hi:i<n):
  ∃a cap,v=.slice (some a) n cap/\At L H (a.add (i*sz)) ((cs.drop (i*sz)).take sz):=by
 rcases h.2.2 with⟨_,J⟩|⟨a,cap,I,_,G⟩
 ·omega
 refine⟨a,cap,I,λu E=>by rw[Ys];exact G.out u (MK (L3 E)),λu E=>by rw[Ys];exact G.lt u (MK (L3 E)),λj u E=>?_⟩;rw[Addr.add_add];refine G.cell _ u ?_;rw[LW]at E;split at E
 ·simpa using E
 cases E
abbrev Qt (L:LN)(H:xw)(v:OY)(l:LI):Prop:=Zs L H v l.length 1 (l.map (.int .i64))
theorem Qt.at {L:LN}{H:xw}{v:OY}{l:LI}(h:Qt L H v l){i:Nat}(hi:i<l.length):
  ∃a cap,v=.slice (some a) l.length cap/\At L H (a.add (i*1)) [sS l[i]]:=by
 obtain⟨a,cap,G,E⟩:=Zs.at h hi;refine⟨a,cap,G,?_⟩;have:((l.map (Value.int .i64)).drop (i*1)).take 1=[sS l[i]]:=by
  rw[OM,L5 (ou hi)];simp
 rw[this]at E;exact E
def QK (H:xw)(b T:Nat)(cs:LV):Prop:=H[b]?=some (.cells cs.toArray T (0,0))
theorem QK.lt {H:xw}{b:Nat}{cs:LV}(h:QK H b T cs):b<H.size:=(LJ.1 h).1
theorem QK.J {X:LN}{b:Nat}{cs:LV}(h:QK ↑w b T cs)(E:O1 X w w')(hb:b∉X):QK ↑w' b T cs:=by
 unfold QK;rw[E.block b h.lt hb];exact h
theorem QK.I {b:Nat}{cs:LV}(h:QK ↑w b T cs)(E:sW w w'):QK ↑w' b T cs:=h.J E od
theorem QK.cell {H:xw}{b:Nat}{cs:LV}(h:QK H b T cs)(j:Nat):cel H ⟨b,j,none⟩=cs[j]?:=by
 unfold QK at h;simp[cel,h]
theorem Qd8 (b j:Nat):(⟨b,0,none⟩:Addr).add j=⟨b,j,none⟩:=by unfold Addr.add;split <;> simp_all
theorem XC (b i j:Nat):(⟨b,i,none⟩:Addr).add j=⟨b,i+j,none⟩:=by unfold Addr.add;split <;> simp_all
theorem QK.at {L:LN}{H:xw}{b:Nat}{cs:LV}(h:QK H b T cs)(hb:b∉L):At L H ⟨b,0,none⟩ cs :=
 ⟨λ_ _=>hb,λ_ _=>h.lt,λj u E=>by rw[Qd8,h.cell];exact E⟩
theorem QK.arr {L:LN}{H:xw}{b:Nat}{cs:LV}(h:QK H b T cs)(hb:b∉L){cap:Nat}(E:cs.length=n*sz)(G:n<=1099511627776)(I:n<=cap):
  Zs L H (sL b n cap) n sz cs:=⟨E,G,.inr ⟨_,_,O,I,h.at hb⟩⟩
def ob:OY->LN
 | .slice (some a) _ _=>[a.block]
 | _=>[]
theorem jI (v:OY):ob v=v.ownBlock.toList:=by
 cases v <;> try rfl
 rename_i a _ _;cases a <;> rfl
theorem Qg {X:LN}{e:Nat}{v:OY}{cs:LV}(h:w.ownsRow base e sz v n cs)(I:O1 X w w')(hX:∀b∈ob v,b∉X):w'.ownsRow base e sz v n cs:=by
 refine⟨h.1,h.2.imp id λ⟨g,cap,cur,E,J,G,S⟩=>⟨g,cap,cur,E,J,?_,S⟩⟩;rw[I.block g (LJ.1 G).1 (hX g (by rw[E];simp[ob]))];exact G
theorem Qm {e:Nat}{v:OY}{cs:LV}(h:w.ownsRow base e sz v n cs)(E:sW w w'):w'.ownsRow base e sz v n cs:=Qg h E (λ_ _=>od)
theorem Qi {e:Nat}{v:OY}{cs:LV}(h:w.ownsRow base e sz v n cs):∀b∈ob v,base<=b/\b<w.heap.size:=by
 intro b hb;rcases h.2 with⟨E,_⟩|⟨g,cap,cur,E,G,I,_⟩
 ·subst E;simp[ob]at hb
 subst E;simp[ob]at hb;subst hb;exact⟨G,(LJ.1 I).1⟩
theorem Q8 {base' e:Nat}{v:OY}{cs:LV}(h:w.ownsRow base e sz v n cs)(hb:base'<=base):w.ownsRow base' e sz v n cs :=
 ⟨h.1,h.2.imp id λ⟨g,cap,cur,E,G,I⟩=>⟨g,cap,cur,E,Lx hb G,I⟩⟩
theorem QN {L:LN}{e:Nat}{v:OY}{cs:LV}(h:w.ownsRow base e sz v n cs)(J:n<=1099511627776)(S:∀b∈ob v,b∉L):Zs L ↑w v n sz cs:=by
 refine⟨h.1,J,?_⟩;rcases h.2 with E|⟨g,cap,cur,E,V,I,T,Y,h6,U⟩
 ·exact .inl E
 refine .inr ⟨_,_,E,T,λ_ _=>S g (by rw[E];simp[ob]),λ_ _=>(LJ.1 I).1,λj u G=>?_⟩;rw[Qd8];unfold cel;simp only[I];rw[<-U,LW]at G;split at G
 ·simpa using G
 cases G
theorem QM (w:OX)(base e sz:Nat):w.ownsRow base e sz (nS) 0 []:=World.ownsRow_nil w base e sz
theorem QK.own {b:Nat}{cs:LV}(h:QK ↑w b T cs)(E:cs.length=n*sz)(G:n<=1099511627776)(hb:base<=b):w.ownsRow base T sz (sL b n n) n cs :=
 ⟨E,.inr ⟨b,n,cs.toArray,O,hb,h,Lp _,by simp only[maxLen];omega,by simp[E],by simp[<-E]⟩⟩
section
variable {K:Fr->OX->Prop}{f:Fr}{l:xz}
theorem YH {x:OZ}{e bys:Nat}[Sl P t e E bys z]{L:LN}{cs:LV}{v:OY}{H:xw}(h:Zs L H v n sz cs)(G:ev f x=v):
  (execOp (ev f) ⟨d,.call ⟨.builtin .len,#[x],#[t]⟩,ty,pS,af,gd⟩).run P w=.ok (.value (sS n)) w:=by
 obtain⟨a,cap,I⟩:=h.shape;exact qS (G.D I)
theorem xi {x:OZ}{e bys:Nat}[Sl P t e sz bys z]{L:LN}{cs:LV}{v:OY}{k:IntKind}
  (h:Zs L ↑w v n sz cs) (E:ev f x=v) (G:ev f y=.int k i) (hi:i<n)
  (hK:∀a,At L ↑w a ((cs.drop (i*sz)).take sz)->XL P ops K l (QO f d (.pointer (some a))) w) (I:Z3 ops f ⟨d,.indexAddr t x y,ty,pS,af,gd⟩=true:=by rfl):
  XL P ops K (⟨d,.indexAddr t x y,ty,pS,af,gd⟩::l) f w:=by
 obtain⟨a,cap,J,S⟩:=h.at hi;refine xl I (xv (Xw (E.D J) G oa oa) (hK _ ?_));simpa using S
theorem xii {x:OZ}{e bys:Nat}[Sl P t e 1 bys z]{L:LN}{li:LI}{v:OY}{k:IntKind}
  (h:Qt L ↑w v li) (E:ev f x=v) (G:ev f y=.int k i) (hi:i<li.length)
  (hK:∀a,At L ↑w a [sS li[i]]->XL P ops K l (QO f d (.pointer (some a))) w) (I:Z3 ops f ⟨d,.indexAddr t x y,ty,pS,af,gd⟩=true:=by rfl):
  XL P ops K (⟨d,.indexAddr t x y,ty,pS,af,gd⟩::l) f w:=by
 obtain⟨a,cap,J,S⟩:=Qt.at h hi;refine xl I (xv (Xw (E.D J) G oa oa) (hK _ ?_));simpa using S
theorem Qq [Xt P t]{x:OZ}{a:Addr}{L:LN}{u:OY}(h:At L ↑w a [u])(hx:ev f x=.pointer (some a)):
  (execOp (ev f) ⟨d,.load t x,ty,pS,af,gd⟩).run P w=.ok (.value u) w:=QgK hx h.one
theorem QE [Ag P t sz]{x:OZ}{a:Addr}{L:LN}{us:LV}(h:At L ↑w a us)(hx:ev f x=.pointer (some a))(E:us.length=sz):
  (execOp (ev f) ⟨d,.load t x,ty,pS,af,gd⟩).run P w=.ok (.value (sT us)) w:=qk hx E h.cells
theorem Qk [Xt P t]{x:OZ}{b:Nat}{cs:LV}{u:OY}(h:QK ↑w b T cs)(hx:ev f x=.pointer (some ⟨b,j,none⟩))(E:cs[j]?=some u):
  (execOp (ev f) ⟨d,.load t x,ty,pS,af,gd⟩).run P w=.ok (.value u) w:=QgK hx (by rw[X4,h.cell];exact E)
theorem Zj [Ag P t sz]{x:OZ}{b:Nat}{cs:LV}(h:QK ↑w b T cs)(hx:ev f x=sP b)(E:cs.length=sz):
  (execOp (ev f) ⟨d,.load t x,ty,pS,af,gd⟩).run P w=.ok (.value (sT cs)) w:=qk hx E (h.at (L:=[]) od).cells
theorem VG [Zc P t j off]{x:OZ}{b o:Nat}(hx:ev f x=.pointer (some ⟨b,o,none⟩)):
  (execOp (ev f) ⟨d,.fieldAddr t x j,ty,pS,af,gd⟩).run P w=.ok (.value (.pointer (some ⟨b,o+off,none⟩))) w:=by
 rw[<-XC];exact ZN hx
end
section
variable {K:Fr->OX->Prop}{f:Fr}
theorem UR {x:OZ}{us:LV}(hx:(ev f x).cells=us.toArray)
  (hK:∀b w',sW w w'->↑w<=b->QK ↑w' b t us->K (QO f d (sP b)) w'):XO P ⟨d,.box t x,ty,pS,af,gd⟩ f w K:=by
 have E:(execOp (ev f) ⟨d,.box t x,ty,pS,af,gd⟩).run P w=.ok (.value (.pointer (some ⟨↑w,0,none⟩))) (w.alloc (.cells us.toArray t)):=by
  simp[execOp,Instr.box,newVar,newRow,hx]
 exact xv E (hK _ _ (O1.alloc w _) (Lp _) (KI w _))
theorem YK [h:Ze P t z]{us:LV}(G:z.cells=us.toArray)
  (hK:∀b w',sW w w'->↑w<=b->QK ↑w' b t us->K (QO f d (sP b)) w'):XO P ⟨d,.alloc t,ty,pS,af,gd⟩ f w K:=by
 have I:(execOp (ev f) ⟨d,.alloc t,ty,pS,af,gd⟩).run P w=.ok (.value (.pointer (some ⟨↑w,0,none⟩))) (w.alloc (.cells us.toArray t)):=by
  have hi:=h.i;cases E:P.info? t with
  | none=>simp[E]at hi
  | some i =>
   simp[E]at hi;simp[execOp,Instr.alloc,newVar,newRow,zeroValue,typeInfo,E,hi,G]
 exact xv I (hK _ _ (O1.alloc w _) (Lp _) (KI w _))
def qz (sz:Nat):LV->List (LV)->Prop
 | [],[]=>True
 | v::vs,u::us=>v.cells=u.toArray/\u.length=sz/\qz sz vs us
 | _,_=>False
theorem zu {sz:Nat}:∀(vs:LV) (us:List (LV)) (E:Nat) (pre rest:LV),qz sz vs us->pre.length=E*sz->rest.length=vs.length*sz ->
  Instr.fill (λi=>some (i*sz,sz)) (pre++rest).toArray ((vs.zipIdx E).map λx=>(x.2,x.1))=some (pre++us.flatten).toArray
 | [],[],E,pre,rest,_,_,G=>by
  have:rest=[]:=Lu (ou G);subst this;simp[Instr.fill]
 | [],_::_,_,_,_,h,_,_=>h.elim
 | _::_,[],_,_,_,h,_,_=>h.elim
 | v::vs,u::us,E,pre,rest,h,I,G=>by
  obtain⟨J,S,V⟩:=h;have ha:sz<=rest.length:=by rw[G];simp[Ok]
  have ih:=zu vs us (E+1) (pre++u) (rest.drop sz) V (by simp[I,S,Ok]) (by simp only[OC,G,oQ,Ok,OI];omega);simp only[List.zipIdx_cons,oT];unfold Instr.fill;have Y:v.cells.size=sz:=by rw[J];simp[S]
  simp only[Y];rw[OP (by simp;omega)];have key:v.cells.zipIdx.foldl (λcs (x:OY×Nat)=>cs.setIfInBounds (E*sz+x.2) x.1) (pre++rest).toArray=(pre++u++rest.drop sz).toArray:=by
   rw[<-Array.foldl_toList,Array.toList_zipIdx,J];obtain⟨g1,g2⟩:=Great.foldl_set (E*sz) u 0 (pre++rest).toArray;apply Array.ext';apply Nq;intro k;simp only[Array.getElem?_toList];rw[(g2 k)];simp only[Oo,Oc,oM,oS];split
   ·rename_i T;rw[LE,Mk oa,LY oa,<-I]
   rename_i T;by_cases U:k<pre.length
   ·rw[LE,LY U,LY U]
   rw[LE,Mk oa,Mk oa];by_cases he:k<pre.length+sz
   ·exfalso;apply T;omega
   rw[Mk oa,MJ];congr 1;omega
  have hf:=ih;rw[LE pre u]at key;rw[show(v.cells.zipIdx.foldl (λcs (x:OY×Nat)=>cs.setIfInBounds (E*sz+x.2) x.1) (pre++rest).toArray)=(pre++u++rest.drop sz).toArray by rw[key,LE]];rw[ih];simp
theorem yn (f:Fr):∀(ps:List (Nat×OZ)) (i:Nat),ps.map (·.1)=oN i ps.length->(ps.map λx=>(x.1,ev f x.2))=((ps.map λx=>ev f x.2).zipIdx i).map λx=>(x.2,x.1)
 | [],_,_=>rfl
 | p::ps,i,h=>by
  simp only[oT,oQ,Ot,List.cons.injEq]at h;simp only[oT,List.zipIdx_cons];rw[yn f ps (i+1) h.2,h.1]
theorem Yf {e bys:Nat}[h:Sl P t e sz bys z]{parts:List (Nat×OZ)}{us:List (LV)}(G:parts.map (·.1)=oN 0 n)(I:parts.length=n)(J:0<n)(hs:n*sz<=1000000)
  (S:qz sz (parts.map λx=>ev f x.2) us)
  (hK:∀b w',sW w w'->↑w<=b->QK ↑w' b e us.flatten->K (QO f d (sL b n n)) w'):XO P ⟨d,.buildSlice t n parts.toArray,ty,pS,af,gd⟩ f w K:=by
 obtain⟨ie,T,U,E,_⟩:=Sl.info h;subst I;have hm:0<parts.length*sz:=Nat.mul_pos J h.pos;have V:Instr.fill (λi=>some (i*ie.size,ie.size)) ((Array.range (parts.length*ie.size)).map (z.cells[· % z.cells.size]!)) (parts.toArray.map λ(i,x)=>(i,ev f x)).toList=some us.flatten.toArray:=by
  rw[E];have:=zu (parts.map λx=>ev f x.2) us 0 [] ((Array.range (parts.length*sz)).map (z.cells[· % z.cells.size]!)).toList S od od;simp only[Ol,Array.toArray_toList]at this;rw[<-this,<-yn f parts 0 G];simp
 have Y:(execOp (ev f) ⟨d,.buildSlice t parts.length parts.toArray,ty,pS,af,gd⟩).run P w=.ok (.value (.slice (some ⟨↑w,0,none⟩) parts.length parts.length)) (w.alloc (.cells us.flatten.toArray e)):=by
  have:=run_buildSlice (P:=P) w t e parts.length (parts.toArray.map λ(i,x)=>(i,ev f x)) us.flatten.toArray ie z h.u T U (by rw[E];omega) (by rw[E];omega) V;simp only[execOp,Sem.run_bind,this,Result.andThen_ok,Sem.run_pure]
 exact xv Y (hK _ _ (O1.alloc w _) (Lp _) (KI w _))
theorem ya {e:Nat}{bys:Nat}[h:Sl P t e sz bys z]{v:OY}{cs:LV}(G:w.ownsRow base e sz v n cs)
  {a:Addr} {c:Nat} {news:LV} (I:news.length=m*sz) (V:∀j u,news[j]?=some u->w.cell? (a.add j)=some u) (h1:∀u∈news,u.oneCell'=true)
  (hb:n+m<=1099511627776) (hs:bys<=128) (he:base<=↑w):
  ∃v' w',(Builtin.append_ #[t,t] ty #[v,.slice (some a) m c]).run P w=.ok v' w'/\w'.ownsRow base e sz v' (n+m) (cs++news)/\O1 (ob v) w w'/\(∀b∈ob v',b∈ob v\/↑w<=b):=by
 obtain⟨i,hi,hz,S,ha⟩:=Sl.info h;have hc:(n+m)*bys<=140737488355328:=Lx (Oz hb hs) oa;have hf:n+m<=maxLen:=by simp only[maxLen];omega
 by_cases hg:∃g cap cur,v=sL g n cap/\w.heap[g]?=some (.cells cur e (0,0))/\n+m<=cap
 ·obtain⟨v',w',U,ho,ht,_⟩:=run_append_own (P:=P) w base t ty e i z sz bys h.u hi hz S ha h.zs h.pos v n cs G a m c news I V h1 hf hc he;refine⟨v',w',U,ho,by rw[jI];exact O1.of_grown ht,?_⟩;obtain⟨g,cap,cur,rfl,hh,T⟩:=hg;rcases G.2 with⟨h2,_⟩|⟨g2,cap2,hj,h2,h3,h4,h5,h6,h7,h8⟩
  ·cases h2
  cases h2
  have hu:n*i.size+news.length<=hj.size:=by rw[I,h7,S,<-Ms];exact MI _ T
  rw[(run_append_room (P:=P) w t ty e i h.u hi g n cap hj h4 a m c news (by rw[S];exact I) V h1 T hu)]at U;cases U
  intro b E;exact .inl E
 have new:∀(old:Nat),old<n+m->∀J,J=(Obj.cells (cs.toArray++news.toArray++Builtin.zeroCells z.cells (grownCap w (n+m) old e - (n+m))) e) ->
   (w.drew.alloc J).ownsRow base e sz (.slice (some ⟨↑w,0,none⟩) (n+m) (grownCap w (n+m) old e)) (n+m) (cs++news):=by
  intro old ho J hv;subst hv;have hge:=grownCap_ge w (n+m) old e;have hp:grownCap w (n+m) old e<=maxLen:=grownCap_le_maxLen w (n+m) old e hf;have hq:(cs++news).length=(n+m)*sz:=by rw[Lc,G.1,I,Ms]
  refine⟨hq,.inr ⟨↑w,_,_,O,he,KI w.drew _,hge,hp,?_,?_⟩⟩
  ·simp only[Array.size_append,Oc,size_zeroCells,h.zs,G.1,I,<-Ok];congr 1;omega
  simp only[Array.toList_append,Oq];rw[<-LE,<-hq];exact List.take_left
 have stp:∀J,O1 (ob v) w (w.drew.alloc J):=λJ=>⟨O,O,O,by rw[qy];exact Nat.le_succ _,λk hk _=>Qal w.drew J k hk⟩;have fin:∀(b:Nat),b∈ob (.slice (some ⟨↑w,0,none⟩) (n+m) 0)->b∈ob v\/↑w<=b:=λb E=>by simp[ob]at E;omega
 rcases G.2 with⟨rfl,rfl⟩|⟨g,cap,cur,rfl,h9,hh,hA,hp,hB,hC⟩
 ·have hx:cs=[]:=Lu (ou G.1);subst hx;by_cases hm:m=0
  ·subst hm;have Y:news=[]:=Lu (ou I);subst Y;refine⟨nS,w,?_,QM _ _ _ _,O1.Z _ _,λb E=>by simp[ob]at E⟩;simp[Builtin.append_,run_underlying h.u,sizeOf,typeInfo,hi,Builtin.lenOf,Builtin.firstCells,loadCells,loadCellsFrom]
  have U:=run_append_nil (P:=P) w t ty e i z h.u hi hz a m c news (by rw[S];exact I) V oa oa (by rw[ha];have hw:=hc;simp only[oX]at hw;omega);have Y:=new 0 oa _ O;simp only[oX,Ol,Array.empty_append]at Y ⊢;exact⟨_,_,U,Y,stp _,λb E=>fin b E⟩
 have T:cap<n+m:=by
  rcases OJ cap (n+m)with hy|hge
  ·exact hy
  exact OS ⟨g,cap,cur,O,hh,hge⟩ hg
 have h0:∀j u,cs[j]?=some u->w.cell? ((⟨g,0,none⟩:Addr).add j)=some u:=G.cells (g:=g) O;exact⟨_,_,(run_append_grow (P:=P) w t ty e i z h.u hi hz ⟨g,0,none⟩ n cap cs (by rw[S];exact G.1) h0 a m c news (by rw[S];exact I) V T oa (growslice_fits T (by rw[ha];exact hc))),new cap T _ O,stp _,λb E=>fin b E⟩
theorem Q2 {e bys:Nat}[h:Sl P t e sz bys z]{s:OZ}{v:OY}{cs:LV}(E:w.ownsRow base e sz v n cs)(G:ev f s=v)
  {a:Addr} {c:Nat} {news:LV} (I:ev f y=.slice (some a) m c) (J:news.length=m*sz) {L:LN} (S:At L ↑w a news) (T:∀u∈news,u.oneCell'=true)
  (hb:n+m<=1099511627776) (U:base<=↑w)
  (hK:∀v' w',w'.ownsRow base e sz v' (n+m) (cs++news)->O1 (ob v) w w'->(∀b∈ob v',b∈ob v\/↑w<=b)->K (QO f d v') w') (V:bys<=128:=by decide):
  XO P ⟨d,.call ⟨.builtin .append,#[s,y],#[t,t]⟩,ty,pS,af,gd⟩ f w K:=by
 obtain⟨v',w',Y,h2,h3,h4⟩:=ya (P:=P) (t:=t) (ty:=ty) E J S.cells T hb V U (c:=c);have ha:(execOp (ev f) ⟨d,.call ⟨.builtin .append,#[s,y],#[t,t]⟩,ty,pS,af,gd⟩).run P w=.ok (.value v') w':=by
  simp[execOp,resolve,invoke,builtin,G,I,Y]
 exact xv ha (hK v' w' h2 h3 h4)
end
def QnB (P:O0)(t:Nat):Option (LV×LN):=match P.info? t,P.underlying t with
 | some it,some (.struct fs)=>match it.zero,fs.toList.mapM (λf=>(P.info? f.type).bind λi=>if i.size=1 then some f.offset else none)with
  | some (.agg zs),some offs=>some (zs.toList,offs)
  | _,_=>none
 | some it,some (.array n e)=>match it.zero,P.info? e with
  | some (.agg zs),some ie=>if ie.size=1 then some (zs.toList,oK n)else none
  | _,_=>none
 | _,_=>none
class Bs (P:O0)(t:Nat)(zs:outParam (LV))(offs:outParam (LN)):Prop where
 h:QnB P t=some (zs,offs):=by first|kernel_rfl|decide|rfl|exact sX (by kernel_rfl)
 b:offs.all (·<zs.length)=true:=by first|kernel_rfl|decide|rfl|exact sX (by kernel_rfl)
def bld (offs:LN)(zs:LV):List (Nat×OY)->LV
 | []=>zs
 | (j,v)::ps=>bld offs (zs.set (offs.getD j 0) v) ps
def Qlz:LV->Prop
 | []=>True
 | v::vs=>v.cells=#[v]/\Qlz vs
theorem zt {place:Nat->Option (Nat×Nat)}{offs:LN}(G:∀j,j<offs.length->place j=some (offs.getD j 0,1)):∀(ps:List (Nat×OY)) (zs:LV),Qlz (ps.map (·.2))->ps.all (λp=>p.1<offs.length)=true ->
  (∀o∈offs,o<zs.length)->Instr.fill place zs.toArray ps=some (bld offs zs ps).toArray
 | [],zs,_,_,_=>rfl
 | (j,v)::ps,zs,I,E,J=>by
  simp only[Oa,oI,decide_eq_true_eq]at E;have U:offs.getD j 0<zs.length:=J _ (by simp[oO,oU E.1]);unfold Instr.fill;simp only[(G j E.1)];have S:v.cells=#[v]:=I.1;simp only[S];rw[OP (by rw[show(#[v]:Array OY).size=1 from rfl,LQ];simp only[ne_eq,not_true,decide_false,Bool.false_or,decide_eq_true_eq];omega)];have:(#[v]:Array OY).zipIdx.foldl (λcs (x:OY×Nat)=>cs.setIfInBounds (offs.getD j 0+x.2) x.1) zs.toArray=(zs.set (offs.getD j 0) v).toArray:=by
   simp[Array.zipIdx]
  rw[this];exact zt G ps _ I.2 E.2 (λo T=>by rw[MR];exact J o T)
theorem Qdb {zs:LV}{offs:LN}(h:QnB P t=some (zs,offs))(hb:offs.all (·<zs.length)=true)(ps:List (Nat×OY))(V:Qlz (ps.map (·.2)))(Y:ps.all (λp=>p.1<offs.length)=true):
  P.built t ps=some (bld offs zs ps).toArray:=by
 have h3:∀o∈offs,o<zs.length:=λo ho=>ou (L9.1 hb o ho)
 unfold QnB at h;unfold Program.built;cases hi:P.info? t with
 | none=>simp[hi]at h
 | some it =>
  cases hu:P.underlying t with
  | none=>simp[hi,hu]at h
  | some dd =>
   simp only[hi,hu]at h;cases dd <;> simp only[]at h <;> try (cases h)
   case struct fs =>
    cases E:it.zero with
    | none=>simp[E]at h
    | some z =>
     cases z <;> simp only[E]at h <;> try (cases h)
     rename_i za;cases J:fs.toList.mapM (λf=>(P.info? f.type).bind λi=>if i.size=1 then some f.offset else none)with
     | none=>simp[J]at h
     | some offs' =>
      simp only[J,Option.some.injEq,Prod.mk.injEq]at h;obtain⟨rfl,rfl⟩:=h;have key:∀(l:List Field) (offs:LN),l.mapM (λf=>(P.info? f.type).bind λi=>if i.size=1 then some f.offset else none)=some offs ->
        l.mapM (λf=>(P.info? f.type).map λi=>(f.offset,i.size))=some (offs.map λo=>(o,1)):=by
       intro l;induction l with
       | nil=>intro offs h;simp at h;subst h;rfl
       | cons f l ih =>
        intro offs h;simp only[List.mapM_cons]at h ⊢;cases S:P.info? f.type with
        | none=>simp[S]at h
        | some i =>
         by_cases G:i.size=1
         ·simp only[S,Option.bind_some,G,if_true,Option.bind_eq_bind]at h;cases T:l.mapM (λf=>(P.info? f.type).bind λi=>if i.size=1 then some f.offset else none)with
          | none=>simp[T]at h
          | some os =>
           simp[T]at h;subst h;simp[ih os T,G]
         simp[S,G]at h
      simp only[E,(key _ _ J),Value.cells];rw[<-zt (place:=λj=>((offs'.map λo=>(o,1)).toArray)[j]?) (λj I=>by simp[oU I,oO]) ps za.toList V Y h3]
   case array n e =>
    cases E:it.zero with
    | none=>simp[E]at h
    | some z =>
     cases z <;> simp only[E]at h <;> try (cases h)
     rename_i za;cases U:P.info? e with
     | none=>simp[U]at h
     | some ie =>
      simp only[U]at h;split at h
      ·rename_i G;simp only[Option.some.injEq,Prod.mk.injEq]at h;obtain⟨rfl,rfl⟩:=h;simp only[E,U,Value.cells];rw[<-zt (place:=λi=>some (i*ie.size,ie.size)) (λj I=>by simp at I;simp[G,oO,I]) ps za.toList V Y h3]
      cases h
theorem QB {f:Fr}{zs:LV}{offs:LN}[h:Bs P t zs offs]{parts:List (Nat×OZ)}
  (E:Qlz (parts.map λx=>ev f x.2)) (G:parts.all (λp=>p.1<offs.length)=true:=by rfl):
  (execOp (ev f) ⟨d,.build t parts.toArray,ty,pS,af,gd⟩).run P w=.ok (.value (.agg (bld offs zs (parts.map λx=>(x.1,ev f x.2))).toArray)) w:=by
 simp only[execOp,Sem.run_bind,(run_build (P:=P) w t (parts.toArray.map λ(i,x)=>(i,ev f x)) _ (by simpa using(Qdb h.h h.b (parts.map λx=>(x.1,ev f x.2)) (by rw[List.map_map];exact E) (by rw[List.all_map];exact G)))),Result.andThen_ok,Sem.run_pure]
section
variable {K:Fr->OX->Prop}{f:Fr}{l:xz}
theorem Q7 [Zc P t j off]{E:OZ}{b o:Nat}(hx:ev f E=.pointer (some ⟨b,o,none⟩))(h:XL P ops K l (QO f d (.pointer (some ⟨b,o+off,none⟩))) w)(G:Z3 ops f ⟨d,.fieldAddr t E j,ty,pS,af,gd⟩=true:=by rfl):XL P ops K (⟨d,.fieldAddr t E j,ty,pS,af,gd⟩::l) f w:=x (VG hx) h G
theorem ZA [Xt P t]{E:OZ}{b:Nat}{cs:LV}{u:OY}(G:QK ↑w b T cs)(hx:ev f E=.pointer (some ⟨b,j,none⟩))(I:cs[j]?=some u)(h:XL P ops K l (QO f d u) w)(J:Z3 ops f ⟨d,.load t E,ty,pS,af,gd⟩=true:=by rfl):XL P ops K (⟨d,.load t E,ty,pS,af,gd⟩::l) f w:=x (Qk G hx I) h J
theorem QY [Ag P t sz]{E:OZ}{b:Nat}{cs:LV}(G:QK ↑w b T cs)(hx:ev f E=sP b)(I:cs.length=sz)(h:XL P ops K l (QO f d (sT cs)) w)(J:Z3 ops f ⟨d,.load t E,ty,pS,af,gd⟩=true:=by rfl):XL P ops K (⟨d,.load t E,ty,pS,af,gd⟩::l) f w:=x (Zj G hx I) h J
theorem QG {E:OZ}{e bys:Nat}[Sl P t e G bys z]{L:LN}{cs:LV}{v:OY}{H:xw}(hA:Zs L H v n sz cs)(I:ev f E=v)(h:XL P ops K l (QO f d (sS n)) w)(J:Z3 ops f ⟨d,.call ⟨.builtin .len,#[E],#[t]⟩,ty,pS,af,gd⟩=true:=by rfl):XL P ops K (⟨d,.call ⟨.builtin .len,#[E],#[t]⟩,ty,pS,af,gd⟩::l) f w:=x (YH hA I) h J
theorem QH [Zc P t j off]{E:OZ}{b o:Nat}(hx:ev f E=.pointer (some ⟨b,o,none⟩)):∀w',(execOp (ev f) ⟨d,.fieldAddr t E j,ty,pS,af,gd⟩).run P w'=.ok (.value (.pointer (some ⟨b,o+off,none⟩))) w':=λ_=>VG hx
theorem Qr [Zc P t j off]{E:OZ}{b o:Nat}[Xt P G]{d2:xA}{J:Nat}{pS2:String}{S:xx}{U:xj}{I:OZ}{cs:LV}{u:OY}(hx:ev f E=.pointer (some ⟨b,o,none⟩))(V:QK ↑w b T cs)(Y:ev (QO f d (.pointer (some ⟨b,o+off,none⟩))) I=.pointer (some ⟨b,i,none⟩))(hj:cs[i]?=some u)(h:XL P ops K l (QO (QO f d (.pointer (some ⟨b,o+off,none⟩))) d2 u) w)
  (hg:Z3 ops f ⟨d,.fieldAddr t E j,ty,pS,af,gd⟩=true:=by rfl) (ha:Z3 ops (QO f d (.pointer (some ⟨b,o+off,none⟩))) ⟨d2,.load G I,J,pS2,S,U⟩=true:=by rfl):XL P ops K (⟨d,.fieldAddr t E j,ty,pS,af,gd⟩::⟨d2,.load G I,J,pS2,S,U⟩::l) f w:=Q7 hx (ZA V Y hj h ha) hg
theorem Q5 {e bys:Nat}[Sl P t e sz bys z]{parts:List (Nat×OZ)}{K:Fr->OX->Prop}(us:List (LV))(hK:∀b w',sW w w'->↑w<=b->QK ↑w' b e us.flatten->K (QO f d (sL b n n)) w')(E:parts.map (·.1)=oN 0 n:=by rfl)(G:parts.length=n:=by rfl)(I:0<n:=by decide)(J:n*sz<=1000000:=by decide)(S:qz sz (parts.map λx=>ev f x.2) us:=by first|exact(ov)|exact(oy)):XO P ⟨d,.buildSlice t n parts.toArray,ty,pS,af,gd⟩ f w K:=Yf E G I J S hK
theorem Zd {E:OZ}(us:LV)(hK:∀b w',sW w w'->↑w<=b->QK ↑w' b t us->XL P ops K l (QO f d (sP b)) w')(hx:(ev f E).cells=us.toArray:=by rfl)(G:Z3 ops f ⟨d,.box t E,ty,pS,af,gd⟩=true:=by rfl):XL P ops K (⟨d,.box t E,ty,pS,af,gd⟩::l) f w:=xl G (UR hx hK)
end
section
variable {κ:Type}[DecidableEq κ]
def O6:List (κ×OY)->κ->Option OY
 | [],_=>none
 | (k',v)::m,k=>if k'=k then some v else O6 m k
def O7:List (κ×OY)->κ->OY->List (κ×OY)
 | [],k,v=>[(k,v)]
 | (k',v')::m,k,v=>if k'=k then(k',v)::m else(k',v')::O7 m k v
theorem X3 (m:List (κ×OY))(k k':κ)(v:OY):O6 (O7 m k v) k'=if k=k' then some v else O6 m k':=by
 induction m with
 | nil=>simp[O6,O7]
 | cons p m ih =>
  obtain⟨q,u⟩:=p;simp only[O7];by_cases h:q=k
  ·subst h;simp[O6];by_cases E:q=k' <;> simp[E]
  simp only[h,if_false,O6,ih];by_cases E:q=k'
  ·subst E;simp[Ne.symm h]
  simp[E]
def fnd (k:κ):List κ->List MapEntry->Nat->Option (Nat×OY)
 | q::ks,e::es,i=>if k=q then some (i,e.val)else fnd k ks es (i+1)
 | _,_,_=>none
end
class jk (P:O0)(kt:Nat){κ:Type}[DecidableEq κ](enc:κ->OY):Prop where
 check:∀(w:OX) (em:Bool) (k:κ),(Instr.checkKey em 10000 kt (enc k)).run P w=.ok () w
 find:∀(w:OX) (k:κ) (ks:List κ) (es:List MapEntry),es.map (·.key)=ks.map enc->(Instr.findKey kt (enc k) es).run P w=.ok (fnd k ks es 0) w
 same:∀k,Instr.sameBits 10000 (enc k) (enc k)=true
abbrev Xm (n:Int):OY:=sS n
abbrev Yg (p:Int×Int):OY:=.agg #[sS p.1,sS p.2]
abbrev Xj (s:ByteArray):OY:=.string s
theorem Qkx (G:P.underlying kt=some (.int .i64)):jk P kt Xm:=by
 refine⟨λw em k=>?_,λw k ks es h=>?_,λk=>by simp[Instr.sameBits]⟩
 ·have hck:∀n,(Instr.checkKey em (n+1) kt (Xm k)).run P w=.ok () w:=λn=>by simp[Instr.checkKey,run_underlying G]
  exact hck 9999
 have key:∀(ks:LI) (es:List MapEntry) (i:Nat),es.map (·.key)=ks.map Xm->Instr.findNow (.int .i64) (Xm k) es i=some (fnd k ks es i):=by
  intro ks;induction ks with
  | nil=>intro es i h;simp at h;subst h;rfl
  | cons q ks ih =>
   intro es i h;cases es with
   | nil=>simp at h
   | cons e es =>
    simp only[oT,List.cons.injEq]at h;simp only[Instr.findNow,h.1,Instr.sameNow,Xm,if_true,fnd];by_cases E:k=q
    ·subst E;simp
    have:(k == q)=false:=by simpa using E
    simp[E,this,(ih es (i+1) h.2)]
 simp[Instr.findKey,run_underlying G,key ks es 0 h]
theorem Qkw (G:P.underlying kt=some .string):jk P kt Xj:=by
 refine⟨λw em k=>?_,λw k ks es h=>?_,λk=>by simp[Instr.sameBits,(MapKept.bytes_beq k k).2 rfl]⟩
 ·have hck:∀n,(Instr.checkKey em (n+1) kt (Xj k)).run P w=.ok () w:=λn=>by simp[Instr.checkKey,run_underlying G]
  exact hck 9999
 have key:∀(ks:List ByteArray) (es:List MapEntry) (i:Nat),es.map (·.key)=ks.map Xj->Instr.findNow .string (Xj k) es i=some (fnd k ks es i):=by
  intro ks;induction ks with
  | nil=>intro es i h;simp at h;subst h;rfl
  | cons q ks ih =>
   intro es i h;cases es with
   | nil=>simp at h
   | cons e es =>
    simp only[oT,List.cons.injEq]at h;simp only[Instr.findNow,h.1,Instr.sameNow,Xj,fnd];by_cases E:k=q
    ·subst E;simp[(MapKept.bytes_beq k k).2 rfl]
    have:(k == q)=false:=by
     cases hb:(k == q)with
     | false=>rfl
     | true=>exact OS ((MapKept.bytes_beq k q).1 hb) E
    simp[E,this,(ih es (i+1) h.2)]
 simp[Instr.findKey,run_underlying G,key ks es 0 h]
theorem qL {e:Nat}(Y:P.underlying kt=some (.array 2 e))(J:P.underlying e=some (.int .i64))(E:(P.info? e).map (·.size)=some 1)(w:OX)(p q:Int×Int):
  (Op.equal kt (Yg p) (Yg q)).run P w=.ok (decide (p=q)) w:=by
 obtain⟨a,b⟩:=p;obtain⟨c,d⟩:=q;cases hi:P.info? e with
 | none=>simp[hi]at E
 | some ie =>
  simp[hi]at E;have S:∀w,(isAgg e).run P w=.ok false w:=λw=>by simp[isAgg,run_underlying J]
  have G:∀(x y:Int) (w:OX),(part e #[sS x,sS y] 0).run P w=.ok (sS x) w:=λx y w=>by simp[part,S]
  have T:∀(x y:Int) (w:OX),(part e #[sS x,sS y] 1).run P w=.ok (sS y) w:=λx y w=>by simp[part,S]
  have I:∀(m:Nat) (x y:Int) (w:OX),(Op.equalIn (m+1) e (sS x) (sS y)).run P w=.ok (x == y) w:=λm x y w=>by simp[Op.equalIn,run_underlying J]
  simp only[Op.equal,Op.maxDepth,Yg];unfold Op.equalIn;simp only[Sem.run_bind,run_underlying Y,Result.andThen_ok,sizeOf,typeInfo,run_program,hi,Sem.run_pure,E];simp only[Std.Legacy.Range.forIn_eq_forIn_range',Std.Legacy.Range.size,OK,Nat.add_sub_cancel,Nat.div_one,Ot,List.range'_zero,List.forIn_cons,List.forIn_nil,Nat.zero_mul,OI,oX];by_cases U:a=c
  ·subst U;by_cases V:b=d
   ·subst V;simp[G,T,I]
   simp[G,T,I,V]
  simp[G,I,U]
theorem Qbe {e:Nat}(E:P.underlying kt=some (.array 2 e))(I:P.underlying e=some (.int .i64))(G:(P.info? e).map (·.size)=some 1):jk P kt Yg:=by
 refine⟨λw em k=>?_,λw k ks es h=>?_,λk=>?_⟩
 ·obtain⟨a,b⟩:=k;cases hi:P.info? e with
  | none=>simp[hi]at G
  | some ie =>
   simp[hi]at G;have S:∀w,(isAgg e).run P w=.ok false w:=λw=>by simp[isAgg,run_underlying I]
   have U:∀(x y:Int) (w:OX),(part e #[sS x,sS y] 0).run P w=.ok (sS x) w:=λx y w=>by simp[part,S]
   have V:∀(x y:Int) (w:OX),(part e #[sS x,sS y] 1).run P w=.ok (sS y) w:=λx y w=>by simp[part,S]
   have hck:∀(m:Nat) (x:Int) (w:OX),(Instr.checkKey em (m+1) e (sS x)).run P w=.ok () w:=λm x w=>by simp[Instr.checkKey,run_underlying I]
   simp only[Yg];unfold Instr.checkKey;simp only[Sem.run_bind,run_underlying E,Result.andThen_ok,sizeOf,typeInfo];simp[Std.Legacy.Range.forIn_eq_forIn_range',Std.Legacy.Range.size,Ot,hi,G,U,V,hck]
 ·have Y:∀es i,es.map (·.key)=ks.map Yg->Instr.findNow (.array 2 e) (Yg k) es i=none\/es=[]:=by
   intro es i h;cases es with
   | nil=>exact .inr O
   | cons e es=>left;simp[Instr.findNow,Instr.sameNow]
  have ask:∀(ks:xq) (es:List MapEntry) (i:Nat),es.map (·.key)=ks.map Yg->(Instr.findAsking kt (Yg k) es i).run P w=.ok (fnd k ks es i) w:=by
   intro ks;induction ks with
   | nil=>intro es i h;simp at h;subst h;simp[Instr.findAsking,fnd]
   | cons q ks ih =>
    intro es i h;cases es with
    | nil=>simp at h
    | cons e es =>
     simp only[oT,List.cons.injEq]at h;simp only[Instr.findAsking,h.1,Sem.run_bind,qL E I G,Result.andThen_ok,fnd];by_cases T:k=q
     ·subst T;simp
     simp[T,(ih es (i+1) h.2)]
  rcases Y es 0 h with J|J
  ·simp[Instr.findKey,run_underlying E,J,ask ks es 0 h]
  subst J;have:ks=[]:=by simpa using h.symm
  subst this;simp[Instr.findKey,run_underlying E,Instr.findNow,fnd]
 simp[Instr.sameBits]
class Mp (P:O0)(t:Nat)(kt et:outParam Nat)(z:outParam OY):Prop where
 u:P.underlying t=some (.map kt et):=by first|kernel_rfl|decide|rfl|exact sX (by kernel_rfl)
 z:(P.info? et).map (·.zero)=some (some z):=by first|kernel_rfl|decide|rfl|exact sX (by kernel_rfl)
def ZP {κ:Type}(enc:κ->OY)(H:xw)(b:Nat)(m:List (κ×OY)):Prop :=
 ∃es clock,H[b]?=some (.map es clock)/\es.toList.map (λe=>(e.key,e.val))=m.map (λp=>(enc p.1,p.2))
section
variable {κ:Type}{enc:κ->OY}
theorem ZP.lt {H:xw}{b:Nat}{m:List (κ×OY)}(h:ZP enc H b m):b<H.size:=by
 obtain⟨es,c,E,_⟩:=h;exact(LJ.1 E).1
theorem ZP.J {X:LN}{b:Nat}{m:List (κ×OY)}(h:ZP enc ↑w b m)(E:O1 X w w')(hb:b∉X):ZP enc ↑w' b m:=by
 have G:=h.lt;obtain⟨es,c,I,J⟩:=h;exact⟨es,c,by rw[E.block b G hb];exact I,J⟩
theorem ZP.I {b:Nat}{m:List (κ×OY)}(h:ZP enc ↑w b m)(E:sW w w'):ZP enc ↑w' b m:=h.J E od
theorem jR {m:List (κ×OY)}{es:List MapEntry}(h:es.map (λe=>(e.key,e.val))=m.map (λp=>(enc p.1,p.2))):es.map (·.key)=(m.map (·.1)).map enc:=by
 have:=OR (OO Prod.fst) h;simp only[List.map_map]at this ⊢;exact this
variable [DecidableEq κ]
theorem VV {k:κ}:∀{m:List (κ×OY)}{es:List MapEntry}{i:Nat},es.map (λe=>(e.key,e.val))=m.map (λp=>(enc p.1,p.2))->O6 m k=none->fnd k (m.map (·.1)) es i=none
 | [],es,i,h,_=>by simp[fnd]
 | (q,u)::m,[],i,h,_=>by simp at h
 | (q,u)::m,e::es,i,h,E=>by
  simp only[oT,List.cons.injEq]at h;simp only[O6]at E;by_cases G:q=k
  ·simp[G]at E
  simp only[G,if_false]at E;simp only[oT,fnd,Ne.symm G,if_false];exact VV h.2 E
theorem VU {k:κ}{u:OY}:∀{m:List (κ×OY)}{es:List MapEntry}{i:Nat},es.map (λe=>(e.key,e.val))=m.map (λp=>(enc p.1,p.2))->O6 m k=some u ->
  ∃j,fnd k (m.map (·.1)) es i=some (i+j,u)/\j<es.length/\(∃e,es[j]?=some e/\e.key=enc k) /\
   ∀v,(es.modify j λe=>{ e with key:=enc k,val:=v }).map (λe=>(e.key,e.val))=(O7 m k v).map (λp=>(enc p.1,p.2))
 | [],es,i,_,h=>by simp[O6]at h
 | (q,x)::m,[],i,h,_=>by simp at h
 | (q,x)::m,e::es,i,h,E=>by
  simp only[oT,List.cons.injEq,Prod.mk.injEq]at h;simp only[O6]at E;by_cases G:q=k
  ·subst G;simp at E;subst E;refine⟨0,by simp[fnd,h.1.2],od,⟨e,rfl,h.1.1⟩,λv=>?_⟩;simp[O7,h.2]
  simp only[G,if_false]at E;obtain⟨j,I,U,⟨e',J,S⟩,T⟩:=VU (i:=i+1) h.2 E;refine⟨j+1,?_,by simp;omega,⟨e',ou J,S⟩,λv=>?_⟩
  ·simp only[oT,fnd,Ne.symm G,if_false,I];congr 2;omega
  simp only[O7,G,if_false,List.modify_succ_cons,oT,T v,h.1]
end
section
variable {K:Fr->OX->Prop}{f:Fr}{κ:Type}[DecidableEq κ]
omit [DecidableEq κ] in
theorem ZU (enc:κ->OY)
  (hK:∀b w',sW w w'->↑w<=b->ZP enc ↑w' b []->K (QO f d (.map (some b))) w'):XO P ⟨d,.makeMap t none,ty,pS,af,gd⟩ f w K:=by
 have E:(execOp (ev f) ⟨d,.makeMap t none,ty,pS,af,gd⟩).run P w=.ok (.value (.map (some ↑w))) (w.alloc (.map #[] 0)):=by
  simp[execOp,Instr.makeMap]
 exact xv E (hK _ _ (O1.alloc w _) (Lp _) ⟨#[],0,KI w _,O⟩)
theorem Xv {b:Nat}{es:Array MapEntry}{c:Nat}(h:w.heap[b]?=some (.map es c)):(getObj b).run P w=.ok (.map es c) w:=by
 simp[getObj,Sem.run,h]
theorem K4 {b:Nat}{es E:Array MapEntry}{c:Nat}(h:w.heap[b]?=some (.map es c)):(setObj b (.map E G)).run P w=.ok () { w with heap:=w.heap.setIfInBounds b (.map E G) }:=by
 simp[setObj,Sem.run,h]
theorem Kx [hm:Mp P t kt et z]{enc:κ->OY}[G:jk P kt enc]{x:OZ}{b:Nat}{m:List (κ×OY)}{k:κ}(h:ZP enc ↑w b m)(hx:ev f x=.map (some b))(J:ev f y=enc k):
  (execOp (ev f) ⟨d,.lookup t x y true,ty,pS,af,gd⟩).run P w=.ok (.value (match O6 m k with|some u=>.tuple #[u,.bool true]|none=>.tuple #[z,.bool false])) w:=by
 obtain⟨es,c,S,E⟩:=h;have T:(zeroValue et).run P w=.ok z w:=by
  have:=hm.z;cases hi:P.info? et with
  | none=>simp[hi]at this
  | some i=>simp[hi]at this;simp[zeroValue,typeInfo,hi,this]
 simp only[execOp,Sem.run_bind,Instr.lookup,run_underlying hm.u,Result.andThen_ok,hx,J,Xv S,Sem.run_pure,G.check,(G.find w k (m.map (·.1)) es.toList (jR E))];cases I:O6 m k with
 | none=>rw[VV E I];simp[T]
 | some u =>
  obtain⟨j,U,_⟩:=VU (i:=0) E I;rw[U];simp
theorem X1 [hm:Mp P t kt et z]{enc:κ->OY}[G:jk P kt enc]{x:OZ}{b:Nat}{m:List (κ×OY)}{k:κ}(h:ZP enc ↑w b m)(hx:ev f x=.map (some b))(J:ev f y=enc k):
  (execOp (ev f) ⟨d,.lookup t x y false,ty,pS,af,gd⟩).run P w=.ok (.value (match O6 m k with|some u=>u|none=>z)) w:=by
 obtain⟨es,c,S,E⟩:=h;have T:(zeroValue et).run P w=.ok z w:=by
  have:=hm.z;cases hi:P.info? et with
  | none=>simp[hi]at this
  | some i=>simp[hi]at this;simp[zeroValue,typeInfo,hi,this]
 simp only[execOp,Sem.run_bind,Instr.lookup,run_underlying hm.u,Result.andThen_ok,hx,J,Xv S,Sem.run_pure,G.check,(G.find w k (m.map (·.1)) es.toList (jR E))];cases I:O6 m k with
 | none=>rw[VV E I];simp[T]
 | some u =>
  obtain⟨j,U,_⟩:=VU (i:=0) E I;rw[U];simp
theorem qK [hm:Mp P t kt et z]{enc:κ->OY}[J:jk P kt enc]{b:Nat}{m:List (κ×OY)}{k:κ}{u:OY}(h:ZP enc ↑w b m):
  ∃w',(Instr.mapUpdate t (.map (some b)) (enc k) u).run P w=.ok () w'/\O1 [b] w w'/\ZP enc ↑w' b (O7 m k u):=by
 have U:=h.lt;obtain⟨es,c,S,G⟩:=h;have E:=J.find w k (m.map (·.1)) es.toList (jR G);have stp:∀V Y,O1 [b] w { w with heap:=w.heap.setIfInBounds b (.map V Y) }:=λV Y =>
  ⟨rfl,rfl,rfl,od,λi hi hn=>by
   have:b≠i:=λe=>hn (by simp[e]);simp[Array.getElem?_setIfInBounds_ne this]⟩
 cases I:O6 m k with
 | none =>
  rw[VV G I]at E;refine⟨_,?_,stp (es.push { key:=enc k,val:=u,born:=c }) (c+1),es.push { key:=enc k,val:=u,born:=c },c+1,?_,?_⟩
  ·simp only[Instr.mapUpdate,Sem.run_bind,run_underlying hm.u,Result.andThen_ok,Xv S,J.check,E,K4 S]
  ·simp[U]
  have ha:O7 m k u=m++[(k,u)]:=by
   clear G E;induction m with
   | nil=>rfl
   | cons p m ih =>
    obtain⟨q,x⟩:=p;by_cases T:q=k
    ·simp[O6,T]at I
    simp only[O6,T,if_false]at I;simp[O7,T,ih I]
  simp[ha,G]
 | some u0 =>
  obtain⟨j,hj,hr,⟨e,he,hc⟩,hh⟩:=VU (i:=0) G I;rw[hj]at E;simp only[oX]at E;have ho:∀w,(Instr.keyThatStays (enc k) (enc k)).run P w=.ok (enc k) w:=λw=>by simp[Instr.keyThatStays,J.same]
  have hp:((es[j]?).map (·.key)).getD (enc k)=enc k:=by
   have:es[j]?=some e:=by simpa using he
   simp[this,hc]
  refine⟨_,?_,stp (es.modify j λe=>{ e with key:=enc k,val:=u }) c,es.modify j λe=>{ e with key:=enc k,val:=u },c,?_,?_⟩
  ·simp only[Instr.mapUpdate,Sem.run_bind,run_underlying hm.u,Result.andThen_ok,Xv S,J.check,E,hp,ho,K4 S]
  ·simp[U]
  rw[Array.toList_modify];exact hh u
theorem YF [hm:Mp P t kt et z]{enc:κ->OY}[hk:jk P kt enc]{x v:OZ}{b:Nat}{m:List (κ×OY)}{k:κ}(h:ZP enc ↑w b m)(hx:ev f x=.map (some b))(E:ev f y=enc k)
  (hK:∀w',O1 [b] w w'->ZP enc ↑w' b (O7 m k (ev f v))->K (QO f d undef) w'):XO P ⟨d,.mapUpdate t x y v,ty,pS,af,gd⟩ f w K:=by
 obtain⟨w',G,I,J⟩:=qK (P:=P) (t:=t) (k:=k) (u:=ev f v) h;exact xk (w':=w') (by simp[execOp,hx,E,G]) (hK w' I J)
theorem Yn [hm:Mp P t kt et z]{enc:κ->OY}[hk:jk P kt enc]{x v:OZ}{b:Nat}{m:List (κ×OY)}{k:κ}(h:ZP enc ↑w b m)(hx:ev f x=.map (some b))(E:ev f y=enc k)
  (hK:∀w',O1 [b] w w'->ZP enc ↑w' b (O7 m k (ev f v))->K (QO f d undef) w'):XO P ⟨d,.insert t x y v,ty,pS,af,gd⟩ f w K:=by
 obtain⟨w',G,I,J⟩:=qK (P:=P) (t:=t) (k:=k) (u:=ev f v) h;exact xk (w':=w') (by simp[execOp,hx,E,G]) (hK w' I J)
end
section
variable {K:Fr->OX->Prop}{f:Fr}{l:xz}
theorem X8 {b:Nat}{cs E:LV}(h:QK ↑w b T cs):QK (w.setRow b E.toArray).heap b T E:=setRow_heap w b cs.toArray E.toArray T (0,0) h
theorem K3 (cs:LV)(j:Nat)(u:OY)(h:j<cs.length):cs.take j++[u]++cs.drop (j+1)=cs.set j u:=by
 rw[List.set_eq_take_append_cons_drop,OQ h];simp
theorem Qv [h1:Xt P t]{x:OZ}{b:Nat}{cs:LV}{u:OY}(E:QK ↑w b T cs)(hx:ev f x=.pointer (some ⟨b,j,none⟩))(J:ev f y=u)(S:j<cs.length)(G:u.oneCell'=true)
  (hK:∀w',O1 [b] w w'->QK ↑w' b T (cs.set j u)->K (QO f d undef) w'):XO P ⟨d,.store t x y,ty,pS,af,gd⟩ f w K:=by
 have U:u.cells=#[u]:=by cases u <;> first|rfl|cases G
 have I:=run_storeCells_at P b j T [u] 0 cs.toArray w E (by simp;omega) (by simp[G]);simp only[Oo,oL,K3 cs j u S]at I;refine xk (w':=w.setRow b (cs.set j u).toArray) ?_ (hK _ (O1.setRow _ _ _) (X8 E));simp[execOp,hx,J,Instr.storeAt,Instr.sureAddr,storeVar,qJ,U,I]
def ZH:LV->Prop
 | []=>True
 | u::us=>u.oneCell'=true/\ZH us
theorem ZH.all:∀{us:LV},ZH us->∀u∈us,u.oneCell'=true
 | [],_,u,E=>by cases E
 | v::us,h,u,E=>by
  rcases Ll.1 E with rfl|E
  ·exact h.1
  exact ZH.all h.2 u E
theorem Zk [h1:Ag P t sz]{x:OZ}{b:Nat}{cs us:LV}(E:QK ↑w b T cs)(hx:ev f x=sP b)(J:ev f y=sT us)(G:us.length=sz)(S:cs.length=sz)(U:ZH us)
  (hK:∀w',O1 [b] w w'->QK ↑w' b T us->K (QO f d undef) w'):XO P ⟨d,.store t x y,ty,pS,af,gd⟩ f w K:=by
 have I:=run_storeCells_at P b 0 T us 0 cs.toArray w E (by simp;omega) U.all;have e:(cs.take 0++us++cs.drop us.length)=us:=by rw[G,<-S];simp
 simp only[Oo,oX,e]at I;refine xk (w':=w.setRow b us.toArray) ?_ (hK _ (O1.setRow _ _ _) (X8 E));subst G;simp[execOp,hx,J,Instr.storeAt,Instr.sureAddr,storeVar,Uh (sz:=us.length),Value.cells,I]
theorem QD {x:OZ}{e bys:Nat}[h:Sl P t e sz bys z]{b o c:Nat}{k:IntKind}(hx:ev f x=.slice (some ⟨b,o,none⟩) n c)(E:ev f y=.int k i)(G:i<n):
  (execOp (ev f) ⟨d,.indexAddr t x y,ty,pS,af,gd⟩).run P w=.ok (.value (.pointer (some ⟨b,o+i*sz,none⟩))) w:=by
 have:=Xw (P:=P) (w:=w) (d:=d) (ty:=ty) (pS:=pS) (af:=af) (gd:=gd) (t:=t) hx E oa oa;rw[XC]at this;simpa using this
theorem Qka {e bys:Nat}[h:Sl P t e sz bys z]{x:OZ}{k:IntKind}(hx:ev f x=.int k n)(J:ev f y=.int k' n)(S:bys*n<=281474976710656)(hn:n<=1099511627776)
  (hK:∀b w',sW w w'->↑w<=b->QK ↑w' b e (oG n z.cells.toList).flatten->K (QO f d (sL b n n)) w'):
  XO P ⟨d,.makeSlice t x y,ty,pS,af,gd⟩ f w K:=by
 obtain⟨i,hi,T,U,V⟩:=Sl.info h;have hb:i.bytes*n<=281474976710656:=by rw[V];exact S
 have Y:(i.bytes:Int)*(n:Int)<=281474976710656:=by
  have h:((i.bytes*n:Nat):Int)<=281474976710656:=oa
  rwa [Int.natCast_mul]at h
 have G:=run_make (P:=P) w t e i z h.u hi T k k' n n oa (Mt _) Y oa;simp only[Ox]at G;have ha:madeCells z.cells (n*i.size)=(oG n z.cells.toList).flatten.toArray:=by
  have hc:z.cells.size=i.size:=by rw[h.zs,U]
  apply Array.ext';apply Nq;intro j;simp only[madeCells,<-hc,Array.toList_map,Array.toList_range,List.getElem?_map];have he:∀n,(oG n z.cells.toList).flatten.length=n*z.cells.size:=λn=>od
  have key:∀n j,j<n*z.cells.size->(oG n z.cells.toList).flatten[j]?=some z.cells[j % z.cells.size]!:=by
   intro n;induction n with
   | zero=>intro j E;omega
   | succ n ih =>
    intro j E;rw[List.replicate_succ,List.flatten_cons];by_cases I:j<z.cells.size
    ·rw[LY (ou I),Nat.mod_eq_of_lt I];simp[I]
    rw[Mk (by simp;omega)];have:=ih (j - z.cells.size) (by rw[Ms]at E;omega);rw[Array.length_toList,this];rw[<-Nat.mod_eq_sub_mod oa]
  by_cases E:j<n*z.cells.size
  ·rw[key n j E];simp[E]
  rw[Mn (ou (Nat.le_of_not_lt E)),List.getElem?_eq_none (by rw[he];omega)];rfl
 rw[ha]at G;refine xv (w':=w.alloc (.cells (oG n z.cells.toList).flatten.toArray e)) (v:=.slice (some ⟨↑w,0,none⟩) n n) ?_ (hK _ _ (O1.alloc w _) (Lp _) (KI w _));simp[execOp,hx,J,G]
theorem YP {e bys:Nat}[h:Sl P t e sz bys z]{x:OZ}{k:IntKind}(hx:ev f x=.int k n)(G:ev f y=.int k' n)(E:n<=1099511627776)
  (hK:∀b w',sW w w'->↑w<=b->QK ↑w' b e (oG n z.cells.toList).flatten->K (QO f d (sL b n n)) w') (I:bys<=128:=by decide):
  XO P ⟨d,.makeSlice t x y,ty,pS,af,gd⟩ f w K:=Qka hx G (Lx (Oz I E) oa) E hK
theorem Yp {k:IntKind}{y:Nat}{c:BoundsCode}(h:i<=y):(Instr.sliceBound (.int k i) y c).run P w=.ok i w:=by
 simp[Instr.sliceBound,asIntOf,h]
theorem Zs.cut {L:LN}{H:xw}{a:Addr}{cap:Nat}{cs:LV}(h:Zs L H (.slice (some a) n cap) n sz cs)(T:lo<=hi)(U:hi<=n):
  Zs L H (.slice (if cap=lo then some a else some (a.add (lo*sz))) (hi - lo) (cap - lo)) (hi - lo) sz ((cs.drop (lo*sz)).take ((hi - lo)*sz)):=by
 obtain⟨J,V,S⟩:=h;rcases S with⟨G,_⟩|⟨a',cap',G,Y,I⟩
 ·cases G
 cases G
 refine⟨?_,oa,.inr ?_⟩
 ·simp only[OD,OC,J,<-Nat.sub_mul];rw[M7];exact MI _ oa
 split
 ·rename_i hc;have:hi - lo=0:=oa
  refine⟨a,cap - lo,by rw[this],oa,λu E=>?_,λu E=>?_,λj u E=>?_⟩
  ·simp[this]at E
  ·simp[this]at E
  simp[this]at E
 refine⟨a.add (lo*sz),cap - lo,O,oa,λu E=>by rw[Ys];exact I.out u (MK (L3 E)),λu E=>by rw[Ys];exact I.lt u (MK (L3 E)),λj u E=>?_⟩;rw[Addr.add_add];rw[LW]at E;split at E
 ·exact I.cell _ u (ou E)
 cases E
theorem QdP {e bys:Nat}[h:Sl P t e sz bys z]{x y1 y2:OZ}{L:LN}{v:OY}{cs:LV}{H:xw}{k:IntKind}(hA:Zs L H v n sz cs)(hx:ev f x=v)(G:ev f y1=.int k lo)(I:ev f y2=.int k' hi)
  (J:lo<=hi) (S:hi<=n):∃v',Zs L H v' (hi - lo) sz ((cs.drop (lo*sz)).take ((hi - lo)*sz))/\∀w,(execOp (ev f) ⟨d,.slice t x (some y1) (some y2) none,ty,pS,af,gd⟩).run P w=.ok (.value v') w:=by
 obtain⟨i,hi',_,T,_⟩:=Sl.info h;rcases hA.2.2 with⟨E,U⟩|⟨a,cap,E,V,Y⟩
 ·have e1:hi=0:=oa
  have e2:lo=0:=oa
  subst e1 e2;refine⟨nS,⟨od,oa,.inl ⟨rfl,rfl⟩⟩,λw=>?_⟩;simp[execOp,hx,E,G,I,Instr.sliceAt,Instr.slice,run_underlying h.u,Instr.sliceBounds,Instr.sliceBound,asIntOf,sizeOf,typeInfo,hi']
 subst E;refine⟨_,hA.cut J S,λw=>?_⟩;have e1:(Instr.sliceBound (.int k' hi) cap .sliceAcap).run P w=.ok hi w:=Yp oa;have e2:(Instr.sliceBound (.int k lo) hi .sliceB).run P w=.ok lo w:=Yp oa;simp[execOp,hx,G,I,Instr.sliceAt,Instr.slice,run_underlying h.u,Instr.sliceBounds,e1,e2,sizeOf,typeInfo,hi',T]
theorem QgF {e bys:Nat}[h:Sl P t e sz bys z]{x y1:OZ}{L:LN}{v:OY}{cs:LV}{H:xw}{k:IntKind}(hA:Zs L H v n sz cs)(hx:ev f x=v)(G:ev f y1=.int k lo)
  (I:lo<=n):∃v',Zs L H v' (n - lo) sz (cs.drop (lo*sz))/\∀w,(execOp (ev f) ⟨d,.slice t x (some y1) none none,ty,pS,af,gd⟩).run P w=.ok (.value v') w:=by
 obtain⟨i,hi',_,S,_⟩:=Sl.info h;rcases hA.2.2 with⟨E,T⟩|⟨a,cap,E,U,V⟩
 ·have e2:lo=0:=oa
  subst e2 T;have:cs=[]:=Lu (ou hA.1);subst this;refine⟨nS,⟨od,oa,.inl ⟨rfl,rfl⟩⟩,λw=>?_⟩;simp[execOp,hx,E,G,Instr.sliceAt,Instr.slice,run_underlying h.u,Instr.sliceBounds,Instr.sliceBound,asIntOf,sizeOf,typeInfo,hi']
 subst E;have J:=hA.cut I (Lp n);have e:(cs.drop (lo*sz)).take ((n - lo)*sz)=cs.drop (lo*sz):=Lq (by rw[Mf,hA.1,<-Nat.sub_mul];exact Lp _);rw[e]at J;refine⟨_,J,λw=>?_⟩;have e2:(Instr.sliceBound (.int k lo) n .sliceB).run P w=.ok lo w:=Yp I;simp[execOp,hx,G,Instr.sliceAt,Instr.slice,run_underlying h.u,Instr.sliceBounds,e2,sizeOf,typeInfo,hi',S]
theorem QgG {e bys:Nat}[h:Sl P t e sz bys z]{x y2:OZ}{L:LN}{v:OY}{cs:LV}{H:xw}{k:IntKind}(hA:Zs L H v n sz cs)(hx:ev f x=v)(G:ev f y2=.int k hi)
  (J:hi<=n):∃v',Zs L H v' hi sz (cs.take (hi*sz))/\∀w,(execOp (ev f) ⟨d,.slice t x none (some y2) none,ty,pS,af,gd⟩).run P w=.ok (.value v') w:=by
 obtain⟨i,hi',_,S,_⟩:=Sl.info h;rcases hA.2.2 with⟨E,T⟩|⟨a,cap,E,U,V⟩
 ·have e2:hi=0:=oa
  subst e2;refine⟨nS,⟨od,oa,.inl ⟨rfl,rfl⟩⟩,λw=>?_⟩;simp[execOp,hx,E,G,Instr.sliceAt,Instr.slice,run_underlying h.u,Instr.sliceBounds,Instr.sliceBound,asIntOf,sizeOf,typeInfo,hi']
 subst E;have I:=hA.cut (Ln hi) J;simp only[Nat.zero_mul,OA,OK]at I;refine⟨_,I,λw=>?_⟩;have e2:(Instr.sliceBound (.int k hi) cap .sliceAcap).run P w=.ok hi w:=Yp oa;simp[execOp,hx,G,Instr.sliceAt,Instr.slice,run_underlying h.u,Instr.sliceBounds,e2,sizeOf,typeInfo,hi']
end
section
variable {K:Fr->OX->Prop}{C:xu}{f:Fr}{w0:OX}{pl:xo}{i0:Nat}
theorem pi {x:OZ}{e bys:Nat}[Sl P t e sz bys z]{L:LN}{cs:LV}{v:OY}{H:xw}{k:IntKind}
  (E:QR ops i0=⟨d,.indexAddr t x y,ty,pS,af,gd⟩) (h:Zs L H v n sz cs) (G:ev f x=v) (I:ev f y=.int k i) (hi:i<n)
  (hK:∀a,At L H a ((cs.drop (i*sz)).take sz)->XP P ops C K pl (QO f d (.pointer (some a))) w) (J:Z3 ops f (QR ops i0)=true:=by rfl):
  XP P ops C K ((i0,true)::pl) f w:=by
 obtain⟨a,cap,S,T⟩:=h.at hi;refine Lg.p (λw'=>by rw[E];exact Xw (G.D S) I oa oa) ?_ J;rw[E];refine hK _ ?_;simpa using T
theorem pii {x:OZ}{e bys:Nat}[Sl P t e 1 bys z]{L:LN}{li:LI}{v:OY}{H:xw}{k:IntKind}
  (E:QR ops i0=⟨d,.indexAddr t x y,ty,pS,af,gd⟩) (h:Qt L H v li) (G:ev f x=v) (I:ev f y=.int k i) (hi:i<li.length)
  (hK:∀a,At L H a [sS li[i]]->XP P ops C K pl (QO f d (.pointer (some a))) w) (J:Z3 ops f (QR ops i0)=true:=by rfl):
  XP P ops C K ((i0,true)::pl) f w:=by
 obtain⟨a,cap,S,T⟩:=Qt.at h hi;refine Lg.p (λw'=>by rw[E];exact Xw (G.D S) I oa oa) ?_ J;rw[E];refine hK _ ?_;simpa using T
end
abbrev Ed:=Int×Int×Int
def Qp (e:Ed):LV:=[sS e.1,sS e.2.1,sS e.2.2]
abbrev Ua (L:LN)(H:xw)(v:OY)(es:List Ed):Prop:=Zs L H v es.length 3 (es.flatMap Qp)
theorem XX {α:Type}(g:α->LV)(sz:Nat)(E:∀x,(g x).length=sz):∀(l:List α) (i:Nat) (h:i<l.length),((l.flatMap g).drop (i*sz)).take sz=g l[i]
 | x::l,0,_=>by simp[E]
 | x::l,i+1,h=>by
  have:=XX g sz E l i (ou h);simp only[oW,List.getElem_cons_succ];rw[<-this,Ms,Nz,MT,List.drop_append,E];simp[Nat.add_sub_cancel_left,List.drop_eq_nil_of_le,E]
theorem KE (g:α->LV)(sz:Nat)(E:∀x,(g x).length=sz)(l:List α):(l.flatMap g).length=l.length*sz:=by
 induction l with
 | nil=>simp
 | cons x l ih=>simp[ih,E,Ok,Nat.add_comm]
theorem Jz (e:Ed):(Qp e).length=3:=rfl
structure QF where
 al:LI
 st:Int
 mr:LI
 ed:List Ed
structure Zr (L:LN)(H:xw)(va vm ve:OY)(a:QF):Prop where
 al:Qt L H va a.al
 mr:Qt L H vm a.mr
 ed:Ua L H ve a.ed
def Qqk (L:LN)(H:xw)(v:OY)(a:QF):Prop:=∃va vm ve,v=.agg #[va,sS a.st,vm,ve]/\Zr L H va vm ve a
theorem Zr.I {L:LN}{w w':OX}{va vm ve:OY}{a:QF}(h:Zr L ↑w va vm ve a)(E:sW w w'):Zr L ↑w' va vm ve a:=⟨h.al.I E,h.mr.I E,h.ed.I E⟩
theorem Zr.st {L:LN}{w w':OX}{va vm ve:OY}{a:QF}(h:Zr L ↑w va vm ve a)(E:O1 L w w'):Zr L ↑w' va vm ve a:=⟨h.al.st E,h.mr.st E,h.ed.st E⟩
theorem Zr.up {L L':LN}{H:xw}{va vm ve:OY}{a:QF}(h:Zr L H va vm ve a)(E:∀b∈L',b∈L\/H.size<=b):Zr L' H va vm ve a:=⟨h.al.up E,h.mr.up E,h.ed.up E⟩
section
variable {f:Fr}
class Ik (P:O0)(t:Nat)(k:outParam IntKind):Prop where
 u:P.underlying t=some (.int k):=by first|kernel_rfl|decide|rfl|exact sX (by kernel_rfl)
theorem Z9 {k:IntKind}[h:Ik P t k][h':Ik P E k']{x:OZ}{n:Int}{G:IntKind}(hx:ev f x=.int G n)(I:inK k' n):
  (execOp (ev f) ⟨d,.convert t E x,ty,pS,af,gd⟩).run P w=.ok (.value (.int k' n)) w:=by
 simp[execOp,hx,convert,run_underlying h.u,run_underlying h'.u,Conv.intToInt,Xu I]
class Bk (P:O0)(t:Nat):Prop where
 u:P.underlying t=some .bool
class St (P:O0)(t:Nat):Prop where
 u:P.underlying t=some .string
end
theorem QX {l:List α}{k:Nat}(h:k<l.length):l.drop k=l[k]::l.drop (k+1):=L5 h
theorem Ua.at {L:LN}{H:xw}{v:OY}{es:List Ed}(h:Ua L H v es){i:Nat}(hi:i<es.length):
  ∃a cap,v=.slice (some a) es.length cap/\At L H (a.add (i*3)) (Qp es[i]):=by
 obtain⟨a,cap,G,E⟩:=Zs.at h hi;rw[XX Qp 3 Jz es i hi]at E;exact⟨a,cap,G,E⟩
section
variable {K:Fr->OX->Prop}{f:Fr}{l:xz}{C:xu}{pl:xo}{i0:Nat}
theorem xie {x:OZ}{e bys:Nat}[Sl P t e 3 bys z]{L:LN}{es:List Ed}{v:OY}{k:IntKind}
  (h:Ua L ↑w v es) (E:ev f x=v) (G:ev f y=.int k i) (hi:i<es.length)
  (hK:∀a,At L ↑w a (Qp es[i])->XL P ops K l (QO f d (.pointer (some a))) w) (I:Z3 ops f ⟨d,.indexAddr t x y,ty,pS,af,gd⟩=true:=by rfl):
  XL P ops K (⟨d,.indexAddr t x y,ty,pS,af,gd⟩::l) f w:=by
 obtain⟨a,cap,J,S⟩:=Ua.at h hi;refine xl I (xv (Xw (E.D J) G oa oa) (hK _ ?_));simpa using S
theorem pie {x:OZ}{e bys:Nat}[Sl P t e 3 bys z]{L:LN}{es:List Ed}{v:OY}{H:xw}{k:IntKind}
  (E:QR ops i0=⟨d,.indexAddr t x y,ty,pS,af,gd⟩) (h:Ua L H v es) (G:ev f x=v) (I:ev f y=.int k i) (hi:i<es.length)
  (hK:∀a,At L H a (Qp es[i])->XP P ops C K pl (QO f d (.pointer (some a))) w) (J:Z3 ops f (QR ops i0)=true:=by rfl):
  XP P ops C K ((i0,true)::pl) f w:=by
 obtain⟨a,cap,S,T⟩:=Ua.at h hi;refine Lg.p (λw'=>by rw[E];exact Xw (G.D S) I oa oa) ?_ J;rw[E];refine hK _ ?_;simpa using T
end
section
variable {f:Fr}
theorem QdQ {x:OZ}{k:IntKind}{a:Int}(hx:ev f x=.int k a)(G:ev f y=.int k' n)(I:n<=k.bits):
  (execOp (ev f) ⟨d,.binOp .shr t x y E,ty,pS,af,gd⟩).run P w=.ok (.value (.int k (a / 2 ^ n))) w:=by
 refine JM hx G ?_;have J:¬((n:Int)<0):=oa
 simp only[binOp,Op.shift,J,if_false,Ox,Nat.min_eq_left I,Sem.run_pure];rw[Int.fdiv_eq_ediv_of_nonneg _ (Int.le_of_lt (Int.pow_pos og))]
class S3 (P:O0)(t:Nat):Prop where
 u:∃f0 f1 f2,P.underlying t=some (.struct #[f0,f1,f2])/\f0.name ≠ "_" /\ f1.name ≠ "_" /\ f2.name ≠ "_" /\ f0.offset=0/\f1.offset=1/\f2.offset=2 /\
  P.underlying f0.type=some (.int .i64)/\P.underlying f1.type=some (.int .i64)/\P.underlying f2.type=some (.int .i64)
 s:P.stoodInHeld t=false
 g:P.eqGuardType P.depth t=false
end
theorem O1.O {L:LN}{w0:OX}{b:Nat}(h:O1 L w0 w)(k:O1 [b] w w')(hb:↑w0<=b):O1 L w0 w':=h.S k (λc E=>.inr (by simp at E;omega))
section
variable {K:Fr->OX->Prop}{f:Fr}
theorem QjQ {e bys:Nat}[h:Sl P t e sz bys z]{x:OZ}{a:Option Addr}{c:Nat}(hx:ev f x=.slice a n c)(G:ev f y=nS):
  (execOp (ev f) ⟨d,.binOp .eql t x y E,ty,pS,af,gd⟩).run P w=.ok (.value (.bool a.isNone)) w:=by
 have I:(eqGuard .eql t x y (.slice a n c) (nS)).run P w=.ok () w:=by simp[eqGuard]
 have key:∀m,(Op.equalIn (m+1) t (.slice a n c) (nS)).run P w=.ok a.isNone w:=by
  intro m;unfold Op.equalIn;cases a <;> simp[run_underlying h.u]
 have J:(Op.equal t (.slice a n c) (nS)).run P w=.ok a.isNone w:=key 9999;simp only[execOp,hx,G,Sem.run_bind,I,Result.andThen_ok,binOp,J,Sem.run_pure]
theorem QcE {e bys:Nat}[h:Sl P t e sz bys z]
  (hK:∀b w',sW w w'->↑w<=b->QK ↑w' b e []->K (QO f d (sL b 0 0)) w'):XO P ⟨d,.buildSlice t 0 #[],ty,pS,af,gd⟩ f w K:=by
 obtain⟨ie,E,I,J,_⟩:=Sl.info h;have G:(execOp (ev f) ⟨d,.buildSlice t 0 #[],ty,pS,af,gd⟩).run P w=.ok (.value (.slice (some ⟨↑w,0,none⟩) 0 0)) (w.alloc (.cells #[] e)):=by
  simp[execOp,Instr.buildSlice,run_underlying h.u,sizeOf,typeInfo,E,Instr.fill,newRow];have e0:Array.map (λ_=>(default:OY)) (Array.range 0)=#[]:=by apply Array.ext';simp
  rw[e0]
 exact xv G (hK _ _ (O1.alloc w _) (Lp _) (KI w _))
end
abbrev Qh (e base:Nat)(w:OX)(v:OY)(l:LI):Prop:=w.ownsRow base e 1 v l.length (l.map (.int .i64))
theorem Qh.ints {e:Nat}{v:OY}{l:LI}{L:LN}(h:Qh e base w v l)(E:l.length<=1099511627776)(G:∀b∈L,b<base):Qt L ↑w v l :=
 QN h E (λb hb I=>oq (Qi h b hb).1 (G b I))
theorem VJ (l:LI):∀u∈l.map (Value.int .i64),u.oneCell'=true:=by
 intro u E;obtain⟨n,_,rfl⟩:=Lz.1 E;rfl
section
variable {P:O0}{ops:xz}{K:Fr->OX->Prop}{f:Fr}{w:OX}{d:xA}{ty:Nat}{pS:String}{af:xx}{gd:xj}{l:xz}{C:xu}{pl:xo}{i0:Nat}
 {t e sz bys:Nat} {z:OY} {x y1 y2:OZ} {L:LN} {v:OY} {n:Nat} {cs:LV} {H:xw} {k k':IntKind} {lo hi:Nat}
theorem Qmp [h:Sl P t e sz bys z](E:QR ops i0=⟨d,.slice t x (some y1) none none,ty,pS,af,gd⟩)(hA:Zs L H v n sz cs)(hx:ev f x=v)(G:ev f y1=.int k lo)(I:lo<=n)(hK:∀v',Zs L H v' (n - lo) sz (cs.drop (lo*sz))->XP P ops C K pl (QO f d v') w)
  (J:Z3 ops f (QR ops i0)=true:=by rfl):XP P ops C K ((i0,true)::pl) f w:=by
 obtain⟨v',S,T⟩:=QgF (P:=P) (d:=d) (ty:=ty) (pS:=pS) (af:=af) (gd:=gd) (t:=t) hA hx G I;exact Lg.p (λw'=>by rw[E];exact T w') (by rw[E];exact hK v' S) J
theorem Qpz [h:Sl P t e sz bys z](hA:Zs L H v n sz cs)(hx:ev f x=v)(E:ev f y1=.int k lo)(G:ev f y2=.int k' hi)(I:lo<=hi)(J:hi<=n)(hK:∀v',Zs L H v' (hi - lo) sz ((cs.drop (lo*sz)).take ((hi - lo)*sz))->XL P ops K l (QO f d v') w)
  (S:Z3 ops f ⟨d,.slice t x (some y1) (some y2) none,ty,pS,af,gd⟩=true:=by rfl):XL P ops K (⟨d,.slice t x (some y1) (some y2) none,ty,pS,af,gd⟩::l) f w:=by
 obtain⟨v',T,U⟩:=QdP (P:=P) (d:=d) (ty:=ty) (pS:=pS) (af:=af) (gd:=gd) (t:=t) hA hx E G I J;exact xl S (xv (U w) (hK v' T))
theorem Ql3 [h:Sl P t e sz bys z](hA:Zs L H v n sz cs)(hx:ev f x=v)(E:ev f y2=.int k hi)(G:hi<=n)(hK:∀v',Zs L H v' hi sz (cs.take (hi*sz))->XL P ops K l (QO f d v') w)
  (I:Z3 ops f ⟨d,.slice t x none (some y2) none,ty,pS,af,gd⟩=true:=by rfl):XL P ops K (⟨d,.slice t x none (some y2) none,ty,pS,af,gd⟩::l) f w:=by
 obtain⟨v',J,S⟩:=QgG (P:=P) (d:=d) (ty:=ty) (pS:=pS) (af:=af) (gd:=gd) (t:=t) hA hx E G;exact xl I (xv (S w) (hK v' J))
end
theorem Qt.drop {L:LN}{H:xw}{v:OY}{l:LI}{lo:Nat}(h:Zs L H v (l.length - lo) 1 ((l.map (Value.int .i64)).drop (lo*1))):Qt L H v (l.drop lo):=by
 rw[OM,<-List.map_drop]at h;have e:(l.drop lo).length=l.length - lo:=Mf;unfold Qt;rw[e];exact h
theorem Qh.snoc {e:Nat}{v:OY}{l:LI}{n:Int}(h:w.ownsRow base e 1 v (l.length+1) (l.map (Value.int .i64)++[sS n])):Qh e base w v (l++[n]):=by
 unfold Qh;rw[Lc,Lv];exact h
def Dj (u v:OY):Prop:=∀b∈ob u,b∉ob v
theorem Dj.symm {u v:OY}(h:Dj u v):Dj v u:=λb hb E=>h b E hb
theorem Dj.nil (v:OY):Dj (nS) v:=λb hb=>by simp[ob]at hb
theorem Dj.nil' (v:OY):Dj v (nS):=(Dj.nil v).symm
theorem Dj.grow {u v:OY}(h:Dj u v)(G:∀b∈ob v',b∈ob v\/N<=b)(I:∀b∈ob u,b<N):Dj u v' :=
 λb hb J=>by rcases G b J with E|E;exact h b hb E;have:=I b hb;omega
theorem QU {e:Nat}{v:OY}{cs:LV}(h:w.ownsRow base e sz v n cs):∀b∈ob v,b<w.heap.size:=λb hb=>(Qi h b hb).2
theorem QJ {e:Nat}{v:OY}{cs:LV}(h:w.ownsRow base e sz v n cs){b:Nat}(hb:b<base):b∉ob v:=λE=>oo (Qi h b E).1
abbrev Z6 (e base:Nat)(w:OX)(v:OY)(l:List Ed):Prop:=w.ownsRow base e 3 v l.length (l.flatMap Qp)
theorem Z6.snoc {e:Nat}{v:OY}{l:List Ed}{n:Ed}(h:w.ownsRow base e 3 v (l.length+1) (l.flatMap Qp++Qp n)):Z6 e base w v (l++[n]):=by
 unfold Z6;rw[Lc,LC];simpa using h
theorem Z6.eds {e:Nat}{v:OY}{l:List Ed}{L:LN}(h:Z6 e base w v l)(E:l.length<=1099511627776)(G:∀b∈L,b<base):Ua L ↑w v l :=
 QN h E (λb hb I=>oq (Qi h b hb).1 (G b I))
def Y1 (N:Nat)(H:xw)(v:OY)(a:QF):Prop:=∃va vm ve,v=.agg #[va,sS a.st,vm,ve]/\∀L:LN,(∀b∈L,b<N)->Zr L H va vm ve a
theorem Y1.v {N:Nat}{H:xw}{v:OY}{a:QF}(h:Y1 N H v a){L:LN}(E:∀b∈L,b<N):Qqk L H v a:=let⟨va,vm,ve,G,I⟩:=h;⟨va,vm,ve,G,I L E⟩
theorem Y1.I {N:Nat}{w w':OX}{v:OY}{a:QF}(h:Y1 N ↑w v a)(E:sW w w'):Y1 N ↑w' v a:=let⟨va,vm,ve,G,I⟩:=h;⟨va,vm,ve,G,λL J=>(I L J).I E⟩
theorem Y1.Y {H:xw}{v:OY}{a:QF}(h:Y1 N H v a)(E:M<=N):Y1 M H v a:=let⟨va,vm,ve,G,I⟩:=h;⟨va,vm,ve,G,λL J=>I L (λb hb=>LP (J b hb) E)⟩
section
variable {K:Fr->OX->Prop}{f:Fr}
theorem qm [Xt P t]{x:OZ}{b:Nat}{l:LI}(h:QK ↑w b T (l.map (.int .i64)))(hx:ev f x=.pointer (some ⟨b,0+i*1,none⟩))(hi:i<l.length):
  (execOp (ev f) ⟨d,.load t x,ty,pS,af,gd⟩).run P w=.ok (.value (sS l[i])) w:=Qk h hx (by simp[hi])
theorem JP [h1:Xt P t]{x:OZ}{b:Nat}{l:LI}{u:Int}(E:QK ↑w b T (l.map (.int .i64)))(hx:ev f x=.pointer (some ⟨b,0+i*1,none⟩))(G:ev f y=sS u)(hi:i<l.length)
  (hK:∀w',O1 [b] w w'->QK ↑w' b T ((l.set i u).map (.int .i64))->K (QO f d undef) w'):XO P ⟨d,.store t x y,ty,pS,af,gd⟩ f w K:=by
 refine Qv E hx G (ou hi) rfl λw' I J=>hK w' I ?_;rw[Nr];simpa using J
end
theorem QaT (n:Nat)(u:OY):(oG n [u]).flatten=oG n u:=by
 induction n with
 | zero=>rfl
 | succ n ih=>simp[List.replicate_succ,ih]
section
variable {K:Fr->OX->Prop}{f:Fr}{l:xz}
theorem Q0 [Ag P t sz]{E G:OZ}{b:Nat}{cs:LV}(us:LV)(I:QK ↑w b T cs)(J:ZH us)(hK:∀w',O1 [b] w w'->QK ↑w' b T us->XL P ops K l (QO f d undef) w')(hx:ev f E=sP b:=by rfl)(S:ev f G=sT us:=by rfl)(U:us.length=sz:=by rfl)(V:cs.length=sz:=by rfl)(Y:Z3 ops f ⟨d,.store t E G,ty,pS,af,gd⟩=true:=by rfl):XL P ops K (⟨d,.store t E G,ty,pS,af,gd⟩::l) f w:=xl Y (Zk I hx S U V J hK)
theorem QP [Ze P t z](us:LV)(hK:∀b w',sW w w'->↑w<=b->QK ↑w' b t us->XL P ops K l (QO f d (sP b)) w')(E:z.cells=us.toArray:=by rfl)(G:Z3 ops f ⟨d,.alloc t,ty,pS,af,gd⟩=true:=by rfl):XL P ops K (⟨d,.alloc t,ty,pS,af,gd⟩::l) f w:=xl G (YK E hK)
theorem Jm {ad b:Nat}{us:LV}[Ag P t sz](E:QK ↑w b T us)(G:f ad=sP b:=by rfl)(I:us.length=sz:=by rfl):∃a,f ad=.pointer (some a)/\(loadVar t a).run P w=.ok (sT us) w:=⟨_,G,ZB I (E.at (L:=[]) od).cells⟩
theorem Us {K:Fr->OX->Prop}[Ag P t sz]{E G:OZ}{b:Nat}{cs:LV}(us:LV)(I:QK ↑w b T cs)(J:ZH us)(hK:∀w',O1 [b] w w'->QK ↑w' b T us->K (QO f d undef) w')(hx:ev f E=sP b:=by rfl)(S:ev f G=sT us:=by rfl)(U:us.length=sz:=by rfl)(V:cs.length=sz:=by rfl):XO P ⟨d,.store t E G,ty,pS,af,gd⟩ f w K:=Zk I hx S U V J hK
end
abbrev YN (l:LI):Prop:=l.Pairwise (·<·)
def zd:Option Int->Int->Bool
 | none,_=>false
 | some b,a=>decide (a<=b)
def Jn (n:Int):Option Int->LI->Int
 | _,[]=>0
 | pr,a::l=>if a<0\/n<=a then 2 else if zd pr a=true then 5 else Jn n (some a) l
def pv {α:Type}(l:List α)(k:Nat):Option α:=if k=0 then none else l[k - 1]?
theorem J3 {l:List α}{k:Nat}(h:k<l.length):pv l (k+1)=some l[k]:=by simp[pv,h]
def edO:Option Ed->Ed->Bool
 | none,_=>false
 | some y,a=>decide (a.1<y.1\/(a.1=y.1/\a.2.1<=y.2.1))
def ckE (al:LI)(st:Int):Option Ed->List Ed->Int
 | _,[]=>0
 | pr,a::l=>if a.1<0\/st<=a.1\/a.2.2<0\/st<=a.2.2 then 2 else if a.2.1∉al then 9 else if edO pr a=true then 5 else ckE al st (some a) l
def XK (a:QF):Int :=
 if Jn 32 none a.al≠0 then Jn 32 none a.al else if a.st<0 then 2 else if 4096<a.st then 3 else if Jn a.st none a.mr≠0 then Jn a.st none a.mr else ckE a.al a.st none a.ed
def XS:LI->LI->Bool
 | [],_=>false
 | _::_,[]=>true
 | a::_,b::_=>decide (a<=b)
def tl (c:Bool)(l:LI):LI:=bif c then l.tail else l
def hx (a b:LI):Int:=bif XS b a then b.headD 0 else a.headD 0
def yd (keep:Bool->Bool->Bool):Nat->LI->LI->LI
 | 0,_,_=>[]
 | n+1,a,b=>if a=[]/\b=[]then[]else(bif keep (XS a b) (XS b a)then[hx a b]else[])++yd keep n (tl (XS a b) a) (tl (XS b a) b)
def mrg (keep:Bool->Bool->Bool)(a b:LI):LI:=yd keep (a.length+b.length) a b
theorem zk {a b:LI}(h:¬(a=[]/\b=[])):(tl (XS a b) a).length+(tl (XS b a) b).length<a.length+b.length:=by
 cases a with
 | nil=>cases b with
  | nil=>simp at h
  | cons y b=>simp[XS,tl]
 | cons x a=>cases b with
  | nil=>simp[XS,tl]
  | cons y b =>
   simp only[XS,tl];by_cases E:x<=y <;> by_cases G:y<=x <;> simp[E,G] <;> omega
theorem yH (keep:Bool->Bool->Bool):∀(n:Nat) (a b:LI),a.length+b.length<=n->yd keep n a b=mrg keep a b:=by
 have key:∀(n m:Nat) (a b:LI),a.length+b.length<=n->a.length+b.length<=m->yd keep n a b=yd keep m a b:=by
  intro n;induction n with
  | zero =>
   intro m a b E _;have G:a=[]:=Lu oa;have hb:b=[]:=Lu oa;subst G hb;cases m <;> simp[yd]
  | succ n ih =>
   intro m a b E I;by_cases h:a=[]/\b=[]
   ·obtain⟨rfl,rfl⟩:=h;cases m <;> simp[yd]
   have J:=zk h;cases m with
   | zero=>omega
   | succ m=>rw[yd,yd,OP h,OP h,ih m _ _ oa oa]
 intro n a b h;exact key n _ a b h (Lp _)
theorem J8 (keep:Bool->Bool->Bool):mrg keep [] []=[]:=rfl
theorem JS (keep:Bool->Bool->Bool){a b:LI}(h:¬(a=[]/\b=[])):
  mrg keep a b=(bif keep (XS a b) (XS b a)then[hx a b]else[])++mrg keep (tl (XS a b) a) (tl (XS b a) b):=by
 have E:=zk h;rw[<-yH keep (a.length+b.length - 1+1) a b oa,yd,OP h,yH keep _ _ _ oa]
theorem QcG (keep:Bool->Bool->Bool):∀(n:Nat) (a b:LI),a.length+b.length<=n->(mrg keep a b).length<=a.length+b.length:=by
 intro n;induction n with
 | zero =>
  intro a b h;have E:a=[]:=Lu oa;have hb:b=[]:=Lu oa;subst E hb;simp[J8]
 | succ n ih =>
  intro a b G;by_cases h:a=[]/\b=[]
  ·obtain⟨rfl,rfl⟩:=h;simp[J8]
  have I:=zk h;rw[JS keep h];have:=ih (tl (XS a b) a) (tl (XS b a) b) oa;cases keep (XS a b) (XS b a) <;> simp <;> omega
theorem qp (keep:Bool->Bool->Bool)(a b:LI):(mrg keep a b).length<=a.length+b.length:=QcG keep _ a b (Lp _)
theorem zC (q:α->Bool)(es:List α)(lo hi:Nat)(S:lo<=hi)(T:hi<=es.length)(I:∀m (E:m<es.length),m<lo->q es[m]=false)(hb:∀m (E:m<es.length),lo<=m->m<hi->q es[m]=true)
  (J:∀m (E:m<es.length),hi<=m->q es[m]=false):(es.drop lo).take (hi - lo)=es.filter q:=by
 have e1:es=es.take lo++((es.drop lo).take (hi - lo)++es.drop hi):=by
  conv=>lhs;rw[<-MF lo es]
  congr 1;conv=>lhs;rw[<-MF (hi - lo) (es.drop lo)]
  rw[List.drop_drop];congr 2;omega
 have f1:(es.take lo).filter q=[]:=by
  rw[MN];intro a G;obtain⟨m,E,rfl⟩:=LM G;rw[LA]at E;rw[MZ,I m oa oa];simp
 have f3:(es.drop hi).filter q=[]:=by
  rw[MN];intro a G;obtain⟨m,E,rfl⟩:=LM G;rw[Mf]at E;rw[List.getElem_drop,J (hi+m) oa oa];simp
 have f2:((es.drop lo).take (hi - lo)).filter q=(es.drop lo).take (hi - lo):=by
  rw[List.filter_eq_self];intro a G;obtain⟨m,E,rfl⟩:=LM G;rw[LA,Mf]at E;rw[MZ,List.getElem_drop];exact hb (lo+m) oa oa oa
 conv=>rhs;rw[e1]
 rw[LR,LR,f1,f2,f3];simp
def QS (es:List Ed)(s:Int):List Ed:=es.filter λe=>decide (e.1=s)
structure Zb (a:QF):Prop where
 al:∀e∈a.al,0<=e/\e<32
 ali:YN a.al
 st0:0<=a.st
 st1:a.st<=4096
 mr:∀s∈a.mr,0<=s/\s<a.st
 mri:YN a.mr
 ed:∀e∈a.ed,0<=e.1/\e.1<a.st/\e.2.1∈a.al/\0<=e.2.2/\e.2.2<a.st
 edi:a.ed.Pairwise λx y=>x.1<y.1\/(x.1=y.1/\x.2.1<y.2.1)
theorem YS (n:Int):∀(l:LI) (pr:Option Int),Jn n pr l=0↔(∀x∈l,0<=x/\x<n)/\YN l/\∀y,pr=some y->∀x∈l,y<x
 | [],pr=>by simp[Jn]
 | a::l,pr=>by
  rw[Jn];by_cases T:a<0\/n<=a
  ·rw[OQ T];simp only[Oi];constructor
   ·intro h;cases h
   rintro⟨⟨h,_⟩,_⟩;omega
  rw[OP T];by_cases E:zd pr a=true
  ·rw[OQ E];constructor
   ·intro h;cases h
   rintro⟨_,_,h⟩;cases pr with
   | none=>simp[zd]at E
   | some y=>simp[zd]at E;have:=h y O a Lo;omega
  rw[OP E,(YS n l (some a))];simp only[Oi,Ou];constructor
  ·rintro⟨I,J,G⟩;refine⟨⟨oa,I⟩,⟨λb hb=>G a O b hb,J⟩,?_⟩;rintro y rfl;simp[zd]at E;exact⟨E,λz S=>oo (G a O z S)⟩
  rintro⟨⟨_,I⟩,⟨J,G⟩,_⟩;exact⟨I,G,λy U z S=>by cases U;exact J z S⟩
theorem QbJ (al:LI)(st:Int):∀(l:List Ed) (pr:Option Ed),ckE al st pr l=0↔(∀e∈l,0<=e.1/\e.1<st/\e.2.1∈al/\0<=e.2.2/\e.2.2<st)/\(l.Pairwise λx y=>x.1<y.1\/(x.1=y.1/\x.2.1<y.2.1)) /\
  ∀y,pr=some y->∀e∈l,y.1<e.1\/(y.1=e.1/\y.2.1<e.2.1)
 | [],pr=>by simp[ckE]
 | a::l,pr=>by
  rw[ckE];by_cases U:a.1<0\/st<=a.1\/a.2.2<0\/st<=a.2.2
  ·rw[OQ U];simp only[Oi];constructor
   ·intro h;cases h
   rintro⟨⟨h,_⟩,_⟩;omega
  rw[OP U];by_cases G:a.2.1∉al
  ·rw[OQ G];constructor
   ·intro h;cases h
   rintro⟨h,_⟩;exact OS (h a Lo).2.2.1 G
  rw[OP G];by_cases E:edO pr a=true
  ·rw[OQ E];constructor
   ·intro h;cases h
   rintro⟨_,_,h⟩;cases pr with
   | none=>simp[edO]at E
   | some y=>simp[edO]at E;have:=h y O a Lo;omega
  rw[OP E,(QbJ al st l (some a))];simp only[Oi,Ou];have V:a.2.1∈al:=Lr.1 G;constructor
  ·rintro⟨J,S,I⟩;refine⟨⟨⟨oa,oa,V,oa,oa⟩,J⟩,⟨λb hb=>I a O b hb,S⟩,?_⟩;rintro y rfl;simp[edO]at E;have Y:y.1<a.1\/y.1=a.1/\y.2.1<a.2.1:=oa
   exact⟨Y,λz T=>oo (I a O z T)⟩
  rintro⟨⟨_,J⟩,⟨S,I⟩,_⟩;exact⟨J,I,λy hy z T=>by cases hy;exact S z T⟩
theorem ZF (a:QF):XK a=0↔Zb a:=by
 unfold XK;by_cases E:Jn 32 none a.al≠0
 ·rw[OQ E];exact⟨λh=>OS h E,λh=>OS ((YS 32 a.al none).2 ⟨h.al,h.ali,λ_ h=>by cases h⟩) E⟩
 rw[OP E];have I:=(YS 32 a.al none).1 (Lr.1 E);by_cases J:a.st<0
 ·rw[OQ J];exact⟨λh=>(by cases h),λh=>(oo h.st0)⟩
 rw[OP J];by_cases S:4096<a.st
 ·rw[OQ S];exact⟨λh=>(by cases h),λh=>(oo h.st1)⟩
 rw[OP S];by_cases G:Jn a.st none a.mr≠0
 ·rw[OQ G];exact⟨λh=>OS h G,λh=>OS ((YS a.st a.mr none).2 ⟨h.mr,h.mri,λ_ h=>by cases h⟩) G⟩
 rw[OP G,QbJ];have T:=(YS a.st a.mr none).1 (Lr.1 G);exact⟨λh=>⟨I.1,I.2.1,oa,oa,T.1,T.2.1,h.1,h.2.1⟩,λh=>⟨h.ed,h.edi,λ_ h=>by cases h⟩⟩
theorem Xo:∀(l:LI) (a n:Int),YN l->(∀x∈l,a<=x/\x<n)->(l.length:Int)<=max 0 (n - a)
 | [],a,n,_,_=>by simp;omega
 | x::l,a,n,E,G=>by
  simp only[Ou,Oi]at E G;have:=Xo l (x+1) n E.2 (λy I=>⟨oo (E.1 y I),(G.2 y I).2⟩);simp only[oQ];omega
theorem Zb.al_le {a:QF}(h:Zb a):a.al.length<=32:=by have:=Xo a.al 0 32 h.ali h.al;omega
theorem Zb.mr_le {a:QF}(h:Zb a):a.mr.length<=4096:=by have:=Xo a.mr 0 a.st h.mri h.mr;have:=h.st1;omega
theorem Zb.eds {a:QF}(h:Zb a):a.ed.Pairwise λx y=>x.1<=y.1:=h.edi.imp λh=>oa
structure Cs where
 ord:LI
 num:LI
 mk':LI
 ed:List Ed
def Yh (l:LI)(k:Int):Int:=l.getD k.toNat 0
def Zw (i:Nat)(c:Cs)(e:Ed):Cs :=
 if Yh c.num e.2.2<0 then⟨c.ord++[e.2.2],c.num.set e.2.2.toNat c.ord.length,c.mk',c.ed++[((i:Int),e.2.1,(c.ord.length:Int))]⟩
 else⟨c.ord,c.num,c.mk',c.ed++[((i:Int),e.2.1,Yh c.num e.2.2)]⟩
def Yk (a:QF)(i:Nat)(c:Cs):Cs:=if Yh c.ord i∈a.mr then⟨c.ord,c.num,c.mk'++[(i:Int)],c.ed⟩else c
def yb (a:QF)(i:Nat)(c:Cs):Cs:=(QS a.ed (Yh c.ord i)).foldl (Zw i) (Yk a i c)
def Jh (a:QF):Nat->Nat->Cs->Cs
 | 0,_,c=>c
 | f+1,i,c=>if i<c.ord.length then Jh a f (i+1) (yb a i c)else c
def YM (a:QF):Cs:=⟨[0],(oG a.st.toNat (-1)).set 0 0,[],[]⟩
def X0 (a:QF):QF:=if a.st=0 then⟨a.al,0,[],[]⟩else
 let c:=Jh a a.st.toNat 0 (YM a);⟨a.al,c.ord.length,c.mk',c.ed⟩
def neg (l:LI):Nat:=(l.filter (·<0)).length
theorem VM:∀(l:LI) (k:Nat) (v:Int) (h:k<l.length),l[k]<0->0<=v->neg (l.set k v)+1=neg l
 | a::l,0,v,_,E,G=>by
  have I:a<0:=E;simp[neg,I,show ¬v<0 by omega]
 | a::l,k+1,v,h,E,G=>by
  have ih:=VM l k v (ou h) E G;unfold neg at *;simp only[List.set_cons_succ,OE];split
  ·simp only[oQ];omega
  exact ih
structure Vv (st:Int)(c:Cs):Prop where
 nl:c.num.length=st.toNat
 sum:c.ord.length+neg c.num=st.toNat
 ord:∀s∈c.ord,0<=s/\s<st
 num:∀v∈c.num,v<c.ord.length
 el:c.ed.length<=1000000000
theorem Vv.le {st:Int}{c:Cs}(h:Vv st c):c.ord.length<=st.toNat:=by have:=h.sum;omega
theorem VS {l:LI}{k:Int}(h:k.toNat<l.length):Yh l k=l[k.toNat]:=by unfold Yh;simp[oO,h]
theorem QaG {st:Int}{c:Cs}{e:Ed}(h:Vv st c)(T:0<=e.2.2)(U:e.2.2<st)(I:c.ed.length+1<=1000000000):Vv st (Zw i c e):=by
 have J:e.2.2.toNat<c.num.length:=by rw[h.nl];omega
 unfold Zw;split
 ·rename_i S;rw[VS J]at S;refine⟨by simp[h.nl],?_,?_,?_,ou I⟩
  ·have:=VM c.num e.2.2.toNat c.ord.length J S oa;have:=h.sum;simp only[oM,oL];omega
  ·intro s E;simp only[oV,oF]at E;rcases E with E|rfl
   ·exact h.ord s E
   exact⟨T,U⟩
  intro v G;simp only[oM,oL];rcases Nn G with G|rfl
  ·have:=h.num v G;omega
  omega
 exact⟨h.nl,h.sum,h.ord,h.num,ou I⟩
theorem QaI (i:Nat)(c:Cs)(e:Ed):(Zw i c e).ed.length=c.ed.length+1:=by unfold Zw;split <;> simp
theorem Qhp {a:QF}{st:Int}{c:Cs}(h:Vv st c):Vv st (Yk a i c):=by
 unfold Yk;split
 ·exact⟨h.nl,h.sum,h.ord,h.num,h.el⟩
 exact h
theorem ZC {es:List Ed}{e:Ed}(h:e∈QS es s):e∈es/\e.1=s:=by unfold QS at h;simpa using h
theorem QeA {a:QF}(S:0<a.st):Vv a.st (YM a):=by
 have I:0<a.st.toNat:=oa
 refine⟨by simp[YM],?_,?_,?_,by simp[YM]⟩
 ·have J:0<(oG a.st.toNat (-1:Int)).length:=by simpa using I
  have T:=VM (oG a.st.toNat (-1)) 0 0 J od (Mt _);have U:neg (oG a.st.toNat (-1))=a.st.toNat:=by
   unfold neg;rw[List.filter_eq_self.2 (by intro b hb;have:=Nt hb;subst this;rfl)];simp
  simp only[YM,oL];omega
 ·intro s G;simp[YM]at G;subst G;omega
 intro v E;simp only[YM,oL]at *;rcases Nn E with E|rfl
 ·have:=Nt E;omega
 omega
theorem ja {a:QF}{f:Nat}{c:Cs}(h:¬i<c.ord.length):Jh a f i c=c:=by
 cases f with
 | zero=>rfl
 | succ f=>rw[Jh,OP h]
theorem Zb.ed_le {a:QF}(h:Zb a):a.ed.length<=131072:=by
 have I:YN (a.ed.map λe=>e.1*32+e.2.1):=by
  refine L7.2 (List.Pairwise.imp_of_mem ?_ h.edi);intro x y hx J U;have E:=h.al _ (h.ed x hx).2.2.1;have G:=h.al _ (h.ed y J).2.2.1;omega
 have E:=Xo _ 0 131072 I (by
  intro v S;obtain⟨e,T,rfl⟩:=Lz.1 S;have G:=h.ed e T;have V:=h.al _ G.2.2.1;have:=h.st1;omega)
 simp only[Om]at E;omega
theorem Z8 (es:List Ed)(s:Int):(QS es s).length<=es.length:=LF _ _
section
variable {K:Fr->OX->Prop}{f:Fr}{l:xz}{C:xu}{pl:xo}{i0:Nat}
theorem O4 {g:α->LV}{x:OZ}{e bys:Nat}[Sl P t e sz bys z](G:∀x,(g x).length=sz){L:LN}{es:List α}{v:OY}{k:IntKind}
  (h:Zs L ↑w v es.length sz (es.flatMap g)) (I:ev f x=v) (J:ev f y=.int k i) (hi:i<es.length)
  (hK:∀a,At L ↑w a (g es[i])->XL P ops K l (QO f d (.pointer (some a))) w) (S:Z3 ops f ⟨d,.indexAddr t x y,ty,pS,af,gd⟩=true:=by rfl):
  XL P ops K (⟨d,.indexAddr t x y,ty,pS,af,gd⟩::l) f w:=by
 obtain⟨a,cap,T,E⟩:=Zs.at h hi;rw[XX g sz G es i hi]at E;refine xl S (xv (Xw (I.D T) J oa oa) (hK _ ?_));simpa using E
theorem pig {g:α->LV}{x:OZ}{e bys:Nat}[Sl P t e sz bys z](E:QR ops i0=⟨d,.indexAddr t x y,ty,pS,af,gd⟩)(I:∀x,(g x).length=sz){L:LN}{es:List α}{v:OY}{H:xw}{k:IntKind}
  (h:Zs L H v es.length sz (es.flatMap g)) (J:ev f x=v) (S:ev f y=.int k i) (hi:i<es.length)
  (hK:∀a,At L H a (g es[i])->XP P ops C K pl (QO f d (.pointer (some a))) w) (T:Z3 ops f (QR ops i0)=true:=by rfl):
  XP P ops C K ((i0,true)::pl) f w:=by
 obtain⟨a,cap,U,G⟩:=Zs.at h hi;rw[XX g sz I es i hi]at G;refine Lg.p (λw'=>by rw[E];exact Xw (J.D U) S oa oa) ?_ T;rw[E];refine hK _ ?_;simpa using G
end
theorem Zs.grow {X X' Y:LN}{v:OY}{cs:LV}(h:Zs X ↑w v n sz cs)(G:O1 Y w w')(I:∀b∈Y,b∈X)(hX:∀b∈X',b∈X\/↑w<=b):Zs X' ↑w' v n sz cs:=by
 have E:Zs (X++X') ↑w v n sz cs:=h.up (λb hb=>by
  rcases Le.1 hb with E|E
  ·exact .inl E
  exact hX b E)
 exact(E.J G (λb hb=>Le.2 (.inl (I b hb)))).up (λb hb=>.inl (Le.2 (.inr hb)))
structure AV where
 va:OY
 vm:OY
 ve:OY
 a:QF
abbrev ZG (p:AV):LV:=[p.va,sS p.a.st,p.vm,p.ve]
structure XG (L:LN)(H:xw)(v:OY)(ps:List AV):Prop where
 arr:Zs L H v ps.length 4 (ps.flatMap ZG)
 each:∀p∈ps,Zr L H p.va p.vm p.ve p.a
theorem XG.I {L:LN}{w w':OX}{v:OY}{ps:List AV}(h:XG L ↑w v ps)(E:sW w w'):XG L ↑w' v ps:=⟨h.arr.I E,λp G=>(h.each p G).I E⟩
theorem XG.st {L:LN}{w w':OX}{v:OY}{ps:List AV}(h:XG L ↑w v ps)(E:O1 L w w'):XG L ↑w' v ps:=⟨h.arr.st E,λp G=>(h.each p G).st E⟩
theorem XG.up {L L':LN}{H:xw}{v:OY}{ps:List AV}(h:XG L H v ps)(E:∀b∈L',b∈L\/H.size<=b):XG L' H v ps:=⟨h.arr.up E,λp G=>(h.each p G).up E⟩
abbrev TV:=OY×LI
abbrev Yz (p:TV):LV:=[p.1]
structure Jq (L:LN)(H:xw)(v:OY)(ps:List TV):Prop where
 arr:Zs L H v ps.length 1 (ps.flatMap Yz)
 each:∀p∈ps,Qt L H p.1 p.2
theorem Jq.I {L:LN}{w w':OX}{v:OY}{ps:List TV}(h:Jq L ↑w v ps)(E:sW w w'):Jq L ↑w' v ps:=⟨h.arr.I E,λp G=>(h.each p G).I E⟩
theorem Jq.st {L:LN}{w w':OX}{v:OY}{ps:List TV}(h:Jq L ↑w v ps)(E:O1 L w w'):Jq L ↑w' v ps:=⟨h.arr.st E,λp G=>(h.each p G).st E⟩
theorem Jq.up {L L':LN}{H:xw}{v:OY}{ps:List TV}(h:Jq L H v ps)(E:∀b∈L',b∈L\/H.size<=b):Jq L' H v ps:=⟨h.arr.up E,λp G=>(h.each p G).up E⟩
def Qdh (N:Nat)(H:xw)(v:OY)(l:List (LI)):Prop:=∃ps:List TV,ps.map (·.2)=l/\∀L:LN,(∀b∈L,b<N)->Jq L H v ps
theorem Qdh.Y {H:xw}{v:OY}{l:List (LI)}(h:Qdh N H v l)(E:M<=N):Qdh M H v l:=let⟨ps,G,I⟩:=h;⟨ps,G,λL J=>I L (λb hb=>LP (J b hb) E)⟩
abbrev qa (e base:Nat)(w:OX)(v:OY)(ps:List TV):Prop:=w.ownsRow base e 1 v ps.length (ps.flatMap Yz)
theorem qa.snoc {e:Nat}{v:OY}{ps:List TV}{p:TV}(h:w.ownsRow base e 1 v (ps.length+1) (ps.flatMap Yz++[p.1])):qa e base w v (ps++[p]):=by
 unfold qa;rw[Lc,LC];simpa using h
theorem Ur {e:Nat}{v:OY}{cs:LV}(h:w.ownsRow base e sz v n cs)(G:0<n):∃g cap,v=sL g n cap:=by
 rcases h.2 with⟨_,I⟩|⟨g,cap,cur,E,_⟩
 ·omega
 exact⟨g,cap,E⟩
section
variable {K:Fr->OX->Prop}{f:Fr}{l:xz}
theorem Qa5 [h1:Xt P t]{x:OZ}{e cap:Nat}{cs:LV}{u:OY}(h:w.ownsRow base e 1 (sL g n cap) n cs)(hx:ev f x=.pointer (some ⟨g,0+i*1,none⟩))(G:ev f y=u)(hi:i<n)(I:u.oneCell'=true)
  (hK:∀w',O1 [g] w w'->w'.ownsRow base e 1 (sL g n cap) n (cs.set i u)->K (QO f d undef) w'):XO P ⟨d,.store t x y,ty,pS,af,gd⟩ f w K:=by
 obtain⟨J,h⟩:=h;rcases h with⟨S,_⟩|⟨g',cap',cur,e1,hb,T,U,V,E,Y⟩
 ·cases S
 cases e1
 have hB:QK ↑w g e cur.toList:=by unfold QK;simpa using T
 refine Qv (j:=i) hB (by rw[hx];simp) G (by simp[E];omega) I λw' hs ha=>hK w' hs ⟨ou J,.inr ⟨g,cap,(cur.toList.set i u).toArray,rfl,hb,ha,U,V,ou E,?_⟩⟩;rw[<-Y];simp[List.take_set]
end
section
variable {f:Fr}{κ:Type}[DecidableEq κ]
theorem Un [hm:Mp P t kt et z]{enc:κ->OY}[hk:jk P kt enc]{x:OZ}{b:Nat}{m:List (κ×OY)}{k:κ}{u:OY}(h:ZP enc ↑w b m)(hx:ev f x=.map (some b))(E:ev f y=enc k)(G:O6 m k=some u):
  (execOp (ev f) ⟨d,.lookup t x y true,ty,pS,af,gd⟩).run P w=.ok (.value (.tuple #[u,.bool true])) w:=by
 have:=Kx (P:=P) (t:=t) (d:=d) (ty:=ty) (pS:=pS) (af:=af) (gd:=gd) h hx E;rw[G]at this;exact this
theorem yC [hm:Mp P t kt et z]{enc:κ->OY}[hk:jk P kt enc]{x:OZ}{b:Nat}{m:List (κ×OY)}{k:κ}(h:ZP enc ↑w b m)(hx:ev f x=.map (some b))(E:ev f y=enc k)(G:O6 m k=none):
  (execOp (ev f) ⟨d,.lookup t x y true,ty,pS,af,gd⟩).run P w=.ok (.value (.tuple #[z,.bool false])) w:=by
 have:=Kx (P:=P) (t:=t) (d:=d) (ty:=ty) (pS:=pS) (af:=af) (gd:=gd) h hx E;rw[G]at this;exact this
end
def ckL:List QF->Int
 | []=>0
 | a::l=>if XK a≠0 then XK a else ckL l
def K5 (l:List QF):Int:=if 12<l.length then 3 else ckL l
theorem QbH:∀(l:List QF),ckL l=0↔∀a∈l,Zb a
 | []=>by simp[ckL]
 | a::l=>by
  rw[ckL];by_cases h:XK a=0
  ·rw[OP (ou h),QbH l];simp[(ZF a).1 h]
  rw[OQ h];simp only[Oi];exact⟨λe=>OS e h,λe=>OS ((ZF a).2 e.1) h⟩
def evs (l:List QF):LI:=l.foldl (λacc a=>mrg (· || ·) acc a.al) []
def Kl (m:List ((Int×Int)×OY))(es:List Ed):List ((Int×Int)×OY):=es.foldl (λm e=>O7 m (e.1,e.2.1) (sS e.2.2)) m
def O9:List Ed->Int->Int->Option Int
 | [],_,_=>none
 | e::l,s,v=>if e.1=s/\e.2.1=v then some e.2.2 else O9 l s v
theorem yY {l:List Ed}{v:Int}(h:∀e∈l,¬(e.1=s/\e.2.1=v)):O9 l s v=none:=by
 induction l with
 | nil=>rfl
 | cons e l ih =>
  rw[O9,OP (h e Lo)];exact ih λe E=>h e (Lm _ E)
theorem UC:∀(es:List Ed) (m:List ((Int×Int)×OY)) (s v:Int),(es.Pairwise λx y=>x.1<y.1\/(x.1=y.1/\x.2.1<y.2.1)) ->
  O6 (Kl m es) (s,v)=match O9 es s v with|some t=>some (sS t)|none=>O6 m (s,v)
 | [],m,s,v,_=>rfl
 | e::es,m,s,v,h=>by
  simp only[Ou]at h;have ih:=UC es (O7 m (e.1,e.2.1) (sS e.2.2)) s v h.2;unfold Kl at *;rw[LO,ih,O9];by_cases E:e.1=s/\e.2.1=v
  ·rw[OQ E,yY (λx hx I=>oo (h.1 x hx))];simp only[X3];rw[OQ (by rw[E.1,E.2])]
  rw[OP E];cases O9 es s v with
  | some t=>rfl
  | none =>
   simp only[X3];rw[OP (λG=>E (ou G))]
def Ym (ev:Int):List QF->LI->Option (LI)
 | a::bs,t::ts=>if ev∉a.al then(Ym ev bs ts).map (t::·)else match O9 a.ed t ev with|none=>none|some u=>(Ym ev bs ts).map (u::·)
 | _,_=>some []
def Je:List QF->LI->Bool
 | a::bs,t::ts=>decide (t∈a.mr) && Je bs ts
 | _,_=>true
structure Sy where
 tup:List (LI)
 mk':LI
 ed:List Ed
def syE (aa:List QF)(i:Nat)(t:LI)(s:Sy)(v:Int):Option Sy :=
 match Ym v aa t with
 | none=>some s
 | some u=>if u∈s.tup then some ⟨s.tup,s.mk',s.ed++[((i:Int),v,(s.tup.idxOf u:Int))]⟩
  else if s.tup.length=4096 then none else some ⟨s.tup++[u],s.mk',s.ed++[((i:Int),v,(s.tup.length:Int))]⟩
def Ug (aa:List QF)(i:Nat)(t:LI):LI->Sy->Option Sy
 | [],s=>some s
 | v::vs,s=>(syE aa i t s v).bind (Ug aa i t vs)
def Z1 (aa:List QF)(i:Nat)(t:LI)(s:Sy):Sy:=if Je aa t=true then⟨s.tup,s.mk'++[(i:Int)],s.ed⟩else s
def UP (s:Sy)(i:Nat):LI:=s.tup.getD i []
def syL (aa:List QF):Nat->Nat->Sy->Option Sy
 | 0,_,s=>some s
 | f+1,i,s=>if i<s.tup.length then(Ug aa i (UP s i) (evs aa) (Z1 aa i (UP s i) s)).bind (syL aa f (i+1))else some s
def qE (aa:List QF):Sy:=⟨[oG aa.length 0],[],[]⟩
def xd (aa:List QF):Option (QF×List (LI)):=
 if ∃a∈aa,a.st=0 then some (⟨evs aa,0,[],[]⟩,[])else(syL aa 4096 0 (qE aa)).map λs=>(⟨evs aa,s.tup.length,s.mk',s.ed⟩,s.tup)
theorem Qgj {aa:List QF}{f:Nat}{s:Sy}(h:¬i<s.tup.length):syL aa f i s=some s:=by
 cases f with
 | zero=>rfl
 | succ f=>rw[syL,OP h]
def Vt (aa:List QF)(t:LI):Prop:=t.length=aa.length/\∀i (h:i<t.length) (E:i<aa.length),0<=t[i]/\t[i]<aa[i].st
theorem Vt.cons {a:QF}{aa:List QF}{u:Int}{t:LI}(E:0<=u)(G:u<a.st)(h:Vt aa t):Vt (a::aa) (u::t):=by
 refine⟨by simp[h.1],λi I J=>?_⟩;cases i with
 | zero=>exact⟨E,G⟩
 | succ i=>exact h.2 i (ou I) (ou J)
theorem Qbx {l:List Ed}{v u:Int}(h:O9 l s v=some u):(s,v,u)∈l:=by
 induction l with
 | nil=>cases h
 | cons e l ih =>
  rw[O9]at h;split at h
  ·rename_i E;obtain⟨e1,e2⟩:=E;cases h
   obtain⟨a,b,c⟩:=e;subst e1 e2;exact Lo
  exact Lm _ (ih h)
theorem XB {v:Int}:∀{aa:List QF}{t u:LI},(∀a∈aa,Zb a)->Vt aa t->Ym v aa t=some u->Vt aa u
 | [],t,u,_,h,E=>by
  cases t with
  | nil=>simp[Ym]at E;subst E;exact h
  | cons x t=>have:=h.1;simp at this
 | a::aa,[],u,_,h,E=>by have:=h.1;simp at this
 | a::aa,x::t,u,I,h,E=>by
  have hx:=h.2 0 od od;have J:Vt aa t:=⟨by have:=h.1;simpa using this,λi T U=>h.2 (i+1) (ou T) (ou U)⟩;have S:∀a∈aa,Zb a:=λa V=>I a (Lm _ V);rw[Ym]at E;split at E
  ·obtain⟨Y,G,rfl⟩:=M4.1 E;exact Vt.cons hx.1 hx.2 (XB S J G)
  split at E
  ·cases E
  rename_i q hq;obtain⟨Y,G,rfl⟩:=M4.1 E;have:=(I a Lo).ed _ (Qbx hq);exact Vt.cons this.2.2.2.1 this.2.2.2.2 (XB S J G)
structure UK (aa:List QF)(s:Sy):Prop where
 v:∀t∈s.tup,Vt aa t
 le:s.tup.length<=4096
theorem yr {aa:List QF}{t:LI}{s:Sy}(h:UK aa s):UK aa (Z1 aa i t s):=by
 unfold Z1;split
 ·exact⟨h.v,h.le⟩
 exact h
theorem Qgm {aa:List QF}{t:LI}{s I:Sy}{v:Int}(J:∀a∈aa,Zb a)(h:UK aa s)(G:Vt aa t)(E:syE aa i t s v=some I):UK aa I:=by
 unfold syE at E;split at E
 ·cases E;exact h
 rename_i u S;split at E
 ·cases E;exact⟨h.v,h.le⟩
 split at E
 ·cases E
 cases E
 have:=h.le;refine⟨λt G=>?_,by simp;omega⟩;simp only[oV,oF]at G;rcases G with G|rfl
 ·exact h.v t G
 exact(XB J G S)
structure Vw where
 en:LI
 dis:LI
 mk':Bool
 ps:Bool
def Qnn:Vw:=⟨[],[],false,false⟩
def Ql5 (l:LI)(v:Int):LI:=mrg (· || ·) l [v]
def Qp7 (p s:QF)(x y:Int)(c:Vw)(v:Int):Vw :=
 match O9 p.ed x v with
 | none=>c
 | some _=>match O9 s.ed y v with
  | some _=>⟨Ql5 c.en v,c.dis,c.mk',c.ps⟩
  | none=>⟨c.en,Ql5 c.dis v,c.mk',c.ps⟩
def Qp8 (p s:QF)(x y:Int)(c:Vw):Vw:=⟨c.en,c.dis,decide (y∈s.mr),c.ps || decide (x∈p.mr)⟩
def Qp6 (p s:QF)(x y:Int)(c:Vw):Vw:=s.al.foldl (Qp7 p s x y) (Qp8 p s x y c)
def px (q:LI):Int:=q.getD 0 0
def py (q:LI):Int:=q.getD 1 0
def Qp5 (p s:QF)(l:List Vw)(q:LI):List Vw:=l.set (py q).toNat (Qp6 p s (px q) (py q) (l.getD (py q).toNat Qnn))
def ctls (p s:QF)(pairs:List (LI)):List Vw:=pairs.foldl (Qp5 p s) (oG s.st.toNat Qnn)
def occs (n:Nat)(pairs:List (LI)):List Bool:=pairs.foldl (λo q=>o.set (py q).toNat true) (oG n false)
def meets (a b:LI):LI:=mrg (· && ·) a b
def QoP (a b:Vw):Bool:=decide ((meets a.en b.dis).length+(meets b.en a.dis).length=0) && (!a.ps || !b.ps || a.mk' == b.mk')
def O2 (l:LI)(i:Nat):Int:=l.getD i 0
def Qho (cl:LI)(x y:Nat):LI:=cl.map λc=>if c=O2 cl y then O2 cl x else c
def lget (l:List Vw)(i:Nat):Vw:=l.getD i Qnn
def to0 (s:QF)(x:Nat)(v:Int):Int:=match O9 s.ed x v with|some u=>u|none=>0
def clE (s:QF)(x y:Nat)(z:LI×Bool)(v:Int):LI×Bool :=
 if O2 z.1 (to0 s x v).toNat≠O2 z.1 (to0 s y v).toNat then(Qho z.1 (to0 s x v).toNat (to0 s y v).toNat,true)else z
def clY (s:QF)(l:List Vw)(x:Nat)(z:LI×Bool)(y:Nat):LI×Bool :=
 if O2 z.1 x<0\/O2 z.1 x≠O2 z.1 y then z else(meets (lget l x).en (lget l y).en).foldl (clE s x y) z
def clX (s:QF)(l:List Vw)(n:Nat)(z:LI×Bool)(x:Nat):LI×Bool:=(oN (x+1) (n - (x+1))).foldl (clY s l x) z
def pass (s:QF)(l:List Vw)(cl:LI):LI×Bool:=(oN 0 cl.length).foldl (clX s l cl.length) (cl,false)
def QiG (s:QF)(l:List Vw):Nat->LI->LI
 | 0,cl=>cl
 | f+1,cl=>if(pass s l cl).2=true then QiG s l f (pass s l cl).1 else(pass s l cl).1
def Qk6 (l:List Vw)(cl:LI):Bool :=
 (oN 0 cl.length).all λx=>(oN 0 x).all λy=>!(decide (0<=O2 cl x/\O2 cl x=O2 cl y) && !QoP (lget l x) (lget l y))
def QpB (s:QF)(l:List Vw)(cl:LI)(x y:Nat):LI :=
 if O2 cl x<0\/O2 cl y<0\/O2 cl x=O2 cl y then cl else
  let d:=QiG s l (cl.length*cl.length+1) (Qho cl x y)
  if Qk6 l d=true then d else cl
def QpA (s:QF)(l:List Vw)(n:Nat)(cl:LI)(x:Nat):LI:=(oN (x+1) (n - (x+1))).foldl (λc y=>QpB s l c x y) cl
def Qqa (o:List Bool):LI:=(oN 0 o.length).map λi=>if o.getD i false=true then(i:Int)else -1
def Qp9 (s:QF)(l:List Vw)(cl:LI):LI:=(oN 0 cl.length).foldl (QpA s l cl.length) cl
def QpX (z:LI×LI)(c:Int):LI×LI :=
 if c∈z.1 then(z.1,z.2++[(z.1.idxOf c:Int) - 1])else(z.1++[c],z.2++[(z.1.length:Int) - 1])
def nums (cl:LI):LI:=(cl.foldl QpX ([-1],[])).2
def QoU (p s:QF)(pairs:List (LI)):LI:=nums (Qp9 s (ctls p s pairs) (Qqa (occs s.st.toNat pairs)))
end Go.Lg
namespace Go.Proofs
open Go.Proofs.Tryz
open Go.Lg
instance:Sl sV 32 183 4 4 (.agg #[.int .u8 0,.int .u8 0,.int .u8 0,.int .u8 0]):={}
instance:Sl sV 41 94 5 32 (.agg #[.string ByteArray.empty,.bool false,.bool false,.bool false,sS 0]):={}
instance:Sl sV 42 81 5 96 (.agg #[.string ByteArray.empty,nS,sS 0,nS,nS]):={}
instance:Sl sV 43 186 2 40 (.agg #[.string ByteArray.empty,nS]):={}
instance:Sl sV 44 191 3 48 (.agg #[.string ByteArray.empty,nS,sS 0]):={}
instance:Sl sV 47 3 1 8 (sS 0):={}
instance:Sl sV 51 179 3 24 (.agg #[sS 0,sS 0,sS 0]):={}
instance:Sl sV 54 47 1 24 (nS):={}
instance:Sl sV 64 53 4 80 (.agg #[nS,sS 0,nS,nS]):={}
instance:Sl sV 86 5 1 1 (.int .u8 0):={}
instance:Sl sV 87 173 4 32 (.agg #[sS 0,sS 0,sS 0,sS 0]):={}
instance:Sl sV 119 123 2 24 (.agg #[.string ByteArray.empty,.nilFunc]):={}
instance:Sl sV 144 323 4 32 (.agg #[sS 0,sS 0,sS 0,sS 0]):={}
instance:Sl sV 184 188 2 16 (.agg #[sS 0,sS 0]):={}
instance:Sl sV 189 193 2 16 (.agg #[sS 0,sS 0]):={}
instance:Sl sV 199 51 1 24 (nS):={}
instance:Sl sV 223 249 1 8 (.map none):={}
instance:Sl sV 240 239 3 56 (.agg #[sS 0,nS,nS]):={}
instance:Sl sV 254 253 4 32 (.agg #[sS 0,sS 0,sS 0,sS 0]):={}
instance:Sl sV 270 334 1 8 (.nilFunc):={}
instance:Sl sV 301 4 1 1 (.bool false):={}
instance:Sl sV 356 355 3 24 (.agg #[sS 0,sS 0,sS 0]):={}
instance:Sl sV 362 361 3 72 (.agg #[nS,nS,nS]):={}
instance:Sl sV 383 382 2 32 (.agg #[nS,sS 0]):={}
instance:Zc sV 28 0 0:={}
instance:Zc sV 28 1 1:={}
instance:Zc sV 28 2 2:={}
instance:Zc sV 36 0 0:={}
instance:Zc sV 36 1 5:={}
instance:Zc sV 36 2 6:={}
instance:Zc sV 36 3 9:={}
instance:Zc sV 36 4 90:={}
instance:Zc sV 36 5 91:={}
instance:Zc sV 36 6 93:={}
instance:Zc sV 36 7 147:={}
instance:Zc sV 36 8 148:={}
instance:Zc sV 36 9 151:={}
instance:Zc sV 46 0 0:={}
instance:Zc sV 46 1 1:={}
instance:Zc sV 46 2 2:={}
instance:Zc sV 46 3 3:={}
instance:Zc sV 46 4 4:={}
instance:Zc sV 53 0 0:={}
instance:Zc sV 53 1 1:={}
instance:Zc sV 53 2 2:={}
instance:Zc sV 53 3 3:={}
instance:Zc sV 59 0 0:={}
instance:Zc sV 59 1 1:={}
instance:Zc sV 59 2 2:={}
instance:Zc sV 59 3 3:={}
instance:Zc sV 59 4 4:={}
instance:Zc sV 59 5 5:={}
instance:Zc sV 59 6 6:={}
instance:Zc sV 59 7 7:={}
instance:Zc sV 81 0 0:={}
instance:Zc sV 81 1 1:={}
instance:Zc sV 89 0 0:={}
instance:Zc sV 89 1 4:={}
instance:Zc sV 89 2 5:={}
instance:Zc sV 89 3 6:={}
instance:Zc sV 89 4 7:={}
instance:Zc sV 94 0 0:={}
instance:Zc sV 94 1 1:={}
instance:Zc sV 94 2 2:={}
instance:Zc sV 94 3 3:={}
instance:Zc sV 94 4 4:={}
instance:Zc sV 113 0 0:={}
instance:Zc sV 113 1 5:={}
instance:Zc sV 113 2 9:={}
instance:Zc sV 113 3 10:={}
instance:Zc sV 118 0 0:={}
instance:Zc sV 118 1 8:={}
instance:Zc sV 123 1 1:={}
instance:Zc sV 146 0 0:={}
instance:Zc sV 146 1 1:={}
instance:Zc sV 146 2 2:={}
instance:Zc sV 148 0 0:={}
instance:Zc sV 148 1 3:={}
instance:Zc sV 148 2 4:={}
instance:Zc sV 148 3 8:={}
instance:Zc sV 163 0 0:={}
instance:Zc sV 163 1 1:={}
instance:Zc sV 163 2 2:={}
instance:Zc sV 166 0 0:={}
instance:Zc sV 166 1 5:={}
instance:Zc sV 166 2 9:={}
instance:Zc sV 166 3 10:={}
instance:Zc sV 166 4 14:={}
instance:Zc sV 166 5 15:={}
instance:Zc sV 166 6 18:={}
instance:Zc sV 173 0 0:={}
instance:Zc sV 179 0 0:={}
instance:Zc sV 179 1 1:={}
instance:Zc sV 179 2 2:={}
instance:Zc sV 186 0 0:={}
instance:Zc sV 186 1 1:={}
instance:Zc sV 188 0 0:={}
instance:Zc sV 188 1 1:={}
instance:Zc sV 191 0 0:={}
instance:Zc sV 191 1 1:={}
instance:Zc sV 191 2 2:={}
instance:Zc sV 193 0 0:={}
instance:Zc sV 193 1 1:={}
instance:Zc sV 201 0 0:={}
instance:Zc sV 201 1 1:={}
instance:Zc sV 201 2 2:={}
instance:Zc sV 201 3 3:={}
instance:Zc sV 225 0 0:={}
instance:Zc sV 225 1 1:={}
instance:Zc sV 225 2 2:={}
instance:Zc sV 236 0 0:={}
instance:Zc sV 236 1 4:={}
instance:Zc sV 236 2 5:={}
instance:Zc sV 236 3 6:={}
instance:Zc sV 239 0 0:={}
instance:Zc sV 239 1 1:={}
instance:Zc sV 239 2 2:={}
instance:Zc sV 251 0 0:={}
instance:Zc sV 251 1 1:={}
instance:Zc sV 251 2 2:={}
instance:Zc sV 253 0 0:={}
instance:Zc sV 253 1 2:={}
instance:Zc sV 253 2 3:={}
instance:Zc sV 261 0 0:={}
instance:Zc sV 261 1 1:={}
instance:Zc sV 304 0 0:={}
instance:Zc sV 304 1 4:={}
instance:Zc sV 323 0 0:={}
instance:Zc sV 327 0 0:={}
instance:Zc sV 327 1 4:={}
instance:Zc sV 327 2 5:={}
instance:Zc sV 327 3 6:={}
instance:Zc sV 355 0 0:={}
instance:Zc sV 355 1 1:={}
instance:Zc sV 355 2 2:={}
instance:Zc sV 361 0 0:={}
instance:Zc sV 361 1 1:={}
instance:Zc sV 361 2 2:={}
instance:Zc sV 382 0 0:={}
instance:Zc sV 382 1 1:={}
instance:Xt sV 3:={}
instance:Xt sV 4:={}
instance:Xt sV 5:={}
instance:Xt sV 9:={}
instance:Xt sV 24:={}
instance:Xt sV 32:={}
instance:Xt sV 33:={}
instance:Xt sV 41:={}
instance:Xt sV 42:={}
instance:Xt sV 43:={}
instance:Xt sV 44:={}
instance:Xt sV 47:={}
instance:Xt sV 51:={}
instance:Xt sV 54:={}
instance:Xt sV 55:={}
instance:Xt sV 64:={}
instance:Xt sV 86:={}
instance:Xt sV 87:={}
instance:Xt sV 121:={}
instance:Xt sV 128:={}
instance:Xt sV 144:={}
instance:Xt sV 152:={}
instance:Xt sV 159:={}
instance:Xt sV 164:={}
instance:Xt sV 184:={}
instance:Xt sV 189:={}
instance:Xt sV 199:={}
instance:Xt sV 223:={}
instance:Xt sV 242:={}
instance:Xt sV 249:={}
instance:Xt sV 259:={}
instance:Xt sV 275:={}
instance:Xt sV 301:={}
instance:Xt sV 325:={}
instance:Xt sV 334:={}
instance:Xt sV 356:={}
instance:Ag sV 23 5:={}
instance:Ag sV 28 27:={}
instance:Ag sV 36 152:={}
instance:Ag sV 46 5:={}
instance:Ag sV 53 4:={}
instance:Ag sV 59 8:={}
instance:Ag sV 81 5:={}
instance:Ag sV 89 8:={}
instance:Ag sV 94 5:={}
instance:Ag sV 113 11:={}
instance:Ag sV 123 2:={}
instance:Ag sV 148 9:={}
instance:Ag sV 156 2:={}
instance:Ag sV 163 3:={}
instance:Ag sV 173 4:={}
instance:Ag sV 179 3:={}
instance:Ag sV 183 4:={}
instance:Ag sV 186 2:={}
instance:Ag sV 188 2:={}
instance:Ag sV 191 3:={}
instance:Ag sV 193 2:={}
instance:Ag sV 201 4:={}
instance:Ag sV 225 3:={}
instance:Ag sV 239 3:={}
instance:Ag sV 304 5:={}
instance:Ag sV 323 4:={}
instance:Ag sV 361 3:={}
instance:Ag sV 382 2:={}
instance:Ze sV 3 (sS 0):={}
instance:Ze sV 46 (.agg #[nS,nS,nS,nS,nS]):={}
instance:Ze sV 47 (nS):={}
instance:Ze sV 53 (.agg #[nS,sS 0,nS,nS]):={}
instance:Ze sV 55 (sS 0):={}
instance:Ze sV 59 (.agg #[.bool false,nS,.bool false,nS,nS,.bool false,nS,sS 0]):={}
instance:Ze sV 81 (.agg #[.string ByteArray.empty,nS,sS 0,nS,nS]):={}
instance:Ze sV 89 (.agg #[nS,sS 0,nS,nS,nS,nS,nS,nS]):={}
instance:Ze sV 94 (.agg #[.string ByteArray.empty,.bool false,.bool false,.bool false,sS 0]):={}
instance:Ze sV 113 (.agg #[nS,nS,nS,nS,nS,nS,sS 0,nS,nS,nS,nS]):={}
instance:Ze sV 123 (.agg #[.string ByteArray.empty,.nilFunc]):={}
instance:Ze sV 148 (.agg #[nS,nS,nS,sS 0,nS,sS 0,nS,nS,nS]):={}
instance:Ze sV 152 (.pointer none):={}
instance:Ze sV 156 (.agg #[sS 0,sS 0]):={}
instance:Ze sV 163 (.agg #[nS,nS,nS]):={}
instance:Ze sV 173 (.agg #[sS 0,sS 0,sS 0,sS 0]):={}
instance:Ze sV 179 (.agg #[sS 0,sS 0,sS 0]):={}
instance:Ze sV 183 (.agg #[.int .u8 0,.int .u8 0,.int .u8 0,.int .u8 0]):={}
instance:Ze sV 186 (.agg #[.string ByteArray.empty,nS]):={}
instance:Ze sV 188 (.agg #[sS 0,sS 0]):={}
instance:Ze sV 191 (.agg #[.string ByteArray.empty,nS,sS 0]):={}
instance:Ze sV 193 (.agg #[sS 0,sS 0]):={}
instance:Ze sV 201 (.agg #[nS,nS,nS,nS]):={}
instance:Ze sV 225 (.agg #[nS,nS,nS]):={}
instance:Ze sV 239 (.agg #[sS 0,nS,nS]):={}
instance:Ze sV 261 (.agg #[.pointer none,nS]):={}
instance:Ze sV 301 (nS):={}
instance:Ze sV 304 (.agg #[nS,sS 0,nS,nS,nS]):={}
instance:Ze sV 323 (.agg #[sS 0,sS 0,sS 0,sS 0]):={}
instance:Ze sV 356 (nS):={}
instance:Ze sV 361 (.agg #[nS,nS,nS]):={}
instance:Ze sV 382 (.agg #[nS,sS 0]):={}
instance:Bs sV 46 [nS,nS,nS,nS,nS] [0,1,2,3,4]:={}
instance:Bs sV 53 [nS,sS 0,nS,nS] [0,1,2,3]:={}
instance:Bs sV 94 [.string ByteArray.empty,.bool false,.bool false,.bool false,sS 0] [0,1,2,3,4]:={}
instance:Bs sV 123 [.string ByteArray.empty,.nilFunc] [0,1]:={}
instance:Bs sV 143 [sS 0,sS 0] [0,1]:={}
instance:Bs sV 156 [sS 0,sS 0] [0,1]:={}
instance:Bs sV 163 [nS,nS,nS] [0,1,2]:={}
instance:Bs sV 173 [sS 0,sS 0,sS 0,sS 0] [0,1,2,3]:={}
instance:Bs sV 179 [sS 0,sS 0,sS 0] [0,1,2]:={}
instance:Bs sV 186 [.string ByteArray.empty,nS] [0,1]:={}
instance:Bs sV 188 [sS 0,sS 0] [0,1]:={}
instance:Bs sV 191 [.string ByteArray.empty,nS,sS 0] [0,1,2]:={}
instance:Bs sV 193 [sS 0,sS 0] [0,1]:={}
instance:Bs sV 225 [nS,nS,nS] [0,1,2]:={}
instance:Bs sV 239 [sS 0,nS,nS] [0,1,2]:={}
instance:Bs sV 251 [.map none,.map none,sS 0] [0,1,2]:={}
instance:Bs sV 300 [nS,nS] [0,1]:={}
instance:Bs sV 323 [sS 0,sS 0,sS 0,sS 0] [0,1,2,3]:={}
instance:Bs sV 355 [sS 0,sS 0,sS 0] [0,1,2]:={}
instance:Bs sV 361 [nS,nS,nS] [0,1,2]:={}
instance:Bs sV 382 [nS,sS 0] [0,1]:={}
instance:Ik sV 3 .i64:={}
instance:Bk sV 4:=⟨underlying4⟩
instance:Ik sV 5 .u8:={}
instance:St sV 9:=⟨underlying9⟩
instance:Ik sV 21 .i32:={}
instance:Ik sV 33 .i8:={}
instance:Ik sV 246 .u64:={}
instance:Ik sV 317 .u32:={}
instance:S3 sV 179:=⟨⟨_,_,_,underlying179,og,og,og,O,O,O,underlying3,underlying3,underlying3⟩,oc,oc⟩
instance:Mp sV 164 9 3 (sS 0):={}
instance:jk sV 9 Xj:=Qkw underlying9
instance:Mp sV 217 9 4 (.bool false):={}
instance:Mp sV 242 3 4 (.bool false):={}
instance:jk sV 3 Xm:=Qkx underlying3
instance:Mp sV 249 143 3 (sS 0):={}
instance:jk sV 143 Yg:=Qbe underlying143 underlying3 oc
instance:Mp sV 255 156 4 (.bool false):={}
instance:jk sV 156 Yg:=Qbe underlying156 underlying3 oc
instance:Mp sV 297 3 296 (.nilFunc):={}
instance:Mp sV 325 3 47 (nS):={}
instance:Mp sV 371 3 3 (sS 0):={}
instance:Fu sV 59 f59:=XJ func59
instance:Fu sV 60 f60:=XJ func60
instance:Fu sV 64 f64:=XJ func64
instance:Fu sV 65 f65:=XJ func65
instance:Fu sV 72 f72:=XJ func72
instance:Fu sV 86 f86:=XJ func86
instance:Fu sV 88 f88:=XJ func88
instance:Fu sV 124 f124:=XJ func124
instance:Fu sV 125 f125:=XJ func125
instance:Fu sV 126 f126:=XJ func126
instance:Fu sV 133 f133:=XJ func133
instance:Fu sV 136 f136:=XJ func136
instance:Fu sV 138 f138:=XJ func138
instance:Fu sV 142 f142:=XJ func142
instance:Fu sV 144 f144:=XJ func144
instance:Fu sV 145 f145:=XJ func145
instance:Fu sV 147 f147:=XJ func147
instance:Fu sV 148 f148:=XJ func148
instance:Fu sV 149 f149:=XJ func149
instance:Fu sV 150 f150:=XJ func150
instance:Fu sV 154 f154:=XJ func154
instance:Fu sV 157 f157:=XJ func157
instance:Fu sV 158 f158:=XJ func158
instance:Fu sV 159 f159:=XJ func159
instance:Fu sV 160 f160:=XJ func160
instance:Fu sV 169 f169:=XJ func169
instance:Fu sV 171 f171:=XJ func171
instance:Fu sV 172 f172:=XJ func172
instance:Fu sV 174 f174:=XJ func174
instance:Fu sV 175 f175:=XJ func175
instance:Fu sV 178 f178:=XJ func178
instance:Fu sV 187 f187:=XJ func187
instance:Fu sV 190 f190:=XJ func190
instance:Fu sV 200 f200:=XJ func200
instance:Fu sV 201 f201:=XJ func201
instance:Fu sV 205 f205:=XJ func205
instance:Fu sV 207 f207:=XJ func207
instance:Fu sV 208 f208:=XJ func208
instance:Fu sV 210 f210:=XJ func210
instance:Fu sV 232 f232:=XJ func232
instance:Fu sV 237 f237:=XJ func237
instance:Fu sV 239 f239:=XJ func239
instance:Fu sV 255 f255:=XJ func255
instance:Fu sV 256 f256:=XJ func256
instance:Fu sV 268 f268:=XJ func268
instance:Fu sV 270 f270:=XJ func270
instance:Fu sV 271 f271:=XJ func271
instance:Fu sV 279 f279:=XJ func279
instance:Fu sV 285 f285:=XJ func285
instance:Fu sV 299 f299:=XJ func299
instance:Fu sV 309 f309:=XJ func309
theorem mixed:sV.follows .mixedOrders=true:=oc
theorem ZJ {all:xz}{f:Fr}{Q:Exit->Fr->OX->Prop}(L:LN)(pl:xo)(h:XP sV all (O1 L w) (λf w=>Q .normal f w) pl f { w with drawn:=w.drawn+1 })(E:Xf n all=true:=by rfl)(G:qU all pl=true:=by kernel_rfl):W sV n (.region id all.toArray true) Q f w:=Vq (O1 L w) pl mixed E G (O1.C _ _) h
theorem brG {B:Func}(E:((((P.funcs[g]?).map Func.name).getD "") == "runtime.NumGoroutine")=false) (G:P.funcs[g]?=some { B with name:=((P.funcs[g]?).map Func.name).getD "" }):∃nm:String,(nm == "runtime.NumGoroutine")=false/\P.funcs[g]?=some { B with name:=nm }:=⟨_,E,G⟩
theorem lyS {p:Prop}(h:p:=by constructor <;> first|kernel_rfl|decide|(intro _;kernel_rfl)|(apply brG <;> kernel_rfl)|(constructor <;> first|kernel_rfl|decide|(intro _;kernel_rfl)|(apply brG <;> kernel_rfl))):p:=h
end Go.Proofs
namespace Go.Lg
def Rn (t e k:Nat):Go.Shelf.Ren:=⟨λn=>n,λ|22=>t|23=>e|25=>k|n=>n,λn=>n⟩
def fix {α:Type}(q:α->Bool):Nat->List α->Int
 | _,[]=>-1
 | i,e::l=>if q e=true then(i:Int)else fix q (i+1) l
theorem Yq (q:α->Bool)(i:Nat)(a:α)(l:List α):fix q i (a::l)=if q a=true then(i:Int)else fix q (i+1) l:=rfl
structure LdE {α:Type}(e:Nat)(c:α->LV)(el:α->OY):Prop where
 ld:∀{f:Fr} {w:OX} {d:xA} {E:OZ} {ty:Nat} {pS:String} {af:xx} {gd:xj} {L:LN} {a:Addr} {q:α},At L ↑w a (c q)->ev f E=.pointer (some a)->(execOp (ev f) ⟨d,.load e E,ty,pS,af,gd⟩).run sV w=.ok (.value (el q)) w
theorem ld1 {e:Nat}[Xt sV e]{c:α->LV}{el:α->OY}(E:∀q,c q=[el q]):LdE e c el:=⟨λh hx=>Qq (by rw[<-E];exact h) hx⟩
theorem ldA {e:Nat}[Ag sV e m]{c:α->LV}(E:∀q,(c q).length=m):LdE e c λq=>sT (c q):=⟨λh hx=>QE h hx (E _)⟩
abbrev VR (n:Int):LV:=[sS n]
theorem QhQ (n:Int):(VR n).length=1:=rfl
theorem QlQ:∀l:LI,l.flatMap VR=l.map (.int .i64)
 | []=>rfl
 | a::l=>by rw[LK,QlQ l];rfl
theorem Qt.fl {L:LN}{H:xw}{v:OY}{l:LI}(h:Qt L H v l):Zs L H v l.length 1 (l.flatMap VR):=by rw[QlQ];exact h
theorem Qd0 {c:α->LV}(h:∀q,ZH (c q))(l:List α):∀u∈l.flatMap c,u.oneCell'=true:=λu E=>by
 obtain⟨q,_,G⟩:=Mb.1 E;exact(h q).all u G
theorem VY {α:Type}(q:α->Bool):∀(l:List α) (i:Nat),decide (0<=fix q i l)=l.any q
 | [],i=>rfl
 | a::l,i=>by
  rw[Yq,List.any_cons];cases h:q a with
  | true=>rw[OQ rfl];simp
  | false=>rw[OP og,VY q l (i+1)];rfl
def IxQ {α:Type}(q:α->Bool)(es:List α)(r:OY):Prop:=(r=sS (-1)/\∀m (E:m<es.length),q (es[m]'E)=false)\/∃(i:Nat) (hi:i<es.length),r=sS i/\q (es[i]'hi)=true/\∀m (E:m<i),q (es[m]'oa)=false
theorem Qh3 {α:Type}(q:α->Bool):∀(l:List α) (i:Nat),(fix q i l=-1/\∀m (E:m<l.length),q (l[m]'E)=false)\/∃k,∃G:k<l.length,fix q i l=((i+k:Nat):Int)/\q (l[k]'G)=true/\∀m (E:m<k),q (l[m]'oa)=false
 | [],i=>.inl ⟨O,λm E=>by cases E⟩
 | a::l,i=>by
  rw[Yq];cases h:q a with
  | true=>exact .inr ⟨0,od,rfl,h,λm E=>by cases E⟩
  | false =>
   rcases Qh3 q l (i+1)with⟨I,J⟩|⟨k,G,I,J,S⟩
   ·exact .inl ⟨I,λm E=>by cases m with|zero=>exact h|succ m=>exact J m (ou E)⟩
   exact .inr ⟨k+1,ou G,by rw[OP og,I];congr 1;omega,J,λm E=>by cases m with|zero=>exact h|succ m=>exact S m oa⟩
theorem QkG (q:α->Bool)(l:List α):IxQ q l (sS (fix q 0 l)):=by
 rcases Qh3 q l 0 with⟨E,G⟩|⟨k,I,E,G,J⟩
 ·exact .inl ⟨by rw[E],G⟩
 exact .inr ⟨k,I,by rw[E,LT],G,J⟩
section
variable {e bys:Nat}[hS:Sl sV t e m bys z]{L L':LN}{v:OY}
include hS in
theorem zD (hB:Bears sV n (SlBodyN.n41 (Rn t e 0))){k:Nat}{cs:LV}(h:Zs L ↑w v k m cs)(ho:∀u∈cs,u.oneCell'=true)(hb:bys<=128:=by decide):
  QT sV n [v] w λr w'=>sW w w'/\w'.ownsRow ↑w e m r k cs:=by
 obtain⟨nm,_,T⟩:=hB;obtain⟨ρ,hρ,ha⟩:∃ρ,Rn t e 0=ρ/\ρ.t 22=t:=⟨_,O,O⟩;rw[hρ]at T;clear hρ;subst ha;have hg:=h.le;refine QT.of_W T O (n:=8) O O od ?_;refine Qc<|Qb ?_;obtain⟨ao,cap,G⟩:=h.shape;refine Qe<|Ql<|x (QjQ (show ev _ _=_ from G) O)<|xe<|Q9 rfl (λJ=>?_) (λJ=>?_)
 ·refine Qc<|Qb<|Qj ⟨[nS],La,O1.Z _ _,?_⟩;rcases h.2.2 with⟨E,I⟩|⟨a,c,E,_⟩
  ·have S:cs=[]:=Lu (by rw[h.1,I];simp);subst S I;exact QM _ _ _ _
  rw[E]at G;cases G;cases J
 rcases h.2.2 with⟨E,I⟩|⟨a,c,E,I,S⟩
 ·rw[E]at G;injection G with e1;subst e1;cases J
 refine Qf<|Qc<|Qo<|QcE λb5 w1 U V Y=>Qa<|Qo<|Q2 (base:=↑w) (Y.own (n:=0) (sz:=m) od oa V) rfl (show ev _ _=_ from E) h.1 (S.I U) ho oa (oo Y.lt) (λv2 w2 hc he hh=>Qb ?_) hb;refine Qj ⟨[v2],La,U.O he V,?_⟩;simpa[tup]using hc
include hS in
theorem ixG {c:α->LV}{el:α->OY}{k:Nat}(Y:Bears sV n (SlBodyH.n6 (Rn t e k)))(hc:∀q,(c q).length=m)(hl:LdE e c el)[Fu sV gp fn]{cap:LV}{q:α->Bool}{l:List α}(h:Zs L ↑w v l.length m (l.flatMap c))
  (hk:∀e∈l,∀G:OX,sW w G->QT sV gp ([el e]++cap) G λr w'=>r=.bool (q e)/\sW G w'):
  QT sV n [v,.func (.func gp) #[] cap.toArray] w λr w'=>r=sS (fix q 0 l)/\sW w w':=by
 obtain⟨nm,_,U⟩:=Y;obtain⟨ρ,hρ,ha,he⟩:∃ρ,Rn t e k=ρ/\ρ.t 22=t/\ρ.t 23=e:=⟨_,O,O,O⟩;rw[hρ]at U;clear hρ;subst ha he;have hm:=h.le;refine QT.of_W U O (n:=19) O O od ?_;refine Qc<|Qb<|Qe<|Ql<|QG h O<|Qa<|xe<|QW (α:=Nat) [(4,5),(8,18)] (λz=>[(8,sS z)]) (λz w'=>z<=l.length/\sW w w'/\fix q z (l.drop z)=fix q 0 l) (λz=>l.length - z) 0 La
  ⟨Ln _,O1.Z _ _,O⟩ ?_
 rintro k g G ⟨hk1,I,E⟩;refine Zi rfl O (λS=>?_) (λS=>?_)
 ·refine Qu ?_;have hg:l.length<=k:=by have hh:¬(k:Int)<(l.length:Int):=S;omega
  rw[Ls hg]at E;refine Qc<|Qb<|Qj ⟨[_],La,by rw[<-E];rfl,I⟩
 have J:k<l.length:=by have hh:(k:Int)<(l.length:Int):=S;omega
 rw[QX J,Yq]at E;refine Qf<|Qe<|Qn<|Ql<|Qb<|Ql<|Qa<|Qa<|O4 hc (h.I I) O O J λhn hj=>?_;refine x (hl.ld hj O)<|Qo<|xc (first:=[]) (capt:=cap) O<|(hk _ (Lk J) G I).Y ?_;rintro r2 w2 ⟨rfl,V⟩;refine xe<|Q9 rfl (λT=>?_) (λT=>?_)
 ·rw[OQ T]at E;refine Ql<|Qb<|Qj ⟨[_],La,by rw[<-E];rfl,I.D V⟩
 rw[OP (by rw[T];decide)]at E;refine Qf<|Qs<|QC O O<|Qa<|xe ?_;exact⟨k+1,oa,La,J,I.D V,E⟩
include hS in
theorem eqG [DecidableEq α]{c:α->LV}{el:α->OY}(hB:Bears sV n (SlBodyN.n33 (Rn t e 0)))(E:∀q,(c q).length=m)(V:LdE e c el){l l':List α}(h:Zs L ↑w v l.length m (l.flatMap c))(G:Zs L' ↑w v' l'.length m (l'.flatMap c))
  (hn:∀{f:Fr} {w:OX} {d:xA} {X Y:OZ} {ty:Nat} {pS:String} {af:xx} {gd:xj} {a b:α},a∈l->b∈l'->ev f X=el a->ev f Y=el b->(execOp (ev f) ⟨d,.binOp .neq e X Y e,ty,pS,af,gd⟩).run sV w=.ok (.value (.bool (decide (a≠b)))) w):
  QT sV n [v,v'] w λr w'=>r=.bool (decide (l=l'))/\sW w w':=by
 obtain⟨nm,_,hf⟩:=hB;obtain⟨ρ,hρ,hg,hh⟩:∃ρ,Rn t e 0=ρ/\ρ.t 22=t/\ρ.t 23=e:=⟨_,O,O,O⟩;rw[hρ]at hf;clear hρ;subst hg hh;have hq:=h.le;refine QT.of_W hf O (n:=26) O O od ?_;refine Qc<|Qb<|Qe<|Ql<|QG h O<|Qa<|QG G O<|ZI O O<|xe<|Za rfl (λha=>?_) (λha=>?_)
 ·refine Qc<|Qb<|Qj ⟨[.bool false],La,?_,O1.Z _ _⟩;have:l≠l':=λe=>ha (by rw[e]);simp[tup,this]
 refine Qf<|Qe<|Ql<|QG h O<|Qa<|xe<|QW (α:=Nat) [(4,5),(13,25)] (λk=>[(13,sS k)]) (λk w'=>sW w w'/\k<=l.length/\(l=l'↔l.drop k=l'.drop k)) (λk=>l.length - k) 0 La ⟨O1.Z _ _,Ln _,od⟩ ?_;rintro k g w1 ⟨I,hk,J⟩
 replace h:=h.I I
 replace G:=G.I I;refine Zi rfl O (λhj=>?_) (λhj=>?_)
 ·refine Qu<|Qc<|Qb<|Qj ⟨[.bool true],La,?_,I⟩;rw[Ls oa,Ls oa]at J;simp[tup,J]
 have S:k<l.length:=oa
 have T:k<l'.length:=oa
 refine Qf<|Qe<|Qn<|Ql<|Qb<|Qe<|ZJ [] (Y4 0 9 [])<|p Qy<|p Qy<|Lg.pig O E h O O S λhr ho=>pq (λ_ E=>V.ld (ho.I E) O) <|
  p Qy<|p Qy<|Lg.pig O E G O O T λht hp=>pq (λ_ E=>V.ld (hp.I E) O)<|p (λ_=>hn (Lk S) (Lk T) O O)<|pe ?_
 have he:=I.D (O1.C [] w1);refine Za rfl (λU=>?_) (λU=>?_)
 ·refine Qc<|Qb<|Qj ⟨[.bool false],La,?_,he⟩;have:l≠l':=λe=>U (by subst e;rfl);simp[tup,this]
 refine Qf<|Qs<|QC O O<|Qa<|xe<|⟨k+1,oa,La,he,oa,?_⟩;rw[J,QX S,QX T,Lr.1 U];exact⟨λh=>(List.cons.inj h).2,λh=>by rw[h]⟩
end
def O8 (es:List Ed)(s e:Int):Int:=match es with
 | []=>-1
 | x::es=>if x.1=s/\x.2.1=e then x.2.2 else O8 es s e
section
def eqV:OY->OY->Bool
 | .int _ a,.int _ b=>a == b
 | .string a,.string b=>a == b
 | .bool a,.bool b=>a == b
 | _,_=>false
def tvB:LN->LV->LV->Bool
 | [],[],[]=>true
 | 0::ks,oB oC _::xs,oB oC _::ys=>tvB ks xs ys
 | 1::ks,.string _::xs,.string _::ys=>tvB ks xs ys
 | 2::ks,.bool _::xs,.bool _::ys=>tvB ks xs ys
 | _,_,_=>false
def zx:LV->LV->Bool
 | x::xs,y::ys=>eqV x y && zx xs ys
 | _,_=>true
inductive Fks (P:O0):Nat->List Field->LN->Prop
 | nil {o:Nat}:Fks P o [] []
 | int {o:Nat} {f:Field} {fs:List Field} {ks:LN} (hn:f.name ≠ "_") (ho:f.offset=o) (hu:P.underlying f.type=some (.int .i64)) (h:Fks P (o+1) fs ks):Fks P o (f::fs) (0::ks)
 | str {o:Nat} {f:Field} {fs:List Field} {ks:LN} (hn:f.name ≠ "_") (ho:f.offset=o) (hu:P.underlying f.type=some .string) (h:Fks P (o+1) fs ks):Fks P o (f::fs) (1::ks)
 | flag {o:Nat} {f:Field} {fs:List Field} {ks:LN} (hn:f.name ≠ "_") (ho:f.offset=o) (hu:P.underlying f.type=some .bool) (h:Fks P (o+1) fs ks):Fks P o (f::fs) (2::ks)
theorem QdU {k:Nat}{v:OY}{l:LV}(h:∀w,(isAgg t).run P w=.ok false w)(E:l[k]?=some v)(w:OX):(part t l.toArray k).run P w=.ok v w:=by
 have e:l.toArray[k]?=some v:=by simpa using E
 simp[part,h w,e]
theorem zy {d o:Nat}{f:Field}{fs:List Field}{x y:OY}{xs ys X Y:LV}(I:f.name ≠ "_") (J:f.offset=o) (E:∀w,(isAgg f.type).run P w=.ok false w) (S:∀m w,(Op.equalIn (m+1) f.type x y).run P w=.ok (eqV x y) w)
  (hX:X.drop o=x::xs) (G:Y.drop o=y::ys) (ih:X.drop (o+1)=xs->Y.drop (o+1)=ys->∀w,(Op.eqFields (d+1) X.toArray Y.toArray fs).run P w=.ok (zx xs ys) w) (w:OX):
  (Op.eqFields (d+1) X.toArray Y.toArray (f::fs)).run P w=.ok (zx (x::xs) (y::ys)) w:=by
 have hx:X[o]?=some x:=by rw[<-List.head?_drop,hX];rfl
 have T:Y[o]?=some y:=by rw[<-List.head?_drop,G];rfl
 have U:X.drop (o+1)=xs:=by rw[<-List.tail_drop,hX];rfl
 have V:Y.drop (o+1)=ys:=by rw[<-List.tail_drop,G];rfl
 simp only[Op.eqFields,I,ne_eq,not_false_eq_true,if_true,Sem.run_bind,J,QdU E hx,QdU E T,S,Result.andThen_ok,Sem.run_ite,zx];cases hv:eqV x y with
 | false=>simp
 | true=>simpa using ih U V w
theorem Fks.run {d:Nat}{o:Nat}{fs:List Field}{ks:LN}(h:Fks P o fs ks):∀{xs ys X Y:LV},tvB ks xs ys=true->X.drop o=xs->Y.drop o=ys->∀w,(Op.eqFields (d+1) X.toArray Y.toArray fs).run P w=.ok (zx xs ys) w:=by
 induction h with
 | nil =>
  intro xs ys X Y E _ _ w;cases xs with
  | nil=>simp[Op.eqFields,zx]
  | cons x xs=>cases ys <;> simp[tvB]at E
 | @int o f fs ks I J G h ih =>
  intro xs ys X Y E hX S w
  match xs,ys,E with
  | oB oC a::xs,oB oC b::ys,E=>exact zy I J (λw=>by simp[isAgg,run_underlying G]) (λm w=>by simp[Op.equalIn,run_underlying G,eqV]) hX S (λT U=>ih E T U) w
 | @str o f fs ks I J G h ih =>
  intro xs ys X Y E hX S w
  match xs,ys,E with
  | .string a::xs,.string b::ys,E=>exact zy I J (λw=>by simp[isAgg,run_underlying G]) (λm w=>by simp[Op.equalIn,run_underlying G,eqV]) hX S (λT U=>ih E T U) w
 | @flag o f fs ks I J G h ih =>
  intro xs ys X Y E hX S w
  match xs,ys,E with
  | .bool a::xs,.bool b::ys,E=>exact zy I J (λw=>by simp[isAgg,run_underlying G]) (λm w=>by simp[Op.equalIn,run_underlying G,eqV]) hX S (λT U=>ih E T U) w
class Sk (P:O0)(t:Nat)(ks:outParam (LN)):Prop where
 u:∃fs:List Field,P.underlying t=some (.struct fs.toArray)/\Fks P 0 fs ks
 s:P.stoodInHeld t=false
 g:P.eqGuardType P.depth t=false
theorem VB {ks:LN}[h:Sk P t ks]{xs ys:LV}(J:tvB ks xs ys=true)(w:OX):(Op.equal t (sT xs) (sT ys)).run P w=.ok (zx xs ys) w:=by
 obtain⟨fs,E,S⟩:=h.u;have G:P.fieldsOf t=fs.toArray:=by unfold Program.fieldsOf;rw[E]
 have T:P.underlying t=some (.struct (P.fieldsOf t)):=by rw[G];exact E
 have I:=run_equalIn_struct (P:=P) w 9999 t xs.toArray ys.toArray T h.s;rw[G]at I;exact I.D (S.run (d:=9998) J O O w)
instance {t:Nat}[h:S3 P t]:Sk P t [0,0,0]:=let⟨f0,f1,f2,hu,E,G,I,J,o1,o2,S,T,u2⟩:=h.u;⟨⟨[f0,f1,f2],hu,.int E J S<|.int G o1 T<|.int I o2 u2 .nil⟩,h.s,h.g⟩
theorem Qin (p q:Ed):zx (Qp p) (Qp q)=decide (p=q):=by
 rw[Bool.eq_iff_iff];simp only[Qp,zx,eqV,oI,beq_iff_eq,decide_eq_true_eq,Prod.ext_iff,and_true]
theorem jw [S3 P t](w:OX)(p q:Ed):(Op.equal t (sT (Qp p)) (sT (Qp q))).run P w=.ok (decide (p=q)) w:=by
 rw[<-Qin];exact VB O w
variable {f:Fr}
theorem QaV {ks:LN}[h:Sk P t ks]{x:OZ}{xs ys:LV}(G:tvB ks xs ys=true)(hx:ev f x=sT xs)(I:ev f y=sT ys):
  (execOp (ev f) ⟨d,.binOp .neq t x y E,ty,pS,af,gd⟩).run P w=.ok (.value (.bool (!zx xs ys))) w:=by
 have J:(eqGuard .neq t x y (sT xs) (sT ys)).run P w=.ok () w:=by simp[eqGuard,h.g]
 simp only[execOp,hx,I,Sem.run_bind,J,Result.andThen_ok,binOp,VB G,Sem.run_pure]
theorem VE [S3 P t]{x:OZ}{p q:Ed}(hx:ev f x=sT (Qp p))(G:ev f y=sT (Qp q)):
  (execOp (ev f) ⟨d,.binOp .neq t x y E,ty,pS,af,gd⟩).run P w=.ok (.value (.bool (decide (¬p=q)))) w :=
 (QaV O hx G).D (by rw[Qin];simp)
end
theorem yR {L:LN}{v:OY}{l:LI}(h:Qt L ↑w v l)(n:Int):
  QT sV 139 [v,sS n] w λr w'=>w'=w/\r=sS (fix (λe=>decide (n=e)) 0 l):=by
 have T:=h.le;refine Zn func139 ?_;refine Qc<|Qb<|Qe<|Ql<|QG h O<|Qa<|xe<|QW (α:=Nat) [(4,5),(8,18)] (λk=>[(8,sS k)]) (λk w'=>w'=w/\k<=l.length/\fix (λe=>decide (n=e)) k (l.drop k)=fix (λe=>decide (n=e)) 0 l) (λk=>l.length - k) 0 La ⟨O,Ln _,O⟩ ?_;rintro k g U ⟨rfl,V,E⟩;refine Zi rfl O (λJ=>?_) (λJ=>?_)
 ·refine Qu<|Qc<|Qb ?_;rw[Ls oa]at E;exact Qj ⟨[sS (-1)],La,O,by rw[<-E];rfl⟩
 have I:k<l.length:=oa
 rw[QX I,Yq]at E;refine Qf<|Qe<|Qn<|Ql<|Qb<|Ql<|Qa<|Qa<|xii h O O I λY S=>x (Qq S O)<|x (Q6 O O)<|xe<|Za rfl (λG=>?_) (λG=>?_)
 ·refine Ql<|Qb ?_;rw[OQ (OT G)]at E;exact Qj ⟨[sS k],La,O,by rw[<-E];rfl⟩
 refine Qf<|Qs<|QC O O<|Qa<|xe ?_;rw[OP (ou G)]at E;exact⟨k+1,oa,La,O,oa,E⟩
theorem QhP {L:LN}{v:OY}{l:LI}(h:Qt L ↑w v l)(n:Int):
  QT sV 139 [v,sS n] w λr w'=>w'=w/\∃i:Int,r=sS i/\(0<=i↔n∈l):=
 (yR h n).Y λ_ _ ⟨E,G⟩=>⟨E,_,G,by have:=VY (λe=>decide (n=e)) l 0;rw[<-decide_eq_true_iff (p:=0<=_),this];simp⟩
theorem ZE {L:LN}{v:OY}{l:LI}(h:Qt L ↑w v l)(n:Int):
  QT sV 61 [v,sS n] w λr w'=>r=.bool (decide (n∈l))/\w'=w:=by
 refine Zn func61 ?_;refine Qc<|Qb<|Ql<|Qa<|Qw<|(QhP h n).Y ?_;rintro E G ⟨rfl,i,rfl,hi⟩;refine x (Yd O O)<|Qb<|Qj ⟨[.bool (decide (0<=i))],La,?_,O⟩;simp[tup,hi]
theorem UA {L L':LN}{v:OY}{l l':LI}(h:Qt L ↑w v l)(E:Qt L' ↑w v' l'):
  QT sV 99 [v,v'] w λr w'=>r=.bool (decide (l=l'))/\sW w w' :=
 eqG ⟨_,O,func99⟩ QhQ (ld1 λ_=>O) (Qt.fl h) (Qt.fl E) λ_ _ hx G=>Kw hx G
theorem Qfu {L L':LN}{v:OY}{l l':List Ed}(h:Ua L ↑w v l)(E:Ua L' ↑w v' l'):
  QT sV 100 [v,v'] w λr w'=>r=.bool (decide (l=l'))/\sW w w' :=
 eqG (c:=Qp) ⟨_,O,func100⟩ (λ_=>O) (ldA λ_=>O) h E λ_ _ hx G=>VE hx G
theorem QhM (n:Int):QT sV 284 [sS n] w λr w'=>r=.bool false/\w'=w:=by
 refine Zn func284 ?_;refine Qc<|Qb<|Ql<|Qa<|ZI O O<|Qb<|Qj ⟨[.bool (decide (¬n=n))],La,by simp[tup],rfl⟩
theorem Qfk (n:Int):QT sV 262 [sS n] w λr w'=>r=.bool false/\w'=w:=by
 refine Zn func262 ?_;refine Qc<|Qb<|Ql<|Qa<|ZI O O<|Qb<|Qj ⟨[.bool (decide (¬n=n))],La,by simp[tup],rfl⟩
theorem Qks (m n:Int):QT sV 217 [sS m,sS n] w λr w'=>r=.bool (decide (m<n))/\w'=w:=by
 refine Zn func217 ?_;refine Qc<|Qb<|Ql<|Qw<|(Qfk m).Y ?_;rintro E G ⟨rfl,rfl⟩;refine Qa<|Zy<|QA O<|Qa<|Qa<|Qa<|ZX O O<|QA O<|Qb<|Qj ⟨[.bool (decide (m<n))],La,O,O⟩
theorem YN.get {l:LI}(h:YN l)(E:j<l.length)(G:i<j):l[i]<l[j]:=Md.1 h i j oa E G
def lwB (l:LI)(n:Int):Nat:=(l.filter λx=>decide (x<n)).length
theorem QmF {l:LI}{n:Int}(_:YN l)(hi:i<=l.length)(I:∀m (E:m<l.length),m<i->l[m]<n)(J:∀m (E:m<l.length),i<=m->n<=l[m]):lwB l n=i:=by
 unfold lwB;have e1:(l.take i).filter (λx=>decide (x<n))=l.take i:=List.filter_eq_self.2 λx hx=>by
  obtain⟨m,E,rfl⟩:=LM hx;rw[MZ];have G:m<i/\m<l.length:=by rw[LA]at E;omega
  exact OT (I m G.2 G.1)
 have e2:(l.drop i).filter (λx=>decide (x<n))=[]:=MN.2 λx hx=>by
  obtain⟨m,E,rfl⟩:=LM hx;rw[List.getElem_drop];have G:i+m<l.length:=by rw[Mf]at E;omega
  have:=J (i+m) G oa;simp;omega
 have S:l.filter (λx=>decide (x<n))=l.take i:=by
  conv=>lhs;rw[<-MF i l]
  rw[LR,e1,e2,LH]
 rw[S,LA];omega
theorem QbQ {L:LN}{v:OY}{l:LI}(h:Qt L ↑w v l)(hi:YN l)(n:Int):
  QT sV 253 [v,sS n] w λr w'=>w'=w/\r=.tuple #[sS (lwB l n),.bool (decide (n∈l))]:=by
 have ht:=h.le;refine Zn func253 ?_;refine Qc<|x Qd<|Qb<|Ql<|QG h O<|Qb<|Ql<|x Qd<|Qb<|Qe<|QW (α:=Nat×Nat) [(7,9),(13,30)] (λz=>[(7,sS z.1),(8,sS z.2)])
  (λz w'=>w'=w/\z.1<=z.2/\z.2<=l.length/\(∀m (E:m<l.length),m<z.1->l[m]<n)/\(∀m (E:m<l.length),z.2<=m->n<=l[m])) (λz=>z.2 - z.1) (0,l.length) ov
  ⟨O,Ln _,Lp _,λm _ S=>OS S (Nat.not_lt_zero m),λm h1 S=>OS h1 (by simp only[]at S;omega)⟩ ?_
 rintro⟨i,j⟩ g w1 ⟨rfl,hu,hj,G,T⟩;refine Qe<|Ql<|Qa<|ZX O O<|xe<|Zp rfl (λhc=>?_) (λhc=>?_)
 ·have e:i=j:=oa
  subst e;refine Qu<|QV (α:=Bool) [(4,5),(31,53)] (λz=>[(4,sS i),(5,.bool z)]) (λz w'=>w'=w1/\z=decide (n∈l)) oh ?_ ?_
  ·refine Qs<|Qa<|Qa<|Qa<|xb (Yw O O) (λhe=>?_) (λhe=>?_)
   ·have I:i<l.length:=oa
    refine Qa<|Qa<|Qa<|xii h O O I λhv hf=>x (Qq hf O)<|Qa<|xb (Q6 O O) (λU=>?_) (λU=>?_)
    ·refine Qa<|Zy<|Zy<|Zy<|QA O<|QA O<|x Qd<|Qb ?_;have:n∈l:=by rw[<-U];exact Lk I
     exact⟨true,ov,O,by simp[this]⟩
    refine Qa<|Qa<|Qa<|xii h O O I λhw hg=>x (Qq hg O)<|Qw<|(QhM _).Y ?_;rintro r3 w3 ⟨rfl,rfl⟩;refine Qa<|YD<|QA O<|QA O<|QA O<|x Qd<|Qb<|⟨false,ov,O,?_⟩;have:n∉l:=by
     intro E;obtain⟨m,J,V⟩:=LM E;by_cases hk:m<i
     ·have:=G m J hk;omega
     by_cases hl:m=i
     ·subst hl;exact U V
     have:=YN.get hi J (show i<m by omega);have:=T i I (Lp _);omega
    simp[this]
   refine Qa<|Zy<|Zy<|Zy<|Zy<|Zy<|J0<|xs O <|
    QA rfl<|x Qd<|Qb<|⟨false,ov,O,?_⟩
   have:n∉l:=by
    intro E;obtain⟨m,J,V⟩:=LM E;have:=G m J oa;omega
   simp[this]
  rintro z g w7 ⟨rfl,rfl⟩;exact Qj ⟨[sS i,.bool (decide (n∈l))],ov,O,by rw[QmF hi (show i<=l.length by omega) G T];rfl⟩
 refine Qf<|Qn<|Ql<|Qa<|QC O O<|x (Z9 O (by exact⟨oa,oa⟩))<|x (QdQ (n:=1) O O og)<|x (Z9 O (by exact⟨oa,oa⟩))<|Qb ?_;have hh:(((i:Int)+(j:Int)) / 2 ^ 1)=(((i+j) / 2:Nat):Int):=oa
 rw[hh];generalize hq:(i+j) / 2=q;have hn:i<=q:=oa
 have ho:q<j:=oa
 have Y:q<l.length:=oa
 refine Ql<|Qa<|xii h O O Y λhy hp=>x (Qq hp O)<|Qa<|Qw<|(Qks _ _).Y ?_;rintro r8 w8 ⟨rfl,rfl⟩;refine xe<|Zp rfl (λha=>?_) (λha=>?_)
 ·refine Qs<|Qa<|Qb<|⟨(i,q),oe,ov,O,hn,oa,G,λm E hr=>?_⟩;by_cases e:q=m
  ·subst e;omega
  have:=YN.get hi E (show q<m by simp only[]at hr;omega);omega
 refine Qs<|Qa<|QC O O<|Qb<|⟨(q+1,j),oe,ov,O,ho,hj,λm E hs=>?_,T⟩;by_cases e:m=q
 ·subst e;exact ha
 have:=YN.get hi Y (show m<q by simp only[]at hs;omega);omega
theorem zO {L:LN}{v:OY}{l:LI}(h:Qt L ↑w v l)(hi:YN l)(n:Int):
  QT sV 253 [v,sS n] w λr w'=>w'=w/\∃i:Int,r=.tuple #[sS i,.bool (decide (n∈l))]:=
 (QbQ h hi n).Y λ_ _ ⟨E,G⟩=>⟨E,_,G⟩
theorem JJ {L:LN}{v:OY}{l:LI}(h:Qt L ↑w v l)(hi:YN l)(n:Int):
  QT sV 188 [v,sS n] w λr w'=>r=.bool (decide (n∈l))/\w'=w:=by
 refine Zn func188 ?_;refine Qc<|Qb<|Ql<|Qa<|Qw<|(zO h hi n).Y ?_;rintro E G ⟨rfl,i,rfl⟩;refine Qa<|QL O O<|QL O O<|x Qd<|Qb<|Ql<|Qb<|Qj ⟨[.bool (decide (n∈l))],La,O,O⟩
theorem UX {L:LN}{v:OY}{l:LI}(h:Qt L ↑w v l)(n:Int):
  QT sV 202 [v,sS n] w λr w'=>r=sS (Jn n none l)/\w'=w:=by
 have he:=h.le;refine Zn func202 ?_;refine Qc<|Qb<|Qe<|Ql<|QG h O<|Qa<|xe<|QW (α:=Nat) [(4,6),(9,34)] (λk=>[(9,sS k)]) (λk w'=>w'=w/\k<=l.length/\Jn n (pv l k) (l.drop k)=Jn n none l) (λk=>l.length - k) 0 La ⟨O,Ln _,O⟩ ?_;rintro k g U ⟨rfl,hk,E⟩;refine Zi rfl O (λV=>?_) (λV=>?_)
 ·refine Qu<|Qc<|Qb<|Qj ⟨[sS 0],La,?_,O⟩;rw[<-E,Ls oa];rfl
 have G:k<l.length:=oa
 rw[(QX G),Jn]at E;refine Qf<|Qe<|Qn<|Ql<|xii h O O G λhf Y=>x (Qq Y O)<|x Qd<|Qb<|Qn<|QV (α:=Bool) [(14,21)] (λz=>[(14,.bool z)]) (λz w'=>w'=U/\z=decide (l[k]<0\/n<=l[k])) oh ?_ ?_
 ·refine Qs<|Qa<|xb (Yw O O) (λI=>?_) (λI=>?_)
  ·refine Qa<|Zy<|QA O<|Qb<|⟨true,La,O,by simp[I]⟩
  refine Qa<|Qa<|Qa<|x (Yd O O)<|QA O<|Qb<|⟨_,La,O,by simp[I]⟩
 rintro z g w2 ⟨rfl,rfl⟩;refine Za rfl (λJ=>?_) (λJ=>?_)
 ·refine Qc<|Qb<|Qj ⟨[sS 2],La,?_,O⟩;rw[<-E,OQ J];rfl
 rw[OP J]at E;refine QV (α:=Bool) [(22,33)] (λz=>[(22,.bool z)]) (λz w'=>w'=w2/\z=zd (pv l k) l[k]) oh ?_ ?_
 ·refine Qs<|Qa<|xb (Z2 O O) (λha=>?_) (λha=>?_)
  ·have hk1:((k:Int) - 1)=((k - 1:Nat):Int):=oa
   refine Qa<|Qa<|Qa<|Qa<|x (X9 O O ⟨oa,oa⟩)<|xii (i:=k - 1) h O (by show Value.int _ ((k:Int) - 1)=_;rw[hk1]) oa λhg hc=>x (Qq hc rfl)<|x (Ja rfl rfl)<|QA rfl<|Qb<|⟨_,⟨rfl,Z⟩,rfl,?_⟩;have:pv l k=some l[k - 1]:=by
    have S:k≠0:=oa
    simp[pv,S,show k - 1<l.length by omega]
   rw[this];rfl
  refine Qa<|Zy<|Zy<|J0<|QA O<|Qb ?_;have S:k=0:=oa
  exact⟨false,La,O,by simp[pv,S,zd]⟩
 rintro z g w3 ⟨rfl,rfl⟩;refine Q9 rfl (λT=>?_) (λT=>?_)
 ·refine Qc<|Qb<|Qj ⟨[sS 5],La,?_,O⟩;rw[<-E,OQ T];rfl
 rw[OP (by simp[T])]at E;refine Qf<|Qs<|QC O O<|Qa<|xe ?_;exact⟨k+1,oa,La,O,oa,by rw[J3 G];exact E⟩
theorem yf {L:LN}{a:QF}(h:Zr L ↑w va vm ve a):
  QT sV 203 [.agg #[va,sS a.st,vm,ve]] w λr w'=>r=sS (ckE a.al a.st none a.ed)/\sW w w':=by
 obtain⟨S,_,I⟩:=h;have h5:=I.le;refine Zn func203 ?_;refine Qc<|Zd [va,sS a.st,vm,ve] λb1 w1 ha h6 J=>Qb ?_
 replace S:=S.I ha
 replace I:=I.I ha;refine Qe<|Qc<|Qr O J O O<|QG I O<|Qa<|xe<|QW (α:=Nat) [(2,5),(9,71)] (λk=>[(9,sS k)]) (λk w'=>sW w1 w'/\k<=a.ed.length/\ckE a.al a.st (pv a.ed k) (a.ed.drop k)=ckE a.al a.st none a.ed) (λk=>a.ed.length - k) 0 La
  ⟨O1.Z _ _,Ln _,O⟩ ?_
 rintro k g w2 ⟨T,hk,E⟩
 replace S:=S.I T
 replace I:=I.I T
 replace J:=J.I T;refine Zi rfl O (λht=>?_) (λht=>?_)
 ·refine Qu<|Qc<|Qb<|Qj ⟨[sS 0],La,?_,ha.D T⟩;rw[<-E,Ls oa];rfl
 have hc:k<a.ed.length:=oa
 rw[(QX hc),ckE]at E;refine Qf<|Qe<|Qn<|Ql<|xie I O O hc λh7 hu=>x (QE hu O O)<|QP [sS 0,sS 0,sS 0] λb4 w3 hv hw G=>x Qd <|
  Qo<|Zk G O O O O ox λw4 hy G=>xe ?_
 have U:=hv.O hy hw
 replace S:=S.I U
 replace I:=I.I U
 replace J:=J.I U;have V:=(ha.D T).D U;refine Qe<|Qn<|QV (α:=Bool) [(14,36)] (λz=>[(14,.bool z)]) (λz w'=>w'=w4/\z=decide (a.ed[k].1<0\/a.st<=a.ed[k].1\/a.ed[k].2.2<0\/a.st<=a.ed[k].2.2)) oh ?_ ?_
 ·refine Qs<|Qr O G O O<|xb (Yw O O) (λhe=>?_) (λhe=>?_)
  ·refine Qa<|Zy<|YD<|QA O<|Qa<|Zy<|QA O<|Qa<|Zy<|YD<|QA O<|Qb<|⟨true,La,O,by simp[he]⟩
  refine Qa<|Qr O G O O<|Qr O J O O<|xb (Yd O O) (λhf=>?_) (λhf=>?_)
  ·refine QA O<|Qa<|Zy<|QA O<|Qa<|Zy<|YD<|QA O<|Qb<|⟨true,La,O,by simp[hf]⟩
  refine QA O<|Qa<|Qr O G O O<|xb (Yw O O) (λhg=>?_) (λhg=>?_)
  ·refine QA O<|Qa<|Zy<|YD<|QA O<|Qb<|⟨true,La,O,by simp[hg]⟩
  refine QA O<|Qa<|Qr O G O O<|Qr O J O O<|x (Yd O O)<|QA O<|Qb<|⟨_,La,O,by simp[he,hf,hg]⟩
 rintro z g w5 ⟨rfl,rfl⟩;refine Za rfl (λhh=>?_) (λhh=>?_)
 ·refine Qc<|Qb<|Qj ⟨[sS 2],La,?_,V⟩;rw[<-E,OQ hh];rfl
 rw[OP hh]at E;refine Qc<|Qr O J O O<|Qr O G O O<|Qw<|(ZE S _).Y ?_;rintro r4 w6 ⟨rfl,rfl⟩;refine x (Zh O)<|Qb<|Q9 O (λhj=>?_) (λhj=>?_)
 ·have hn:a.ed[k].2.1∉a.al:=by simpa using hj
  refine Qc<|Qb<|Qj ⟨[sS 9],La,?_,V⟩;rw[<-E,OQ hn];rfl
 have hn:¬(a.ed[k].2.1∉a.al):=by simpa using hj
 rw[OP hn]at E;refine Qf<|Qe<|Ql<|x (Q6 O O)<|xe<|Za rfl (λhz=>?_) (λhz=>?_)
 ·have h0:k=0:=oa
  rw[OP (by simp[pv,h0,edO])]at E;refine Qu<|Qs<|QC O O<|Qa<|xe ?_;exact⟨k+1,oa,La,T.D U,oa,by rw[J3 hc];exact E⟩
 have h0:k≠0:=oa
 have hk1:((k:Int) - 1)=((k - 1:Nat):Int):=oa
 have hs:k - 1<a.ed.length:=oa
 refine Qf<|Qc<|Qr O J O O<|Qa<|x (X9 O O ⟨oa,oa⟩)<|xie (i:=k - 1) I O (by show Value.int _ ((k:Int) - 1)=_;rw[hk1]) hs λh8 h1 =>
  x (QE h1 O O)<|QP [sS 0,sS 0,sS 0] λb5 w7 h2 h3 Y=>Qo<|Zk Y O O O O ox λw8 h4 Y=>xe ?_
 have hl:=h2.O h4 h3
 replace G:=G.I hl
 replace V:=V.D hl;have hp:pv a.ed k=some a.ed[k - 1]:=by simp[pv,h0,hs]
 rw[hp]at E;refine QV (α:=Bool) [(52,70)] (λz=>[(70,.bool z)]) (λz w'=>w'=w8/\z=edO (some a.ed[k - 1]) a.ed[k]) oh ?_ ?_
 ·refine Qs<|Qr O G O O<|Qr O Y O O<|xb (Yw O O) (λho=>?_) (λho=>?_)
  ·refine Qa<|Zy<|Zy<|Zy<|Zy<|QA O<|xe ?_;exact⟨true,La,O,by simp[edO,ho]⟩
  refine Qa<|Qr O G O O<|Qr O Y O O<|xb (Q6 O O) (λhq=>?_) (λhq=>?_)
  ·refine Qa<|Qr O G O O<|Qr O Y O O<|x (Ja O O)<|QA O<|QA O<|xe ?_;exact⟨_,La,O,by simp[edO,hq]⟩
  refine Qa<|Zy<|YD<|QA O<|QA O<|xe ?_;exact⟨false,La,O,by simp[edO,hq,ho]⟩
 rintro z g w9 ⟨rfl,rfl⟩;refine Q9 rfl (λhr=>?_) (λhr=>?_)
 ·refine Qc<|Qb<|Qj ⟨[sS 5],La,?_,V⟩;rw[<-E,OQ hr];rfl
 rw[OP (by simp[hr])]at E;refine Qf<|Qs<|QC O O<|Qa<|xe ?_;exact⟨k+1,oa,La,(T.D U).D hl,oa,by rw[J3 hc];exact E⟩
theorem YV {L:LN}{a:QF}(h:Zr L ↑w va vm ve a):
  QT sV 130 [.agg #[va,sS a.st,vm,ve]] w λr w'=>r=sS (XK a)/\sW w w':=by
 refine Zn func130 ?_;refine Qc<|Zd [va,sS a.st,vm,ve] λV Y E ha G=>Qb ?_
 replace h:=h.I E;refine Qe<|Qc<|Qr O G O O<|Qw<|(UX h.al 32).Y ?_;rintro r2 w2 ⟨rfl,rfl⟩;refine Qb<|Ql<|ZI O O<|xe<|Za rfl (λI=>?_) (λI=>?_)
 ·refine Ql<|Qb<|Qj ⟨[sS (Jn 32 none a.al)],La,?_,E⟩;rw[XK,OQ I];rfl
 refine Qf<|Qe<|Qn<|Qc<|Qr O G O O<|ZX O O<|Qb<|Za O (λJ=>?_) (λJ=>?_)
 ·refine Qc<|Qb<|Qj ⟨[sS 2],La,?_,E⟩;rw[XK,OP I,OQ J];rfl
 refine Qc<|Qr O G O O<|x (Z2 O O)<|Qb<|Za O (λS=>?_) (λS=>?_)
 ·refine Qc<|Qb<|Qj ⟨[sS 3],La,?_,E⟩;rw[XK,OP I,OP J,OQ S];rfl
 refine Qf<|Qe<|Qc<|Qr O G O O<|Qr O G O O<|Qw<|(UX h.mr a.st).Y ?_;rintro r3 w3 ⟨rfl,rfl⟩;refine Qb<|Ql<|ZI O O<|xe<|Za rfl (λT=>?_) (λT=>?_)
 ·refine Ql<|Qb<|Qj ⟨[sS (Jn a.st none a.mr)],La,?_,E⟩;rw[XK,OP I,OP J,OP S,OQ T];rfl
 refine Qf<|Qc<|QY G O O<|Qw<|(yf h).Y ?_;rintro r4 w4 ⟨rfl,U⟩;refine Qb<|Qj ⟨[sS (ckE a.al a.st none a.ed)],La,?_,E.D U⟩;rw[XK,OP I,OP J,OP S,OP T];rfl
theorem ZT {L:LN}{v:OY}{l:LI}(h:Qt L ↑w v l):
  QT sV 64 [v] w λr w'=>sW w w'/\Qh 3 ↑w w' r l :=
 zD ⟨_,O,func64⟩ h (VJ l)
theorem Qa9 [Fu sV g fn]{keep:Bool->Bool->Bool}(hk:∀(p q:Bool) (w:OX),QT sV g [.bool p,.bool q] w λr w'=>r=.bool (keep p q)/\w'=w)
  {L L':LN}   {a b:LI} (I:Qt L ↑w va a) (hb:Qt L' ↑w vb b) (hI:a.length+b.length<=1099511627776):
  QT sV 146 [va,vb,.func (.func g) #[] #[]] w λr w'=>sW w w'/\Qh 3 ↑w w' r (mrg keep a b):=by
 refine Zn func146 ?_;refine Qc<|Qb<|Qc<|Qb<|Qe<|QW (α:=(LI×OY)×(LI×OY)×(LI×OY)) [(0,1),(7,72)] (λz=>[(0,z.1.2),(1,z.2.1.2),(7,z.2.2.2)])
  (λz w'=>Qt L ↑w z.1.2 z.1.1/\Qt L' ↑w z.2.1.2 z.2.1.1/\Qh 3 ↑w w' z.2.2.2 z.2.2.1/\sW w w'/\z.2.2.1++mrg keep z.1.1 z.2.1.1=mrg keep a b/\z.2.2.1.length+z.1.1.length+z.2.1.1.length<=1099511627776)
  (λz=>z.1.1.length+z.2.1.1.length) ((a,va),(b,vb),([],nS)) ox ⟨I,hb,QM _ _ _ _,O1.Z _ _,O,by simp;omega⟩ ?_
 clear I hb;rintro⟨⟨a1,h3⟩,⟨E,h4⟩,⟨o,vo⟩⟩ g1 w1 ⟨I,hb,J,G,U,hl⟩;simp only[]at I hb J G U hl;refine Qe<|QV (α:=Bool) [(11,18)] (λz=>[(18,.bool z)]) (λz w'=>w'=w1/\z=decide (¬(a1=[]/\E=[]))) oh ?_ ?_
 ·refine Qs<|Qa<|QG I O<|xb (Z2 O O) (λhp=>?_) (λhp=>?_)
  ·refine Qa<|Zy<|QA O<|xe ?_;have:a1≠[]:=by intro e;subst e;simp at hp
   exact⟨true,La,O,by simp[this]⟩
  refine Qa<|Qa<|QG hb O<|x (Z2 O O)<|QA O<|xe ?_;have:a1=[]:=Lu oa;refine⟨_,La,O,?_⟩;cases E <;> simp[this]
 rintro z g2 w2 ⟨rfl,rfl⟩;refine Zp rfl (λhe=>?_) (λhe=>?_)
 ·refine Qu<|Ql<|Qb<|Qj ⟨[vo],La,G,?_⟩;obtain⟨rfl,rfl⟩:=Lr.1 he;rw[J8,LH]at U;rw[<-U];exact J
 refine Qf ?_;rw[JS keep he]at U;have hq:=zk he;have hJ:=I.le;have hK:=hb.le;refine Qn<|QV (α:=Bool) [(8,8),(19,35)] (λz=>[(8,.bool z)]) (λz w'=>sW w2 w'/\z=XS a1 E) oh ?_ ?_
 ·refine ZJ [] (Y4 0 18 [])<|p Qy<|p (λ_=>YH I O)<|pb (λ_=>Z2 O O) (λhr=>?_) (λhr=>?_)
  ·refine p Qy<|p Qy<|p (λ_=>YH hb O)<|pb (λ_=>Q6 O O) (λh5=>?_) (λh5=>?_)
   ·refine p Qy<|ps<|ps<|ps<|ps<|ps<|ps<|ps<|p (YI O)<|p (YI O)<|p ZK<|pe ?_;refine⟨true,La,O1.C _ _,?_⟩;have:E=[]:=Lu oa;subst this;cases a1 with
    | nil=>simp at hr
    | cons y a1=>rfl
   have hA:0<a1.length:=oa
   have T:0<E.length:=oa
   refine p Qy<|p Qy<|pii O (i:=0) (I.I G) O O hA λhL h6=>pq (λ_ S=>Qq (h6.I S) O) <|
    p Qy<|pii O (i:=0) (hb.I G) O O T λhM h7=>pq (λ_ S=>Qq (h7.I S) O)<|p (λ_=>Ja O O) <|
    p (YI rfl)<|p (YI O)<|p ZK<|pe ?_
   refine⟨_,La,O1.C _ _,?_⟩;cases a1 with
   | nil=>simp at hA
   | cons y a1=>cases E with
    | nil=>simp at T
    | cons z E=>rfl
  refine p Qy<|ps<|ps<|ps<|ps<|ps<|ps<|ps<|ps<|ps<|ps<|ps<|ps<|p (YI O)<|p ZK<|pe ?_;refine⟨false,La,O1.C _ _,?_⟩;have:a1=[]:=Lu oa;subst this;rfl
 rintro z g3 w3 ⟨ht,rfl⟩
 replace J:=Qm J ht
 replace G:=G.D ht;refine QV (α:=Bool) [(9,9),(36,52)] (λz=>[(9,.bool z)]) (λz w'=>sW w3 w'/\z=XS E a1) oh ?_ ?_
 ·refine ZJ [] (Y4 0 18 [])<|p Qy<|p (λ_=>YH hb O)<|pb (λ_=>Z2 O O) (λhu=>?_) (λhu=>?_)
  ·refine p Qy<|p Qy<|p (λ_=>YH I O)<|pb (λ_=>Q6 O O) (λh8=>?_) (λh8=>?_)
   ·refine p Qy<|ps<|ps<|ps<|ps<|ps<|ps<|ps<|p (YI O)<|p (YI O)<|p ZK<|pe ?_;refine⟨true,La,O1.C _ _,?_⟩;have:a1=[]:=Lu oa;subst this;cases E with
    | nil=>simp at hu
    | cons y E=>rfl
   have hA:0<a1.length:=oa
   have T:0<E.length:=oa
   refine p Qy<|p Qy<|pii O (i:=0) (hb.I G) O O T λhN h9=>pq (λ_ S=>Qq (h9.I S) O) <|
    p Qy<|pii O (i:=0) (I.I G) O O hA λhO hC=>pq (λ_ S=>Qq (hC.I S) O)<|p (λ_=>Ja O O) <|
    p (YI rfl)<|p (YI O)<|p ZK<|pe ?_
   refine⟨_,La,O1.C _ _,?_⟩;cases a1 with
   | nil=>simp at hA
   | cons y a1=>cases E with
    | nil=>simp at T
    | cons z E=>rfl
  refine p Qy<|ps<|ps<|ps<|ps<|ps<|ps<|ps<|ps<|ps<|ps<|ps<|ps<|p (YI O)<|p ZK<|pe ?_;refine⟨false,La,O1.C _ _,?_⟩;have:E=[]:=Lu oa;subst this;rfl
 rintro z g4 w4 ⟨hv,rfl⟩
 replace J:=Qm J hv
 replace G:=G.D hv;refine Qc<|Qb<|QV (α:=OY) [(0,0),(10,10),(53,58)] (λz=>[(0,z),(10,sS (bif XS a1 E then a1.headD 0 else 0))]) (λz w'=>sW w4 w'/\Qt L ↑w z (tl (XS a1 E) a1)) oh ?_ ?_
 ·refine Ql<|xe<|Q9 O (λV=>?_) (λV=>?_)
  ·have hA:0<a1.length:=by cases a1 with|nil=>simp[XS]at V|cons y a1=>simp
   refine ZJ [] (Y4 0 7 [])<|p Qy<|pii O (i:=0) (I.I G) O O hA λhD hf=>pq (λ_ S=>Qq (hf.I S) O)<|p Qy <|
    Qmp rfl (lo:=1) I O O hA λv' hg=>p ZK<|p ZK<|pe ?_
   have hh:=Qt.drop hg;refine⟨v',⟨O,?_,Z⟩,O1.C _ _,?_⟩
   ·show sS a1[0]=_;rw[V];cases a1 with|nil=>simp at hA|cons y a1=>rfl
   rw[V];simpa[tl]using hh
  refine Qf<|⟨h3,⟨O,by show _=_;rw[V];rfl,Z⟩,O1.Z _ _,?_⟩;rw[V];exact I
 rintro hw g5 w5 ⟨hy,hz⟩
 replace J:=Qm J hy
 replace G:=G.D hy;refine QV (α:=OY) [(1,1),(10,10),(59,64)] (λz=>[(1,z),(10,sS (bif XS E a1 then E.headD 0 else bif XS a1 E then a1.headD 0 else 0))]) (λz w'=>sW w5 w'/\Qt L' ↑w z (tl (XS E a1) E)) oh ?_ ?_
 ·refine Ql<|xe<|Q9 O (λY=>?_) (λY=>?_)
  ·have T:0<E.length:=by cases E with|nil=>simp[XS]at Y|cons y E=>simp
   refine ZJ [] (Y4 0 7 [])<|p Qy<|pii O (i:=0) (hb.I G) O O T λhD hf=>pq (λ_ S=>Qq (hf.I S) O)<|p Qy <|
    Qmp rfl (lo:=1) hb O O T λv' hg=>p ZK<|p ZK<|pe ?_
   have hh:=Qt.drop hg;refine⟨v',⟨O,?_,Z⟩,O1.C _ _,?_⟩
   ·show sS E[0]=_;rw[Y];cases E with|nil=>simp at T|cons y E=>rfl
   rw[Y];simpa[tl]using hh
  refine Qf<|⟨h4,⟨O,by show _=_;rw[Y];rfl,Z⟩,O1.Z _ _,?_⟩;rw[Y];exact hb
 rintro h0 g6 w6 ⟨h1,h2⟩
 replace J:=Qm J h1
 replace G:=G.D h1;have hE:(bif XS E a1 then E.headD 0 else bif XS a1 E then a1.headD 0 else 0)=hx a1 E:=by
  unfold hx;cases e:XS E a1 with
  | true=>rfl
  | false =>
   cases e2:XS a1 E with
   | true=>rfl
   | false=>rw[e,e2]at hq;simp[tl]at hq
 refine Ql<|Qa<|Qa<|Qo<|xc (first:=[]) (capt:=[]) O<|(hk _ _ _).Y ?_;rintro r7 w7 ⟨rfl,rfl⟩;refine xe<|Q9 rfl (λhj=>?_) (λhj=>?_)
 ·refine Qs ?_;rw[hj,cond_true]at U;refine Qa<|Qa<|Qo<|Yf (us:=[[sS (hx a1 E)]]) O O og od ⟨by rw[<-hE];rfl,O,Z⟩ λhP w8 hn hQ hF =>
   Qo<|Q2 (news:=[sS (hx a1 E)]) (L:=[]) (Qm J hn) O O O (hF.at od) om oa (oq G.size hn.size) λv9 w9 hG hH hR=>Qb ?_
  have hge:=Qi J;refine⟨((tl (XS a1 E) a1,hw),(tl (XS E a1) E,h0),(o++[hx a1 E],v9)),oe,ox,hz,h2,?_,(G.D hn).S hH (λb hb=>.inr (hge b hb).1),by rw[LE];exact U,by simp only[oM,oL];omega⟩;exact Qh.snoc hG
 rw[hj,cond_false,Mx]at U;refine Qf ?_;exact⟨((tl (XS a1 E) a1,hw),(tl (XS E a1) E,h0),(o,vo)),oe,ox,hz,h2,J,G,U,oe⟩
theorem Qop (p q:Bool)(w:OX):QT sV 147 [.bool p,.bool q] w λr w'=>r=.bool (p || q)/\w'=w:=by
 refine Zn func147 ?_;refine Qc<|Qb<|Qc ?_;cases p
 ·refine Qa<|Qa<|Qa<|QA O<|Qb<|Qj ⟨[.bool q],La,O,O⟩
 refine Qa<|Qa<|J0<|QA O<|Qb<|Qj ⟨[.bool true],La,O,O⟩
theorem Qhn (p q:Bool)(w:OX):QT sV 237 [.bool p,.bool q] w λr w'=>r=.bool (p && !q)/\w'=w:=by
 refine Zn func237 ?_;refine Qc<|Qb<|Qc ?_;cases p
 ·refine Qa<|Qa<|YD<|QA O<|Qb<|Qj ⟨[.bool false],La,O,O⟩
 refine Qa<|Qa<|Qa<|x (Zh O)<|QA O<|Qb<|Qj ⟨[.bool (!q)],La,O,O⟩
theorem zS {L L':LN}{a b:LI}(E:Qt L ↑w va a)(hb:Qt L' ↑w vb b)(G:a.length+b.length<=1099511627776):
  QT sV 71 [va,vb] w λr w'=>sW w w'/\Qh 3 ↑w w' r (mrg (· || ·) a b):=by
 refine Zn func71 ?_;refine Qc<|Qb<|Ql<|Qa<|Qw<|(Qa9 Qop E hb G).Y ?_;rintro I T ⟨J,S⟩;refine Qb<|Qj ⟨[I],La,J,S⟩
theorem Qi7 {L L':LN}{a b:LI}(E:Qt L ↑w va a)(hb:Qt L' ↑w vb b)(G:a.length+b.length<=1099511627776):
  QT sV 164 [va,vb] w λr w'=>sW w w'/\Qh 3 ↑w w' r (mrg (λp q=>p && !q) a b):=by
 refine Zn func164 ?_;refine Qc<|Qb<|Ql<|Qa<|Qw<|(Qa9 Qhn E hb G).Y ?_;rintro I T ⟨J,S⟩;refine Qb<|Qj ⟨[I],La,J,S⟩
theorem jg {L L':LN}{a b:LI}(E:Qt L ↑w va a)(hb:Qt L' ↑w vb b)(G:a.length+b.length<=1099511627776):
  QT sV 90 [va,vb] w λr w'=>sW w w'/\r=.bool (decide (mrg (λp q=>p && !q) a b=[])):=by
 refine Zn func90 ?_;refine Qc<|Qb<|Ql<|Qa<|Qw<|(Qi7 E hb G).Y ?_;rintro S T ⟨I,J⟩;have U:=qp (λp q=>p && !q) a b;refine QG (Qh.ints (L:=[]) J oa od) rfl<|x (Q6 rfl rfl)<|Qb<|Qj ⟨[.bool (decide (((mrg (λp q=>p && !q) a b).length:Int)=0))],⟨rfl,Z⟩,I,?_⟩;simp[tup]
theorem QiS [Fu sV g fn](V:∀(e:Ed) (s:Int) (w:OX),0<=e.1->e.1<=1099511627776->0<=s->s<=1099511627776->QT sV g [sT (Qp e),sS s] w λr w'=>r=sS (e.1 - s)/\sW w w')
  {L:LN}  {v:OY} {es:List Ed} (h:Ua L ↑w v es) (hi:es.Pairwise (λa b=>a.1<=b.1)) (hb:∀e∈es,0<=e.1/\e.1<=1099511627776) (s:Int) (Y:0<=s) (ha:s<=1099511627776):
  QT sV 156 [v,sS s,.func (.func g) #[] #[]] w λr w'=>sW w w'/\∃(i:Nat) (b:Bool),r=.tuple #[sS i,.bool b]/\i<=es.length /\
   (∀m (E:m<es.length),m<i->es[m].1<s)/\(∀m (E:m<es.length),i<=m->s<=es[m].1):=by
 have h4:=h.le;have hc:∀{i j:Nat} (G:j<es.length) (J:i<j),es[i].1<=es[j].1:=λ{i j} G J=>Md.1 hi i j oa G J;have he:∀m (E:m<es.length),0<=es[m].1/\es[m].1<=1099511627776:=λm E=>hb _ (Lk E);refine Zn func156 ?_;refine Qc<|x Qd<|Qb<|Ql<|QG h O<|Qb<|Ql<|x Qd<|Qb<|Qe<|QW (α:=Nat×Nat) [(9,11),(15,34)] (λz=>[(9,sS z.1),(10,sS z.2)])
  (λz w'=>sW w w'/\z.1<=z.2/\z.2<=es.length/\(∀m (E:m<es.length),m<z.1->es[m].1<s)/\(∀m (E:m<es.length),z.2<=m->s<=es[m].1)) (λz=>z.2 - z.1) (0,es.length) ov
  ⟨O1.Z _ _,Ln _,Lp _,λm _ S=>OS S (Nat.not_lt_zero m),λm h1 S=>OS h1 (by simp only[]at S;omega)⟩ ?_
 rintro⟨i,j⟩ g1 w1 ⟨I,J,G,hf,hg⟩;refine Qe<|Ql<|Qa<|ZX O O<|xe<|Zp rfl (λhp=>?_) (λhp=>?_)
 ·have e:i=j:=oa
  subst e;refine Qu<|QV (α:=Bool) [(6,7),(35,48)] (λz=>[(6,sS i),(7,.bool z)]) (λz w'=>sW w1 w') oh ?_ ?_
  ·refine Qs<|Qa<|Qa<|Qa<|xb (Yw O O) (λhr=>?_) (λhr=>?_)
   ·have hl:i<es.length:=oa
    have T:=he i hl;refine Qa<|Qa<|Qa<|Qa<|xie (h.I I) O O hl λh5 hs=>x (QE hs O O)<|Qa<|Qo<|xc (first:=[]) (capt:=[]) O<|(V es[i] s _ T.1 T.2 Y ha).Y ?_;rintro r2 w2 ⟨rfl,ht⟩;refine x (Q6 O O)<|QA O<|x Qd<|Qb<|⟨_,ov,ht⟩
   refine Qa<|Zy<|Zy<|YD<|QA O<|x Qd<|Qb<|⟨false,ov,O1.Z _ _⟩
  rintro z g3 w3 hu;exact Qj ⟨[sS i,.bool z],ov,I.D hu,i,z,O,G,hf,hg⟩
 refine Qf<|Qn<|Ql<|Qa<|QC O O<|x (Z9 O (by exact⟨oa,oa⟩))<|x (QdQ (n:=1) O O og)<|x (Z9 O (by exact⟨oa,oa⟩))<|Qb ?_;have hh:(((i:Int)+(j:Int)) / 2 ^ 1)=(((i+j) / 2:Nat):Int):=oa
 rw[hh];generalize T:(i+j) / 2=q;have hv:i<=q:=oa
 have hw:q<j:=oa
 have U:q<es.length:=oa
 have hn:=he q U;refine Ql<|Qa<|Qa<|xie (h.I I) O O U λh6 hy=>x (QE hy O O)<|Qa<|Qo<|xc (first:=[]) (capt:=[]) O<|(V es[q] s _ hn.1 hn.2 Y ha).Y ?_;rintro r4 w4 ⟨rfl,ho⟩;refine ZX rfl O<|xe<|Zp rfl (λhz=>?_) (λhz=>?_)
 ·refine Qs<|Qa<|Qb<|⟨(i,q),oe,ov,I.D ho,hv,oa,hf,λm E h2=>?_⟩;by_cases e:q=m
  ·subst e;omega
  have:=hc E (show q<m by simp only[]at h2;omega);omega
 refine Qs<|Qa<|QC O O<|Qb<|⟨(q+1,j),oe,ov,I.D ho,hw,G,λm E h3=>?_,hg⟩;by_cases e:m=q
 ·subst e;omega
 have:=hc U (show m<q by simp only[]at h3;omega);omega
theorem Qj4 (e:Ed)(s:Int)(w:OX)(I:0<=e.1)(J:e.1<=1099511627776)(S:0<=s)(T:s<=1099511627776):
  QT sV 157 [sT (Qp e),sS s] w λr w'=>r=sS (e.1 - s)/\sW w w':=by
 refine Zn func157 ?_;refine Qc<|Zd (Qp e) λU V E Y G=>Qb<|Qc<|Qr O G O O<|Qa<|x (X9 O O ⟨oa,oa⟩)<|Qb<|Qj ⟨[sS (e.1 - s)],La,O,E⟩
theorem Qj3 (e:Ed)(s:Int)(w:OX)(I:0<=e.1)(J:e.1<=1099511627776)(S:0<=s)(T:s<=1099511627776):
  QT sV 158 [sT (Qp e),sS s] w λr w'=>r=sS (e.1 - s)/\sW w w':=by
 refine Zn func158 ?_;refine Qc<|Zd (Qp e) λU V E Y G=>Qb<|Qc<|Qr O G O O<|Qa<|x (X9 O O ⟨oa,oa⟩)<|Qb<|Qj ⟨[sS (e.1 - s)],La,O,E⟩
theorem jG {L:LN}{st:Int}{es:List Ed}(h:Ua L ↑w ve es)(hi:es.Pairwise (λa b=>a.1<=b.1))(hb:∀e∈es,0<=e.1/\e.1<=1099511627776)(s:Int)(he:0<=s)(ho:s<1099511627776):
  QT sV 80 [.agg #[va,sS st,vm,ve],sS s] w λr w'=>sW w w'/\Ua L ↑w' r (QS es s):=by
 refine Zn func80 ?_;refine Qc<|Zd [va,sS st,vm,ve] λb2 w1 T hp E=>Qb ?_
 replace h:=h.I T;refine Qc<|Qr O E O O<|Qa<|Qw<|(QiS Qj4 h hi hb s he oa).Y ?_;rintro r2 w2 ⟨J,lo,b,rfl,hq,U,hf⟩
 replace h:=h.I J
 replace E:=E.I J;refine Qa<|QL O O<|QL O O<|x Qd<|Qb<|Qc<|Qr O E O O<|Qa<|QC O O<|Qw<|(QiS Qj3 h hi hb (s+1) oa oa).Y ?_;rintro r3 w3 ⟨S,hi',b',rfl,V,hg,Y⟩
 replace h:=h.I S
 replace E:=E.I S;refine Qa<|QL O O<|QL O O<|x Qd<|Qb ?_;have ha:lo<=hi':=by
  rcases OJ hi' lo with hh|hge
  ·have I:=U hi' oa hh;have h2:=Y hi' oa (Lp _);omega
  exact hge
 refine Qc<|Qr O E O O<|Qa<|Qa<|Qpz h O O O ha V λv' hj=>Qb<|Qj ⟨[v'],La,(T.D J).D S,?_⟩;have hc:=zC (λe:Ed=>decide (e.1=s)) es lo hi' ha V (λm G hk=>by have:=U m G hk;simp;omega) (λm G I h2=>by have:=hf m G I;have:=hg m G h2;simp;omega) (λm G I=>by have:=Y m G I;simp;omega);have hl:(QS es s).length=hi' - lo:=by unfold QS;rw[<-hc,LA,Mf];omega
 show Zs L ↑w3 v' (QS es s).length 3 _;rw[hl];have e1:(QS es s).flatMap Qp=((es.flatMap Qp).drop (lo*3)).take ((hi' - lo)*3):=by
  unfold QS;rw[<-hc];have key:∀(l:List Ed) (k:Nat),(l.flatMap Qp).drop (k*3)=(l.drop k).flatMap Qp:=by
   intro l;induction l with
   | nil=>intro k;simp
   | cons a l ih=>intro k;cases k with
    | zero=>simp
    | succ k=>simp only[oW,List.drop_succ_cons,Ok,OI];rw[MT,<-List.drop_drop,show(Qp a++l.flatMap Qp).drop 3=l.flatMap Qp from rfl,ih]
  have hn:∀(l:List Ed) (k:Nat),(l.flatMap Qp).take (k*3)=(l.take k).flatMap Qp:=by
   intro l;induction l with
   | nil=>intro k;simp
   | cons a l ih=>intro k;cases k with
    | zero=>simp
    | succ k =>
     simp only[oW,List.take_succ_cons,Ok,OI];rw[Nv,Jz,<-ih,Lq (by simp[Jz])];simp
  rw[key,hn]
 rw[e1];exact hj
structure Ki (b3 b22:Nat)(r3:OY)(wS:OX)(c:Cs)(vo vk ve:OY)(w:OX):Prop where
 st:O1 [b3,b22] wS w
 B3:QK ↑w b3 53 [r3,sS 0,vk,ve]
 B22:QK ↑w b22 3 (c.num.map (Value.int .i64))
 o:Qh 3 ↑wS w vo c.ord
 k:Qh 3 ↑wS w vk c.mk'
 e:Z6 179 ↑wS w ve c.ed
 d1:Dj vo vk
 d2:Dj vo ve
 d3:Dj vk ve
theorem Ki.I {b3 b22:Nat}{r3:OY}{wS:OX}{c:Cs}{vo vk ve:OY}{w w':OX}(h:Ki b3 b22 r3 wS c vo vk ve w)(E:sW w w'):Ki b3 b22 r3 wS c vo vk ve w' :=
 ⟨h.st.D E,h.B3.I E,h.B22.I E,Qm h.o E,Qm h.k E,Qm h.e E,h.d1,h.d2,h.d3⟩
section
variable {b3 b22:Nat}{r3:OY}{wS:OX}{c:Cs}{w'':OX}
theorem Ki.setK (h:Ki b3 b22 r3 wS c vo vk ve w)(V:b3<wS.heap.size)(T:b22<wS.heap.size)(ne:b3≠b22){G:OY}{m:LI}(I:O1 (ob vk) w w')(J:Qh 3 ↑wS w' G m)
  (S:∀b∈ob G,b∈ob vk\/↑w<=b) (E:O1 [b3] w' w'') (U:QK ↑w'' b3 53 [r3,sS 0,G,ve]):Ki b3 b22 r3 wS ⟨c.ord,c.num,m,c.ed⟩ vo G ve w'':=by
 refine⟨(h.st.S I (λb hb=>.inr ((Qi h.k) b hb).1)).S E (λb hb=>.inl (by simp at hb;simp[hb])),U,(h.B22.J I (QJ h.k T)).J E (by simp;omega),
  Qg (Qg h.o I h.d1) E (λb hb=>by have:=(Qi h.o b hb).1;simp;omega),Qg J E (λb hb=>by have:=(Qi J b hb).1;simp;omega),
  Qg (Qg h.e I h.d3.symm) E (λb hb=>by have:=(Qi h.e b hb).1;simp;omega),h.d1.grow S (QU h.o),h.d2,(h.d3.symm.grow S (QU h.e)).symm⟩
theorem Ki.setE (h:Ki b3 b22 r3 wS c vo vk ve w)(V:b3<wS.heap.size)(T:b22<wS.heap.size)(ne:b3≠b22){G:OY}{m:List Ed}(I:O1 (ob ve) w w')(J:Z6 179 ↑wS w' G m)
  (S:∀b∈ob G,b∈ob ve\/↑w<=b) (E:O1 [b3] w' w'') (U:QK ↑w'' b3 53 [r3,sS 0,vk,G]):Ki b3 b22 r3 wS ⟨c.ord,c.num,c.mk',m⟩ vo vk G w'':=by
 refine⟨(h.st.S I (λb hb=>.inr ((Qi h.e) b hb).1)).S E (λb hb=>.inl (by simp at hb;simp[hb])),U,(h.B22.J I (QJ h.e T)).J E (by simp;omega),
  Qg (Qg h.o I h.d2) E (λb hb=>by have:=(Qi h.o b hb).1;simp;omega),Qg (Qg h.k I h.d3) E (λb hb=>by have:=(Qi h.k b hb).1;simp;omega),
  Qg J E (λb hb=>by have:=(Qi J b hb).1;simp;omega),h.d1,h.d2.grow S (QU h.o),h.d3.grow S (QU h.k)⟩
theorem Ki.setN (h:Ki b3 b22 r3 wS c vo vk ve w)(I:b22<wS.heap.size)(ne:b3≠b22){m:LI}(E:O1 [b22] w w')(G:QK ↑w' b22 3 (m.map (Value.int .i64))):Ki b3 b22 r3 wS ⟨c.ord,m,c.mk',c.ed⟩ vo vk ve w' :=
 ⟨h.st.S E (λb hb=>.inl (by simp at hb;simp[hb])),h.B3.J E (by simp;omega),G,Qg h.o E (λb hb=>by have:=(Qi h.o b hb).1;simp;omega),
  Qg h.k E (λb hb=>by have:=(Qi h.k b hb).1;simp;omega),Qg h.e E (λb hb=>by have:=(Qi h.e b hb).1;simp;omega),h.d1,h.d2,h.d3⟩
theorem Ki.setO (h:Ki b3 b22 r3 wS c vo vk ve w)(J:b3<wS.heap.size)(S:b22<wS.heap.size){G:OY}{m:LI}(E:O1 (ob vo) w w')(T:Qh 3 ↑wS w' G m)
  (I:∀b∈ob G,b∈ob vo\/↑w<=b):Ki b3 b22 r3 wS ⟨m,c.num,c.mk',c.ed⟩ G vk ve w' :=
 ⟨h.st.S E (λb hb=>.inr (Qi h.o b hb).1),h.B3.J E (QJ h.o J),h.B22.J E (QJ h.o S),T,Qg h.k E h.d1.symm,Qg h.e E h.d2.symm,
  (h.d1.symm.grow I (QU h.k)).symm,(h.d2.symm.grow I (QU h.e)).symm,h.d3⟩
end
def Yo (c:Cs)(e:Ed):Cs:=if Yh c.num e.2.2<0 then⟨c.ord++[e.2.2],c.num.set e.2.2.toNat c.ord.length,c.mk',c.ed⟩else c
theorem Qkd (c:Cs)(e:Ed):(Yo c e).num.length=c.num.length:=by unfold Yo;split <;> simp
theorem qG {c:Cs}{e:Ed}(h:e.2.2.toNat<c.num.length):Zw i c e=⟨(Yo c e).ord,(Yo c e).num,(Yo c e).mk',(Yo c e).ed++[((i:Int),e.2.1,Yh (Yo c e).num e.2.2)]⟩:=by
 unfold Zw Yo;split
 ·simp[Yh,oO,h]
 rfl
theorem Kd {L:LN}{a:QF}(h:Zr L ↑w va vm ve a)(V:Zb a):
  QT sV 241 [.agg #[va,sS a.st,vm,ve]] w λr w'=>sW w w'/\Y1 ↑w ↑w' r (X0 a):=by
 have hst0:=V.st0;have hst1:=V.st1;refine Zn func241 ?_;refine Qc<|Zd [va,sS a.st,vm,ve] λb1 w1 gk hb1 hl=>QP [nS,sS 0,nS,nS] λb2 w2 hg hb2 ho=>xe ?_;have hl1:=hl.lt;have hl2:=ho.lt;refine Qc<|Qr O (hl.I hg) O O<|Qw<|(ZT ((h.al.I gk).I hg)).Y ?_;rintro r3 w3 ⟨Y,J⟩;have hz3:=Y.size;refine x (QB ⟨(Qh.ints (L:=[]) J h.al.le od).cells,Z⟩)<|QP [nS,sS 0,nS,nS] λb3 w4 ko kp hp =>
  Q0 [r3,sS 0,nS,nS] hp ⟨(Qh.ints (L:=[]) J h.al.le od).one,rfl,rfl,rfl,Z⟩ λw5 kq hp=>xe ?_
 have I:sW w3 w5:=ko.O kq kp;have hl3:=hp.lt;have gl:sW w w5:=((gk.D hg).D Y).D I;refine Qe<|Qc<|Q7 O<|x (Qk (((hl.I hg).I Y).I I) O O)<|x (Q6 O O)<|xe<|Za rfl (λhJ=>?_) (λhJ=>?_)
 ·refine Qc<|QY hp O O<|Q0 [r3,sS 0,nS,nS] ((ho.I Y).I I) ⟨(Qh.ints (L:=[]) J h.al.le od).one,rfl,rfl,rfl,Z⟩ λw6 gm ho=>xe ?_;refine Qj ⟨[.agg #[r3,sS 0,nS,nS]],⟨Jm ho,Z⟩,gl.O gm oa,?_⟩;have kr:=Qg (Qm J I) gm (λb hb=>by have:=(Qi J b hb).1;simp;omega);unfold X0;rw[OQ hJ];exact⟨r3,_,_,O,λL' hr=>⟨Qh.ints kr h.al.le (λb hb=>oo (hr b hb)),Zs.nil _ _ _,Zs.nil _ _ _⟩⟩
 have kt:0<a.st:=oa
 obtain⟨n,hn⟩:∃n:Nat,a.st=n:=⟨a.st.toNat,oa⟩;have ku:a.st.toNat=n:=oa
 refine Qf<|Qc<|Q7 O<|x (Qk (((hl.I hg).I Y).I I) O O)<|Qo<|YP (n:=n) (OR sS hn) (OR sS hn) oa λb22 w7 ht hb22 hK=>Qb ?_;have hl22:=hK.lt;have kv:=gl.D ht;rw[show(oG n (sS 0).cells.toList).flatten=((oG n 0).map (Value.int .i64)) by rw[show(sS 0).cells.toList=[sS 0] from rfl,QaT,List.map_replicate]]at hK;have kw:sW w3 w7:=I.D ht;refine Qe<|Ql<|x (qS O)<|Qa<|xe<|QW (α:=Nat) [(5,5),(25,31)] (λk=>[(25,sS k)]) (λk w'=>O1 [b22] w7 w'/\k<=n/\QK ↑w' b22 3 ((oG k (-1)++oG (n - k) 0).map (Value.int .i64))) (λk=>n - k) 0 La
  ⟨O1.Z _ _,Ln _,ou hK⟩ ?_
 rintro k g w8 ⟨hL,hk,hM⟩;refine Zi rfl O (λkx=>?_) (λkx=>?_)
 rotate_left
 ·have T:k<n:=oa
  refine Qf<|Qe<|Qn<|Ql<|Qb<|Qs<|Qa<|Qa<|x (QD O O T)<|Qo<|JP hM O O (by simp;omega) λw9 h5 gn=>xe ?_;refine Qs<|QC O O<|Qa<|xe<|⟨k+1,oa,La,hL.Q h5,oa,?_⟩;have e:(oG k (-1:Int)++oG (n - k) 0).set k (-1)=oG (k+1) (-1)++oG (n - (k+1)) 0:=by
   rw[List.set_append_right _ _ od];obtain⟨m,hm⟩:∃m,n - k=m+1:=⟨n - k - 1,oa⟩;rw[hm,show n - (k+1)=m by omega,List.replicate_succ,List.replicate_succ' (n:=k)];simp
  rw[e]at gn;exact gn
 have kz:n=k:=oa
 subst kz;simp only[Nat.sub_self,List.replicate_zero,On]at hM;refine Qu<|Ql<|x (QD (i:=0) O O oa)<|Qo<|JP (i:=0) hM O O (by simp;omega) λwS h5 k0=>xe ?_;have hzS:w8.heap.size<=wS.heap.size:=h5.size;have hz8:=hL.size;have hv:O1 [b22] w7 wS:=hL.Q h5;have hN:sW w wS:=kv.O hv oa;have hA:Zr [b3,b22] ↑wS va vm ve a:=(h.up (λb hb=>.inr (by simp at hb;omega))).I hN;have go:QK ↑wS b1 53 [va,sS a.st,vm,ve]:=((((hl.I hg).I Y).I I).I ht).J hv (by simp;omega);have k4:QK ↑wS b2 53 [nS,sS 0,nS,nS]:=(((ho.I Y).I I).I ht).J hv (by simp;omega);have k5:QK ↑wS b3 53 [r3,sS 0,nS,nS]:=(hp.I ht).J hv (by simp;omega);have k6:Qh 3 ↑w2 wS r3 a.al:=Qg (Qm J kw) hv (λb hb=>by have:=QU J b hb;simp;omega);have k9:∀b∈ob r3,b<w3.heap.size:=QU J;have hw:b3<wS.heap.size:=oa
 have hy:b22<wS.heap.size:=oa
 have hO:b3≠b22:=oa
 refine Qc<|Qo<|Q5 [[sS 0]] λgq ma hP hb34 mc=>Qb ?_;have mf:Qh 3 ↑wS ma (sL gq 1 1) [0]:=mc.own (n:=1) (sz:=1) O oa oa;refine Qe<|Qc<|Qb ?_;have hedle:=V.ed_le;have mg:∀e∈a.ed,0<=e.1/\e.1<=1099511627776:=λe he=>oo (V.ed e he)
 refine QW (α:=Nat×Cs×OY×OY×OY) [(6,9),(11,11),(35,100)] (λz=>[(6,z.2.2.1),(7,sS z.1)])
  (λz w'=>Ki b3 b22 r3 wS z.2.1 z.2.2.1 z.2.2.2.1 z.2.2.2.2 w'/\z.1<=z.2.1.ord.length/\Vv a.st z.2.1/\z.2.1.mk'.length<=z.1/\z.2.1.ed.length<=z.1*131072/\Jh a (a.st.toNat - z.1) z.1 z.2.1=Jh a a.st.toNat 0 (YM a))
  (λz=>a.st.toNat - z.1) (0,YM a,sL gq 1 1,nS,nS) ov
  ⟨⟨hP.any,k5.I hP,by show QK _ _ _ (OO _ ((oG a.st.toNat (-1)).set 0 0));rw[ku];exact k0.I hP,mf,QM _ _ _ _,QM _ _ _ _,Dj.nil' _,Dj.nil' _,Dj.nil' _⟩,Ln _,QeA kt,Ln _,Ln _,O⟩ ?_
 rintro⟨i,c,vo,vk,S⟩ g2 mh ⟨hI,hi,E,mj,mo,hQ⟩;simp only[]at hI hi E mj mo hQ;have hcle:=E.le;have hR:=Qh.ints (L:=[]) hI.o oa od;have mq:=hA.st hI.st;have ms:=go.J hI.st (by simp;omega);refine Qe<|Ql<|Qa<|QG hR O<|ZX O O<|xe<|Zp rfl (λmt=>?_) (λmt=>?_)
 ·have mu:c=Jh a a.st.toNat 0 (YM a):=by rw[<-hQ,ja oa]
  refine Qu<|Ql<|QG hR O<|Q7 O<|Qo<|Qv hI.B3 O O od rfl λmv h6 mw=>xe ?_;refine Qc ?_;have my:=Qh.ints (L:=[]) hI.k oa od;have mz:=Z6.eds (L:=[]) hI.e (oo E.el) od;have m0:=Qh.ints (L:=[]) J h.al.le od;refine QY mw O O<|Q0 [r3,sS c.ord.length,vk,S] (((k4.J hI.st (by simp;omega))).J h6 (by simp;omega)) ⟨m0.one,O,my.one,mz.one,Z⟩ λm1 h7 m2=>xe ?_;have gr:O1 [b3,b22] wS mv:=hI.st.S h6 (λb hb=>.inl (by simp at hb;simp[hb]));have m3:sW w m1:=(hN.S gr (λb hb=>.inr (by simp at hb;omega))).O h7 oa;refine Qj ⟨[.agg #[r3,sS c.ord.length,vk,S]],⟨Jm m2,Z⟩,m3,?_⟩;unfold X0;rw[OP hJ];simp only[];rw[<-mu];have k1:=Qg (Qg hI.k h6 (λb hb=>by have:=(Qi hI.k b hb).1;simp;omega)) h7 (λb hb=>by have:=(Qi hI.k b hb).1;simp;omega);have k2:=Qg (Qg hI.e h6 (λb hb=>by have:=(Qi hI.e b hb).1;simp;omega)) h7 (λb hb=>by have:=(Qi hI.e b hb).1;simp;omega);have k3:=Qg (Qg k6 gr (λb hb=>by have:=k9 b hb;simp;omega)) h7 (λb hb=>by have:=(Qi J b hb).1;simp;omega);exact⟨r3,vk,S,O,λL' hr=>⟨Qh.ints k3 h.al.le (λb hb=>oo (hr b hb)),Qh.ints k1 (by show c.mk'.length<=_;omega) (λb hb=>oo (hr b hb)),Z6.eds k2 (by show c.ed.length<=_;have:=E.el;omega) (λb hb=>oo (hr b hb))⟩⟩
 have T:i<c.ord.length:=oa
 refine Qf<|Qe<|Qn<|QV (α:=OY) [(8,9),(41,57)] (λz=>[]) (λz w'=>Ki b3 b22 r3 wS (Yk a i c) vo z S w') oh ?_ ?_
 ·refine Qe<|ZJ [] (Y4 0 12 [6])<|p (QH O)<|pq (λ_ E=>Qk (ms.I E) O O)<|p Qy<|p Qy<|pii O hR O O T λa46 m4 =>
   pq (λ_ E=>Qq (m4.I E) O)<|pk<|xg<|(zO (mq.mr.I (O1.C _ _)) V.mri _).Y ?_
  rintro r14 w14 ⟨rfl,j14,rfl⟩;refine⟨O1.C _ _,?_⟩;refine p Qy<|p (λ_=>QZ O O)<|p (λ_=>QZ O O)<|p ZK<|p ZK<|pe ?_;have hS:=hI.I (O1.C [] mh);refine Ql<|xe ?_;have h8:Yh c.ord i=c.ord[i]:=VS (ou T);refine Zp O (λhT=>?_) (λhT=>?_)
  ·refine Qf<|⟨vk,Z,?_⟩;unfold Yk;rw[h8,OP hT];exact hS
  refine Qs<|Qr O hS.B3 O O<|Qa<|Qo<|Q5 [[sS i]] λb55 w15 m5 hb55 m6=>?_;have hz:=hS.I m5;refine Qo<|Q2 (news:=[sS i]) (L:=[]) hz.k O O O (m6.at od) om oa hz.st.size λgs m7 m8 gt m9=>?_;have gu:Qh 3 ↑wS m7 gs (c.mk'++[(i:Int)]):=Qh.snoc m8;refine Q7 O<|Qo<|Qv (hz.B3.J gt (QJ hz.k hw)) O O od (Qh.ints (L:=[]) gu (by simp;omega) od).one λw17 pc pd=>xe ?_;refine⟨gs,Z,?_⟩;unfold Yk;rw[h8,OQ hT];exact hz.setK hw hy hO gt gu m9 pc pd
 rintro hU g3 h0 hh;have pf:Vv a.st (Yk a i c):=Qhp E;have hV:(Yk a i c).ord=c.ord:=by unfold Yk;split <;> rfl
 have pg:(Yk a i c).ed=c.ed:=by unfold Yk;split <;> rfl
 have ph:(Yk a i c).mk'.length<=i+1:=by
  unfold Yk;split
  ·simp only[oM,oL];omega
  omega
 have gv:Qt [] ↑h0 vo (Yk a i c).ord:=Qh.ints (L:=[]) hh.o (by rw[hV];omega) od;rw[hV]at gv;have pj:sW w h0:=hN.S hh.st (λb hb=>.inr (by simp at hb;omega));have pn:Zr (b3::b22::(ob vo++ob S)) ↑h0 va vm ve a:=(h.up (λb hb=>.inr (by
  simp only[oJ,oV]at hb;rcases hb with rfl|rfl|hb|hb
  ·omega
  ·omega
  ·have:=(Qi hh.o b hb).1;omega
  have:=(Qi hh.e b hb).1;omega))).I pj
 have po:=go.J hh.st (by simp;omega);have hs:=E.ord c.ord[i] (Lk T);refine Qe<|ZJ [] [oz 0,oz 1,oz 2,oz 3,oz 4,oz 7,oA 5,oz 6]<|pq (λ_ E=>Zj (po.I E) O O)<|p Qy<|p Qy<|pii O gv O O T λa61 pp =>
  pq (λ_ E=>Qq (pp.I E) O)<|p Qy<|pk<|xg<|(jG (pn.ed.I (O1.C _ _)) V.eds mg c.ord[i] hs.1 oa).Y ?_
 rintro r19 hj ⟨pt,gx⟩;have gy:sW h0 hj:=(O1.C [] h0).D pt;refine⟨gy,?_⟩;refine p (λ_=>YH gx O)<|pe ?_;have pu:=hh.I gy;have h8:Yh c.ord i=c.ord[i]:=VS (ou T);have hol:=Z8 a.ed c.ord[i];have pw:yb a i c=(QS a.ed c.ord[i]).foldl (Zw i) (Yk a i c):=by unfold yb;rw[h8]
 generalize pz:QS a.ed c.ord[i]=os at *;have p0:∀e∈os,0<=e.2.2/\e.2.2<a.st:=λe he=>by rw[<-pz]at he;have:=V.ed e (ZC he).1;omega
 refine QW (α:=Nat×Cs×OY×OY) [(6,6),(11,11),(65,100)] (λz=>[(6,z.2.2.1),(65,sS z.1)])
  (λz w'=>Ki b3 b22 r3 wS z.2.1 z.2.2.1 hU z.2.2.2 w'/\O1 (b3::b22::(ob vo++ob S)) hj w'/\(∀b∈ob z.2.2.1,b∈ob vo\/↑hj<=b)/\(∀b∈ob z.2.2.2,b∈ob S\/↑hj<=b)/\z.1<=os.length/\Vv a.st z.2.1/\z.2.1.mk'=(Yk a i c).mk'/\z.2.1.ed.length=c.ed.length+z.1/\c.ord.length<=z.2.1.ord.length/\(os.drop z.1).foldl (Zw i) z.2.1=yb a i c)
  (λz=>os.length - z.1) (0,Yk a i c,vo,S) ov
  ⟨pu,O1.Z _ _,λ_ hb=>.inl hb,λ_ hb=>.inl hb,Ln _,pf,O,by simp[pg],by simp[hV],by rw[pw];rfl⟩ ?_
 rintro⟨k,d,gz,h9⟩ g4 p4 ⟨ha,hB,hC,hW,p5,U,hX,hY,p6,h2⟩;simp only[]at ha hB hC hW p5 U hX hY p6 h2;refine Zi rfl O (λp7=>?_) (λp7=>?_)
 ·rw[Ls oa,Ny]at h2;subst h2;refine Qu<|Qs<|Qa<|QC O O<|Qb ?_;have p8:=U.le;refine⟨(i+1,yb a i c,gz,hU,h9),oe,ov,ha,oe,U,by simp only[];rw[hX];exact ph,oe,?_⟩;simp only[];rw[<-hQ];obtain⟨m,hm⟩:∃m,a.st.toNat - i=m+1:=⟨a.st.toNat - i - 1,oa⟩;rw[hm,Jh,OQ T,show a.st.toNat - (i+1)=m by omega]
 have hZ:k<os.length:=oa
 have p9:=QX hZ;rw[p9,LO]at h2;have g0:=p0 os[k] (Lk hZ);have qf:=gx.st hB;have p8:=U.le;have hzS4:=hB.size;have hI4z:=ha.st.size;have qj:=Qh.ints (L:=[]) ha.o oa od;obtain⟨q,hq⟩:∃q:Nat,os[k].2.2=q:=⟨os[k].2.2.toNat,oa⟩;have ga:os[k].2.2.toNat=q:=oa
 have gb:q<n:=oa
 have gc:q<d.num.length:=by rw[U.nl];omega
 have g6:Yh d.num os[k].2.2=d.num[q]:=by rw[VS oa];simp only[ga]
 have ql:=QU ha.e;have q0:=QU ha.o;refine Qf<|Qe<|Qn<|Qc<|xie qf O O hZ λa67 q4=>x (QE q4 O O)<|QP [sS 0,sS 0,sS 0] λb11 w21 q5 j1 hf=>Q0 (Qp os[k]) hf ox λj2 j3 hf=>xe ?_;have g7:sW p4 j2:=q5.O j3 j1;have hD:=ha.I g7;have hl11:=hf.lt;have I:=hB.D g7;refine QV (α:=OY) [(6,6),(69,85)] (λz=>[(6,z)]) (λz w'=>Ki b3 b22 r3 wS (Yo d os[k]) z hU h9 w'/\O1 (b3::b22::(ob vo++ob S)) hj w'/\(∀b∈ob z,b∈ob vo\/↑hj<=b)/\QK ↑w' b11 179 (Qp os[k])) oh ?_ ?_
 ·refine Ql<|Qr O hf O O<|x (QD O (OR sS hq) gb)<|x (qm hD.B22 O gc)<|ZX O O<|xe<|Zp O (λge=>?_) (λge=>?_)
  ·refine Qf<|⟨gz,La,?_,I,hC,hf⟩;unfold Yo;rw[g6,OP ge];exact hD
  refine Ql<|Qr O hf O O<|Qa<|QG qj O<|x (QD O (OR sS hq) gb)<|Qo<|JP hD.B22 O O gc λw23 hE j4=>xe ?_;have za:=hD.setN hy hO hE j4;have g8:=hf.J hE (by simp;omega);refine Qs<|Qa<|Qr O g8 O O<|Qo<|Yf (us:=[[sS os[k].2.2]]) O O og od ⟨rfl,rfl,Z⟩ λb84 w24 hF hb84 z2=>?_;have gg:=za.I hF;refine Qo<|Q2 (news:=[sS os[k].2.2]) (L:=[]) gg.o O O O (z2.at od) om (by show d.ord.length+1<=_;omega) gg.st.size λg9 z3 z4 gh ka=>Qb ?_;have z5:Qh 3 ↑wS z3 g9 (d.ord++[os[k].2.2]):=Qh.snoc z4;have hz23:=hE.size;have hz24:=hF.size;refine⟨g9,La,?_,?_,?_,(g8.I hF).J gh (λhb=>oo (q0 _ hb))⟩
  ·unfold Yo;rw[g6,OQ ge,ga];exact gg.setO hw hy gh z5 ka
  ·refine((I.S hE (λb hb=>.inl ?_)).D hF).S gh (λb hb=>?_)
   ·simp at hb;simp[hb]
   rcases hC b hb with G|G
   ·exact .inl (by simp[G])
   exact .inr G
  intro b hb;rcases ka b hb with G|G
  ·exact hC b G
  exact .inr oa
 rintro vo3 g5 kb ⟨h3,kc,hv8,ke⟩;have gi:Zw i d os[k]=⟨(Yo d os[k]).ord,(Yo d os[k]).num,(Yo d os[k]).mk',(Yo d os[k]).ed++[((i:Int),os[k].2.1,Yh (Yo d os[k]).num os[k].2.2)]⟩:=qG oa;have hnl:q<(Yo d os[k]).num.length:=by rw[Qkd];exact gc
 have hg2:Yh (Yo d os[k]).num os[k].2.2=(Yo d os[k]).num[q]:=by rw[VS oa];simp only[ga]
 have kf:=QJ h3.e hw;have hne22:=QJ h3.e hy;have kg:b11∉ob h9:=λhb=>oo (ql _ hb)
 have kh:(Yo d os[k]).ed=d.ed:=by unfold Yo;split <;> rfl
 have hc5:Vv a.st (Zw i d os[k]):=QaG U g0.1 g0.2 (by rw[hY];omega);refine ZJ (ob h9) (Y4 0 15 [11,12,14])<|p (QH O)<|pq (λ_ E=>Qk (h3.B3.J E kf) O O)<|p Qy<|p (QH O)<|pq (λ_ E=>Qk (ke.J E kg) O O) <|
  p Qy<|p (QH O)<|pq (λ_ E=>Qk (ke.J E kg) O O)<|p (λ_=>QD O (OR sS hq) gb) <|
  pq (λ_ E=>qm (h3.B22.J E hne22) O hnl)<|p (λ_=>QB ⟨O,O,O,Z⟩)<|pk<|Q5 [Qp ((i:Int),os[k].2.1,(Yo d os[k]).num[q])] λb97 w27 hs27 hb97 hB97=>?_
 have h4:sW kb w27:=(O1.C [] kb).D hs27;refine⟨h4.any,?_⟩;have hG:=h3.I h4;refine pk<|Q2 (news:=Qp ((i:Int),os[k].2.1,(Yo d os[k]).num[q])) (L:=[]) hG.e O O O (hB97.at od) (λu hu=>by simp only[Qp,oJ,oH,or_false]at hu;rcases hu with rfl|rfl|rfl <;> rfl) (by rw[kh];have:=U.el;omega) hG.st.size λki w28 ho28 hH kj=>?_
 refine⟨h4.any.Q hH,?_⟩;have kk:Z6 179 ↑wS w28 ki ((Yo d os[k]).ed++[((i:Int),os[k].2.1,(Yo d os[k]).num[q])]):=Z6.snoc ho28;refine p (QH O)<|pkk<|Qv (hG.B3.J hH kf) O O od (Z6.eds (L:=[]) kk (by simp[kh];have:=U.el;omega) od).one λw29 kn hB29=>pe ?_;have gj:=hG.setE hw hy hO hH kk kj kn hB29;rw[<-hg2]at gj;rw[<-gi]at gj;refine Qs<|QC O O<|Qa<|xe ?_;have hz26:=kc.size;have hz27:=h4.size;refine⟨(k+1,Zw i d os[k],vo3,ki),oe,ov,gj,?_,hv8,?_,oe,hc5,?_,?_,?_,h2⟩
 ·refine(((kc.D h4)).S hH (λb hb=>?_)).S kn (λb hb=>.inl (by simp at hb;simp[hb]));rcases hW b hb with G|G
  ·exact .inl (by simp[G])
  exact .inr G
 ·intro b hb;rcases kj b hb with G|G
  ·exact hW b G
  exact .inr oa
 ·simp only[];rw[<-hX,gi];simp only[];unfold Yo;split <;> rfl
 ·simp only[];rw[QaI,hY];omega
 simp only[];rw[gi];simp only[];unfold Yo;split
 ·simp only[oM];omega
 omega
end Go.Lg
namespace Go.Proofs
open Go.Proofs.Tryz
open Go.Shelf
def Tryz.lays169_ren:Go.Shelf.Ren:=⟨λ|169=>150|n=>n,λ|70=>259|9=>9|0=>0|72=>261|37=>86|127=>332|3=>3|5=>5|n=>n,λ|n=>n⟩
theorem Tryz.lays169:Go.Proofs.Lays.n169 sV Tryz.lays169_ren:=lyS
theorem Tryz.Builder_Extra_169:Builder.Extra sV Tryz.lays169_ren:=lyS
open Go.RowKit in
open Go.RowKit in
open Go.RowKit in
theorem Tryz.Builder_String_any (B b:Nat)(l:List UInt8)(w:OX)(h:Lib.IsBuilder 261 5 B b (Lib.byteCells l) w)(E:B<=↑w):
  Calls sV 150 #[sP b] w λe w'=>e=.returned (.string ⟨l.toArray⟩)/\Below B w w':=Any.Builder_String_any Tryz.lays169 Tryz.Builder_Extra_169 B b l w h E
def Tryz.laysM171_ren:Go.Shelf.Ren:=⟨λ|171=>149|243=>229|246=>267|283=>295|284=>296|285=>297|286=>298|129=>221|317=>314|318=>315|319=>316|320=>317|337=>323|338=>324|n=>n,λ|3=>3|9=>9|2=>2|4=>4|171=>396|0=>0|53=>319|37=>86|5=>5|173=>398|212=>410|51=>317|20=>20|213=>411|46=>246|232=>417|233=>418|n=>n,λ|17=>0|18=>1|19=>2|n=>n⟩
theorem Tryz.laysM171:Go.Proofs.LaysM.n171 sV Tryz.laysM171_ren:=lyS
open Go.RowKit Go.Sort Go.Lib in
theorem Tryz.strconv_Itoa (n:Int)(E:-9223372036854775808<=n)(G:n<=9223372036854775807)(w:OX)(I:Lib.TabIs sV w "internal/strconv.uint64pow10" .u64 Lib.pow10Tab):
  Calls sV 149 #[sS n] w λe w'=>e=.returned (.string ⟨(Lib.itoa n).toArray⟩)/\∃k os,w'=grow (w.drewN k) os:=Any.strconv_Itoa Tryz.laysM171 n E G w I
def Tryz.lays171_ren:Go.Shelf.Ren:=⟨λ|171=>149|243=>229|246=>267|283=>295|284=>296|285=>297|286=>298|129=>221|317=>314|318=>315|319=>316|320=>317|337=>323|338=>324|n=>n,λ|3=>3|9=>9|2=>2|4=>4|171=>396|0=>0|53=>319|37=>86|5=>5|173=>398|212=>410|51=>317|20=>20|213=>411|46=>246|232=>417|233=>418|n=>n,λ|17=>0|18=>1|19=>2|n=>n⟩
theorem Tryz.lays171:Go.Proofs.Lays.n171 sV Tryz.lays171_ren:=lyS
open Go.RowKit Go.Sort Go.Lib in
theorem Tryz.strconv_Itoa_small (i:Nat)(hi:i<100)(w:OX):
  Calls sV 149 #[sS i] w λe w'=>e=.returned (.string ⟨(Lib.decDigits i).toArray⟩)/\w'=w:=Any.strconv_Itoa_small Tryz.lays171 i hi w
end Go.Proofs
namespace Go.Lg
open Go.RowKit
section
variable {K:Fr->OX->Prop}{f:Fr}
theorem QdR {te:Nat}(G:P.underlying t=some (.pointer te)){x:OZ}{a:Option Addr}(hx:ev f x=.pointer a)(I:ev f y=.pointer none):
  (execOp (ev f) ⟨d,.binOp .eql t x y E,ty,pS,af,gd⟩).run P w=.ok (.value (.bool a.isNone)) w:=by
 have J:(eqGuard .eql t x y (.pointer a) (.pointer none)).run P w=.ok () w:=by simp[eqGuard]
 have key:∀m,(Op.equalIn (m+1) t (.pointer a) (.pointer none)).run P w=.ok a.isNone w:=by
  intro m;unfold Op.equalIn;cases a <;> simp[run_underlying G]
 have S:(Op.equal t (.pointer a) (.pointer none)).run P w=.ok a.isNone w:=key 9999;simp only[execOp,hx,I,Sem.run_bind,J,Result.andThen_ok,binOp,S,Sem.run_pure]
theorem Qe2 {te:Nat}{j:TypeInfo}(G:P.underlying t=some (.pointer te))(I:P.info? te=some j){x:OZ}{a:Addr}(hx:ev f x=.pointer (some a))(J:ev f y=.pointer (some a)):
  (execOp (ev f) ⟨d,.binOp .neq t x y E,ty,pS,af,gd⟩).run P w=.ok (.value (.bool false)) w:=by
 have S:(eqGuard .neq t x y (.pointer (some a)) (.pointer (some a))).run P w=.ok () w:=by simp[eqGuard]
 simp only[execOp,hx,J,Sem.run_bind,S,Result.andThen_ok,Lib.run_neq_ptr_same w a G I,Sem.run_pure]
theorem qn {x:OZ}{v:OY}(hx:ev f x=v)(h:(convert t E v).run P w=.ok v' w):
  (execOp (ev f) ⟨d,.convert t E x,ty,pS,af,gd⟩).run P w=.ok (.value v') w:=by
 simp[execOp,hx,h]
theorem QgN {e:Array OY->Sem OY}{x:OZ}{v:OY}{ts:Array Nat}(G:P.funcs[g]?=some fn)(I:(fn.name == "runtime.NumGoroutine")=false)
  (hb:fn.body.isNone=true) (J:Extern.findNext fn=none) (S:Extern.find fn=some e) (h:(e #[ev f x]).run P w=.ok v w):
  (execOp (ev f) ⟨d,.call ⟨.value (.func g),#[x],ts⟩,ty,pS,af,gd⟩).run P w=.ok (.value v) w:=by
 have E:=run_callFunc_extern G I hb J S #[ev f x] w;rw[h]at E;have T:ev f (.func g)=.func (.func g) #[] #[]:=rfl;simp[execOp,resolve,T,Deferred.ofValue,invoke,E,Result.andThen]
theorem Qmv {e u:Nat}[h:Sl P t e 1 1 (.int .u8 0)](E:P.underlying u=some .string){s:OZ}{v:OY}{cs:LV}(G:w.ownsRow base e 1 v n cs)(I:ev f s=v)
  {b:ByteArray} (J:ev f y=.string b) (hb:n+b.size<=1099511627776) (S:base<=↑w)
  (hK:∀v' w',w'.ownsRow base e 1 v' (n+b.size) (cs++Lib.strCells b)->O1 (ob v) w w'->K (QO f d v') w'):
  XO P ⟨d,.call ⟨.builtin .append,#[s,y],#[t,u]⟩,ty,pS,af,gd⟩ f w K:=by
 obtain⟨i,hi,T,U,V⟩:=Sl.info h;obtain⟨v',w',Y,h2,h3,_⟩:=Lib.run_append_own_string (P:=P) w base t u ty e i h.u E hi T U V v n cs G b (by simp only[maxLen];omega) oa S;have ha:(execOp (ev f) ⟨d,.call ⟨.builtin .append,#[s,y],#[t,u]⟩,ty,pS,af,gd⟩).run P w=.ok (.value v') w':=by
  simp[execOp,resolve,invoke,builtin,I,J,Y]
 exact xv ha (hK v' w' h2 (by rw[jI];exact O1.of_grown h3))
theorem QgL {x:OZ}{u:Nat}(E:P.underlying u=some .string){b:ByteArray}(hx:ev f x=.string b):
  (execOp (ev f) ⟨d,.call ⟨.builtin .len,#[x],#[u]⟩,ty,pS,af,gd⟩).run P w=.ok (.value (sS b.size)) w:=by
 simp[execOp,resolve,invoke,builtin,Builtin.len_,hx,run_underlying E,goInt]
end
def Bl (p:OY)(b:Nat)(E:List UInt8)(w:OX):Prop:=∃v,QK ↑w b 261 [p,v]/\w.ownsRow (b+1) 5 1 v E.length (Lib.byteCells E)
def me (b:Nat):OY:=sP b
theorem QkI (h:(P.info? t).map (·.size)=some n):∃j,P.info? t=some j/\j.size=n:=by
 simpa using h
theorem jc {b:Nat}{cs:LV}(h:QK ↑w b T cs):w.shape? b=some (T,cs.length):=by
 unfold QK at h;simp[World.shape?,h]
theorem Kc {G:OX}{b:Nat}{S:List UInt8}{p:OY}(T:sW G w)(hb:↑G<=b)(V:p=.pointer none\/p=me b)(h:Bl p b S w):
  QT sV 228 [me b] w λr w'=>r=.tuple #[]/\sW G w'/\Bl (me b) b S w':=by
 obtain⟨v,E,I⟩:=h;obtain⟨j,J,Y⟩:=QkI (P:=sV) (t:=261) (n:=2) oc;refine Zn func228 ?_;refine Qc ?_;rcases V with rfl|rfl
 ·refine Qa<|Z0 O<|Qr O E O O<|x (QdR underlying259 O O)<|xe<|zQ O ?_;refine Qs<|Qa<|Qa<|x (qn (v':=me b) O (Lib.run_to_unsafe w ⟨b,0,none⟩ underlying259 underlying372 J (by rw[Y];decide) (jc E) od)) <|
   x (QgN (v:=me b) func266 oc oc oc (e:=Extern.AbiNoEscape.same) oc O) <|
   x (qn (v':=me b) O (Lib.run_from_unsafe w ⟨b,0,none⟩ underlying372 underlying259 J (jc E) oc))<|x (Vf O) <|
   Q7 rfl<|Qo<|Qv E O O od rfl λw2 U ha=>xe ?_
  exact⟨[],Z,O,T.O U hb,v,ha,Qg I U (λc hc=>by have:=(Qi I c hc).1;simp;omega)⟩
 refine Qa<|Z0 O<|Qr O E O O<|x (QdR underlying259 O O)<|xe<|Zz O<|Ql<|Z0 O<|Qr O E O O<|Qa<|x (Qe2 underlying259 J O O)<|xe<|Zz O<|Qf ?_;exact⟨[],Z,O,T,v,E,I⟩
theorem J1 {J:OX}{b:Nat}{E:List UInt8}{p:OY}(h0:sW J w)(hb:↑J<=b)(hp:p=.pointer none\/p=me b)(h:Bl p b E w)(c:UInt8)(hl:E.length+1<=1000000000):
  QT sV 187 [me b,.int .u8 c.toNat] w λ_ w'=>sW J w'/\Bl (me b) b (E++[c]) w':=by
 refine Zn func187 ?_;refine Qc<|Qb<|Ql<|Qw<|(Kc h0 hb hp h).Y ?_;rintro r1 w1 ⟨rfl,he,v,S,T⟩;refine xe ?_;have hj:=S.lt;refine Ql<|Qa<|Z0 O<|Qr O S O O<|Qa<|Qo<|Q5 [[.int .u8 c.toNat]] λhk w2 I hm hf=>?_;have hn:=I.size;refine Qo<|Q2 (news:=[.int .u8 c.toNat]) (L:=[]) (Qm T I) O O O (hf.at od) om oa oa λV w3 hg Y hq=>?_;have U:w3.ownsRow (b+1) 5 1 V (E++[c]).length (Lib.byteCells (E++[c])):=by simpa[Lib.byteCells]using hg
 refine Z0 rfl<|Q7 O<|Qo<|Qv ((S.I I).J Y (λG=>oo (Qi T b G).1)) O O od (QN (L:=[]) U (by simp;omega) od).one λw4 ha hh=>xe ?_;refine Qc<|Qb<|Qj ⟨[.nilIface],La,(((he.D I).S Y (λc G=>.inr ?_)).O ha hb),V,hh,Qg U ha (λc G=>by have:=(Qi U c G).1;simp;omega)⟩;have:=(Qi T c G).1;omega
theorem X7 {I:OX}{b:Nat}{E:List UInt8}{p:OY}(h0:sW I w)(hb:↑I<=b)(hp:p=.pointer none\/p=me b)(h:Bl p b E w)(s:ByteArray)(hl:E.length+s.size<=1000000000):
  QT sV 148 [me b,.string s] w λ_ w'=>sW I w'/\Bl (me b) b (E++s.data.toList) w':=by
 refine Zn func148 ?_;refine Qc<|x Qd<|Qb<|Ql<|Qw<|(Kc h0 hb hp h).Y ?_;rintro r1 w1 ⟨rfl,he,v,J,S⟩;refine xe ?_;have hh:=J.lt;refine Ql<|Qa<|Z0 O<|Qr O J O O<|Qa<|Qo<|Qmv underlying9 S O O oa oa λU w3 hf V=>?_;have Y:s.size=s.data.toList.length:=rfl;have T:w3.ownsRow (b+1) 5 1 U (E++s.data.toList).length (Lib.byteCells (E++s.data.toList)):=by
  rw[Lc,<-Y,show Lib.byteCells (E++s.data.toList)=Lib.byteCells E++Lib.strCells s by simp[Lib.byteCells,Lib.strCells_eq]];exact hf
 refine Z0 rfl<|Q7 O<|Qo<|Qv (J.J V (λG=>oo (Qi S b G).1)) O O od (QN (L:=[]) T (by rw[Lc,<-Y];omega) od).one λw4 ha hg=>xe ?_;refine Ql<|x (QgL underlying9 O)<|x Qd<|Qb<|Qj ⟨[sS s.size,.nilIface],ov,((he.S V (λc G=>.inr ?_)).O ha hb),U,hg,Qg T ha (λc G=>by have:=(Qi T c G).1;simp;omega)⟩;have:=(Qi S c G).1;omega
theorem KO {J:OX}{b:Nat}{I:List UInt8}{p:OY}(E:sW J w)(hb:↑J<=b)(V:p=.pointer none\/p=me b)(h:Bl p b I w):
  QT sV 150 [me b] w λr w'=>r=.string ⟨I.toArray⟩/\sW J w':=by
 obtain⟨v,S,T⟩:=h;have ha:=S.lt;have U:Lib.BuilderAt 261 5 b b p (Lib.byteCells I) w:=⟨Lp _,v,S,by rw[Lib.byteCells_length];exact Q8 T oa,λe=>by
  have:b∈ob v:=by rw[jI,e];simp
  have:=(Qi T b this).1;omega⟩
 unfold QT;refine Calls.mono (Tryz.Builder_String_any b b I w (by rcases V with rfl|rfl;exact .inl U;exact .inr U) oa) ?_
 rintro e w' ⟨rfl,G⟩;exact⟨O,⟨G.os.D E.os,G.tape.D E.tape,G.output.D E.output,Lx E.size G.size,λk Y hL=>(G.block k oa).D (E.block k Y hL)⟩⟩
def Tb (w:OX):Prop:=Lib.TabIs sV w "internal/strconv.uint64pow10" .u64 Lib.pow10Tab
theorem Qf9 {name:String}{v:Array OY}(h:w.var? P name=some v)(I:sW w w'):w'.var? P name=some v:=by
 unfold World.var? at *;rw[MH]at *;obtain⟨g,J,E⟩:=h;refine⟨g,J,?_⟩;cases G:w.heap[g]? with
 | none=>rw[G]at E;cases E
 | some o =>
  have S:g<w.heap.size:=(LJ.1 G).1;rw[I.block g S od];exact E
theorem Tb.I (h:Tb w)(E:sW w w'):Tb w':=Qf9 h E
def Kb (w:OX)(m:Int):Prop:=m<=100\/(m<=1000000/\Tb w)
theorem Kb.I {w w':OX}{m:Int}(h:Kb w m)(E:sW w w'):Kb w' m:=h.imp id λh=>⟨h.1,h.2.I E⟩
theorem Kb.le {m:Int}(h:Kb w m):m<=1000000:=by rcases h with h|h <;> omega
theorem Qcm {k:Nat}{os:xw}:sW w (Sort.grow (w.drewN k) os):=by
 refine⟨O,O,O,?_,λi hi _=>?_⟩
 ·show ↑w<=(w.heap++os).size;simp
 show(w.heap++os)[i]?=w.heap[i]?;rw[Array.getElem?_append_left hi]
theorem jY {m:Int}(i:Nat)(hi:(i:Int)<m)(w:OX)(E:Kb w m):QT sV 149 [sS i] w λr w'=>r=.string ⟨(Lib.decDigits i).toArray⟩/\sW w w':=by
 unfold QT;rcases E with E|E
 ·refine Calls.mono (Tryz.strconv_Itoa_small i oa w) ?_;rintro e w' ⟨rfl,rfl⟩;exact⟨O,O1.Z _ _⟩
 refine Calls.mono (Tryz.strconv_Itoa i oa oa w E.2) ?_;rintro e w' ⟨rfl,k,os,rfl⟩;refine⟨?_,Qcm⟩;unfold Lib.itoa;rw[OP oa,MP]
def YJ (l:LI):List UInt8:=l.flatMap λn=>Lib.decDigits n.toNat++[32]
theorem JT:∀(k u:Nat),u<10 ^ k->(Lib.decDigits u).length<=max 1 k
 | 0,u,h=>by
  unfold Lib.decDigits;rw[dif_pos (by simp at h;omega)];simp
 | k+1,u,h=>by
  unfold Lib.decDigits;split
  ·simp
  rename_i E;have ih:=JT k (u / 10) (by rw[OL]at h;omega);rw[Lc];simp only[oL];have G:k≠0:=λe=>by subst e;simp at h;omega
  omega
theorem Bl.I {w w':OX}{p:OY}{b:Nat}{E:List UInt8}(h:Bl p b E w)(G:sW w w'):Bl p b E w':=by
 obtain⟨v,I,J⟩:=h;exact⟨v,I.I G,Qm J G⟩
theorem jS {L:LN}{v:OY}{l:LI}{m:Int}(h:Qt L ↑w v l)(U:Kb w m)(hb:∀n∈l,0<=n/\n<m)(hl:l.length<=1000000):
  QT sV 120 [v] w λr w'=>r=.string ⟨(YJ l).toArray⟩/\sW w w':=by
 refine Zn func120 ?_;refine Qc<|Qb<|Qc<|QP [.pointer none,nS] λI w1 ha J hc=>xe ?_;refine Qe<|Ql<|QG h O<|Qa<|xe<|QW (α:=Nat×OY) [(5,5),(8,16)] (λz=>[(8,sS z.1)]) (λz w'=>z.1<=l.length/\sW w w'/\(z.2=.pointer none\/z.2=me I)/\Bl z.2 I (YJ (l.take z.1)) w'/\(YJ (l.take z.1)).length<=8*z.1) (λz=>l.length - z.1) (0,.pointer none) La
  ⟨Ln _,ha,.inl O,⟨_,hc,QM _ _ _ _⟩,Lp _⟩ ?_
 rintro⟨k,p⟩ g w2 ⟨hk,E,S,G,he⟩;simp only[]at hk S G he;refine Zi rfl O (λh9=>?_) (λh9=>?_)
 ·refine Qu<|Qc ?_;rw[Lq oa]at G;refine Kr<|(KO E J S G).Y ?_;rintro r3 w3 ⟨rfl,hf⟩;refine Qb<|Qj ⟨[.string ⟨(YJ l).toArray⟩],La,O,hf⟩
 have T:k<l.length:=oa
 have hr:=hb l[k] (Lk T);obtain⟨q,hq⟩:∃q:Nat,l[k]=q:=⟨l[k].toNat,oa⟩;have hg:l[k].toNat=q:=oa
 have hs:=JT 7 q (oo U.le);have V:YJ (l.take (k+1))=YJ (l.take k)++Lib.decDigits q++[32]:=by
  rw[Lh T];unfold YJ;rw[LC,M0,hg,LE]
 refine Qf<|Qe<|Qn<|Qc<|xii (h.I E) O O T λht hh=>x (Qq hh O)<|Qb<|Ql<|Qo<|xf ?_;refine(show QT _ _ [sS l[k]] _ _ by rw[hq];exact(jY q oa w2 (U.I E))).Y ?_;rintro r4 w4 ⟨rfl,Y⟩;refine Kr<|(X7 (E.D Y) J S (G.I Y) ⟨(Lib.decDigits q).toArray⟩ (by show _+(Lib.decDigits q).toArray.size<=_;simp;omega)).Y ?_;rintro r5 w5 ⟨hj,hm⟩;refine xe<|Qs<|Kr<|(J1 hj J (.inr O) hm 32 (by simp;omega)).Y ?_;rintro r6 w6 ⟨hn,ho⟩;refine xe<|Qs<|QC O O<|Qa<|xe<|⟨(k+1,me I),oe,La,oe,hn,.inr O,?_,?_⟩
 ·simp only[];rw[V];simpa using ho
 simp only[];rw[V];simp;omega
theorem Vn (p:AV):(ZG p).length=4:=rfl
theorem J2 (p:TV):(Yz p).length=1:=rfl
theorem XG.le {L:LN}{H:xw}{v:OY}{ps:List AV}(h:XG L H v ps):ps.length<=1099511627776:=h.arr.le
theorem QiJ {l:List QF}{k:Nat}(h:k<l.length):ckL (l.drop k)=if XK l[k]≠0 then XK l[k]else ckL (l.drop (k+1)):=by
 rw[L5 h,ckL]
theorem Qe7 {L:LN}{v:OY}{ps:List AV}(h:XG L ↑w v ps):
  QT sV 117 [v] w λr w'=>r=sS (K5 (ps.map (·.a)))/\sW w w':=by
 have hl:=XG.le h;refine Zn func117 ?_;refine Qc<|Qb<|Qe<|Ql<|QG h.arr O<|x (Z2 O O)<|xe<|Za rfl (λU=>?_) (λU=>?_)
 ·refine Qc<|Qb<|Qj ⟨[sS 3],La,?_,O1.Z _ _⟩;unfold K5;rw[OQ (by simp;omega)];rfl
 refine Qf ?_;have V:K5 (ps.map (·.a))=ckL (ps.map (·.a)):=by unfold K5;rw[OP (by simp;omega)]
 rw[V];refine Qe<|Ql<|QG h.arr O<|Qa<|xe<|QW (α:=Nat) [(2,2),(4,5),(11,20)] (λz=>[(11,sS z)]) (λz w'=>z<=ps.length/\sW w w'/\ckL (ps.map (·.a))=ckL ((ps.map (·.a)).drop z)) (λz=>ps.length - z) 0 La
  ⟨Ln _,O1.Z _ _,O⟩ ?_
 rintro k g Y ⟨hk,E,hck⟩;refine Zi rfl O (λha=>?_) (λha=>?_)
 ·refine Qu<|Qc<|Qb<|Qj ⟨[sS 0],La,?_,E⟩;rw[hck,Ls (by simp;omega)];rfl
 have G:k<ps.length:=oa
 have hc:k<(ps.map (·.a)).length:=by simpa using G
 rw[QiJ hc,Na]at hck;refine Qf<|Qe<|Qn<|Qc<|O4 Vn (h.I E).arr O O G λhm he=>x (QE he O O)<|QP [nS,sS 0,nS,nS] λb4 w2 hf hg I=>?_;have hA:=h.each ps[k] (Lk G);refine Q0 (ZG ps[k]) I ⟨hA.al.one,O,hA.mr.one,hA.ed.one,Z⟩ λw3 hh I=>xe ?_;have S:sW Y w3:=hf.O hh hg;refine Qc<|QY I O O<|Qw<|(YV ((hA.I E).I S)).Y ?_;rintro r4 w4 ⟨rfl,hj⟩;refine Qb ?_;have T:=(E.D S).D hj;refine Ql<|ZI O O<|xe<|Za rfl (λJ=>?_) (λJ=>?_)
 ·refine Ql<|Qb<|Qj ⟨[sS (XK ps[k].a)],La,?_,T⟩;rw[hck,OQ J];rfl
 refine Qf<|Qs<|QC O O<|Qa<|xe<|⟨k+1,oa,La,G,T,?_⟩;rw[hck,OP J]
theorem Qih {l:List QF}{k:Nat}(h:k<l.length):evs (l.take (k+1))=mrg (· || ·) (evs (l.take k)) l[k].al:=by
 unfold evs;rw[Lh h,Mg];rfl
theorem Qae (l:List QF)(h:∀a∈l,a.al.length<=32):(evs l).length<=32*l.length:=by
 have key:∀(l:List QF) (acc:LI),(∀a∈l,a.al.length<=32)->(l.foldl (λacc a=>mrg (· || ·) acc a.al) acc).length<=acc.length+32*l.length:=by
  intro l;induction l with
  | nil=>intro acc _;simp
  | cons a l ih =>
   intro acc h;have G:=ih (mrg (· || ·) acc a.al) (λa E=>h a (Lm _ E));have I:=qp (· || ·) acc a.al;have J:=h a Lo;simp only[List.foldl_cons,oQ];omega
 have:=key l [] h;unfold evs;simpa using this
theorem Qfs {L:LN}{v:OY}{ps:List AV}(h:XG L ↑w v ps)(hn:ps.length<=12)(T:∀p∈ps,p.a.al.length<=32):
  QT sV 186 [v] w λr w'=>sW w w'/\Qh 3 ↑w w' r (evs (ps.map (·.a))):=by
 refine Zn func186 ?_;refine Qc<|Qb<|Qc<|Qb<|Qe<|Ql<|QG h.arr O<|Qa<|xe<|QW (α:=Nat×OY) [(3,3),(5,5),(8,16)] (λz=>[(3,z.2),(8,sS z.1)]) (λz w'=>z.1<=ps.length/\sW w w'/\Qh 3 ↑w w' z.2 (evs ((ps.map (·.a)).take z.1))) (λz=>ps.length - z.1) (0,nS) ov
  ⟨Ln _,O1.Z _ _,QM _ _ _ _⟩ ?_
 rintro⟨k,vo⟩ g V ⟨Y,I,G⟩;simp only[]at Y G;have hl:=Qae ((ps.map (·.a)).take k) (λa ha=>by obtain⟨p,hp,rfl⟩:=Lz.1 (L3 ha);exact T p hp);have hm:((ps.map (·.a)).take k).length<=12:=by simp;omega
 refine Zi rfl O (λh9=>?_) (λh9=>?_)
 ·refine Qu<|Ql<|Qb<|Qj ⟨[vo],La,I,?_⟩;rw[Lq (by simp;omega)]at G;exact G
 have E:k<ps.length:=oa
 refine Qf<|Qe<|Qn<|Qc<|O4 Vn (h.I I).arr O O E λhq hc=>x (QE hc O O)<|QP [nS,sS 0,nS,nS] λb5 w2 he hf J=>?_;have hA:=h.each ps[k] (Lk E);have hr:=T ps[k] (Lk E);refine Q0 (ZG ps[k]) J ⟨hA.al.one,O,hA.mr.one,hA.ed.one,Z⟩ λw3 hg J=>xe ?_;have U:sW V w3:=he.O hg hf;have S:=I.D U;refine Qs<|Qa<|Qr O J O O<|Qw<|(zS (Qh.ints (L:=[]) (Qm G U) oa od) (hA.al.I S) oa).Y ?_;rintro r4 w4 ⟨hh,hj⟩;refine Qb<|Qs<|QC O O<|Qa<|xe<|⟨(k+1,r4),oe,ov,E,S.D hh,?_⟩;simp only[];rw[Qih (ou E),Na];exact Q8 hj S.size
abbrev Qd7 (b:Nat):LV:=[.map (some b)]
structure KL (L:LN)(H:xw)(vl ve vs:OY)(ps:List AV)(ms:LN):Prop where
 al:XG L H vl ps
 ev:Qt L H ve (evs (ps.map (·.a)))
 ml:ms.length=ps.length
 sl:Zs L H vs ms.length 1 (ms.flatMap Qd7)
 mp:∀i (h:i<ms.length) (h':i<ps.length),ZP Yg H ms[i] (Kl [] ps[i].a.ed)/\ms[i]∉L
theorem KL.I {L:LN}{w w':OX}{vl ve vs:OY}{ps:List AV}{G:LN}(h:KL L ↑w vl ve vs ps G)(E:sW w w'):KL L ↑w' vl ve vs ps G :=
 ⟨h.al.I E,h.ev.I E,h.ml,h.sl.I E,λi I J=>⟨(h.mp i I J).1.I E,(h.mp i I J).2⟩⟩
theorem KL.st {L:LN}{w w':OX}{vl ve vs:OY}{ps:List AV}{J:LN}(h:KL L ↑w vl ve vs ps J)(E:O1 L w w'):KL L ↑w' vl ve vs ps J :=
 ⟨h.al.st E,h.ev.st E,h.ml,h.sl.st E,λi G I=>⟨(h.mp i G I).1.J E (h.mp i G I).2,(h.mp i G I).2⟩⟩
theorem KL.up {L L':LN}{H:xw}{vl ve vs:OY}{ps:List AV}{J:LN}(h:KL L H vl ve vs ps J)(E:∀b∈L',b∈L\/H.size<=b):KL L' H vl ve vs ps J :=
 ⟨h.al.up E,h.ev.up E,h.ml,h.sl.up E,λi G I=>⟨(h.mp i G I).1,λT=>by rcases E _ T with S|S;exact(h.mp i G I).2 S;have:=(h.mp i G I).1.lt;omega⟩⟩
theorem zz {m:List ((Int×Int)×OY)}{es:List Ed}{k:Nat}(h:k<es.length):Kl m (es.take (k+1))=O7 (Kl m (es.take k)) (es[k].1,es[k].2.1) (sS es[k].2.2):=by
 unfold Kl;rw[Lh h,Mg];rfl
theorem Qj5 {L:LN}{ps:List AV}(h:XG L ↑w vl ps)(hn:ps.length<=12)(hE:∀p∈ps,p.a.al.length<=32)(hL:∀b∈L,b<↑w):
  QT sV 118 [vl] w λr w'=>sW w w'/\∃ve vs E,r=.agg #[vl,ve,vs]/\KL L ↑w' vl ve vs ps E/\Qh 3 ↑w w' ve (evs (ps.map (·.a))):=by
 refine Zn func118 ?_;refine Qc<|QP [nS,nS,nS] λb2 w1 hu hQ hv=>xe ?_;refine Ql<|Qa<|Qw<|(Qfs (h.I hu) hn hE).Y ?_;rintro ve w2 ⟨Y,hc⟩;have hR:=Qae (ps.map (·.a)) (λa ha=>by obtain⟨p,hp,rfl⟩:=Lz.1 ha;exact hE p hp);have ka:(evs (ps.map (·.a))).length<=1000:=by simp at hR;omega
 have hw:=Qh.ints (L:=[]) hc oa od;refine x (QB ⟨h.arr.cells,hw.cells,Z⟩)<|QP [nS,nS,nS] λb3 w3 hS hT he =>
  Q0 [vl,ve,nS] he ⟨h.arr.one,hw.one,O,Z⟩ λG hU he=>xe ?_
 have hV:=hu.size;have kb:=Y.size;have hf:sW w2 G:=hS.O hU hT;have kc:=hv.lt;have ke:=he.lt;have hW:sW w G:=(hu.D Y).D hf;have hX:=Qm hc hf;refine Qe<|Ql<|QG h.arr O<|Qa<|xe ?_;have hY:=QU hc;refine QW (α:=Nat×LN×OY) [(5,6),(8,8),(15,42)] (λz=>[(15,sS z.1)])
  (λz w'=>z.1<=ps.length/\z.2.1.length=z.1/\O1 [b3] G w'/\QK ↑w' b3 225 [vl,ve,z.2.2]/\w'.ownsRow ↑G 249 1 z.2.2 z.2.1.length (z.2.1.flatMap Qd7) /\
   (∀i (h:i<z.2.1.length) (h':i<ps.length),ZP Yg ↑w' z.2.1[i] (Kl [] ps[i].a.ed)/\↑G<=z.2.1[i]/\z.2.1[i]∉ob z.2.2)) (λz=>ps.length - z.1) (0,[],nS) La
  ⟨Ln _,O,O1.Z _ _,he,QM _ _ _ _,λi h=>by simp at h⟩ ?_
 rintro⟨k,E,vs⟩ g w5 ⟨hk,hg,I,hy,J,hh⟩;simp only[]at hk hg I hy J hh;have hl:sW w w5:=hW.O I oa;have kf:=I.size;have ho:=Qi J;refine Zi rfl O (λhZ=>?_) (λhZ=>?_)
 ·have ga:k=ps.length:=oa
  subst ga;refine Qu<|Qc ?_;have gb:=QN (L:=[]) J oa od;refine QY hy O O<|Q0 [vl,ve,vs] (((hv.I Y).I hf).J I (by simp;omega)) ⟨h.arr.one,hw.one,gb.one,Z⟩ λw6 hr gc=>xe ?_;have hF:=hl.O hr hQ;have hG:Qh 3 ↑w1 w6 ve _:=Qg (Qg hX I (λb hb=>by have:=hY b hb;simp;omega)) hr (λb hb=>by have:=(Qi hc b hb).1;simp;omega);have hH:=Qg J hr (λb hb=>by have:=(ho b hb).1;simp;omega);refine Qj ⟨[.agg #[vl,ve,vs]],⟨Jm gc,Z⟩,hF,ve,vs,E,O,⟨h.I hF,Qh.ints hG oa (λb hb=>oo (hL b hb)),hg,QN hH oa (λb hb hz=>oq (hL b hz) (Qi hH b hb).1),λi h1 h2=>⟨?_,λhz=>oq (hL _ hz) (hh i h1 h2).2.1⟩⟩,Q8 hG hV⟩;obtain⟨S,m2,_⟩:=hh i h1 h2;exact S.J hr (λhb=>by
   simp only[oF]at hb;have h7:=(((hv.I Y).I hf).J I (by simp;omega));rw[hb]at S;obtain⟨es,c,m4,_⟩:=S;unfold QK at h7;rw[h7]at m4;cases m4)
 have h0:k<ps.length:=oa
 have hA:=h.each ps[k] (Lk h0);refine Qf<|Qe<|Qn<|Qc<|O4 Vn (h.I hl).arr O O h0 λkg ge=>x (QE ge O O)<|QP [nS,sS 0,nS,nS] λb5 w7 gg gh gi =>
  Q0 (ZG ps[k]) gi ⟨hA.al.one,O,hA.mr.one,hA.ed.one,Z⟩ λw8 gj hI=>xe ?_
 have gk:sW w5 w8:=gg.O gj gh;have kh:=hI.lt;refine Qc<|Qo<|ZU Yg λbm w9 hJ ki hK=>Qb ?_;have kj:=hK.lt;have hM:=gk.D hJ;have gl:=hl.D hM;refine Qe<|Qc<|Qr O (hI.I hJ) O O<|QG hA.ed O<|Qa<|xe ?_;have gm:=(hA.ed.up (L':=[bm]) (λb hb=>.inr (by simp at hb;have:=hl.size;omega))).I gl;have kk:=hA.ed.le;refine QW (α:=Nat) [(8,8),(23,35)] (λz=>[(23,sS z)]) (λz w'=>z<=ps[k].a.ed.length/\O1 [bm] w9 w'/\ZP Yg ↑w' bm (Kl [] (ps[k].a.ed.take z))) (λz=>ps[k].a.ed.length - z) 0 La
  ⟨Ln _,O1.Z _ _,hK⟩ ?_
 rintro j g2 T ⟨hj,hs,h3⟩;have kn:=hs.size;refine Zi rfl O (λgn=>?_) (λgn=>?_)
 ·refine Qu ?_;rw[Lq oa]at h3;have h4:sW w5 T:=hM.O hs oa;have hN:QK ↑T b3 225 [vl,ve,vs]:=hy.I h4;refine Qs<|Qr O hN O O<|Qa<|Qo<|Q5 [[.map (some bm)]] λko go ht kp gq=>?_;have h6:=h4.D ht;have gr:=Qm J h6;have kq:=h6.size;refine Qo<|Q2 (news:=[.map (some bm)]) (L:=[]) gr O O O (gq.at od) om oa oa λh8 gs gt h9 hO=>?_;have hB:gs.ownsRow ↑G 249 1 h8 (E++[bm]).length ((E++[bm]).flatMap Qd7):=by
   rw[Lc,LC];simpa using gt
  have gu:=(hN.I ht).J h9 (QJ J oa);refine Q7 O<|Qo<|Qv gu O O od (QN (L:=[]) hB (by simp;omega) od).one λgv hC gx=>xe ?_;refine Qs<|QC O O<|Qa<|xe ?_;have gy:∀b∈ob h8,↑G<=b:=λb hb=>(Qi hB b hb).1;have kr:T.heap.size<=go.heap.size:=ht.size;refine⟨(k+1,E++[bm],h8),oe,La,h0,by simp[hg],?_,gx,Qg hB hC (λb hb=>by have:=gy b hb;simp;omega),?_⟩
  ·exact((I.D h6).S h9 (λb hb=>.inr (ho b hb).1)).Q hC
  intro i h1 h2;simp only[oM,oL]at h1;have keep:∀(c:Nat) (m:List ((Int×Int)×OY)),ZP Yg ↑T c m->c≠b3->c∉ob vs->ZP Yg ↑gv c m:=λc m hm gz g0 =>
   ((hm.I ht).J h9 g0).J hC (ou gz)
  by_cases hi:i<E.length
  ·obtain⟨S,m2,m3⟩:=hh i hi h2;simp only[List.getElem_append_left hi];refine⟨keep _ _ (S.I h4) oa m3,m2,λhb=>?_⟩;have kt:=S.lt;rcases hO _ hb with U|U
   ·exact m3 U
   omega
  have hi':i=E.length:=oa
  subst hi';simp only[List.getElem_append_right (OB _),Nat.sub_self,List.getElem_singleton];have hq:E.length=k:=hg;have e2:ps[E.length]=ps[k]:=by simp only[hq]
  rw[e2];refine⟨keep _ _ h3 oa (λhb=>oo (ho _ hb).2),oa,λhb=>?_⟩;rcases hO _ hb with U|U
  ·have:=(ho _ U).2;omega
  omega
 have hD:j<ps[k].a.ed.length:=oa
 refine Qf<|Qe<|Qn<|Qc<|xie (gm.st hs) O O hD λku g3=>x (QE g3 O O)<|QP [sS 0,sS 0,sS 0] λb8 kv g4 g5 V=>Q0 (Qp ps[k].a.ed[j]) V ox λg6 g7 V=>xe ?_;have hP:sW T g6:=g4.O g7 g5;refine Qs<|Qa<|Qr O V O O<|Qr O V O O<|x (QB ⟨O,O,Z⟩)<|x (VG O) <|
  ZA V rfl O<|Qo<|YF (k:=(ps[k].a.ed[j].1,ps[k].a.ed[j].2.1)) (h3.I hP) O O λkw g8 g9=>xe ?_
 refine Qs<|QC O O<|Qa<|xe<|⟨j+1,oa,La,hD,(hs.D hP).Q g8,?_⟩;rw[zz hD];exact g9
theorem QcP {L:LN}{ps:List AV}{ms:LN}(h:KL L ↑w vl ve vs ps ms)(hn:ps.length<=12):
  QT sV 119 [.agg #[vl,ve,vs]] w λr w'=>sW w w' /\
   if ∃p∈ps,p.a.st=0 then r=.tuple #[nS,.bool false]else ∃v,r=.tuple #[v,.bool true]/\Qh 3 ↑w w' v (oG ps.length 0):=by
 refine Zn func119 ?_;refine Qc<|Zd [vl,ve,vs] λb1 w1 G hl T=>x Qd<|Qb<|Qe<|Qc<|Qr O T O O<|QG h.al.arr O<|Qa<|xe<|QW (α:=Nat) [(2,3),(5,5),(9,16)] (λz=>[(9,sS z)]) (λz w'=>z<=ps.length/\sW w1 w'/\∀i (h:i<ps.length),i<z->ps[i].a.st≠0) (λz=>ps.length - z) 0 La
  ⟨Ln _,O1.Z _ _,λi _ h=>oa⟩ ?_
 rintro k g w2 ⟨hk,E,U⟩;refine Zi rfl O (λha=>?_) (λha=>?_)
 ·refine Qu<|Qc<|Qr O (T.I E) O O<|QG h.al.arr O<|Qo<|YP (n:=ps.length) O O oa λhc w3 he hm V=>x Qd<|Qb ?_;rw[show(oG ps.length (sS 0).cells.toList).flatten=((oG ps.length 0).map (Value.int .i64)) by rw[show(sS 0).cells.toList=[sS 0] from rfl,QaT,List.map_replicate]]at V;have hz:=(G.D E).size;refine Qj ⟨[sL hc ps.length ps.length,.bool true],ov,(G.D E).D he,?_⟩;rw[OP (by
   rintro⟨p,hp,h0⟩;obtain⟨i,hi,rfl⟩:=LM hp;exact U i hi oa h0)]
  refine⟨_,O,?_⟩;have:=V.own (n:=ps.length) (sz:=1) (base:=↑w) od oa oa;unfold Qh;rw[List.length_replicate];exact this
 have I:k<ps.length:=oa
 have hA:=h.al.each ps[k] (Lk I);refine Qf<|Qe<|Qn<|Qc<|O4 Vn ((h.al.I G).I E).arr O O I λho hf=>x (QE hf O O)<|QP [nS,sS 0,nS,nS] λb5 w4 hg hh J =>
  Q0 (ZG ps[k]) J ⟨hA.al.one,O,hA.mr.one,hA.ed.one,Z⟩ λw5 hj J=>xe ?_
 have Y:sW w2 w5:=hg.O hj hh;refine Qc<|Qr O J O O<|x (Q6 O O)<|xe<|Za rfl (λS=>?_) (λS=>?_)
 ·refine Qc<|x Qd<|Qb<|Qj ⟨[nS,.bool false],ov,(G.D E).D Y,?_⟩;rw[OQ ⟨ps[k],Lk I,S⟩];rfl
 refine Qf<|Qs<|QC O O<|Qa<|xe<|⟨k+1,oa,La,I,E.D Y,λi hi hq=>?_⟩;by_cases e:i=k
 ·subst e;exact S
 exact U i hi oa
theorem QcH {aa:List QF}{ts:LI}{k:Nat}(h:k<aa.length)(E:k<ts.length):Je (aa.drop k) (ts.drop k)=(decide (ts[k]∈aa[k].mr) && Je (aa.drop (k+1)) (ts.drop (k+1))):=by
 rw[L5 h,L5 E,Je]
theorem Qfe {L:LN}{ps:List AV}{ms:LN}{ts:LI}(h:KL L ↑w vl ve vs ps ms)(ht:Qt L ↑w vt ts)(hl:ts.length=ps.length)(hi:∀p∈ps,YN p.a.mr)(hn:ps.length<=12):
  QT sV 121 [.agg #[vl,ve,vs],vt] w λr w'=>r=.bool (Je (ps.map (·.a)) ts)/\sW w w':=by
 refine Zn func121 ?_;refine Qc<|Zd [vl,ve,vs] λb2 w1 he hr hf=>Qb<|Qe<|Qc<|Qr O hf O O<|QG h.al.arr O<|Qa<|xe<|QW (α:=Nat) [(4,6),(10,23)] (λz=>[(10,sS z)]) (λz w'=>z<=ps.length/\sW w w'/\Je (ps.map (·.a)) ts=Je ((ps.map (·.a)).drop z) (ts.drop z)) (λz=>ps.length - z) 0 La
  ⟨Ln _,he,O⟩ ?_
 rintro k g w2 ⟨hk,I,G⟩;refine Zi rfl O (λhg=>?_) (λhg=>?_)
 ·refine Qu<|Qc<|Qb<|Qj ⟨[.bool true],La,?_,I⟩;rw[G,Ls (by simp;omega)];rfl
 have E:k<ps.length:=oa
 have V:k<ts.length:=oa
 have hA:=h.al.each ps[k] (Lk E);rw[QcH (ou E) V,Na]at G;refine Qf<|Qe<|Qn<|Ql<|O4 Vn (h.al.I I).arr O O E λhs hh=>x (QE hh O O)<|QP [nS,sS 0,nS,nS] λb6 w3 hj hm J=>x Qd <|
  Q0 (ZG ps[k]) J ⟨hA.al.one,O,hA.mr.one,hA.ed.one,Z⟩ λY ho J=>xe ?_
 have hp:sW w2 Y:=hj.O ho hm;have S:=I.D hp;refine Qe<|ZJ [] (Y4 0 8 [6])<|p (QH O)<|pq (λ_ T=>Qk (J.I T) O O)<|p Qy<|p Qy<|pii O (ht.I S) O O V λhu hq =>
  pq (λ_ T=>Qq (hq.I T) O)<|pk<|xg<|(JJ ((hA.mr.I S).I (O1.C _ _)) (hi ps[k] (Lk E)) _).Y ?_
 rintro r5 w5 ⟨rfl,rfl⟩;refine⟨O1.C _ _,?_⟩;refine p (λ_=>Zh O)<|pe ?_;have ha:=S.D (O1.C [] Y);refine Q9 rfl (λU=>?_) (λU=>?_)
 ·refine Qc<|Qb<|Qj ⟨[.bool false],La,?_,ha⟩;rw[G,show decide (ts[k]∈ps[k].a.mr)=false by simpa using U];rfl
 refine Qf<|Qs<|QC O O<|Qa<|xe<|⟨k+1,oa,La,E,ha,?_⟩;rw[G,show decide (ts[k]∈ps[k].a.mr)=true by simpa using U,Ns]
theorem Qcn {aa:List QF}{ts:LI}{k:Nat}{v:Int}(h:k<aa.length)(E:k<ts.length):Ym v (aa.drop k) (ts.drop k) =
  if v∉aa[k].al then(Ym v (aa.drop (k+1)) (ts.drop (k+1))).map (ts[k]::·)else match O9 aa[k].ed ts[k] v with|none=>none|some u=>(Ym v (aa.drop (k+1)) (ts.drop (k+1))).map (u::·):=by
 rw[L5 h,L5 E];show(if v∉aa[k].al then _ else _)=_
 split
 ·rfl
 cases O9 aa[k].ed ts[k] v <;> rfl
theorem QgQ {L:LN}{ps:List AV}{Y:LN}{ts:LI}(h:KL L ↑w vl ve vs ps Y)(ht:Qt L ↑w vt ts)(hl:ts.length=ps.length)(hi:∀p∈ps,YN p.a.al)
  (hz:∀p∈ps,p.a.ed.Pairwise λx y=>x.1<y.1\/(x.1=y.1/\x.2.1<y.2.1)) (hn:ps.length<=12) (v:Int):
  QT sV 122 [.agg #[vl,ve,vs],vt,sS v] w λr w'=>sW w w' /\
   match Ym v (ps.map (·.a)) ts with|none=>r=.tuple #[nS,.bool false]|some u=>∃v',r=.tuple #[v',.bool true]/\Qh 3 ↑w w' v' u:=by
 refine Zn func122 ?_;refine Qc<|Zd [vl,ve,vs] λb3 w1 ha hL hf=>x Qd<|Qb<|Ql<|Qw<|(ZT (ht.I ha)).Y ?_;rintro vx w2 ⟨hg,hr⟩;refine Qb ?_;have h0:=ha.size;have hM:=hf.lt;have hh:=ha.D hg;refine Qe<|Qc<|Qr O (hf.I hg) O O<|QG h.al.arr O<|Qa<|xe ?_;have hge:=Qi hr;have h1:KL (ob vx) ↑w2 vl ve vs ps Y:=((h.up (L':=ob vx) (λb hb=>.inr (oo (hge b hb).1))).I hh);have h2:Qt (ob vx) ↑w2 vt ts:=((ht.up (L':=ob vx) (λb hb=>.inr (oo (hge b hb).1))).I hh);refine QW (α:=Nat×LI) [(6,7),(9,12),(18,49)] (λz=>[(18,sS z.1)])
  (λz w'=>z.1<=ps.length/\z.2.length=z.1/\O1 (ob vx) w2 w'/\Qh 3 ↑w1 w' vx (z.2++ts.drop z.1)/\Ym v (ps.map (·.a)) ts=(Ym v ((ps.map (·.a)).drop z.1) (ts.drop z.1)).map (z.2++·)) (λz=>ps.length - z.1) (0,[]) La
  ⟨Ln _,O,O1.Z _ _,hr,od⟩ ?_
 rintro⟨k,pre⟩ g w3 ⟨hk,U,S,T,E⟩;simp only[]at hk U T E;have hj:sW w w3:=hh.S S (λb hb=>.inr (oo (hge b hb).1));refine Zi rfl O (λh3=>?_) (λh3=>?_)
 ·refine Qu<|Ql<|x Qd<|Qb<|Qj ⟨[vx,.bool true],ov,hj,?_⟩;rw[Ls (by simp;omega),Ls oa]at E;rw[Ls oa]at T;rw[E];simp only[Ym,Ov];exact⟨vx,O,Q8 T h0⟩
 have G:k<ps.length:=oa
 have hm:k<ts.length:=oa
 have hs:k<Y.length:=by rw[h.ml];exact G
 have hA:=h.al.each ps[k] (Lk G);rw[Qcn (ou G) hm,Na]at E;have hu:=h1.st S;have h4:=h2.st S;refine Qf<|Qe<|Qn<|Ql<|O4 Vn hu.al.arr O O G λhN h5=>x (QE h5 O O)<|QP [nS,sS 0,nS,nS] λb10 w4 h6 h7 ho=>x Qd <|
  Q0 (ZG ps[k]) ho ⟨hA.al.one,O,hA.mr.one,hA.ed.one,Z⟩ λw5 h8 ho=>xe ?_
 have I:sW w3 w5:=h6.O h8 h7;have h9:=hj.D I;refine Qe<|Qc<|Qr O ho O O<|Qa<|Qw<|(JJ (hA.al.I h9) (hi ps[k] (Lk G)) v).Y ?_;rintro r6 w6 ⟨rfl,rfl⟩;refine x (Zh O)<|xe ?_;have hv:=QX hm;refine Q9 rfl (λhp=>?_) (λhp=>?_)
 ·have hB:v∉ps[k].a.al:=by simpa using hp
  refine Qu<|Qs<|QC O O<|Qa<|xe<|⟨(k+1,pre++[ts[k]]),oe,La,G,by simp[U],S.D I,?_,?_⟩
  ·simp only[Oq,List.singleton_append];rw[<-hv];exact Qm T I
  simp only[];rw[E,OQ hB,Option.map_map];congr 1;funext l;simp
 have hC:¬(v∉ps[k].a.al):=by simpa using hp
 rw[OP hC]at E;refine Qf ?_;have hD:=(hf.I hg).J S (λhb=>oo (hge b3 hb).1);have hw:=hu.I I;obtain⟨hE,hO⟩:=hw.mp k hs G;refine Qe<|ZJ [] (Y4 0 17 [])<|p (QH O)<|pq (λ_ J=>Qk ((hD.I I).I J) O O)<|p Qy<|pig O (g:=Qd7) (λ_=>O) hw.sl O O hs λhP hF =>
  pq (λ_ J=>Qq (hF.I J) O)<|p Qy<|p Qy<|pii O (h4.I I) O O hm λhQ hG=>pq (λ_ J=>Qq (hG.I J) O) <|
  p Qy<|p (λ_=>QB ⟨O,O,Z⟩)<|pq (λ_ J=>Kx (k:=(ts[k],v)) (hE.I J) O O)<|?_
 rw[UC ps[k].a.ed [] ts[k] v (hz ps[k] (Lk G))];have hq:sW w3 { w6 with drawn:=w6.drawn+1 }:=I.D (O1.C [] w6)
 cases he:O9 ps[k].a.ed ts[k] v with
 | none =>
  rw[he]at E;refine p Qy<|p (λ_=>QZ O O)<|p (λ_=>QZ O O)<|p ZK<|p ZK<|pe ?_;refine Qe<|Ql<|x (Zh O)<|xe<|zQ O ?_;refine Qc<|x Qd<|Qb<|Qj ⟨[nS,.bool false],ov,hj.D hq,?_⟩;rw[E];rfl
 | some u =>
  rw[he]at E;refine p Qy<|p (λ_=>QZ O O)<|p (λ_=>QZ O O)<|p ZK<|p ZK<|pe ?_;refine Qe<|Ql<|x (Zh O)<|xe<|Zz O<|Qf ?_;have hy:=Qm T hq;have hR:(pre++ts.drop k).length=ts.length:=by simp;omega
  obtain⟨gx,cx,V⟩:=Ur T oa;have hH:ob vx=[gx]:=by rw[V];rfl
  refine Qs<|Qa<|Qa<|Qa<|x (QD V O oa)<|Qo<|Qa5 (u:=sS u) (by rw[V]at hy;exact hy) O O oa O λw7 hI hJ=>xe ?_;refine Qs<|QC O O<|Qa<|xe ?_;have hK:(pre++ts.drop k).set k u=(pre++[u])++ts.drop (k+1):=by
   rw[hv,List.set_append_right _ _ oa,U,Nat.sub_self,List.set_cons_zero,LE];rfl
  refine⟨(k+1,pre++[u]),oe,La,G,by simp[U],(S.D hq).S hI (λb hb=>.inl (by rw[hH];exact hb)),?_,?_⟩
  ·simp only[];rw[<-hK];unfold Qh;rw[MR,Nr,V];exact hJ
  simp only[];rw[E,Option.map_map];congr 1;funext l;simp
theorem Xe (h:n<256):(UInt8.ofNat n).toNat=n:=by
 simp[Nat.mod_eq_of_lt h]
theorem QbC (u:Nat):(32:UInt8)∉Lib.decDigits u:=by
 induction u using Nat.strongRecOn with
 | _ u ih =>
  unfold Lib.decDigits;split
  ·intro h;simp only[oF]at h;have:=OR UInt8.toNat h;rw[Xe oa]at this;have E:(32:UInt8).toNat=32:=rfl;omega
  intro h;rcases Le.1 h with h|h
  ·exact ih _ oa h
  simp only[oF]at h;have:=OR UInt8.toNat h;rw[Xe oa]at this;have E:(32:UInt8).toNat=32:=rfl;omega
def dval (l:List UInt8):Nat:=l.foldl (λa b=>a*10+(b.toNat - 48)) 0
theorem QbA (u:Nat):dval (Lib.decDigits u)=u:=by
 induction u using Nat.strongRecOn with
 | _ u ih =>
  unfold Lib.decDigits;split
  ·simp only[dval,List.foldl_cons,List.foldl_nil];rw[Xe oa];omega
  have:=ih (u / 10) oa;unfold dval at *;rw[Mg,this];simp only[List.foldl_cons,List.foldl_nil];rw[Xe oa];omega
theorem QdG:∀{a b r r':List UInt8},(32:UInt8)∉a->(32:UInt8)∉b->a++32::r=b++32::r'->a=b/\r=r'
 | [],[],_,_,_,_,h=>ou h
 | [],y::b,_,_,_,hb,h=>by simp at h;exact OS h.1 (by intro e;exact hb (by simp[e]))
 | x::a,[],_,_,E,_,h=>by simp at h;exact OS h.1 (by intro e;exact E (by simp[e]))
 | x::a,y::b,_,_,E,hb,h=>by
  simp only[o0,List.cons.injEq]at h;have:=QdG (λe=>E (Lm _ e)) (λe=>hb (Lm _ e)) h.2;exact⟨by rw[h.1,this.1],this.2⟩
theorem VO:∀{l l':LI},(∀n∈l,0<=n)->(∀n∈l',0<=n)->YJ l=YJ l'->l=l'
 | [],[],_,_,_=>rfl
 | [],y::b,_,_,h=>by simp[YJ]at h
 | x::a,[],_,_,h=>by simp[YJ]at h
 | x::a,y::b,G,hb,h=>by
  have I:Lib.decDigits x.toNat++32::YJ a=Lib.decDigits y.toNat++32::YJ b:=by simpa[YJ]using h
  obtain⟨J,S⟩:=QdG (QbC _) (QbC _) I;have T:x.toNat=y.toNat:=by rw[<-QbA x.toNat,<-QbA y.toNat,J]
  have U:=G x Lo;have V:=hb y Lo;rw[(VO (λn E=>G n (Lm _ E)) (λn E=>hb n (Lm _ E)) S),show x=y by omega]
def Kn (l:LI):ByteArray:=⟨(YJ l).toArray⟩
theorem QhA {l l':LI}(E:∀n∈l,0<=n)(G:∀n∈l',0<=n)(h:Kn l=Kn l'):l=l':=by
 refine VO E G ?_;have:=OR (λb:ByteArray=>b.data.toList) h;simpa[Kn]using this
def UL (n:Nat)(m:List (ByteArray×OY))(tup:List (LI)):Prop :=
 ∀u:LI,u.length=n->(∀x∈u,0<=x)->O6 m (Kn u)=if u∈tup then some (sS (tup.idxOf u:Int))else none
theorem UL.add {m:List (ByteArray×OY)}{tup:List (LI)}(h:UL n m tup){u:LI}(I:u∉tup)(J:∀x∈u,0<=x):UL n (O7 m (Kn u) (sS (tup.length:Int))) (tup++[u]):=by
 intro v S G;rw[X3];by_cases e:u=v
 ·subst e;rw[OQ rfl,OQ od,Mh,OP I];simp
 rw[OP (λT=>e (QhA J G T)),h v S G];by_cases E:v∈tup
 ·rw[OQ E,OQ (by simp[E]),Mh,OQ E]
 rw[OP E,OP (by simp[E,Ne.symm e])]
structure qb (N b2 b38 b37:Nat)(ve:OY)(wS:OX)(s:Sy)(m:List (ByteArray×OY))(qs:List TV)(vt vk vd:OY)(w:OX):Prop where
 st:O1 [b2,b38,b37] wS w
 A:QK ↑w b2 53 [ve,sS 0,vk,vd]
 M:ZP Xj ↑w b38 m
 t:qa 47 N w vt qs
 tb:∀b∈ob vt,b=b37\/↑wS<=b
 k:Qh 3 ↑wS w vk s.mk'
 e:Z6 179 ↑wS w vd s.ed
 q:qs.map (·.2)=s.tup
 el:∀p∈qs,Qh 3 N w p.1 p.2
 sep:∀p∈qs,∀b∈ob p.1,b≠b38/\b∉ob vt/\b∉ob vk/\b∉ob vd
 d1:Dj vt vk
 d2:Dj vt vd
 d3:Dj vk vd
section
variable {b2 b38 b37:Nat}{wS:OX}{s:Sy}{m:List (ByteArray×OY)}{qs:List TV}{vd:OY}{w'':OX}
theorem qb.I (h:qb N b2 b38 b37 ve wS s m qs vt vk vd w)(E:sW w w'):qb N b2 b38 b37 ve wS s m qs vt vk vd w' :=
 ⟨h.st.D E,h.A.I E,h.M.I E,Qm h.t E,h.tb,Qm h.k E,Qm h.e E,h.q,λp G=>Qm (h.el p G) E,h.sep,h.d1,h.d2,h.d3⟩
structure SyN (N b2 b38 b37:Nat)(wS:OX):Prop where
 l2:b2<N
 l38:b38<wS.heap.size
 l37:b37<wS.heap.size
 n37:N<=b37
 n38:b37<b38
 nS:N<=↑wS
theorem qb.setK (h:qb N b2 b38 b37 ve wS s m qs vt vk vd w)(n:SyN N b2 b38 b37 wS){J:OY}{l:LI}(I:O1 (ob vk) w w')(T:Qh 3 ↑wS w' J l)
  (S:∀b∈ob J,b∈ob vk\/↑w<=b) (G:O1 [b2] w' w'') (V:QK ↑w'' b2 53 [ve,sS 0,J,vd]):qb N b2 b38 b37 ve wS ⟨s.tup,l,s.ed⟩ m qs vt J vd w'':=by
 have l2:=n.l2;have l38:=n.l38;have n37:=n.n37;have n38:=n.n38;have nS:=n.nS;refine⟨(h.st.S I (λb hb=>.inr ((Qi h.k) b hb).1)).S G (λb hb=>.inl (by simp at hb;simp[hb])),V,(h.M.J I (QJ h.k oa)).J G (by simp;omega),
  Qg (Qg h.t I h.d1) G (λb hb=>by have:=(Qi h.t b hb).1;simp;omega),h.tb,Qg T G (λb hb=>by have:=(Qi T b hb).1;simp;omega),
  Qg (Qg h.e I h.d3.symm) G (λb hb=>by have:=(Qi h.e b hb).1;simp;omega),h.q,
  λp E=>Qg (Qg (h.el p E) I (λb hb=>(h.sep p E b hb).2.2.1)) G (λb hb=>by have:=(Qi (h.el p E) b hb).1;simp;omega),
  λp E b hb=>⟨(h.sep p E b hb).1,(h.sep p E b hb).2.1,λY=>?_,(h.sep p E b hb).2.2.2⟩,h.d1.grow S (QU h.t),h.d2,(h.d3.symm.grow S (QU h.e)).symm⟩
 rcases S b Y with U|U
 ·exact(h.sep p E b hb).2.2.1 U
 have:=QU (h.el p E) b hb;omega
theorem qb.setE (h:qb N b2 b38 b37 ve wS s m qs vt vk vd w)(n:SyN N b2 b38 b37 wS){J:OY}{l:List Ed}(I:O1 (ob vd) w w')(T:Z6 179 ↑wS w' J l)
  (S:∀b∈ob J,b∈ob vd\/↑w<=b) (G:O1 [b2] w' w'') (V:QK ↑w'' b2 53 [ve,sS 0,vk,J]):qb N b2 b38 b37 ve wS ⟨s.tup,s.mk',l⟩ m qs vt vk J w'':=by
 have l2:=n.l2;have l38:=n.l38;have n37:=n.n37;have n38:=n.n38;have nS:=n.nS;refine⟨(h.st.S I (λb hb=>.inr ((Qi h.e) b hb).1)).S G (λb hb=>.inl (by simp at hb;simp[hb])),V,(h.M.J I (QJ h.e oa)).J G (by simp;omega),
  Qg (Qg h.t I h.d2) G (λb hb=>by have:=(Qi h.t b hb).1;simp;omega),h.tb,Qg (Qg h.k I h.d3) G (λb hb=>by have:=(Qi h.k b hb).1;simp;omega),
  Qg T G (λb hb=>by have:=(Qi T b hb).1;simp;omega),h.q,
  λp E=>Qg (Qg (h.el p E) I (λb hb=>(h.sep p E b hb).2.2.2)) G (λb hb=>by have:=(Qi (h.el p E) b hb).1;simp;omega),
  λp E b hb=>⟨(h.sep p E b hb).1,(h.sep p E b hb).2.1,(h.sep p E b hb).2.2.1,λY=>?_⟩,h.d1,h.d2.grow S (QU h.t),h.d3.grow S (QU h.k)⟩
 rcases S b Y with U|U
 ·exact(h.sep p E b hb).2.2.2 U
 have:=QU (h.el p E) b hb;omega
theorem qb.setM (h:qb N b2 b38 b37 ve wS s m qs vt vk vd w)(n:SyN N b2 b38 b37 wS){G:List (ByteArray×OY)}(E:O1 [b38] w w')(J:ZP Xj ↑w' b38 G):qb N b2 b38 b37 ve wS s G qs vt vk vd w':=by
 have l2:=n.l2;have l38:=n.l38;have n37:=n.n37;have n38:=n.n38;have nS:=n.nS;exact⟨h.st.S E (λb hb=>.inl (by simp at hb;simp[hb])),h.A.J E (by simp;omega),J,Qg h.t E (λb hb=>by have:=h.tb b hb;simp;omega),h.tb,
  Qg h.k E (λb hb=>by have:=(Qi h.k b hb).1;simp;omega),Qg h.e E (λb hb=>by have:=(Qi h.e b hb).1;simp;omega),h.q,
  λp I=>Qg (h.el p I) E (λb hb=>by have:=(h.sep p I b hb).1;simpa using this),h.sep,h.d1,h.d2,h.d3⟩
theorem qb.setT (h:qb N b2 b38 b37 ve wS s m qs vt vk vd w)(n:SyN N b2 b38 b37 wS){J:OY}{u:LI}(hx:Qh 3 ↑wS w vx u)(T:∀b∈ob vx,b∉ob vt/\b∉ob vk/\b∉ob vd)(G:O1 (ob vt) w w')
  (V:qa 47 N w' J (qs++[(vx,u)])) (S:∀b∈ob J,b∈ob vt\/↑w<=b):qb N b2 b38 b37 ve wS ⟨s.tup++[u],s.mk',s.ed⟩ m (qs++[(vx,u)]) J vk vd w':=by
 have l2:=n.l2;have l38:=n.l38;have n37:=n.n37;have n38:=n.n38;have nS:=n.nS;have he:=h.st.size;have nott:∀c,c<↑w->c∉ob vt->c∉ob J:=λc hc Y ha=>by
  rcases S c ha with I|I
  ·exact Y I
  omega
 refine⟨h.st.S G (λb hb=>by have:=h.tb b hb;simp;omega),h.A.J G (λhb=>oo (h.tb b2 hb)),h.M.J G (λhb=>oo (h.tb b38 hb)),V,
  λb hb=>?_,Qg h.k G h.d1.symm,Qg h.e G h.d2.symm,by rw[Lv,h.q];rfl,λp E=>?_,λp E b hb=>?_,(h.d1.symm.grow S (QU h.k)).symm,(h.d2.symm.grow S (QU h.e)).symm,h.d3⟩
 ·rcases S b hb with I|I
  ·exact h.tb b I
  exact .inr oa
 ·rcases Le.1 E with E|E
  ·exact Qg (h.el p E) G (λb hb=>(h.sep p E b hb).2.1)
  simp only[oF]at E;subst E;exact Q8 (Qg hx G (λb hb=>(T b hb).1)) nS
 rcases Le.1 E with E|E
 ·have:=h.sep p E b hb;exact⟨this.1,nott b (QU (h.el p E) b hb) this.2.1,this.2.2⟩
 simp only[oF]at E;subst E;have I:=(Qi hx b hb);have U:=T b hb;exact⟨oa,nott b I.2 U.1,U.2⟩
end
theorem QpV (o:Option α):o=none\/∃t,o=some t:=by cases o;exact .inl O;exact .inr ⟨_,O⟩
def zA:OY:=.agg #[nS,sS 0,nS,nS]
def Zo:OY:=nS
def Yt (N:Nat)(H:xw)(aa:List QF)(va vt:OY)(c:Int):Prop :=
 if K5 aa≠0 then c=K5 aa/\va=zA/\vt=Zo else match xd aa with
  | none=>c=3/\va=zA/\vt=Zo
  | some z=>c=0/\Y1 N H va z.1/\Qdh N H vt z.2
def YO (s:Sy)(u:LI):Sy:=if u∈s.tup then s else⟨s.tup++[u],s.mk',s.ed⟩
theorem Qgo (s:Sy)(u:LI):(YO s u).mk'=s.mk':=by unfold YO;split <;> rfl
theorem Qgp (s:Sy)(u:LI):(YO s u).ed=s.ed:=by unfold YO;split <;> rfl
theorem QjD {aa:List QF}{t u:LI}{s:Sy}{v:Int}(h:Ym v aa t=some u)(I:u∈s.tup\/s.tup.length≠4096):
  syE aa i t s v=some ⟨(YO s u).tup,(YO s u).mk',(YO s u).ed++[((i:Int),v,((YO s u).tup.idxOf u:Int))]⟩:=by
 unfold syE YO;rw[h];simp only[];by_cases E:u∈s.tup
 ·simp only[OQ E]
 simp only[OP E];rw[OP (by rcases I with G|G;exact OS G E;exact G),Mh,OP E];simp
theorem Qgn {aa:List QF}{t u:LI}{s:Sy}{v:Int}(h:Ym v aa t=some u)(E:u∉s.tup)(G:s.tup.length=4096):syE aa i t s v=none:=by
 unfold syE;rw[h];simp only[];rw[OP E,OQ G]
theorem Qgl {aa:List QF}{t:LI}{s:Sy}{v:Int}(h:Ym v aa t=none):syE aa i t s v=some s:=by
 unfold syE;rw[h]
theorem QlF {s:Sy}{qs:List TV}(E:qs.map (·.2)=s.tup)(h:i<qs.length):UP s i=qs[i].2:=by
 unfold UP;rw[<-E];simp[oO,h]
theorem Vt.bd {aa:List QF}{t:LI}(h:Vt aa t){m:Int}(E:∀a∈aa,a.st<=m):∀x∈t,0<=x/\x<m:=by
 intro x hx;obtain⟨i,hi,rfl⟩:=LM hx;have hi':i<aa.length:=by rw[<-h.1];exact hi
 have:=h.2 i hi hi';have:=E aa[i] (Lk hi');omega
theorem V7 {L:LN}{ps:List AV}{km:Int}(h:XG L ↑w vl ps)(gl:Kb w km)(ke:0<km)(m3:∀p∈ps,p.a.st<=km):
  QT sV 49 [vl] w λr w'=>sW w w'/\∃va vt c,r=.tuple #[va,vt,sS c]/\Yt ↑w ↑w' (ps.map (·.a)) va vt c:=by
 refine Zn func49 ?_;generalize U:ps.map (·.a)=aa;refine Qc<|QP [nS,sS 0,nS,nS] λJ w1 hP hA gm=>x Qd<|Qb ?_;have hl2:=gm.lt;refine Qe<|Ql<|Qw<|(Qe7 (h.I hP)).Y ?_;rintro r2 w2 ⟨rfl,hq⟩;refine Qb ?_;rw[U];refine Ql<|ZI O O<|xe<|Za rfl (λhw=>?_) (λhw=>?_)
 ·refine Qc<|x (QB Z)<|Qa<|Q0 [nS,sS 0,nS,nS] (gm.I hq) oy λw3 m6 m7=>x Qd<|Qb<|Qj ⟨[zA,Zo,sS (K5 aa)],⟨Jm m7,O,O,Z⟩,(hP.D hq).O m6 hA,zA,Zo,K5 aa,O,?_⟩;unfold Yt;rw[OQ hw];exact⟨O,O,O⟩
 have hck:K5 aa=0:=Lr.1 hw;have hn:ps.length<=12:=by
  unfold K5 at hck;split at hck
  ·cases hck
  rename_i h1;rw[<-U]at h1;simp at h1;exact h1
 have hB:∀a∈aa,Zb a:=by
  unfold K5 at hck;split at hck
  ·cases hck
  exact(QbH aa).1 hck
 have hQ:∀p∈ps,Zb p.a:=λp E=>hB p.a (by rw[<-U];exact LG E);have m8:∀p∈ps,p.a.al.length<=32:=λp E=>(hQ p E).al_le;have m9:∀a∈aa,a.st<=km:=λa ha=>by rw[<-U]at ha;obtain⟨p,E,rfl⟩:=Lz.1 ha;exact m3 p E
 have hC:aa.length=ps.length:=by rw[<-U];simp
 refine Qf<|Ql<|Qw<|(Qj5 (L:=[J]) (((h.up (λb hb=>.inr (by simp at hb;omega))).I hP).I hq) hn m8 (λb hb=>by simp at hb;have:=hq.size;omega)).Y ?_;rintro r4 w4 ⟨gn,ve,vs,ms,rfl,kf,hm⟩;rw[U]at hm;have hel:=Qae aa (λa ha=>(hB a ha).al_le);have hevl:(evs aa).length<=1000:=oa
 have hR:=Qh.ints (L:=[]) hm oa od;refine QP [nS,nS,nS] λb6 w5 pc pd hD=>Q0 [vl,ve,vs] hD ⟨h.arr.one,hR.one,kf.sl.one,Z⟩ λw6 pf hD=>xe ?_;have hS:sW w4 w6:=pc.O pf pd;have hz2:=hq.size;have hz4:=gn.size;have hl6:=hD.lt;refine Qc<|Qr O hD O O<|Q7 O<|Qo<|Qv (((gm.I hq).I gn).I hS) O O od hR.one λw7 hE pg=>xe ?_;have hz7:=hE.size;have go:sW w w7:=((((hP.D hq).D gn).D hS).O hE hA);have kg:KL [J] ↑w7 vl ve vs ps ms:=(kf.I hS).st hE;have kh:Qh 3 ↑w2 w7 ve (evs aa):=Qg (Qm hm hS) hE (λb hb=>by have:=(Qi hm b hb).1;simp;omega);have ki:=hD.J hE (by simp;omega);refine Qc<|QY ki O O<|Qw<|(QcP kg hn).Y ?_;rintro r8 w8 ⟨hk,hU⟩;have hz8:=hk.size;have gq:=pg.I hk;have hV:(∃p∈ps,p.a.st=0)↔(∃a∈aa,a.st=0):=by
  rw[<-U];constructor
  ·rintro⟨p,E,h0⟩;exact⟨p.a,LG E,h0⟩
  rintro⟨a,ha,h0⟩;obtain⟨p,E,rfl⟩:=Lz.1 ha;exact⟨p,E,h0⟩
 by_cases hz:∃p∈ps,p.a.st=0
 ·rw[OQ hz]at hU;subst hU;refine Qa<|QL O O<|QL O O<|x Qd<|Qb<|Qe<|Ql<|x (Zh O)<|xe<|zQ O ?_;refine Qc<|QY gq O O<|Q0 [ve,sS 0,nS,nS] gq ⟨hR.one,O,O,O,Z⟩ λw9 kj ph=>x Qd<|Qb<|Qj ⟨[.agg #[ve,sS 0,nS,nS],Zo,sS 0],⟨Jm ph,O,O,Z⟩,(go.D hk).O kj hA,_,Zo,0,O,?_⟩;unfold Yt;rw[OP hw];unfold xd;rw[OQ (hV.1 hz)];refine⟨O,⟨ve,_,_,O,λL' hl=>⟨Qh.ints (Qg (Qm kh hk) kj (λb hb=>by have:=(Qi hm b hb).1;simp;omega)) (by show(evs aa).length<=_;omega) (λb hb=>oo (hl b hb)),Zs.nil _ _ _,Zs.nil _ _ _⟩⟩,[],O,λL' hl=>⟨Zs.nil _ _ _,λp E=>by cases E⟩⟩
 rw[OP hz]at hU;obtain⟨vf,rfl,gr⟩:=hU;have kk:=Qh.ints (L:=[]) gr (by simp;omega) od;refine Qa<|QL O O<|QL O O<|x Qd<|Qb<|Qe<|Ql<|x (Zh O)<|xe<|Zz rfl<|Qf<|Ql<|Qo<|Yf (us:=[[vf]]) O O og od ⟨kk.cells,rfl,Z⟩ λV w10 gs hb37 kn=>Qb ?_;have hl37:=kn.lt;refine Qc<|Qo<|ZU Xj λhg w11 hW hb38 ko=>?_;have hl38:=ko.lt;refine Qa<|Qw<|(jS ((kk.I gs).I hW) (gl.I ((go.D hk).D (gs.D hW))) (λn hn=>oo (Nt hn)) (by simp;omega)).Y ?_;rintro r12 pj ⟨rfl,hX⟩;have hz12:=hX.size;refine Qo<|Yn (k:=Kn (oG ps.length 0)) (ko.I hX) O O λwS gt pn=>Qa<|Qb ?_;have hzS:=gt.size;have po:sW w8 pj:=(gs.D hW).D hX;have h5:sW w8 wS:=po.O gt oa;have hY:sW w wS:=(go.D hk).D h5;have pp:∀b∈[J,hg,V],b∈[J]\/↑w8<=b:=λb hb=>by
  simp only[oJ,oH,or_false]at hb;rcases hb with rfl|rfl|rfl
  ·exact .inl od
  ·exact .inr oa
  exact .inr oa
 have gu:KL [J,hg,V] ↑wS vl ve vs ps ms:=((kg.I hk).up pp).I h5;have gv:QK ↑wS b6 225 [vl,ve,vs]:=(ki.I hk).I h5;have pt:Qh 3 ↑w2 wS ve (evs aa):=Qm (Qm kh hk) h5;have hF:SyN ↑w1 J hg V wS:=⟨oa,oa,oa,oa,oa,oa⟩;have pu:qb ↑w1 J hg V ve wS (qE aa) (O7 [] (Kn (oG ps.length 0)) (sS 0)) [(vf,oG ps.length 0)] (sL V 1 1) Zo Zo wS:=by
  refine⟨O1.Z _ _,gq.I h5,pn,?_,λb hb=>by simp[ob]at hb;exact .inl hb,QM _ _ _ _,QM _ _ _ _,by simp[qE,hC],λp E=>?_,λp E b hb=>?_,Dj.nil' _,Dj.nil' _,Dj.nil' _⟩
  ·exact(((kn.I hW).I hX).J gt (by simp;omega)).own (n:=1) (sz:=1) O oa oa
  ·simp only[oF]at E;subst E;exact Q8 (Qm gr h5) oa
  simp only[oF]at E;subst E;have:=(Qi gr) b hb;refine⟨oa,?_,by simp[ob,Zo],by simp[ob,Zo]⟩;simp[ob];omega
 have pw:UL ps.length (O7 [] (Kn (oG ps.length 0)) (sS 0)) (qE aa).tup:=by
  have ke:UL ps.length [] []:=λu _ _=>O;have:=ke.add (u:=oG ps.length 0) od (λx hx=>oo (Nt hx));simpa[qE,hC]using this
 have pz:UK aa (qE aa):=by
  refine⟨λt ht=>?_,by simp[qE]⟩;simp only[qE,oF]at ht;subst ht;refine⟨od,λi h1 h2=>?_⟩;have h3:=(hB aa[i] (Lk h2)).st0;have h4:aa[i].st≠0:=λe=>hz (hV.2 ⟨aa[i],Lk h2,e⟩);simp only[List.getElem_replicate];omega
 generalize hT:syL aa 4096 0 (qE aa)=T;have p0:∀s,T=some s->xd aa=some (⟨evs aa,s.tup.length,s.mk',s.ed⟩,s.tup):=λs hs=>by
  unfold xd;rw[OP (λe=>hz (hV.2 e)),hT,hs];rfl
 have p4:T=none->xd aa=none:=λhs=>by unfold xd;rw[OP (λe=>hz (hV.2 e)),hT,hs];rfl
 refine Qe<|Qc<|Qb ?_;have gx:b6∉[J,hg,V]:=by simp;omega
 refine QW (α:=Nat×Sy×List (ByteArray×OY)×List TV×OY×OY×OY) [(3,4),(10,10),(12,16),(42,111)] (λz=>[(3,z.2.2.2.2.1),(10,sS z.1)])
  (λz w'=>qb ↑w1 J hg V ve wS z.2.1 z.2.2.1 z.2.2.2.1 z.2.2.2.2.1 z.2.2.2.2.2.1 z.2.2.2.2.2.2 w'/\UK aa z.2.1/\UL ps.length z.2.2.1 z.2.1.tup/\z.1<=z.2.1.tup.length/\z.2.1.mk'.length<=z.1/\z.2.1.ed.length<=z.1*1000/\syL aa (4096 - z.1) z.1 z.2.1=T)
  (λz=>4096 - z.1) (0,qE aa,_,_,_,Zo,Zo) ov ⟨pu,pz,pw,Ln _,Ln _,Ln _,hT⟩ ?_
 rintro⟨i,s,m,qs,vt,vk,vd⟩ g hZ ⟨hI,ga,kp,hi,p5,kq,gy⟩;simp only[]at hI ga kp hi p5 kq gy;have hle:=ga.le;have p6:qs.length=s.tup.length:=by rw[<-hI.q];simp
 have kr:∀p∈qs,Vt aa p.2:=λp E=>ga.v p.2 (by rw[<-hI.q];exact LG E);have kt:∀p∈qs,p.2.length<=12:=λp E=>oo (kr p E).1
 have j0:=QN (L:=[]) hI.t oa od;refine Qe<|Ql<|Qa<|QG j0 O<|ZX O O<|xe<|Zp rfl (λp7=>?_) (λp7=>?_)
 ·have p8:T=some s:=by rw[<-gy,Qgj oa]
  refine Qu<|Ql<|QG j0 O<|Q7 O<|Qo<|Qv hI.A O O od rfl λw15 p9 ku=>xe ?_;refine Qc<|QY ku O O<|Qa<|Q0 [ve,sS qs.length,vk,vd] ku ⟨hR.one,O,(Qh.ints (L:=[]) hI.k oa od).one,(Z6.eds (L:=[]) hI.e oa od).one,Z⟩ λgz qf qj=>x Qd<|Qb ?_;have h6:O1 [J] hZ gz:=p9.Q qf;have ql:sW w gz:=(hY.S hI.st (λb hb=>.inr (by simp at hb;omega))).O h6 hA;refine Qj ⟨[.agg #[ve,sS qs.length,vk,vd],vt,sS 0],⟨Jm qj,O,O,Z⟩,ql,_,vt,0,O,?_⟩;unfold Yt;rw[OP hw,p0 s p8];have e1:(qs.length:Int)=s.tup.length:=by rw[p6]
  have k0:Qh 3 ↑w2 gz ve (evs aa):=Qg (Qg pt hI.st (λb hb=>by have:=(Qi hm b hb).1;have:=(QU hm) b hb;simp;omega)) h6 (λb hb=>by have:=(Qi hm b hb).1;simp;omega);have k1:=Qg hI.k h6 (λb hb=>by have:=(Qi hI.k b hb).1;simp;omega);have k2:=Qg hI.e h6 (λb hb=>by have:=(Qi hI.e b hb).1;simp;omega);have k3:=Qg hI.t h6 (λb hb=>by have:=(Qi hI.t b hb).1;simp;omega);refine⟨O,⟨ve,vk,vd,by rw[e1],λL' hl=>⟨Qh.ints k0 (by show(evs aa).length<=_;omega) (λb hb=>oo (hl b hb)),Qh.ints k1 (by show s.mk'.length<=_;omega) (λb hb=>oo (hl b hb)),Z6.eds k2 (by show s.ed.length<=_;omega) (λb hb=>oo (hl b hb))⟩⟩,qs,hI.q,λL' hl=>⟨?_,λp E=>?_⟩⟩
  ·exact QN k3 oa (λb hb q0=>oq (Qi hI.t b hb).1 (hl b q0))
  exact Qh.ints (Qg (hI.el p E) h6 (λb hb=>by have:=(Qi (hI.el p E) b hb).1;simp;omega)) (oo (kt p E)) (λb hb=>oo (hl b hb))
 have q4:i<s.tup.length:=oa
 have Y:i<qs.length:=oa
 have kv:=QlF hI.q Y;have h7:=kr (qs[i]'Y) (Lk Y);obtain⟨t,g0⟩:∃t,(qs[i]'Y).2=t:=⟨_,O⟩;rw[g0]at kv h7;refine Qf ?_;have q5:(Ug aa i t (evs aa) (Z1 aa i t s)).bind (syL aa (4096 - (i+1)) (i+1))=T:=by
  rw[<-gy];obtain⟨f,hf⟩:∃f,4096 - i=f+1:=⟨4096 - i - 1,oa⟩;rw[hf,syL,OQ q4,kv,show 4096 - (i+1)=f by omega]
 have j1:=gu.st hI.st;have j2:KL [] ↑hZ vl ve vs ps ms:=j1.up (λ_ hb=>by cases hb);have j3:=gv.J hI.st gx;have j4:Qt [] ↑hZ (qs[i]'Y).1 t:=by rw[<-g0];exact Qh.ints (hI.el (qs[i]'Y) (Lk Y)) (oo (kt (qs[i]'Y) (Lk Y))) od
 refine Qe<|Qn<|QV (α:=OY) [(48,59)] (λz=>[]) (λz w'=>qb ↑w1 J hg V ve wS (Z1 aa i t s) m qs vt z vd w') oh ?_ ?_
 ·refine Qe<|ZJ [] (Y4 0 6 [5])<|pq (λ_ hc=>Zj (j3.I hc) O O)<|p Qy<|p Qy<|pig O J2 j0 O O Y λa51 za =>
   pq (λ_ hc=>Qq (za.I hc) O)<|pk<|xg<|(Qfe (j2.I (O1.C _ _)) (j4.I (O1.C _ _)) (by rw[h7.1,hC]) (λp E=>(hQ p E).mri) hn).Y ?_
  rintro r17 w17 ⟨rfl,z2⟩;have kw:=(O1.C [] hZ).D z2;refine⟨kw,?_⟩;refine pe ?_;have g2:=hI.I kw;refine Q9 O (λhG=>?_) (λhG=>?_)
  rotate_left
  ·refine Qf<|⟨vk,Z,?_⟩;rw[U]at hG;unfold Z1;rw[OP (by rw[hG];simp)];exact g2
  refine Qs<|Qr O g2.A O O<|Qa<|Qo<|Q5 [[sS i]] λb57 w18 z3 hb57 z4=>?_;have hH:=g2.I z3;refine Qo<|Q2 (news:=[sS i]) (L:=[]) hH.k O O O (z4.at od) om oa hH.st.size λkx z5 ho19 kz hn19=>?_;have k4:Qh 3 ↑wS z5 kx (s.mk'++[(i:Int)]):=Qh.snoc ho19;refine Q7 O<|Qo<|Qv (hH.A.J kz (QJ hH.k oa)) O O od (Qh.ints (L:=[]) k4 (by simp;omega) od).one λw20 hs20 hB20=>xe ?_;refine⟨kx,Z,?_⟩;rw[U]at hG;unfold Z1;rw[OQ hG];exact hH.setK hF kz k4 hn19 hs20 hB20
 rintro gb g3 w21 k5;have hsk2:UK aa (Z1 aa i t s):=yr ga;have htup2:(Z1 aa i t s).tup=s.tup:=by unfold Z1;split <;> rfl
 have hed2:(Z1 aa i t s).ed=s.ed:=by unfold Z1;split <;> rfl
 have hmk2:(Z1 aa i t s).mk'.length<=i+1:=by
  unfold Z1;split
  ·simp only[oM,oL];omega
  omega
 have k6:Qt [J,hg,V] ↑wS ve (evs aa):=by have:=gu.ev;rw[U]at this;exact this
 refine Qc<|Qr O (gv.J k5.st gx) O O<|QG k6 O<|Qa<|xe<|QW (α:=Nat×Sy×List (ByteArray×OY)×List TV×OY×OY) [(3,4),(12,16),(63,111)] (λz=>[(3,z.2.2.2.2.1),(63,sS z.1)])
  (λz w'=>qb ↑w1 J hg V ve wS z.2.1 z.2.2.1 z.2.2.2.1 z.2.2.2.2.1 gb z.2.2.2.2.2 w'/\UK aa z.2.1/\UL ps.length z.2.2.1 z.2.1.tup/\z.1<=(evs aa).length/\z.2.1.mk'=(Z1 aa i t s).mk'/\z.2.1.ed.length<=i*1000+z.1 /\
   (∃h:i<z.2.2.2.1.length,(z.2.2.2.1[i]'h).2=t)/\(Ug aa i t ((evs aa).drop z.1) z.2.1).bind (syL aa (4096 - (i+1)) (i+1))=T)
  (λz=>(evs aa).length - z.1) (0,Z1 aa i t s,m,qs,vt,vd) ov
  ⟨k5,hsk2,by rw[htup2];exact kp,Ln _,O,by rw[hed2];simpa using kq,⟨Y,g0⟩,q5⟩ ?_
 rintro⟨j,G,m4,hh,gc,ge⟩ g4 hJ ⟨S,hK,hr,hj,gg,k9,⟨ho,h8⟩,he⟩;simp only[]at S hK hr hj gg k9 he ho h8;have ma:hh.length=G.tup.length:=by rw[<-S.q];simp
 have hle4:=hK.le;refine Zi rfl O (λh64=>?_) (λh64=>?_)
 ·rw[Ls oa,Ug]at he;refine Qu<|Qs<|Qa<|QC O O<|Qb<|⟨(i+1,G,m4,hh,gc,gb,ge),oe,ov,S,hK,hr,oe,by simp only[];rw[gg];exact hmk2,oe,he⟩
 have gh:j<(evs aa).length:=oa
 rw[QX gh,Ug]at he;obtain⟨v,mc⟩:∃v,(evs aa)[j]=v:=⟨_,O⟩;rw[mc]at he;refine Qf<|Qe<|Qn<|Qc<|xii (k6.st S.st) O O gh λa65 mf=>?_;rw[mc]at mf;refine x (Qq mf O)<|Qb ?_;have hB622:=gv.J S.st gx;have htA4:=QN (L:=[]) S.t oa od;have htI4:Qt [] ↑hJ (hh[i]'ho).1 t:=by rw[<-h8];exact Qh.ints (S.el (hh[i]'ho) (Lk ho)) (by rw[h8,h7.1];omega) od
 refine Qe<|ZJ [] (Y4 0 12 [6])<|pq (λ_ hc=>Zj (hB622.I hc) O O)<|p Qy<|p Qy<|pig O J2 htA4 O O ho λa71 h71 =>
  pq (λ_ hc=>Qq (h71.I hc) O)<|p Qy<|pk<|xg<|(QgQ (((gu.st S.st).up (L':=[]) (λ_ hb=>by cases hb)).I (O1.C _ _)) (htI4.I (O1.C _ _)) (by rw[h7.1,hC]) (λp E=>(hQ p E).ali) (λp E=>(hQ p E).edi) hn _).Y ?_
 rintro r23 w23 ⟨hs23,hL⟩;rw[U]at hL;have mg:=(O1.C [] hJ).D hs23;refine⟨mg,?_⟩;have hM:=S.I mg;have hz22:=S.st.size;rcases QpV (Ym v aa t)with hv|⟨u,hv⟩
 ·rw[hv]at hL;subst hL;rw[Qgl hv]at he;refine p Qy<|p (λ_=>QZ O O)<|p (λ_=>QZ O O)<|p ZK<|p ZK<|pe ?_;refine Qe<|Ql<|x (Zh O)<|xe<|zQ O ?_;refine Qu<|Qs<|QC O O<|Qa<|xe ?_;exact⟨(j+1,G,m4,hh,gc,ge),oe,ov,hM,hK,hr,gh,gg,oe,⟨ho,h8⟩,he⟩
 rw[hv]at hL;obtain⟨vx,rfl,g5⟩:=hL;have mh:=XB hB h7 hv;have mj:u.length=ps.length:=by rw[mh.1,hC]
 have g8:=mh.bd m9;have g9:∀x∈u,0<=x:=λx hx=>(g8 x hx).1;refine p Qy<|p (λ_=>QZ O O)<|p (λ_=>QZ O O)<|p ZK<|p ZK<|pe ?_;refine Qe<|Ql<|x (Zh O)<|xe<|Zz O<|Qf ?_;have gi:=Qh.ints (L:=[]) g5 oa od;have mo:=Qi g5;refine QV (α:=Unit) [(15,16),(79,85)] (λz=>[(15,sS (if u∈G.tup then(G.tup.idxOf u:Int)else 0)),(16,.bool (decide (u∈G.tup)))]) (λz w'=>sW w23 w') oh ?_ ?_
 ·refine Qs<|Qa<|Qa<|Qw<|(jS gi (gl.I (hY.S hM.st (λb hb=>.inr (by simp at hb;omega)))) g8 oa).Y ?_;rintro r24 w24 ⟨rfl,gj⟩;by_cases I:u∈G.tup
  ·refine x (Un (k:=Kn u) ((hM.I gj).M) O O (by rw[hr u mj g9,OQ I]))<|Qa<|QL rfl rfl<|QL rfl rfl<|x Qd<|Qb<|⟨(),⟨OR sS (OQ I).symm,OR Value.bool (OT I).symm,Z⟩,gj⟩
  refine x (yC (k:=Kn u) ((hM.I gj).M) O O (by rw[hr u mj g9,OP I]))<|Qa<|QL rfl rfl<|QL rfl rfl<|x Qd<|Qb<|⟨(),⟨OR sS (OP I).symm,OR Value.bool (OV I).symm,Z⟩,gj⟩
 rintro _ g6 w25 ka;have h9:=hM.I ka;have hxA25:=gi.I ka;have hadd:∀b∈ob vx,b∉ob gc/\b∉ob gb/\b∉ob ge:=λb hb=>by
  have h1:=(mo b hb).1;have h1':↑hJ<=b:=h1;exact⟨λhN=>oo (QU S.t b hN),λhN=>oo (QU S.k b hN),λhN=>oo (QU S.e b hN)⟩
 refine QV (α:=List (ByteArray×OY)×List TV×OY) [(3,4),(15,15),(86,101)] (λz=>[(3,z.2.2),(15,sS ((YO G u).tup.idxOf u:Int))])
  (λz w'=>qb ↑w1 J hg V ve wS (YO G u) z.1 z.2.1 z.2.2 gb ge w'/\(u∈G.tup\/G.tup.length≠4096)/\UL ps.length z.1 (YO G u).tup/\∃h:i<z.2.1.length,(z.2.1[i]'h).2=t) oh ?_ ?_
 ·refine Ql<|x (Zh O)<|xe<|Q9 O (λkb=>?_) (λkb=>?_)
  rotate_left
  ·have I:u∈G.tup:=by simpa using kb
   refine Qf ?_;have e1:YO G u=G:=by unfold YO;rw[OQ I]
   have e2:(if u∈G.tup then(G.tup.idxOf u:Int)else 0)=((YO G u).tup.idxOf u:Int):=by rw[e1,OQ I]
   refine⟨(m4,hh,gc),⟨O,OR sS e2,Z⟩,?_,.inl I,?_,ho,h8⟩
   ·rw[e1];exact h9
   rw[e1];exact hr
  have I:u∉G.tup:=by simpa using kb
  have mq:=QN (L:=[]) h9.t oa od;refine Qe<|Ql<|QG mq O<|x (Q6 O O)<|xe<|Za O (λh90=>?_) (λh90=>?_)
  ·refine Qc<|x (QB Z)<|Q0 [nS,sS 0,nS,nS] h9.A oy λw26 gk hB26=>x Qd<|Qb<|Qj ⟨[zA,Zo,sS 3],⟨Jm hB26,O,O,Z⟩,(hY.S h9.st (λb hb=>.inr (by simp at hb;omega))).O gk hA,zA,Zo,3,O,?_⟩;unfold Yt;rw[Qgn hv I oa]at he;rw[OP hw,p4 he.symm];exact⟨rfl,O,O⟩
  have hl4:G.tup.length≠4096:=oa
  refine Qf<|Ql<|QG mq O<|Qb<|Ql<|Qa<|Qw<|(jS hxA25 (gl.I (hY.S h9.st (λb hb=>.inr (by simp at hb;omega)))) g8 oa).Y ?_;rintro r26 w26 ⟨rfl,gk⟩;have mt:=h9.I gk;refine Qa<|Qo<|YF (k:=Kn u) mt.M O O λw27 mu hm27=>xe ?_;have hx27:=Qg (Qm (Qm g5 ka) gk) mu (λb hb=>by have:=(mo b hb).1;have h1':↑hJ<=b:=this;simp;omega);refine Qs<|Qa<|Qa<|Qo<|Yf (us:=[[vx]]) O O og od ⟨gi.cells,rfl,Z⟩ λb100 w28 mv hb100 hB100=>?_;have kc:=(mt.setM hF mu hm27).I mv;refine Qo<|Q2 (news:=[vx]) (L:=[]) kc.t O O O (hB100.at od) (λy hy=>by simp only[oF]at hy;subst hy;exact gi.one) oa (oq kc.st.size hF.nS) λmw w29 ho29 hs29 hn29=>Qb ?_;have hk29:qa 47 ↑w1 w29 mw (hh++[(vx,u)]):=qa.snoc ho29;have hIA:=kc.setT hF (u:=u) (Q8 (Qm hx27 mv) (by show wS.heap.size<=↑hJ;omega)) hadd hs29 hk29 hn29;have e1:YO G u=⟨G.tup++[u],G.mk',G.ed⟩:=by unfold YO;rw[OP I]
  have e2:(hh.length:Int)=((YO G u).tup.idxOf u:Int):=by
   rw[e1];simp only[];rw[Mh,OP I,<-ma];simp
  refine⟨(O7 m4 (Kn u) (sS (hh.length:Int)),hh++[(vx,u)],mw),⟨O,OR sS e2,Z⟩,?_,.inr hl4,?_,by simp;omega,?_⟩
  ·rw[e1];exact hIA
  ·rw[e1];simp only[];rw[ma];exact hr.add I g9
  simp only[];rw[Mi ho];exact h8
 rintro⟨m5,qs5,vt5⟩ g7 w30 ⟨my,hlim,hkn5,hlt5,ht5⟩;have hed5:(YO G u).ed.length<=i*1000+j:=by rw[Qgp];exact k9
 have mz:=QjD (aa:=aa) (i:=i) (s:=G) hv hlim;rw[mz]at he;refine Qs<|Qr O my.A O O<|Qa<|Qa<|Qa<|x (QB ⟨O,O,O,Z⟩)<|Qo<|Q5 [Qp ((i:Int),v,((YO G u).tup.idxOf u:Int))] λb108 w31 hs31 hb108 hB108=>?_;have hO:=my.I hs31;refine Qo<|Q2 (news:=Qp ((i:Int),v,((YO G u).tup.idxOf u:Int))) (L:=[]) hO.e O O O (hB108.at od) (λy hy=>by simp only[Qp,oJ,oH,or_false]at hy;rcases hy with rfl|rfl|rfl <;> rfl) oa hO.st.size λm0 w32 ho32 m1 hn32=>?_
 have m2:Z6 179 ↑wS w32 m0 ((YO G u).ed++[((i:Int),v,((YO G u).tup.idxOf u:Int))]):=Z6.snoc ho32;refine Q7 O<|Qo<|Qv (hO.A.J m1 (QJ hO.e oa)) O O od (Z6.eds (L:=[]) m2 (by simp;omega) od).one λw33 hs33 hB33=>xe ?_;refine Qs<|QC O O<|Qa<|xe<|⟨(j+1,_,m5,qs5,vt5,m0),oe,ov,(hO.setE hF m1 m2 hn32 hs33 hB33),(Qgm hB hK h7 mz),hkn5,gh,?_,?_,⟨hlt5,ht5⟩,he⟩
 ·simp only[];rw[Qgo];exact gg
 simp only[oM,oL];omega
theorem zT {L:LN}{ps:List AV}(h:XG L ↑w vl ps)(E:∀p∈ps,p.a.st<=100):
  QT sV 49 [vl] w λr w'=>sW w w'/\∃va vt c,r=.tuple #[va,vt,sS c]/\Yt ↑w ↑w' (ps.map (·.a)) va vt c :=
 V7 (km:=100) h (.inl (Mt _)) og E
theorem xE {α:Type}(g:α->LV)(sz:Nat)(G:∀x,(g x).length=sz):∀(l:List α) (i j:Nat) (h:i<l.length) (y:α) (u:OY),j<sz->g y=(g l[i]).set j u ->
  (l.flatMap g).set (i*sz+j) u=(l.set i y).flatMap g
 | x::l,0,j,h,y,u,I,E=>by
  simp only[Oj]at E;simp only[Nat.zero_mul,oX,oW,List.set_cons_zero];rw[List.set_append_left _ _ (by rw[G];exact I),E]
 | x::l,i+1,j,h,y,u,I,E=>by
  simp only[List.getElem_cons_succ]at E;simp only[oW,List.set_cons_succ];rw[List.set_append_right _ _ (by rw[G,Ms];omega),G,show(i+1)*sz+j - sz=i*sz+j by rw[Ms];omega,xE g sz G l i j (ou h) y u I E]
section
variable {f:Fr}{all:xz}{C:xu}{K:Fr->OX->Prop}
end
theorem Zu {l:LI}(h:i<l.length):l[i]=O2 l i:=by simp[O2,oO,h]
section
variable {l:xz}{K:Fr->OX->Prop}{f:Fr}{C:xu}{pl:xo}{i0:Nat}
theorem xic {x:OZ}{e bys:Nat}[Sl P t e 1 bys z]{L:LN}{li:LI}{v:OY}{k:IntKind}
  (h:Qt L ↑w v li) (E:ev f x=v) (G:ev f y=.int k i) (hi:i<li.length)
  (hK:∀a,At L ↑w a [sS (O2 li i)]->XL P ops K l (QO f d (.pointer (some a))) w) (I:Z3 ops f ⟨d,.indexAddr t x y,ty,pS,af,gd⟩=true:=by rfl):
  XL P ops K (⟨d,.indexAddr t x y,ty,pS,af,gd⟩::l) f w :=
 xii h E G hi (λa J=>hK a (by rw[<-Zu hi];exact J)) I
theorem pic {x:OZ}{e bys:Nat}[Sl P t e 1 bys z]{L:LN}{li:LI}{v:OY}{H:xw}{k:IntKind}
  (E:QR ops i0=⟨d,.indexAddr t x y,ty,pS,af,gd⟩) (h:Qt L H v li) (G:ev f x=v) (I:ev f y=.int k i) (hi:i<li.length)
  (hK:∀a,At L H a [sS (O2 li i)]->XP P ops C K pl (QO f d (.pointer (some a))) w) (J:Z3 ops f (QR ops i0)=true:=by rfl):XP P ops C K ((i0,true)::pl) f w :=
 pii E h G I hi (λa S=>hK a (by rw[<-Zu hi];exact S)) J
theorem yE [h1:Xt P t]{x:OZ}{e cap:Nat}{li:LI}{v:OY}{u:Int}(h:Qh e base w v li)(E:v=sL g li.length cap)(hx:ev f x=.pointer (some ⟨g,0+i*1,none⟩))(I:ev f y=sS u)(hi:i<li.length)
  (hK:∀w',O1 (ob v) w w'->Qh e base w' v (li.set i u)->K (QO f d undef) w'):XO P ⟨d,.store t x y,ty,pS,af,gd⟩ f w K:=by
 have G:=h;unfold Qh at G;rw[E]at G;refine Qa5 G hx I hi O λw' J S=>hK w' (by rw[E];exact J) ?_;unfold Qh;rw[MR,Nr,E];exact S
end
theorem QgA {a:Nat}(h:a<n):oN a (n - a)=a::oN (a+1) (n - (a+1)):=by
 rw[show n - a=(n - (a+1))+1 by omega,Nk]
theorem QjM {a:Nat}(h:n<=a):oN a (n - a)=[]:=by rw[show n - a=0 by omega];rfl
section
variable {f:Fr}{κ:Type}[DecidableEq κ]
end
theorem QdD {aa:List QF}{i:Nat}{t:LI}(G:∀a∈aa,Zb a)(I:Vt aa t):∀(vs:LI) (s E:Sy),UK aa s->Ug aa i t vs s=some E->UK aa E
 | [],s,E,h,e=>by cases e;exact h
 | v::vs,s,E,h,e=>by
  rw[Ug]at e;obtain⟨J,S,T⟩:=MH.1 e;exact QdD G I vs J E (Qgm G h I S) T
theorem Qgh {aa:List QF}(G:∀a∈aa,Zb a):∀(f i:Nat) (s E:Sy),UK aa s->syL aa f i s=some E->UK aa E
 | 0,i,s,E,h,e=>by cases e;exact h
 | f+1,i,s,E,h,e=>by
  rw[syL]at e;split at e
  ·rename_i hi;obtain⟨I,J,S⟩:=MH.1 e;have T:Vt aa (UP s i):=h.v _ (by unfold UP;simp[oO,hi]);exact Qgh G f _ I E (QdD G T _ _ _ (yr h) J) S
  cases e;exact h
theorem Qmc {aa:List QF}(I:∀a∈aa,Zb a)(J:¬∃a∈aa,a.st=0):UK aa (qE aa):=by
 refine⟨λt E=>?_,by simp[qE]⟩;simp only[qE,oF]at E;subst E;refine⟨od,λi S G=>?_⟩;have T:=(I aa[i] (Lk G)).st0;have U:aa[i].st≠0:=λe=>J ⟨aa[i],Lk G,e⟩;simp only[List.getElem_replicate];omega
theorem qh {aa:List QF}(E:∀a∈aa,Zb a){z:QF×List (LI)}(h:xd aa=some z):(∀t∈z.2,Vt aa t)/\z.2.length<=4096:=by
 unfold xd at h;split at h
 ·cases h;simp
 rename_i G;obtain⟨s,I,rfl⟩:=M4.1 h;have:=Qgh E _ _ _ _ (Qmc E G) I;exact⟨this.v,this.le⟩
def opC (p s:QF):Int:=if XK p≠0 then XK p else if XK s≠0 then XK s else if mrg (λp q=>p && !q) s.al p.al=[]then 0 else 9
def opE (p s:QF):Int:=if opC p s≠0 then opC p s else match xd [p,s]with|none=>3|some _=>0
def opQ (p s:QF):List (LI):=match xd [p,s]with|none=>[]|some z=>z.2
def Qow (l:LI):Int:=(l.drop 1).foldl max (O2 l 0)
theorem YX {b:Nat}{v:OY}{a:QF}(h:Y1 N ↑w v a)(hb:b<N)(G:O1 [b] w w'):Y1 N ↑w' v a:=by
 obtain⟨va,vm,ve,I,J⟩:=h;refine⟨va,vm,ve,I,λL S=>?_⟩;exact((J (b::L) (λc E=>by rcases Ll.1 E with rfl|E;exact hb;exact S c E)).st (G.Y od)).up (λc E=>.inl (Lm _ E))
theorem QiY {b:Nat}{v:OY}{l:List (LI)}(h:Qdh N ↑w v l)(hb:b<N)(G:O1 [b] w w'):Qdh N ↑w' v l:=by
 obtain⟨ps,I,J⟩:=h;refine⟨ps,I,λL S=>?_⟩;exact((J (b::L) (λc E=>by rcases Ll.1 E with rfl|E;exact hb;exact S c E)).st (G.Y od)).up (λc E=>.inl (Lm _ E))
theorem Xa {H:xw}{v:OY}{a:QF}(h:Y1 N H v a):∃us,v=sT us/\us.length=4/\ZH us:=by
 obtain⟨va,vm,ve,E,G⟩:=h;have:=G [] od;exact⟨[va,sS a.st,vm,ve],E,O,this.al.one,O,this.mr.one,this.ed.one,Z⟩
theorem Qar {L:LN}{a:QF}(h:Zr L ↑w va vm ve a):
  QT sV 246 [.agg #[va,sS a.st,vm,ve]] w λr w'=>sW w w'/\∃v,r=.tuple #[v,sS (XK a)]/\(XK a≠0->v=zA)/\(XK a=0->Y1 ↑w ↑w' v (X0 a)):=by
 refine Zn func246 ?_;refine Qc<|Zd [va,sS a.st,vm,ve] λb1 w1 V hm Y=>QP [nS,sS 0,nS,nS] λb2 w2 G hn I=>Qb ?_;have J:=V.D G;refine Qe<|Qc<|QY (Y.I G) O O<|Qw<|(YV (h.I J)).Y ?_;rintro r3 w3 ⟨rfl,E⟩;refine Qb ?_;have ho:=V.size;refine Ql<|ZI O O<|xe<|Za rfl (λS=>?_) (λS=>?_)
 ·refine Qc<|x (QB Z)<|Qa<|Q0 [nS,sS 0,nS,nS] (I.I E) oy λw4 hh hj=>Qb<|Qj ⟨[zA,sS (XK a)],⟨Jm hj,O,Z⟩,(J.D E).O hh oa,zA,O,λ_=>O,λe=>OS e S⟩
 have T:XK a=0:=Lr.1 S;have hp:=I.lt;have U:=J.D E;refine Qf<|Qc<|QY ((Y.I G).I E) O O<|Qw<|(Kd (h.I U) ((ZF a).1 T)).Y ?_;rintro v w5 ⟨ha,hF⟩;obtain⟨us,he,hf,hk⟩:=Xa hF;have hq:=E.size;refine Qo<|Zk (us:=us) ((I.I E).I ha) O he hf O hk λw6 hg hl =>
  Qb<|Qj ⟨[sT us,sS 0],⟨⟨_,O,ZB hf (hl.at (L:=[]) od).cells⟩,rfl,Z⟩,(U.D ha).O hg oa,v,by rw[T,he];rfl,λe=>OS T e,λ_=>?_⟩
 exact(YX hF oa hg).Y U.size
def gget:List ((Int×Int)×Int)->Int×Int->Option Int
 | [],_=>none
 | (k',v)::m,k=>if k'=k then some v else gget m k
def gput:List ((Int×Int)×Int)->Int×Int->Int->List ((Int×Int)×Int)
 | [],k,v=>[(k,v)]
 | (k',v')::m,k,v=>if k'=k then(k',v)::m else(k',v')::gput m k v
def QpO (s:QF)(cls:LI)(x:Nat)(m:List ((Int×Int)×Int))(v:Int):List ((Int×Int)×Int):=gput m (O2 cls x,v) (O2 cls (to0 s x v).toNat)
def QpL (s:QF)(l:List Vw)(cls:LI)(z:LI×List ((Int×Int)×Int))(x:Nat):LI×List ((Int×Int)×Int):=
 if O2 cls x<0 then z else(if((lget l x).mk' && (lget l x).ps)=true then Ql5 z.1 (O2 cls x)else z.1,(lget l x).en.foldl (QpO s cls x) z.2)
def Qoh (s:QF)(l:List Vw)(cls:LI):LI×List ((Int×Int)×Int):=(oN 0 cls.length).foldl (QpL s l cls) ([],[])
def QpN (m:List ((Int×Int)×Int))(c:Nat)(v:Int):Option Ed:=(gget m ((c:Int),v)).map λt=>((c:Int),v,t)
def QpM (m:List ((Int×Int)×Int))(al:LI)(n:Nat):List Ed:=(oN 0 n).flatMap λc=>al.filterMap (QpN m c)
def QpP (s:QF)(l:List Vw)(cls:LI):QF:=⟨s.al,Qow cls+1,(Qoh s l cls).1,QpM (Qoh s l cls).2 s.al (Qow cls+1).toNat⟩
def red (p s:QF):QF:=QpP s (ctls p s (opQ p s)) (QoU p s (opQ p s))
def xF (p s:QF):Int:=if opE p s≠0 then opE p s else if opQ p s=[]then 0 else XK (red p s)
theorem Xh {l:LI}(h:i<l.length):O2 l i∈l:=by rw[<-Zu h];exact Lk h
theorem Zf (a:α){Q:Prop}(h:∀b,a=b->Q):Q:=h a O
theorem jl {H:xw}{a:QF}{J S I:Nat}(V:QK H J 3 (a.al.map (.int .i64)))(Y:QK H S 3 (a.mr.map (.int .i64)))(h3:QK H T 179 (a.ed.flatMap Qp))(g1:N<=J)(g2:N<=S)(g3:N<=T)
  (l1:a.al.length=E) (l2:a.mr.length=G) (l3:a.ed.length=I) (m1:E<=1000) (m2:G<=1000) (m3:I<=1000):
  Y1 N H (.agg #[sL J E E,sS a.st,sL S G G,sL T I I]) a:=by
 subst l1 l2 l3;refine⟨_,_,_,O,λL U=>⟨?_,?_,?_⟩⟩
 ·exact V.arr (λhb=>oo (U _ hb)) od oa (Lp _)
 ·exact Y.arr (λhb=>oo (U _ hb)) od oa (Lp _)
 exact h3.arr (λhb=>oo (U _ hb)) (by rw[KE _ 3 Jz]) oa (Lp _)
end Go.Lg
namespace Go.Lg
abbrev xt:=Fr->xu
end Go.Lg
