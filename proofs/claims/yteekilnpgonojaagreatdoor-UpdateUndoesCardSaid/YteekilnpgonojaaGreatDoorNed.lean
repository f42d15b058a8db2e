/- Merged out of 73 texts. -/
import Derived.Test.YteekilnpgonojaaGreatDoorNec
import Derived.Shelf.SlicesE.Compact
import Derived.Shelf.SlicesE.DeleteFunc
import Derived.Ground.SlgnProg
import Derived.ChangeSame
import Derived.Carry
import Derived.OpenShut
import Derived.RowKit
import Derived.ChangeSlices
import Derived.WideShapes
import Derived.ProofKit
import Derived.ChangeArms
import Derived.Lib.LaidTab
import Derived.Stop.LaidErr
import Derived.MakeChecks
import Derived.Laws.Small
set_option maxHeartbeats 40000000
set_option maxRecDepth 100000
set_option linter.all false
open Go Go.Lg
open Go.Value renaming int->oF
open Go.IntKind renaming i64->oG
open _root_.List renaming mem_singleton->oI,not_mem_nil->oJ,mem_cons->oL,length_append->oM,replicate->oN,length_singleton->oO,length->oP,getD->oQ,range'->oR,all_cons->oS,range->oT,map_cons->oX,append_assoc->o0,length_drop->o6,length_take->Oa,length_map->Oc,size_toArray->Od,flatMap_cons->Oe,getElem?_eq_getElem->Of,map_append->Oi,nil_append->Ok,singleton_append->Ov,append_nil->Ox,mem_map->Oz,mem_range'_1->OA,mem_filter->OF,take_append->OK,map_nil->OL,flatMap_nil->OM
open _root_.Bool renaming and_eq_true->oK,false_eq_true->OE
open _root_.Nat renaming zero_add->oY,add_mul->Oo,add_zero->OC,lt_or_ge->OH,sub_zero->OI,zero_mul->OP,zero_le->OR
open _root_.Array renaming getElem?_eq_getElem->Oj,getElem?_mapIdx->Ow
open _root_.Int renaming toNat_natCast->Ot
open _root_.Option renaming map_some->Oy,isSome_none->OD
open Go renaming World->O1,Value->O2,Operand->O3,Program->O4
open Go.Proofs Go.Proofs.Tryz
variable {w w' W':O1}{L L' X ds ns:LN}{n t i sz b T j E g N id o ty cap b1 B kt lo hi b2 G bp gf gp:Nat}{cs us news capt:LV}{H:xC}{a:Q9}{α β:Type}{y:O3}{z va ve vm vt v' vl vs vx vb vk:O2}{l u al ul out rs:LI}{c:ZB}{f f1:Fr}{P:O4}{fn:Func}{lf:Lf}{s:Int}{es:List Ed}{d:xF}{af:xD}{gd:xt}{K:xz}{k':IntKind}{qs:List IV}{co:List Xt}{ops:xE}{rest:xu}{qx:List XV}{ks:List KV}
namespace Go.Lg
open Go.Lg Go.Sort
abbrev Rz:={ x:Int×Int×Int×Int // 0<=x.1/\x.1<4096 }
instance:Inhabited Rz:=⟨⟨(0,0,0,0),og⟩⟩
abbrev qT (x:Rz):LV:=[oF oG x.1.1,oF oG x.1.2.1,oF oG x.1.2.2.1,oF oG x.1.2.2.2]
abbrev RzO (base:Nat)(w:O1)(v:O2)(l:List Rz):Prop:=w.ownsRow base 241 4 v l.length (l.flatMap qT)
theorem Qqe (x y:Rz)(W:O1):Calls prog 241 #[.agg (qT x).toArray,.agg (qT y).toArray] W λe w'=>e=.returned (oF oG (x.1.1 - y.1.1))/\∃q os',w'=grow (W.drewN q) os':=by
 have E:IntKind.i64.wrap (x.1.1 - y.1.1)=x.1.1 - y.1.1:=YJ ⟨ov x.2 y.2,ov x.2 y.2⟩
 go_enter func241,ntmps241
 go_wp2
 go_ret;exact⟨by rw[<-E];rfl,0,_,by rw[alloc_eq_grow,alloc_eq_grow,grow_grow];rfl⟩
theorem QaD (x:Rz):(qT x).length=4:=rfl
theorem QaC:∀l:List Rz,(l.flatMap qT).length=l.length*4
 | []=>rfl
 | x::l=>by rw[LH,Lk,QaC l,QaD,LS];omega
theorem Qeq {l:List Rz}(I:j<l.length*4):(l.flatMap qT)[j]?=some ((flatK qT 4 l.toArray)[j]!):=by
 have E:j / 4<l.length:=Nat.div_lt_of_lt_mul oa;have G:j % 4<4:=NM _ og;rw[get_flatK _ _ _ _ (oz I)];have J:=XH qT 4 QaD l (j / 4) E;have O:(l.flatMap qT)[j]?=(qT (l[j / 4]'E))[j % 4]?:=by
  rw[<-J,LU,OU G,ME];congr 1;omega
 rw[O];have S:(l.toArray)[j / 4]! = l[j / 4]'E:=by simp[E]
 rw[S];have H:j % 4<(qT (l[j / 4]'E)).length:=G;exact(LF H).D (OV some (getElem!_pos (qT (l[j / 4]'E)) (j % 4) H).symm)
theorem QhI:SWO (ltOf λx y:Rz=>x.1.1 - y.1.1) where
 irrefl x:=by unfold ltOf;simp
 trans x y z h1 h2:=by unfold ltOf at *;simp at *;omega
 ntrans x y z h1 h2:=by unfold ltOf at *;simp at *;omega
def qS (l:List Rz):List Rz:=(pdq (ltOf λx y:Rz=>x.1.1 - y.1.1) l.toArray 0 l.toArray.size (Go.Lib.bitLen l.toArray.size) true true).toList
theorem zO (l:List Rz):(qS l).length=l.length:=by
 have h:=(pdq_sorts (ltOf λx y:Rz=>x.1.1 - y.1.1) QhI l.toArray 0 l.toArray.size (Go.Lib.bitLen l.toArray.size) true true (Ln _) (Lu _) (Or.inl U)).1.1;unfold qS;simpa using h
theorem QfJ {base:Nat}{v:O2}{l:List Rz}(h:RzO base w v l)(hl:l.length<=1099511627776):
  Q6 prog 240 [v,.func (.func 241) #[] #[]] w λ_ w'=>O5 (ob v) w w'/\RzO base w' v (qS l):=by
 unfold Q6;rcases h.2 with⟨rfl,h0⟩|⟨g,cap,cur,rfl,hb,I,hf,hh,hm,ho⟩
 ·have hp:l=[]:=Lp h0;subst hp;have H:=AnyF.slices_SortFunc_none Tryz.sortRm none 0 (.func (.func 241) #[] #[]) w;change Calls prog 240 _ _ _ at H;refine Calls.mono H λe w' J=>?_;obtain⟨rfl,rfl⟩:=J;rw[show qS []=[] from Lp (zO [])];exact⟨O5.Z _ _,h⟩
 have V:g<w.heap.size:=(LG.1 I).1;have hH:HoldsK qT 4 w g 0 l.toArray:=by
  intro j E;rw[size_flatK,LP]at E;have Y:=Qeq E;rw[<-ho,LU,OU E]at Y;constructor
  ·show(match w.heap[g]? with|some (.cells c _ _)=>if(none:Option _).isSome then none else c[0+j]?|_=>none)=_
   rw[I];simp only[oY,OD,OE,if_false];rw[<-Mo,Y];rfl
  show(match w.heap[g]? with|some (.cells _ _ (lo,hi))=>decide (lo<=0+j) && decide (0+j<hi)|_=>false)=false
  rw[I];simp
 have eg:∀args w,(callFunc 241 args).run prog w=.ok (.enter 241 args) w:=enters_of func241 od U;have H:=AnyQ.slices_SortFunc_eq Tryz.sortRm 4 isAgg241 sizeOf241 qT QaD (λx v hv=>by simp at hv;rcases hv with rfl|rfl|rfl|rfl <;> rfl) (λx y=>x.1.1 - y.1.1) QhI 241 #[] g 0 cap l.toArray w eg (λm os dk _ x y=>Qqe x y _) hH V (by simp;omega)
 change Calls prog 240 _ _ _ at H;rw[LP]at H;refine Calls.mono H λe w' J=>?_;obtain⟨rfl,n,os,rfl⟩:=J;refine Zk (qS l).toArray λG O=>?_;have S:G.size=l.length:=by rw[<-O];simpa using zO l
 have hq:qS l=G.toList:=by rw[<-O]
 have ha:pdq (ltOf λx y:Rz=>x.1.1 - y.1.1) l.toArray 0 l.toArray.size (Go.Lib.bitLen l.toArray.size) true true=G:=by rw[<-O];unfold qS;simp
 rw[LP]at ha;rw[ha,hq];have T:(sortWorldK qT 4 w g 0 n G os).heap=w.heap.modify g (onCells (putCells id 0 (flatK qT 4 G)))++os:=rfl;refine⟨⟨rfl,U,U,?_,λk hk hn=>?_⟩,?_⟩
 ·rw[T,MT,Md];omega
 ·rw[T,Mh,Md,OU hk,Mv,OT (λe=>hn (by simp[ob,e]))]
 refine⟨QaC _,.inr ⟨g,cap,putCells id 0 (flatK qT 4 G) cur,by simp[S],hb,?_,by simp[S];exact hf,hh,by simp[putCells,hm],?_⟩⟩
 ·rw[T,Mh,Md,OU V,Mv,OU rfl,I];rfl
 apply M2;intro j;rw[LU];by_cases E:j<G.toList.length*4
 ·rw[OU E,Qeq E,Mo];have hr:j<cur.size:=by simp[S]at E;omega
  have hs:j<(flatK qT 4 G).size:=by simpa using E
  simp only[putCells,Ow,Oj hr,Oy,OR,oY,true_and,OU hs,OI,id]
 rw[OT E,MS];rw[QaC];omega
theorem QnW (G:ZE a)(J:a.st=(n:Int))(hl:lf.length=n):∀x∈nxs a ul lf,0<=x/\x<(n:Int):=λx hx=>by
 have E:=Qii x hx;have O:x.toNat<n:=by
  refine Decidable.byContradiction λh=>?_;unfold lft at E;simp[oQ,List.getElem?_eq_none (show lf.length<=x.toNat by omega)]at E
 unfold nxs at hx;split at hx
 ·obtain⟨p,H,rfl⟩:=LC.1 hx;obtain⟨_,e,I,S,_⟩:=(QaS a ul lf).1 p H;have:=G.ed e I;omega
 have:=((UQ lf (dsts a lf) 0).1 x hx).2;omega
abbrev Q4:=Int×Int×Int×Int
abbrev q4C (x:Q4):LV:=[oF oG x.1,oF oG x.2.1,oF oG x.2.2.1,oF oG x.2.2.2]
theorem Qh1 (x:Q4):(q4C x).length=4:=rfl
def Qnw (x:Q4):Rz:=if h:0<=x.1/\x.1<4096 then⟨x,h⟩else default
theorem Qbv:∀l:List Rz,(l.map (·.1)).map Qnw=l
 | []=>rfl
 | x::l=>by
  rw[LK,LK,Qbv l];congr 1;unfold Qnw;rw[dif_pos x.2]
theorem QlZ (l:List Rz):(l.map (·.1)).flatMap q4C=l.flatMap qT:=by rw[List.flatMap_map]
def rmR (rk:Int)(r:Int×xx):List Q4:=r.2.map λp=>(p.1,rk,r.1,p.2)
def rmL (a:Q9)(ul:LI):Nat->Int->Lf->List Q4
 | 0,_,_=>[]
 | f+1,rk,lf=>if(nxs a ul lf).length=0 then[]else rmR rk (nxR a ul lf)++rmL a ul f (rk+1) ((nxs a ul lf).foldl cut lf)
theorem QhO {f:Nat}{rk:Int}(h:(nxs a ul lf).length=0):rmL a ul f rk lf=[]:=by
 cases f with
 | zero=>rfl
 | succ f=>rw[rmL,OU h]
theorem QhN {f:Nat}{rk:Int}(h:(nxs a ul lf).length≠0):rmL a ul (f+1) rk lf=rmR rk (nxR a ul lf)++rmL a ul f (rk+1) ((nxs a ul lf).foldl cut lf):=by rw[rmL,OT h]
def rmF (fb:LI):List Q4:=fb.map λy=>(y,1,1,-1)
def rmA (a:Q9)(fb ul:LI):List Q4:=rmF fb++rmL a ul (a.st.toNat+1) 2 (lf0 a.st.toNat fb)
def rmS (a:Q9)(fb ul:LI):List Q4:=(qS ((rmA a fb ul).map Qnw)).map (·.1)
def kpI (lf:Lf)(n:Nat):LN:=(oT n).filter λi=>lf.getD i false
def kpK (lf:Lf)(n:Nat):LI:=(kpI lf n).map λi:Nat=>(i:Int)
def kpD (lf:Lf)(D:LI)(n:Nat):LI:=(kpI lf n).map λi=>O6 D i
theorem QpR (h:lf.getD n false=true):kpI lf (n+1)=kpI lf n++[n]:=by
 unfold kpI;rw[Ny,L5,Mf,OU h];rfl
theorem QpS (h:lf.getD n false=false):kpI lf (n+1)=kpI lf n:=by
 unfold kpI;rw[Ny,L5,Mf,OT (by rw[h];decide)];exact LQ _
structure jm (L:LN)(H:xC)(c0 c1 c2:O2)(a:Q9)(fb ul:LI):Prop where
 k:QQ L H c0 (kpK (QaF a fb ul) a.st.toNat)
 d:QQ L H c1 (kpD (QaF a fb ul) (dsts a (QaF a fb ul)) a.st.toNat)
 r:Zn L H c2 (rmS a fb ul).length 4 ((rmS a fb ul).flatMap q4C)
theorem jm.st {L:LN}{w w':O1}{c0 c1 c2:O2}{a:Q9}{fb ul:LI}(h:jm L w.heap c0 c1 c2 a fb ul)(E:O5 L w w'):jm L w'.heap c0 c1 c2 a fb ul:=⟨h.k.st E,h.d.st E,h.r.st E⟩
theorem jm.up {L L':LN}{H:xC}{c0 c1 c2:O2}{a:Q9}{fb ul:LI}(h:jm L H c0 c1 c2 a fb ul)(E:∀b∈L',b∈L\/H.size<=b):jm L' H c0 c1 c2 a fb ul:=⟨h.k.up E,h.d.up E,h.r.up E⟩
theorem Qm4 {rk rs:Int}:∀(l:xx),(∀x∈l.map (·.1),0<=x/\x<4096)->∃lz:List Rz,lz.flatMap qT=l.flatMap (rmC rk rs)/\lz.length=l.length/\lz.map (·.1)=rmR rk (rs,l)
 | [],_=>⟨[],U,U,U⟩
 | x::l,h=>by
  obtain⟨lz,E,G,H⟩:=Qm4 (rk:=rk) (rs:=rs) l (λy I=>h y (Lj _ I));exact⟨⟨(x.1,rk,rs,x.2),h x.1 Lr⟩::lz,by rw[LH,LH,E],by simp[G],by rw[LK,H];rfl⟩
theorem Qey:∀l:List Rz,∀u∈l.flatMap qT,u.oneCell'=true
 | [],u,h=>by cases h
 | x::l,u,h=>by
  rw[LH,Lc]at h;rcases h with h|h
  ·simp only[qT,oL,oJ,or_false]at h;rcases h with rfl|rfl|rfl|rfl <;> rfl
  exact Qey l u h
theorem RzO.snoc {base:Nat}{v:O2}{l m:List Rz}(h:w.ownsRow base 241 4 v (l.length+m.length) (l.flatMap qT++m.flatMap qT)):RzO base w v (l++m):=by
 unfold RzO;rw[Lk,LA];exact h
abbrev K9 (k d r:O2)(n:Int):LV:=[k,d,r,oF oG n,nS,oF oG 0,nS,nS,nS]
structure ReI (b10:Nat)(q:Pz)(wB:O1)(lf:Lf)(rn:Int)(vr:O2)(lz:List Rz)(w:O1):Prop where
 st:O5 [b10,q.bl] wB w
 B10:Zb w.heap b10 224 (K9 (nS) (nS) vr rn)
 R:RzO wB.heap.size w vr lz
 F:Zb w.heap q.bl 4 (lf.map Value.bool)
 n:lf.length=q.n
section
variable {b10:Nat}{q:Pz}{wB w'':O1}{rn:Int}{vr:O2}{lz:List Rz}
theorem ReI.I (h:ReI b10 q wB lf rn vr lz w)(E:O5 [] w w'):ReI b10 q wB lf rn vr lz w':=⟨h.st.D E,h.B10.I E,Qp h.R E,h.F.I E,h.n⟩
theorem ReI.cut (h:ReI b10 q wB lf rn vr lz w)(l:q.bl<wB.heap.size)(ne:b10≠q.bl)(G:O5 [q.bl] w w'){H:Lf}(I:Zb w'.heap q.bl 4 (H.map Value.bool))(J:H.length=q.n):ReI b10 q wB H rn vr lz w' :=
 ⟨h.st.then G (λb E=>.inl (by simp only[oI]at E;simp[E])),h.B10.J G (oz ne),Qg h.R G (λb E=>by have:=(Qi h.R b E).1;simp only[oI];omega),I,J⟩
theorem ReI.app (h:ReI b10 q wB lf rn vr lz w)(l:q.bl<wB.heap.size)(T:b10<wB.heap.size)(ne:b10≠q.bl){G:O2}{I:List Rz}{J:Int}(O:O5 (ob vr) w w')(hR:RzO wB.heap.size w' G I)(H:O5 [b10] w' w'')
  (S:Zb w''.heap b10 224 (K9 (nS) (nS) G J)):ReI b10 q wB lf J G I w'':=by
 have hge:=Qi h.R;exact⟨(h.st.then O (λb E=>.inr (hge b E).1)).then H (λb E=>.inl (by simp only[oI]at E;simp[E])),S,Qg hR H (λb E=>by have:=(Qi hR b E).1;simp only[oI];omega),
  (h.F.J O (λE=>ou (hge _ E).1)).J H (oz ne.symm),h.n⟩
theorem ReI.rounds (h:ReI b10 q wB lf rn vr lz w)(J:b10<wB.heap.size)(ne:b10≠q.bl){H:Int}(G:O5 [b10] w w')(I:Zb w'.heap b10 224 (K9 (nS) (nS) vr H)):ReI b10 q wB lf H vr lz w' :=
 ⟨h.st.then G (λb E=>.inl (by simp only[oI]at E;simp[E])),I,Qg h.R G (λb E=>by have:=(Qi h.R b E).1;simp only[oI];omega),h.F.J G (oz ne.symm),h.n⟩
end
theorem QfR {vf vu:O2}{forb unc:LI}(h:ZH [] w.heap va vm ve a)(h7:ZE a)(hf:QQ [] w.heap vf forb)(ke:∀x∈forb,0<=x/\x<a.st)(hfl:forb.length<=4096)(hu:QQ [] w.heap vu unc):
  Q6 prog 164 [.agg #[va,oF oG a.st,vm,ve],vf,vu,.bool true] w λr w'=>O5 [] w w'/\∃c0 c1 c2 c3 sa sm se o,r=.agg #[c0,c1,c2,c3,sa,oF oG (Qav a forb unc).st,sm,se,o] /\
   Zr [c0,c1,c2,c3,o]/\∀L:LN,(∀b∈L,b<w.heap.size)->ZH L w'.heap sa sm se (Qav a forb unc)/\jm L w'.heap c0 c1 c2 a forb unc:=by
 have hst0:=h7.st0;have hst1:=h7.st1;obtain⟨n,hn⟩:∃n:Nat,a.st=n:=⟨a.st.toNat,oa⟩;have h8:a.st.toNat=n:=oa
 have hS:Qav a forb unc=Qhv a (zX a unc (n+1) (lf0 n forb)):=by unfold Qav QaF;rw[h8]
 have mu:rmA a forb unc=rmF forb++rmL a unc (n+1) 2 (lf0 n forb):=by unfold rmA;rw[h8]
 have gm:QaF a forb unc=zX a unc (n+1) (lf0 n forb):=by unfold QaF;rw[h8]
 refine Zk (Qav a forb unc) λSA mv=>?_;rw[mv]at hS ⊢;refine Zq func164 ?_;refine Qc<|Qe<|QS (us:=[va,oF oG a.st,vm,ve]) U λb4 w1 kf hb4 mw=>Qe<|Qo (us:=K9 (nS) (nS) (nS) 0) U λb8 w2 kg hb8 kh=>xe ?_;have hT:=kf.D kg;have hl8:=kh.lt;have hz1:=kf.size;refine Qc<|Q5 (mw.I kg) U U<|Qa<|Qa<|QM<|(Qhx (h.I hT) h7 hn (hf.I hT) ke (hu.I hT)).mono ?_;rintro r3 w3 ⟨ki,bp,q,rfl,my,mz,m2,hbl,hP,hF⟩;refine Qb ?_;subst my mz m2;have hq:PzQ q:=⟨h7,hn⟩;have m3:=hT.D ki;have hlF:=hF.lt;refine Qc<|Qe<|Qo (us:=K9 (nS) (nS) (nS) 0) U λb10 O h9 m4 kj=>xe ?_;have gn:=m3.D h9;have hz4:=h9.size;have hU:=kj.lt;have ht:b10≠q.bl:=oa
 have go:q.bl<O.heap.size:=oa
 have m5:PzA [b10,q.bl] O.heap bp q:=(hP.up (λb E=>by
  simp only[oL,oJ,or_false]at E;rcases E with rfl|rfl
  ·exact .inr m4
  exact .inl oe)).I h9
 have m6:=QlD q.n forb;have hA:∀{w'},O5 [b10,q.bl] O w'->PzA [] w'.heap bp q:=λhs=>(m5.st hs).up oe;refine Qd<|Qm<|QK (hf.I gn) U<|Qa<|xe<|Qf<|QD (α:=Nat×Int×O2×List Rz) [(12,12),(25,39)] (λz=>[(25,oF oG z.1)]) (λz w'=>z.1<=forb.length/\ReI b10 q O (lf0 q.n forb) z.2.1 z.2.2.1 z.2.2.2 w'/\z.2.2.2.length=z.1/\(z.2.1=0\/z.2.1=1)/\z.2.2.2.map (·.1)=rmF (forb.take z.1)) (λz=>forb.length - z.1) ol (0,0,nS,[]) La
  ⟨Ln _,⟨O5.Z _ _,kj,QL _ _ _ _,hF.I h9,m6⟩,U,.inl U,U⟩ ?_
 rintro⟨k,rn,vr,lz⟩ g w5 ⟨hk,I,gp,hV,hW⟩;simp only[]at hk I gp hV hW;have m7:QQ [] w5.heap vf forb:=((hf.up (L':=[b10,q.bl]) (λb E=>by
  simp only[oL,oJ,or_false]at E;exact .inr oa)).I gn |>.st I.st).up oe
 refine Qc<|QZ U U<|xe<|Qd<|QG U (λgq=>?_) (λgq=>?_)
 ·refine Qy ?_;have hcl:=Qmv (lf0 q.n forb);have m8:forb.length<=k:=by have hX:¬(k:Int)<(forb.length:Int):=gq;omega
  rw[Lt m8]at hW;refine Qd<|Qc<|Qb<|Qf<|QD (α:=Nat×Nat×Int×O2×List Rz×Lf) [(13,14),(16,16),(40,71)] (λz=>[(13,oF oG z.2.1)])
   (λz w'=>ReI b10 q O z.2.2.2.2.2 z.2.2.1 z.2.2.2.1 z.2.2.2.2.1 w'/\z.2.1+z.1=q.n+3/\z.2.2.2.2.1.length<=4096+z.2.1*1000000/\zX q.a q.unc z.1 z.2.2.2.2.2=zX q.a q.unc (q.n+1) (lf0 q.n forb)/\V8 z.2.2.2.2.2+1<=z.1/\z.2.2.2.2.1.map (·.1)++rmL q.a q.unc z.1 (z.2.1:Int) z.2.2.2.2.2=rmA q.a forb q.unc) (λz=>z.1) ol
   (q.n+1,2,rn,vr,lz,lf0 q.n forb) La ⟨I,oh,oh,U,oh,by rw[mu];simp only[hW];rfl⟩ ?_
  rintro⟨f,rank,rn,vr,lz,lf⟩ g w6 ⟨I,m9,gp,hB,pa,hC⟩;simp only[]at I m9 gp hB pa hC;refine Qd<|Qf<|Qm<|Qa<|Qa<|QM<|(Qh6 (hA I.st) hq I.F I.n rank).mono ?_;rintro r7 w7 ⟨hY,hE,kk⟩;have hh:=Qlr q.a q.unc lf;have kn:=λ(f:Nat) (h:(nxs q.a q.unc lf).length≠0)=>QhN (a:=q.a) (ul:=q.unc) (f:=f) (rk:=(rank:Int)) (lf:=lf) h;refine Zk (nxR q.a q.unc lf) λNR pc=>?_;rw[pc]at hE kk hh kn;obtain⟨rs,l⟩:=NR;simp only[]at hE kk hh;refine Qb ?_;have T:=I.I hY;have ko:Zn [] w7.heap r7 l.length 4 (l.flatMap (rmC rank rs)):=QJ hE oa oe;have gr:(nxs q.a q.unc lf).length=l.length:=by rw[<-hh,Lh]
  have gs:=QnW (ul:=q.unc) h7 hn I.n;rw[<-hh]at gs;refine Qd<|Qm<|QK ko U<|x (Q0 U U)<|xe<|QY U (λgt=>?_) (λgt=>?_)
  ·refine Qy ?_;have hG:l.length=0:=by have h49:(l.length:Int)=0:=gt;omega
   rw[QfT (by rw[gr];exact hG)]at hB;rw[QhO (by rw[gr];exact hG),LQ]at hC;rw[<-hB]at hS gm;refine Qc<|Q2 U<|Qs U T.B10 U U<|QM<|(QfJ T.R oa).mono ?_;rintro r8 V ⟨he,gu⟩;have pd:rmS q.a forb q.unc=(qS lz).map (·.1):=by unfold rmS;rw[<-hC,Qbv]
   refine xe ?_;have hge:=Qi T.R;have gv:O5 [b10,q.bl] O V:=T.st.then he (λb E=>.inr (hge b E).1);have gw:Zb V.heap b10 224 (K9 (nS) (nS) vr rn):=T.B10.J he (λE=>ou (hge _ E).1);have kq:Zb V.heap q.bl 4 (lf.map Value.bool):=T.F.J he (λE=>ou (hge _ E).1);have kr:=Qt gu;have hz8:=gv.size;refine Qd<|Qm<|QM<|(UI (hA gv) hq kq T.n).mono ?_;rintro r9 H ⟨Y,bD,rfl,hbD,kt,hZ⟩;refine Zk (dsts q.a lf) λD hD=>?_;rw[hD]at kt hZ;have ku:QQ [b10] H.heap (.slice (some ⟨bD,0,none⟩) q.n q.n) D:=by
    have S:=kt.arr (L:=[b10]) om (n:=q.n) (cap:=q.n) (sz:=1) (by simp[hZ]) oa (Lu _);unfold QQ;rw[hZ];exact S
   have pf:=gv.D Y;have hz9:=Y.size;have pg:=kq.I Y;refine QK ku U<|Qa<|xe<|Qf<|QD (α:=Nat×O2×O2×LI×LI) [(17,18),(79,107)] (λz=>[(79,oF oG z.1)])
    (λz w'=>z.1<=D.length/\O5 [b10] H w'/\Zb w'.heap b10 224 (K9 z.2.1 z.2.2.1 vr rn)/\Qu 3 H.heap.size w' z.2.1 z.2.2.2.1/\Qu 3 H.heap.size w' z.2.2.1 z.2.2.2.2/\Dj z.2.1 z.2.2.1/\z.2.2.2.1.length<=z.1/\z.2.2.2.2.length<=z.1/\z.2.2.2.1=kpK lf z.1/\z.2.2.2.2=kpD lf D z.1) (λz=>D.length - z.1) ol (0,nS,nS,[],[]) La
    ⟨Ln _,O5.Z _ _,gw.I Y,QL _ _ _ _,QL _ _ _ _,Dj.nil' _,Lu _,Lu _,U,U⟩ ?_
   rintro⟨i,vk,vd,lk,ld⟩ g hH ⟨hi,ha,hJ,hK,hp,ga,ph,pj,gb,gc⟩;simp only[]at hi hJ hK hp ga ph pj gb gc;have hz10:=ha.size;have gg:O5 [b10,q.bl] O hH:=pf.then ha (λb E=>.inl (by simp only[oI]at E;simp[E]));have kv:Zb hH.heap q.bl 4 (lf.map Value.bool):=pg.J ha (oz ht.symm);refine Qc<|QZ U U<|xe<|Qd<|QG U (λgx=>?_) (λgx=>?_)
   ·refine Qy<|Qm<|QM<|(ya (hA gg) hq kv T.n).mono ?_;rintro r11 pm ⟨hr,_,o,rfl,⟨sa,sm,se,rfl,gy⟩,gz⟩;rw[<-hS]at gy;have hv:=gy [] oe;refine Qa<|Q7 U U<|Q7 U U<|Q2 U<|Qe<|YB (us:=[sa,oF oG SA.st,sm,se]) (hJ.I hr) U (by rw[<-hS];rfl) U oe ⟨hv.al.one,rfl,hv.mr.one,hv.ed.one,Z⟩ rfl λw12 gh pn =>
     Q2 rfl<|Qe<|QB (j:=8) (u:=o) pn U U oe gz λw13 gi po=>xe ?_
    have pp:b8∉[b10,q.bl]:=oq
    have kw:b8∉[b10]:=om
    have pu:=(((((kh.I (ki.D h9)).J gg pp).I hr).J gh kw).J gi kw);refine Qc<|Q5 po U U<|Qe<|Qj (us:=[vk,vd,vr,oF oG rn,sa,oF oG SA.st,sm,se,o]) pu U U U U ⟨Qt hK,Qt hp,kr,U,hv.al.one,U,hv.mr.one,hv.ed.one,gz,Z⟩ λpw g0 pz=>xe ?_;have p0:∀b∈[b10,q.bl],w.heap.size<=b:=λb E=>by simp only[oL,oJ,or_false]at E;omega
    have p1:O5 [] w pw:=((((gn.then gg (λb E=>.inr (p0 b E))).D hr).O gh oa).O gi oa).O g0 oa;refine Qk ⟨[.agg #[vk,vd,vr,oF oG rn,sa,oF oG SA.st,sm,se,o]],⟨⟨_,U,Qn U (pz.at (L:=[]) oe).cells⟩,Z⟩,p1,vk,vd,vr,oF oG rn,sa,sm,se,o,rfl,⟨Qt hK,Qt hp,kr,rfl,gz,Z⟩,λL hL=>?_⟩;have gj:∀N,O.heap.size<=N->∀b∈b10::b8::L,b<N:=λN hN b E=>by
     simp only[oL]at E;rcases E with rfl|rfl|E
     ·omega
     ·omega
     have:=hL b E;omega
    have S:=gy (b10::b8::L) (gj _ oa);have h2:=((S.st (gh.mono oe)).st (gi.mono oe)).st (g0.mono oe);have p2:i=q.n:=by have p3:¬(i:Int)<(D.length:Int):=gx;omega
    subst p2;have hrl:(qS lz).length=lz.length:=zO lz;have h3:jm (b10::b8::L) hH.heap vk vd vr q.a forb q.unc:=by
     refine⟨?_,?_,?_⟩
     ·rw[gm,h8,<-gb];exact Qu.ints hK oa (gj _ oa)
     ·rw[gm,h8,hD,<-gc];exact Qu.ints hp oa (gj _ oa)
     rw[pd,Lh,QlZ];have p4:=Qi gu;refine(((QJ gu oa (λb E hbL=>ov (p4 b E).1 (gj _ (Lu _) b hbL)):Zn (b10::b8::L) V.heap vr (qS lz).length 4 ((qS lz).flatMap qT)).I Y).st (ha.mono oe))
    have h4:=((((h3.st (hr.any)).st (gh.mono oe)).st (gi.mono oe)).st (g0.mono oe)).up (L':=L) (λb E=>.inl (by simp[E]));exact⟨h2.up (λb E=>.inl (by simp[E])),h4⟩
   refine Qh ?_;have hw:i<D.length:=by have p3:(i:Int)<(D.length:Int):=gx;omega
   have g2:i<lf.length:=by rw[T.n,<-hZ];exact hw
   have p5:lf[i]'g2=lf.getD i false:=by simp[oQ,g2]
   refine Qd<|Qf<|Qm<|xii (i:=i) (ku.st ha) U U hw λa82 kx=>?_;refine Zk (D[i]'hw) λd hd=>?_;rw[hd]at kx;refine x (QA kx U)<|x Ql<|Qb<|Qm<|Yl U<|Qs U (hA gg).B U U<|Qa<|x (Zu (i:=i) U U oa)<|x (v:=.bool (lf.getD i false)) ((J2 (i:=i) kv U g2).D (by rw[p5]))<|xe<|QX U (λg3=>?_) (λg3=>?_)
   ·have hM:∀{v:O2} {l:LI} {w':O1},Qu 3 H.heap.size w' v l->b10∉ob v:=λho G=>ou (Qi ho b10 G).1
    refine Qc<|Q2 U<|Qs U hJ U U<|Qa<|Qe<|QC (us:=[[oF oG i]]) U U og oe ⟨rfl,rfl,Z⟩ λb95 y1 hz hb95 p6=>Qe<|Za (m:=1) (news:=[oF oG i]) (L:=[]) (Qp hK hz) rfl rfl rfl (p6.at oe) (by simp[Value.oneCell']) oa (ou hz.size) λhO y2 kz gk p7 =>
     Q2 rfl<|Q2 U<|Qe<|QB (j:=0) (u:=hO) ((hJ.I hz).J gk (hM hK)) U U oe (Qt kz) λy3 g4 k0=>xe ?_
    have p8:Qu 3 H.heap.size y2 hO (lk++[(i:Int)]):=Qu.snoc kz;have hzy1:=hz.size;have hzy2:=gk.size;have hzy3:=g4.size;have p9:Qu 3 H.heap.size y2 vd ld:=Qg (Qp hp hz) gk (λb E G=>ga b G E);have k4:Dj hO vd:=λb E G=>by
     rcases p7 b E with S|S
     ·exact ga b S G
     have:=Zc hp b G;omega
    have k5:∀{v:O2} {l:LI},Qu 3 H.heap.size y2 v l->Qu 3 H.heap.size y3 v l:=λho=>Qg ho g4 (λb E G=>by simp only[oI]at G;subst G;exact hM ho E);have k6:=k5 p8;have hD3:=k5 p9;have qc:O5 [b10] H y3:=(((ha.D hz).then gk (λb E=>.inr (Qi hK b E).1))).Q g4;refine Qw<|Q2 U<|Qs U k0 U U<|Qa<|Qe<|QC (us:=[[oF oG d]]) U U og oe ⟨rfl,rfl,Z⟩ λb103 y4 h5 hb103 qf=>Qe<|Za (m:=1) (news:=[oF oG d]) (L:=[]) (Qp hD3 h5) rfl rfl rfl (qf.at oe) (by simp[Value.oneCell']) oa (ou h5.size) λg5 y5 k7 g6 ql =>
     Q2 rfl<|Q2 U<|Qe<|QB (j:=1) (u:=g5) ((k0.I h5).J g6 (hM hD3)) U U oe (Qt k7) λy6 g7 qo=>xe ?_
    have k8:Qu 3 H.heap.size y5 g5 (ld++[d]):=Qu.snoc k7;have k9:=QpR (lf:=lf) (n:=i) g3;have qr:O6 D i=d:=by unfold O6;simp[oQ,hw,hd]
    have ma:Qu 3 H.heap.size y5 hO (lk++[(i:Int)]):=Qg (Qp k6 h5) g6 (λb E G=>k4 b E G);have hzy4:=h5.size;refine Qw<|QP U U<|Qa<|xe<|⟨(i+1,hO,g5,_,_),oh,La,hw,(((qc.D h5).then g6 (λb E=>.inr (Qi hD3 b E).1))).Q g7,qo,Qg ma g7 (λb E G=>by simp only[oI]at G;subst G;exact hM ma E),Qg k8 g7 (λb E G=>by simp only[oI]at G;subst G;exact hM k8 E),λb E G=>?_,by simp only[oM,oO];omega,by simp only[oM,oO];omega,by simp only[];unfold kpK;rw[k9,Ls,gb];rfl,by simp only[];unfold kpD;rw[k9,Ls,gc,<-qr];rfl⟩;rcases ql b G with S|S
    ·exact k4 b E S
    have:=Zc k6 b E;omega
   refine Qh<|Qw<|QP U U<|Qa<|xe ?_;have mf:=QpS (lf:=lf) (n:=i) g3;exact⟨(i+1,vk,vd,lk,ld),oh,La,hw,ha,hJ,hK,hp,ga,oh,oh,by unfold kpK;rw[mf];exact gb,by unfold kpD;rw[mf];exact gc⟩
  refine Qh ?_;have hG:¬l.length=0:=λe=>gt (by show(l.length:Int)=0;omega);have g8:(nxs q.a q.unc lf).length≠0:=by rw[gr];exact hG
  have q0:=Qij g8;refine Exists.elim (Nat.exists_eq_succ_of_ne_zero (show f≠0 by omega)) λf' q1=>?_;subst q1;rw[QfS g8,<-hh]at hB;rw[kn f' g8,<-hh]at hC;rw[<-hh]at q0;refine Exists.elim (Qm4 (rk:=(rank:Int)) (rs:=rs) l (λx hx=>ou (gs x hx))) λln h6=>?_;refine Qd<|Qm<|QK ko U<|Qa<|xe<|Qf<|QD (α:=Nat) [(16,16),(51,62)] (λz=>[(51,oF oG z)]) (λz w'=>z<=l.length/\O5 [q.bl] w7 w'/\ReI b10 q O (((l.take z).map (·.1)).foldl cut lf) rn vr lz w') (λz=>l.length - z) ol 0 La ⟨Ln _,O5.Z _ _,T⟩ ?_;rintro j g V ⟨hj,he,J⟩;have hV:∀b∈ob r7,b≠q.bl:=λb E e=>ov (Qi hE b E).1 I.st.size
  have q2:RmO w6.heap.size V r7 rank rs l:=Qg hE he (λb E G=>hV b E (oz G));have mg:Zn [q.bl] V.heap r7 l.length 4 (l.flatMap (rmC rank rs)):=QJ q2 oa (λb E G=>hV b E (oz G));refine Qc<|QZ U U<|xe<|Qd<|QG U (λg9=>?_) (λg9=>?_)
  ·refine Qy ?_;have q3:l.length<=j:=by have gl:¬(j:Int)<(l.length:Int):=g9;omega
   rw[Lt q3]at J;obtain⟨ad,cap7,q4,_,q5⟩:∃ad cap,r7=.slice (some ad) l.length cap/\l.length<=cap/\At [q.bl] V.heap ad (l.flatMap (rmC rank rs)):=by
    rcases mg.2.2 with⟨_,h0⟩|S
    ·exact OW h0 hG
    exact S
   refine Qc<|Q2 U<|Qs U J.B10 U U<|Qa<|Qe<|Za (m:=l.length) (news:=l.flatMap (rmC rank rs)) (L:=[q.bl]) J.R U q4 (by rw[<-h6.1,QaC,h6.2.1]) q5 (by rw[<-h6.1];exact Qey ln) oa J.st.size λka j1 mh mj hn22 =>
    Q2 rfl<|Q2 U<|Qe<|QB (j:=2) (u:=ka) (J.B10.J mj (λE=>ou (Qi J.R _ E).1)) U U oe (Qt mh) λw23 j2 j3=>xe ?_
   have za:RzO O.heap.size j1 ka (lz++ln):=RzO.snoc (by rw[h6.1,h6.2.1];exact mh);have mo:=J.app go hU ht mj za j2 j3;refine Qw<|Qa<|Q2 U<|Qe<|QB (j:=3) (u:=oF oG rank) mo.B10 U U oe rfl λw24 zb zv=>xe ?_;have z0:=mo.rounds hU ht zb zv;have z1:(-9223372036854775808:Int)<=(rank:Int)+1:=oa
   have z2:(rank:Int)+1<=9223372036854775807:=oa
   refine Qw<|Qa<|x (XR U U ⟨z1,z2⟩)<|Qb<|⟨(f',rank+1,(rank:Int),ka,lz++ln,(l.map (·.1)).foldl cut lf),oh,La,z0,oh,by simp only[oM];omega,hB,oh,by simp only[Oi,h6.2.2];rw[LB];exact hC⟩
  refine Qh ?_;have hg:j<l.length:=by have gl:(j:Int)<(l.length:Int):=g9;omega
  have z3:l.take (j+1)=l.take j++[l[j]'hg]:=Lm hg;have mq:((l.take (j+1)).map (·.1)).foldl cut lf=cut (((l.take j).map (·.1)).foldl cut lf) (l[j]'hg).1:=by rw[z3,Ls,MD];rfl
  have z4:=gs (l[j]'hg).1 (LO (Ll hg));refine Zk (l[j]'hg) λy hy=>?_;rw[hy]at mq z4;have z5:y.1=(y.1.toNat:Int):=oa
  refine Qd<|Qf<|Qc<|O8 (g:=rmC rank rs) (i:=j) (Qer rank rs) mg U U hg λa53 gl=>?_;rw[hy]at gl;refine x (Qx gl U U)<|Qe<|Qo (us:=[oF oG 0,oF oG 0,oF oG 0,oF oG 0]) U λb16 H Y hb16 kb=>Qe<|Qj (us:=rmC rank rs y) kb U U U U oC λhH ha kb=>xe ?_;have ms:O5 [] V hH:=Y.O ha hb16;have kc:=J.I ms;have hnn:=J.n;refine ZD [] (Xb 0 8 [7])<|p QE<|p (Xh U)<|p (QR U)<|pq (λ_ hc=>Qq ((hA kc.st).B.I hc) U U)<|p (QR U)<|pq (λ_ hc=>Qq (kb.I hc) U U) <|
   p (λ_=>Zu (i:=y.1.toNat) U (OV (Value.int .i64) z5) oa)<|pkl (hl:=by kernel_rfl)<|yd (i:=y.1.toNat) (kc.F.I (O5.C _ _)) U U oa λpm hr hF11=>pe ?_
  refine Qw<|QP U U<|Qa<|xe<|⟨j+1,oa,La,hg,((he.D ms).D (O5.C _ _)).Q hr,?_⟩;rw[mq];exact(kc.I (O5.C _ _)).cut go ht hr hF11 (by rw[Qfc];exact hnn)
 refine Qh ?_;have hQ:k<forb.length:=by have hX:(k:Int)<(forb.length:Int):=gq;omega
 have hxk:=ke _ (Ll hQ);refine Zk (forb[k]'hQ) λy hy=>?_;rw[hy]at hxk;refine Qd<|Qf<|Qc<|xii (i:=k) m7 U U hQ λa27 hX=>?_;rw[hy]at hX;refine x (QA hX U)<|Qb<|Qc<|Q2 U<|Qs U I.B10 U U<|Qa<|x (Qz ⟨U,U,U,U,Z⟩)<|Qe<|QC (us:=[[oF oG y,oF oG 1,oF oG 1,oF oG (-1)]]) U U og oe ⟨rfl,rfl,Z⟩ λb34 w6 hs6 hb34 hB34=>?_;have hR:=I.I hs6;refine Qe<|Za (m:=1) (news:=[oF oG y,oF oG 1,oF oG 1,oF oG (-1)]) (L:=[]) hR.R U U U (hB34.at oe) (by simp[Value.oneCell']) oa hR.st.size λv7 w7 mt hY hn7 =>
  Q2 rfl<|Q2 U<|Qe<|QB (j:=2) (u:=v7) (hR.B10.J hY (λE=>ou (Qi hR.R _ E).1)) U U oe (Qt mt) λV he gw=>xe ?_
 have hR7:RzO O.heap.size w7 v7 (lz++[⟨(y,1,1,-1),oh⟩]):=RzO.snoc mt;have hfk:rmF (forb.take (k+1))=rmF (forb.take k)++[(y,1,1,-1)]:=by unfold rmF;rw[Lm hQ,Ls,hy];rfl
 have J:=hR.app go hU ht hY hR7 he gw;refine Qw<|Q2 U<|Qe<|QB (j:=3) (u:=oF oG 1) J.B10 U U oe rfl λH Y hB9=>xe ?_;have hI9:=J.rounds hU ht Y hB9;refine Qw<|QP U U<|Qa<|xe ?_;exact⟨(k+1,1,v7,_),oh,La,hQ,hI9,by simp only[oM,oO];omega,.inr U,by simp only[Oi,hW,hfk];rfl⟩
instance:Bw prog 224 (K9 (nS) (nS) (nS) 0) [(0,3),(3,1),(4,4),(8,1)]:=⟨od,og⟩
theorem QnC {pl:Q9}{ps:List (LI)}{l:List (LI)}:∀r∈spF c pl ps l,0<=r.st/\r.st<(l.length:Int):=λr G=>by
 unfold spF at G;obtain⟨⟨t,i⟩,H,E⟩:=MX.1 G;have hi:=List.snd_lt_add_of_mem_zipIdx H;simp only[oY]at hi;have I:r.st=(i:Int):=by
  simp only[]at E;unfold rsn at E;split at E
  ·cases E;rfl
  split at E
  ·cases E;rfl
  cases E
 omega
theorem QnA (h:Y0 c=0):ZE (spc c).a/\(∀x∈fbs (spc c),0<=x/\x<(spc c).a.st)/\(fbs (spc c)).length<=4096/\(spc c).fb.length<=4096/\Ke c.ev=0:=by
 unfold Y0 at h;by_cases G:Zl c≠0
 ·rw[OU G]at h;exact OW h G
 rw[OT G]at h;have V:Zl c=0:=Lo.1 G;have H:=Z5 V;by_cases I:UT (O7 c.co)≠0
 ·rw[OU I]at h;exact OW h I
 rw[OT I]at h;cases J:xp (O7 c.co)with
 | none=>rw[J]at h;cases h
 | some z =>
  rw[J]at h;simp only[]at h;by_cases O:UT (O7 c.co++O7 c.rq)≠0
  ·rw[OU O]at h;exact OW h O
  rw[OT O]at h;cases S:xp (O7 c.co++O7 c.rq)with
  | none=>rw[S]at h;cases h
  | some y =>
   have T:∀a∈O7 c.co++O7 c.rq,ZE a:=λa E=>by
    rcases Lc.1 E with E|E
    ·exact YW H.co a E
    exact YW H.rq a E
   have hsp:=(Jw T (A:=y.1) (Q:=y.2) S).1;have Y:=Qdc (c:=c) (pl:=z.1) (ps:=z.2) (sa:=y.1) (ts:=y.2) J S;have hl:=Qem c z.1 z.2 y.2;have hb:=hsp.le;rw[Y];unfold fbs;refine⟨hsp.okay T,λx hx=>?_,by rw[Lh];simp only[];omega,oh,H.e0⟩;obtain⟨r,hr,rfl⟩:=LC.1 hx;have:=QnC r hr;rw[hsp.st];exact this
theorem st4 (r:Rsn):(ZX r).length=4:=rfl
theorem Qc7 {c:CL}(h0:ZK L w.heap c)(hN:Kb w 4096):
  Q6 prog 95 [c.val] w λr w'=>O5 [] w w'/\∃us c0 c1 c2 c3 sa sm se o,r=.tuple #[.agg us.toArray,.agg #[c0,c1,c2,c3,sa,oF oG (if Y0 c.V=0 then(suA c.V).st else 0),sm,se,o],oF oG (Y0 c.V)]/\us.length=8/\Zr us/\Zr [c0,c1,c2,c3,sa,sm,se,o] /\
   (Y0 c.V≠0->sa=nS/\sm=nS/\se=nS)/\(Y0 c.V=0->∀L:LN,(∀b∈L,b<w.heap.size)->ZH L w'.heap sa sm se (suA c.V)/\jm L w'.heap c0 c1 c2 (spc c.V).a (fbs (spc c.V)) (unc c.V.ev)):=by
 have h:=h0.up (L':=[]) oe;have hj:suA c.V=Qav (spc c.V).a (fbs (spc c.V)) (unc c.V.ev):=rfl;have hO:c.V.ev=c.ev:=rfl;have hm:=QnA (c:=c.V);refine Zk (suA c.V) λSA hP=>?_;rw[hP]at hj ⊢;refine Zk (Y0 c.V) λE hE=>?_;rw[hE]at hm ⊢;refine Zk (spc c.V) λS hS=>?_;rw[hS]at hm hj ⊢;rw[hO]at hm hj ⊢;refine Zq func95 ?_;refine Qc<|Qe<|QS (us:=c.cells) U λb1 w1 h9 gu hA=>Qe<|Qo (us:=[nS,oF oG 0,nS,nS,nS,nS,nS,nS]) U λb2 w2 hy gv hn=>Qe<|Qo (us:=K9 (nS) (nS) (nS) 0) U λb3 w3 ho gw hp=>Qb ?_;have hz:=(h9.D hy).D ho;have gx:=h9.size;have gy:=hn.lt;have gz:=hp.lt;have hsp:=yR (h.I hz) (hN.I hz);rw[hE,hS]at hsp;refine Qc<|Q5 ((hA.I hy).I ho) U U<|QM<|hsp.mono ?_;rintro r4 w4 ⟨he,v,rfl,⟨us,rfl,h2,h3⟩,hF⟩;have g0:=he.size;refine Qa<|Q7 U U<|Q7 U U<|Qe<|Qo (us:=[nS,oF oG 0,nS,nS,nS,nS,nS,nS]) U λb5 w5 hQ hR hf=>Qe<|Qj (us:=us) hf U U h2 U h3 λw6 hT hf=>Qb ?_;have T:O5 [] w4 w6:=hQ.O hT hR;have h4:=(hz.D he).D T;have hB:=(hn.I (ho.D he)).I T;have hC:=(hp.I he).I T;have g2:=hf.lt;refine Qd<|Qm<|ZA U U<|xe<|QY rfl (λhq=>?_) (λhq=>?_)
 ·refine Qc<|x (Zf [] Z)<|x (Zf [] Z)<|Qa<|Qe<|Qj (us:=[nS,oF oG 0,nS,nS,nS,nS,nS,nS]) hB U U U U ⟨U,U,U,U,U,U,U,U,Z⟩ λw7 G hV =>
   Qe<|Qj (us:=K9 (nS) (nS) (nS) 0) (hC.J G om) U U U U ⟨U,U,U,U,U,U,U,U,U,Z⟩ λw8 hs hW=>Qb<|Qk ⟨[.agg #[nS,oF oG 0,nS,nS,nS,nS,nS,nS],.agg (K9 (nS) (nS) (nS) 0).toArray,oF oG E],⟨⟨_,U,Qn U ((hV.J hs om).at (L:=[]) oe).cells⟩,⟨_,rfl,Qn rfl (hW.at (L:=[]) oe).cells⟩,rfl,Z⟩,(h4.O G oa).O hs oa,[nS,oF oG 0,nS,nS,nS,nS,nS,nS],nS,nS,nS,oF oG 0,nS,nS,nS,nS,by rw[OT hq];rfl,U,⟨U,U,U,U,U,U,U,U,Z⟩,⟨U,U,U,U,U,U,U,U,Z⟩,λ_=>⟨U,U,U⟩,λe=>OW e hq⟩
 have ht:E=0:=Lo.1 hq;obtain⟨hX,hY,hZ,g3,hD⟩:=hm ht;obtain⟨va,vm,ve,v1,v2,v3,v4,cos,rqs,ga,_,_,gb⟩:=hF ht;have gc:us=[va,oF oG S.a.st,vm,ve,v1,v2,v3,v4]:=by
  have h1:=OV (λv=>match v with|Value.agg a=>a.toList|_=>[]) ga
  simpa using h1
 subst gc;have hG:=(gb [] oe);have gg:=hG.1.I T;have hH:=hG.2.2.2.2.I T;refine Qh<|Qc<|Qb<|Qd<|Qc<|Qs U hf U U<|QK hH U<|Qa<|xe<|Qf<|QD (α:=Nat×O2) [(7,7),(9,9),(24,33)] (λz=>[(7,z.2),(24,oF oG z.1)]) (λz w'=>z.1<=S.fb.length/\O5 [] w6 w'/\Qu 3 w6.heap.size w' z.2 ((S.fb.take z.1).map (·.st))) (λz=>S.fb.length - z.1) ol (0,nS) oA ⟨Ln _,O5.Z _ _,QL _ _ _ _⟩ ?_;rintro⟨k,vf⟩ g w7 ⟨hk,G,J⟩;simp only[]at hk J;refine Qc<|QZ U U<|xe<|Qd<|QG U (λh5=>?_) (λh5=>?_)
 ·refine Qy ?_;have gh:S.fb.length<=k:=by have hu:¬(k:Int)<(S.fb.length:Int):=h5;omega
  rw[Lt gh]at J;have J:Qu 3 w6.heap.size w7 vf (fbs S):=J;have gi:=h4.D G;have gj:=G.size;refine Qc<|Q2 U<|x (Qq ((hA.I (hy.D ho)).I ((he.D T).D G)) U U)<|QM<|(QgX (h.ev.I gi)).mono ?_;rintro g4 O ⟨V,vu,rfl,hU⟩;rw[OU hD]at hU;refine Qa<|Q7 U U<|Q7 U U<|x Ql<|Qb<|Qd<|Qm<|ZA U U<|xe<|QY U (λgk=>OW hD gk) (λ_=>?_);refine Qh ?_;have h2:(unc c.ev).length<=1099511627776:=LJ (QaZ _ c.ev 0) h.ev.arr.le;have Y:=G.D V;have gl:=gg.I Y;have hv:O5 [] O { O with drawn:=O.drawn+1 }:=O5.C _ _
  have hI:=hf.I Y;have hJ:b5∉[b2]:=om
  have g5:=Y.size;refine Qd<|ZD [b2] (Xb 0 9 [5,6,7])<|pq (λ_ hc=>ZY (hI.J hc hJ) U U)<|p (QR U)<|pq (λ_ hc=>Zj (us:=[va,oF oG S.a.st,vm,ve]) (hI.J hc hJ) U U U) <|
   p QE<|p QE<|pk<|xg<|(QfR (gl.I hv) hX (((Qu.ints (L:=[]) J oa oe).I V).I hv) hY hZ ((Qu.ints (L:=[]) hU h2 oe).I hv)).mono ?_
  rintro g6 g7 ⟨gm,c0,c1,c2,c3,sa,sm,se,o,rfl,H,h6⟩;have hg:=hv.D gm;refine⟨hg.any,?_⟩;have hK:Qav S.a (fbs S) (unc c.ev)=SA:=hj.symm;rw[hK]at h6;have ha:=(h6 [] oe).1;refine pk<|Qj (us:=[va,oF oG S.a.st,vm,ve,v1,v2,v3,v4]) ((hB.I Y).I hg) U U U U h3 λg8 hh hn=>⟨hg.any.Q hh,?_⟩;refine pkl (hl:=by kernel_rfl)<|Qj (us:=[c0,c1,c2,c3,sa,oF oG SA.st,sm,se,o]) (((hC.I Y).I hg).J hh om) U (by rw[<-hK];rfl) U U ⟨H.1,H.2.1,H.2.2.1,H.2.2.2.1,ha.al.one,U,ha.mr.one,ha.ed.one,H.2.2.2.2.1,Z⟩ λg9 hw hp=>p ZN<|pe ?_;have gn:b2∉[b3]:=om
  refine Qk ⟨[.agg #[va,oF oG S.a.st,vm,ve,v1,v2,v3,v4],.agg #[c0,c1,c2,c3,sa,oF oG SA.st,sm,se,o],oF oG 0],⟨⟨_,U,Qn U ((hn.J hw gn).at (L:=[]) oe).cells⟩,⟨_,rfl,Qn rfl (hp.at (L:=[]) oe).cells⟩,rfl,Z⟩,
   (((h4.D Y).D hg).O hh oa).O hw oa,_,c0,c1,c2,c3,sa,sm,se,o,by rw[ht,OU rfl];rfl,U,h3,⟨H.1,H.2.1,H.2.2.1,H.2.2.2.1,ha.al.one,ha.mr.one,ha.ed.one,H.2.2.2.2.1,Z⟩,λe=>OW ht e,λ_ L hL=>?_⟩
  have h1:=h6 (b2::b3::L) (λb I=>by
   have ka:({ O with drawn:=O.drawn+1 }:O1).heap.size=O.heap.size:=rfl
   simp only[oL]at I;rcases I with rfl|rfl|I
   ·omega
   ·omega
   have:=hL b I;omega)
  exact⟨((h1.1.st (hh.mono oe)).st (hw.mono oe)).up (λb I=>.inl (by simp[I])),((h1.2.st (hh.mono oe)).st (hw.mono oe)).up (λb I=>.inl (by simp[I]))⟩
 refine Qh ?_;have hi:k<S.fb.length:=by have hu:(k:Int)<(S.fb.length:Int):=h5;omega
 have hM:S.fb.take (k+1)=S.fb.take k++[S.fb[k]'hi]:=Lm hi;have kb:((S.fb.take k).map (·.st)).length=k:=by rw[Lh,Ly];omega
 refine Zk (S.fb[k]'hi) λr hr=>?_;rw[hr]at hM;refine Qd<|Qf<|Qc<|O8 (g:=ZX) (i:=k) st4 (hH.I G) U U hi λkc hu=>?_;rw[hr]at hu;refine x (Qx hu U U)<|Qe<|Qo (us:=[oF oG 0,oF oG 0,oF oG 0,oF oG 0]) U λb9 w8 hs go h7=>Qe<|Qj (us:=ZX r) h7 U U U U oC λw9 gp h7=>xe ?_;have h8:O5 [] w7 w9:=hs.O gp go;have ke:=h8.size;have gj:=G.size;refine Qw<|Qa<|Qs U h7 U U<|Qe<|QC (us:=[[oF oG r.st]]) U U og oe ⟨rfl,rfl,Z⟩ λkf O V kg gq =>
  Qe<|Za (m:=1) (news:=[oF oG r.st]) (L:=[]) (Qp J (h8.D V)) U U U (gq.at oe) (by simp[Value.oneCell']) oa (ou V.size) λgr kh gs gt ki=>Qb<|Qw<|QP U U<|Qa<|xe ?_
 refine⟨(k+1,gr),oh,oA,hi,((G.D h8).D V).then gt (λb I=>.inr (Qi J b I).1),?_⟩;simp only[];rw[hM,Ls];exact Qu.snoc gs
theorem QlC {n:Int}(h:Zb H b T [oF oG n])(E:b∉L):QQ L H (.slice (some ⟨b,0,none⟩) 1 1) [n]:=
 h.arr E (n:=1) (cap:=1) (sz:=1) U oa (Lu _)
theorem Qit {c:CL}{q:MV}(h0:ZK L w.heap c)(h9:QQ L w.heap q.v q.co):
  Q6 prog 94 [c.val,.agg #[oF oG q.kd,oF oG q.ix,q.v]] w λr w'=>O5 [] w w'/\∃us,r=.tuple #[.agg us.toArray,oF oG (mcE c.V q.m)]/\us.length=5/\Zr us/\(mcE c.V q.m≠0->us=Z6)/\(mcE c.V q.m=0->Qed w.heap.size w'.heap (.agg us.toArray) (K3 c.V q.m)):=by
 have h:=h0.up (L':=[]) oe;have Y:=h9.up (L':=[]) oe;have O:mcE c.V q.m=if mdE c.V q.m≠0 then mdE c.V q.m else QaB c.V (prt q.m):=rfl
 have hA:K3 c.V q.m=QfM c.V (prt q.m):=rfl;rw[hA];refine Zk (mcE c.V q.m) λE hE=>?_;rw[hE]at O ⊢;refine Zq func94 ?_;refine Qc<|Qe<|QS (us:=c.cells) U λb2 w1 ht hS hh=>Qe<|QS (us:=Xn q) U λb3 w2 ha hT hu=>Qe<|Qo (us:=Z6) U λb4 w3 S hU hv=>Qb ?_;have hi:=(ht.D ha).D S;have hV:=ht.size;have hW:=ha.size;have hX:=hv.lt;refine Qd<|Qc<|Q5 ((hh.I ha).I S) U U<|Q5 (hu.I S) U U<|QM<|(Qga (h.I hi) (Y.I hi)).mono ?_;rintro r4 w4 ⟨rfl,T⟩;refine Qb ?_;have hw:=hi.D T;have hY:=T.size;have hB:=((hh.I ha).I S).I T;have hj:=(hu.I S).I T;have hy:=hv.I T;refine Qm<|ZA U U<|xe<|QY rfl (λhc=>?_) (λhc=>?_)
 ·rw[OU hc]at O;subst O;refine Qc<|x (Qz Z)<|Qa<|Qe<|Qj (us:=Z6) hy U U U U ⟨U,U,U,U,U,Z⟩ λw5 hC hD=>Qb<|Qk ⟨[.agg Z6.toArray,oF oG (mdE c.V q.m)],⟨⟨_,U,Qn U (hD.at (L:=[]) oe).cells⟩,rfl,Z⟩,hw.O hC oa,Z6,rfl,rfl,⟨rfl,rfl,rfl,rfl,rfl,Z⟩,λ_=>rfl,λh0=>OW h0 hc⟩
 rw[OT hc]at O;subst O;refine Qh<|Qc<|Qs U hj U U<|x (Qz ⟨Y.cells,Z⟩)<|Qe<|Qo (us:=[nS,nS,nS,nS]) U λb7 w6 hF hG hH=>Qe<|Qj (us:=[q.v,nS,nS,nS]) hH U U U U ⟨Y.one,U,U,U,Z⟩ λw7 hI hz =>
  xe ?_
 have h2:O5 [] w4 w7:=hF.O hI hG;have hZ:=hz.lt;refine Qc<|Qs U (hj.I h2) U U<|Qe<|QC (us:=[[oF oG q.ix]]) U U og oe ⟨rfl,rfl,Z⟩ λI w8 hk ga hJ =>
  Qb ?_
 have he:=h2.D hk;have hK:=hw.D he;have gb:=hk.size;have hl:=hz.I hk;have hM:w.heap.size<=b7:=oa
 refine Q3 (α:=O2×O2×O2) [(22,33)] (λ_=>[]) (λz w'=>O5 [b7] w8 w'/\Zb w'.heap b7 309 [q.v,z.1,z.2.1,z.2.2]/\QQ [] w'.heap z.1 (prt q.m).rq/\QQ [] w'.heap z.2.1 (prt q.m).ex/\QQ [] w'.heap z.2.2 (prt q.m).cs) ol ?_ ?_
 ·have hn:∀{w':O1},O5 [b7] w8 w'->QQ [] w'.heap (.slice (some ⟨I,0,none⟩) 1 1) [q.ix]:=λhs=>QlC (hJ.J hs om) oe;refine Qc<|Qs U (hj.I he) U U<|xe<|Qf<|Qc<|x (Q0 U U)<|Qb<|QY U (λho=>?_) (λho=>?_)
  ·have hk1:q.kd=1:=ho;refine Qw<|Qa<|Q2 U<|Qe<|QB (j:=1) (u:=.slice (some ⟨I,0,none⟩) 1 1) hl U U oe rfl λJ G H=>xe ?_;refine⟨(.slice (some ⟨I,0,none⟩) 1 1,nS,nS),Z,G,H,?_,?_,?_⟩
   ·show QQ _ _ _ (if q.kd=1 then[q.ix]else[]);rw[OU hk1];exact hn G
   ·show QQ _ _ _ (if q.kd=2 then[q.ix]else[]);rw[OT oa];exact KI _ _
   show QQ _ _ _ (if q.kd≠1/\q.kd≠2 then[q.ix]else[]);rw[OT oa];exact KI _ _
  have hk1:¬q.kd=1:=ho;refine Qc<|x (Q0 U U)<|Qb<|QY U (λhp=>?_) (λhp=>?_)
  ·have hf:q.kd=2:=hp;refine Qw<|Qa<|Q2 U<|Qe<|QB (j:=2) (u:=.slice (some ⟨I,0,none⟩) 1 1) hl U U oe rfl λJ G H=>xe ?_;refine⟨(nS,.slice (some ⟨I,0,none⟩) 1 1,nS),Z,G,H,?_,?_,?_⟩
   ·show QQ _ _ _ (if q.kd=1 then[q.ix]else[]);rw[OT hk1];exact KI _ _
   ·show QQ _ _ _ (if q.kd=2 then[q.ix]else[]);rw[OU hf];exact hn G
   show QQ _ _ _ (if q.kd≠1/\q.kd≠2 then[q.ix]else[]);rw[OT oa];exact KI _ _
  have hf:¬q.kd=2:=hp;refine Qw<|Qa<|Q2 U<|Qe<|QB (j:=3) (u:=.slice (some ⟨I,0,none⟩) 1 1) hl U U oe rfl λJ G H=>xe ?_;refine⟨(nS,nS,.slice (some ⟨I,0,none⟩) 1 1),Z,G,H,?_,?_,?_⟩
  ·show QQ _ _ _ (if q.kd=1 then[q.ix]else[]);rw[OT hk1];exact KI _ _
  ·show QQ _ _ _ (if q.kd=2 then[q.ix]else[]);rw[OT hf];exact KI _ _
  show QQ _ _ _ (if q.kd≠1/\q.kd≠2 then[q.ix]else[]);rw[OU ⟨hk1,hf⟩];exact hn G
 rintro⟨v1,v2,v3⟩ g J ⟨G,H,h3,h4,h5⟩;simp only[]at H h3 h4 h5;have hg:O5 [] w J:=hK.O G hM;have gc:=G.size;have hN:Zb J.heap b2 44 c.cells:=(hB.I he).J G (by have:=hh.lt;simp only[oI];omega);have hO:Zb J.heap b4 44 Z6:=(hy.I he).J G om;refine Qc<|Q5 hN U U<|Q5 H U U<|QM<|(QdU (p:=prt q.m) (h.I hg) (Y.I hg) h3 h4 h5).mono ?_;rintro gg gh ⟨h6,us,rfl,hq,h7,hP,hQ⟩;refine Q7 rfl U<|Q7 U U<|Qe<|Qj (us:=us) (hO.I h6) U U hq U h7 λgi h8 hR=>Qb<|Qk ⟨[.agg us.toArray,oF oG (QaB c.V (prt q.m))],⟨⟨_,U,Qn hq (hR.at (L:=[]) oe).cells⟩,rfl,Z⟩,(hg.D h6).O h8 oa,us,rfl,hq,h7,hP,λe=>?_⟩;obtain⟨cl,e1,e2,e3⟩:=hQ e;refine⟨cl,e1,e2,λL hL=>?_⟩;have h1:=e3 (b4::L) (λb V=>by
  rcases Li.1 V with rfl|V
  ·omega
  have:=hL b V;have:=hg.size;omega)
 exact(h1.st (h8.mono oe)).up (λb V=>.inl (by simp[V]))
theorem yh (h:Qbi c):(O9 c).length<=96:=by have:=QaQ h 3 oa;rw[Qb3]at this;omega
instance ayZi1:Ay prog 29 3 28 27:=⟨od,od⟩
theorem Qew (p:Int×Int):∀u∈QI p,u.oneCell'=true:=by
 intro y E;simp only[QI,oL,oJ,or_false]at E;rcases E with rfl|rfl <;> rfl
instance ayAv1:Ay prog 23 5 5 1:=⟨underlying23,od⟩
def nm1 (c k:Nat):ByteArray:=⟨#[UInt8.ofNat (c+k)]⟩
def KM (k n:Nat):J9:=if 48<=n/\n<52 then⟨nm1 97 k,false,false,false,(n:Int) - 47⟩else
 ⟨nm1 97 k,decide (((n &&& 1:Nat):Int)=1),decide (((n &&& 2:Nat):Int)=2),decide (((n &&& 4:Nat):Int)=4),0⟩
def JO (ns:LN)(i:Nat):List J9:=(oT i).map λk=>KM k (ns.getD k 0)
theorem QdI (ns:LN)(i:Nat):JO ns (i+1)=JO ns i++[KM i (ns.getD i 0)]:=by
 unfold JO;rw[Ny,Ls];rfl
theorem VB (ns:LN)(i:Nat):(JO ns i).length=i:=by unfold JO;simp
theorem QcV (hn:ns.length=5)(hb:∀n∈ns,n<256):
  Q6 prog 33 [.agg (bys ns).toArray] w λr w'=>O5 [] w w'/\w'.ownsRow w.heap.size 183 5 r (JO ns 5).length ((JO ns 5).flatMap Zo):=by
 refine Zq func33 ?_;refine Qc<|Qe<|QS (us:=bys ns) U λb1 w1 hj hI hm=>Qb ?_;have hs:=hj.size;refine Qc<|Qb<|Qd<|Qc<|Qb<|Qf<|QD (α:=Nat×O2) [(3,53)] (λz=>[(3,z.2),(4,oF oG z.1)]) (λz w'=>z.1<=5/\O5 [] w1 w'/\w'.ownsRow w1.heap.size 183 5 z.2 (JO ns z.1).length ((JO ns z.1).flatMap Zo)) (λz=>5 - z.1) ol (0,Zz) oA
  ⟨Ln _,O5.Z _ _,QL _ _ _ _⟩ ?_
 rintro⟨k,v⟩ g w2 ⟨hk,T,J⟩;simp only[]at hk J;refine Qd<|Qm<|QZ U U<|xe<|QG rfl (λh7=>?_) (λh7=>?_)
 ·refine Qy ?_;have ht:k=5:=by have h8:¬(k:Int)<5:=h7;omega
  rw[ht]at J;refine Qm<|Qb<|Qk ⟨[v],La,hj.D T,Zv J hs⟩
 have G:k<5:=by have h8:(k:Int)<5:=h7;omega
 have q:=qw (ns:=ns) (j:=0+k*1) oa;have ql:=Jr hb (0+k*1);have hu:ns.getD (0+k*1) 0=ns.getD k 0:=by rw[show 0+k*1=k by omega]
 rw[hu]at q ql;have ho:=QdI ns k;have hJ:=VB ns k;refine Zk (ns.getD k 0) λn hv=>?_;rw[hv]at q ql ho;have hw:=hm.I T;refine Qh<|Qd<|Qf<|Qm<|x (Z3 (k':=.u8) U ⟨oa,oa⟩)<|QP U U<|Qe<|QC (us:=[[.int .u8 ((97:Int)+(k:Int))]]) U U og oe ⟨rfl,rfl,Z⟩ λb13 w3 ha hK hy=>?_;have h0:((97:Int)+(k:Int))=((97+k:Nat):Int):=oa
 have h1:Zb w3.heap b13 5 [.int .u8 ((97+k:Nat):Int)]:=by rw[<-h0];exact hy
 refine x (QnM (n:=97+k) h1 oa U)<|x (Qz ⟨U,Z⟩)<|Qe<|Qo (us:=[.string ⟨#[]⟩,.bool false,.bool false,.bool false,oF oG 0]) U λH w4 h2 hL h3=>Qe<|Qj (us:=Zo ⟨nm1 97 k,false,false,false,0⟩) h3 U U U U ⟨U,U,U,U,U,Z⟩ λw5 h4 hp =>
  xe ?_
 have he:O5 [] w2 w5:=(ha.D h2).O h4 (ou ha.size);have I:=hw.I he;have hM:=he.size;have hN:=ha.size;have hO:=hm.lt;have hP:=T.size;have hf:b1∉[H]:=om
 refine Q3 (α:=Unit) [(16,49)] (λ_=>[]) (λ_ w'=>O5 [H] w5 w'/\Zb w'.heap H 183 (Zo (KM k n))) ol ?_ ?_
 ·refine Q3 (α:=Bool) [(16,25)] (λz=>[(25,.bool z)]) (λz w'=>w'=w5/\(z=true↔48<=n/\n<52)) ol ?_ ?_
  ·refine Qw<|Qa<|x (ZZ (i:=k) U U G)<|Y7 I U q<|xb (Ys U U) (λhg=>?_) (λhg=>?_)
   ·have hq:(48:Int)<=(n:Int):=hg;refine Qa<|Qa<|x (ZZ (i:=k) U U G)<|Y7 I U q<|QZ U U<|QH U<|xe<|⟨decide ((n:Int)<52),La,U,?_⟩;rw[decide_eq_true_eq];omega
   have hq:¬(48:Int)<=(n:Int):=hg;refine Qa<|Qr<|Qr<|Qr<|Qr<|QH U<|xe ?_;exact⟨false,La,U,⟨λh=>(by cases h),λh=>OW oa hq⟩⟩
  rintro z g6 O ⟨rfl,hz⟩;refine QX U (λV=>?_) (λV=>?_)
  ·have E:=hz.1 V;refine Qw<|Qa<|x (ZZ (i:=k) U U G)<|Y7 I U q<|x (Z3 (k':=.i64) U ⟨oa,oa⟩)<|x (Jh U U ⟨oa,oa⟩)<|Q2 U<|Qe<|QB hp U U oe rfl λw7 S hh =>
    xe ?_
   refine⟨(),Z,S,?_⟩;unfold KM;rw[OU E];exact hh
  have E:¬(48<=n/\n<52):=λh=>by have:=hz.2 h;rw[this]at V;cases V
  have Y:O5 [] O { O with drawn:=O.drawn+1 }:=O5.C _ _
  refine ZD [H] (Xb 0 21 [16,18,20])<|p QE<|p (λ_=>ZZ (i:=k) U U G)<|pq (λ_ E=>Qq (I.J E hf) U q)<|p (λ_=>z7 (a:=n) (b:=1) U U ql og)<|p (λ_=>Q0 U U) <|
   p QE<|p (λ_=>ZZ (i:=k) U U G)<|pq (λ_ E=>Qq (I.J E hf) U q)<|p (λ_=>z7 (a:=n) (b:=2) U U ql og)<|p (λ_=>Q0 U U) <|
   p QE<|p (λ_=>ZZ (i:=k) U U G)<|pq (λ_ E=>Qq (I.J E hf) U q)<|p (λ_=>z7 (a:=n) (b:=4) U U ql og)<|p (λ_=>Q0 U U)<|?_
  refine p (QR U)<|pk<|QB (hp.I Y) U U oe rfl λw7 S hh=>⟨(Y.any (L:=[H])).Q S,?_⟩;refine p (QR U)<|pk<|QB hh U U oe rfl λw8 hr h5=>⟨((Y.any (L:=[H])).Q S).Q hr,?_⟩;refine p (QR U)<|pkl (hl:=by kernel_rfl)<|QB h5 U U oe rfl λw9 h6 h9=>pe ?_;refine⟨(),Z,(((Y.any (L:=[H])).Q S).Q hr).Q h6,?_⟩;unfold KM;rw[OT E];exact h9
 rintro _ g6 O ⟨hA,hB⟩;have hC:O5 [] w2 O:=he.O hA oa;refine Qw<|Qa<|Q5 hB U U<|Qe<|QC (us:=[Zo (KM k n)]) U U og (show 1*5<=1000000 by omega) oA λhQ hR hD hS hE=>?_;have hi:=hC.D hD;have hT:=hi.size;refine Qe<|Za (news:=Zo (KM k n)) (L:=[]) (Qp J hi) U U U (hE.at oe) (Qcg _) oa oa λhF hU hG hH hV =>
  Qb<|Qw<|Qa<|QP U U<|Qb<|⟨(k+1,hF),oh,oA,G,(T.D hi).then hH (λc E=>.inr (Qi J c E).1),?_⟩
 simp only[];rw[ho,Lk,LA];simpa using hG
def Ja (n m:Nat):LI:=(oT n).map λk:Nat=>if k<m then(k:Int)else -1
theorem jW {m k:Nat}(h:k<m):Ya (Jb m) (k:Int)=k:=by
 unfold Ya Jb;simp[oQ,h]
theorem Qp1 {fd R:LI}{t:Int}(G:fd=out++R)(E:t∈out):yp fd t=(out.idxOf t:Nat):=by
 subst G;unfold yp;rw[OU (Mc _ E),MA,OU E]
theorem Qon {fd R:LI}{t:Int}(E:fd=out++[t]++R)(G:t∉out):yp fd t=(out.length:Nat):=by
 subst E;unfold yp;rw[OU oe,LB,MA,OT G];simp
theorem jV {m k:Nat}(h:k<n):Ya (Ja n m) (k:Int)=if k<m then(k:Int)else -1:=by
 unfold Ya Ja;simp[oQ,h]
theorem Qik {m:Nat}:(Ja n m).set m (m:Int)=Ja n (m+1):=by
 apply Mt
 ·simp[Ja]
 intro k H G;have I:k<n:=by simpa[Ja]using G
 rw[M7];by_cases e:m=k
 ·subst e;simp[Ja]
 rw[OT e];simp only[Ja,List.getElem_map,List.getElem_range];by_cases E:k<m
 ·rw[OU E,OU oa]
 rw[OT E,OT oa]
theorem jF {R:Nat->List Ed}(hR:∀i,∀e∈R i,e.1=(i:Int))(j:Nat):∀n,Z4 ((oR 0 n).flatMap R) j=if j<n then R j else[]
 | 0=>by simp[Z4]
 | n+1=>by
  have E:Z4 (R n) j=if n=j then R n else[]:=by
   unfold Z4;by_cases e:n=j
   ·rw[OU e];exact NE.2 λx hx=>OX (by rw[hR n x hx,e])
   rw[OT e];exact Nn.2 λx hx=>by rw[decide_eq_true_eq,hR n x hx];omega
  rw[Mz,LA,LR];unfold Z4 at E ⊢;rw[L5];have ih:=jF hR j n;unfold Z4 at ih;rw[ih];simp only[Oe,OM,Ox];rw[E];by_cases G:j<n
  ·rw[OU G,OT oa,OU oa,LQ]
  rw[OT G];by_cases H:n=j
  ·subst H;rw[OU rfl,OU oa,L8]
  rw[OT H,OT oa];rfl
theorem zy {s:Int}:∀(vs:LI) (out:LI),∃r,vs.foldl (Ui a s) out=out++r
 | [],out=>⟨[],oe⟩
 | v::vs,out=>by
  rw[LZ];obtain⟨r,E⟩:=zy vs (Ui a s out v);rw[E];unfold Ui;split
  ·exact⟨[xj a.ed s v]++r,by rw[LB]⟩
  exact⟨r,U⟩
theorem zx:∀(f i:Nat) (out:LI),∃r,j0 a f i out=out++r
 | 0,i,out=>⟨[],by simp[j0]⟩
 | f+1,i,out=>by
  rw[j0];split
  ·obtain⟨r,E⟩:=zx f (i+1) (fdR a out (O6 out i));obtain⟨G,H⟩:=zy (a:=a) (s:=O6 out i) a.al out;refine⟨G++r,?_⟩;rw[E];unfold fdR;rw[H,LB]
  exact⟨[],oe⟩
theorem zj {fd:LI}{i:Nat}:∀(vs out:LI) (c:Cs),(∃r,fd=vs.foldl (Ui a (O6 fd i)) out++r)->c.ord=Jb out.length->c.num=Ja fd.length out.length ->
  (vs.filterMap (KR a fd i)).foldl (Zw i) c=⟨Jb (vs.foldl (Ui a (O6 fd i)) out).length,Ja fd.length (vs.foldl (Ui a (O6 fd i)) out).length,c.mk',c.ed++vs.filterMap (KR a fd i)⟩
 | [],out,c,_,H,G=>by
  obtain⟨o,n,m,e⟩:=c;simp only[]at H G;subst H G;simp
 | v::vs,out,c,E,H,G=>by
  rw[LZ]at E ⊢;obtain⟨r,E⟩:=E;obtain⟨r2,ha⟩:=zy (a:=a) (s:=O6 fd i) vs (Ui a (O6 fd i) out v);have I:fd=Ui a (O6 fd i) out v++(r2++r):=by rw[<-LB,<-ha];exact E
  by_cases S:0<=xj a.ed (O6 fd i) v
  ·have T:KR a fd i v=some ((i:Int),v,yp fd (xj a.ed (O6 fd i) v)):=by unfold KR;rw[OU S]
   rw[Mx,T];simp only[];rw[LZ];by_cases J:xj a.ed (O6 fd i) v∈out
   ·have O:Ui a (O6 fd i) out v=out:=by unfold Ui;rw[OT (λh=>h.2 J)]
    rw[O]at E I ⊢;have hix:yp fd (xj a.ed (O6 fd i) v)=(out.idxOf (xj a.ed (O6 fd i) v):Nat):=Qp1 I J;have hb:=MH J;have Y:out.length<=fd.length:=by rw[I];simp
    have V:Zw i c ((i:Int),v,yp fd (xj a.ed (O6 fd i) v))=⟨c.ord,c.num,c.mk',c.ed++[((i:Int),v,yp fd (xj a.ed (O6 fd i) v))]⟩:=by
     unfold Zw;simp only[];rw[G,hix,jV oa,OU hb,OT oa]
    rw[V,zj vs out ⟨c.ord,c.num,c.mk',c.ed++[((i:Int),v,yp fd (xj a.ed (O6 fd i) v))]⟩ ⟨r,E⟩ H G];simp only[o0,Ov]
   have O:Ui a (O6 fd i) out v=out++[xj a.ed (O6 fd i) v]:=by unfold Ui;rw[OU ⟨S,J⟩]
   rw[O]at E I ⊢;have hix:yp fd (xj a.ed (O6 fd i) v)=(out.length:Nat):=Qon I J;have Y:out.length<fd.length:=by rw[I];simp
   have V:Zw i c ((i:Int),v,yp fd (xj a.ed (O6 fd i) v))=⟨Jb (out.length+1),Ja fd.length (out.length+1),c.mk',c.ed++[((i:Int),v,yp fd (xj a.ed (O6 fd i) v))]⟩:=by
    unfold Zw;simp only[];rw[H,G,hix,jV Y,OT (Nq _),OU oa,yg,jL];simp only[Ot];rw[Qik]
   rw[V,zj vs (out++[xj a.ed (O6 fd i) v]) _ ⟨r,E⟩ oe oe];simp only[o0,Ov]
  have T:KR a fd i v=none:=by unfold KR;rw[OT S]
  have O:Ui a (O6 fd i) out v=out:=by unfold Ui;rw[OT (λh=>S h.1)]
  rw[O]at E ⊢;rw[Mx,T];exact zj vs out c ⟨r,E⟩ H G
theorem QjW (fd:LI)(i:Nat):Xc a fd (i+1)=Xc a fd i++(if O6 fd i∈a.mr then[(i:Int)]else[]):=by
 unfold Xc;rw[Mz,L5,Ls,LR];by_cases h:O6 fd i∈a.mr <;> simp[h]
theorem QjY (fd:LI)(i:Nat):Xr a fd (i+1)=Xr a fd i++a.al.filterMap (KR a fd i):=by
 unfold Xr;rw[Mz,LA,LR];simp
theorem QcH {fd:LI}(h:i<n):(i:Int)∈Xc a fd n↔O6 fd i∈a.mr:=by
 unfold Xc;simp only[Oz,OF,OA,decide_eq_true_eq];constructor
 ·rintro⟨k,⟨_,E⟩,G⟩;have:k=i:=oa
  subst this;exact E
 intro E;exact⟨i,⟨oa,E⟩,U⟩
theorem QjX {fd:LI}(T:fd=xq a)(hn:fd.length<=a.st.toNat):∀(f g i:Nat) (out:LI),i<=out.length->j0 a g i out=fd->i+g=a.st.toNat->fd.length<=i+f ->
  X1 (Xf a) f i ⟨Jb out.length,Ja fd.length out.length,Xc a fd i,Xr a fd i⟩=⟨Jb fd.length,Ja fd.length fd.length,Xc a fd fd.length,Xr a fd fd.length⟩:=by
 have ha:(Xf a).ed=Xr a fd fd.length:=by rw[T];rfl
 have hb:(Xf a).mr=Xc a fd fd.length:=by rw[T];rfl
 have done:∀(i:Nat) (out:LI),i<=out.length->out=fd->¬i<out.length->(⟨Jb out.length,Ja fd.length out.length,Xc a fd i,Xr a fd i⟩:Cs)=⟨Jb fd.length,Ja fd.length fd.length,Xc a fd fd.length,Xr a fd fd.length⟩:=by
  intro i out H E V;have:i=fd.length:=by rw[<-E];omega
  rw[this,E]
 intro f;induction f with
 | zero =>
  intro g i out H E V h4;obtain⟨r,G⟩:=zx (a:=a) g i out;rw[E]at G;have hl:fd.length=out.length+r.length:=by rw[G,Lk]
  have hf:r=[]:=Lp oa;rw[X1];exact done i out H (by rw[G,hf,LQ]) oa
 | succ f ih =>
  intro g i out H E V h4;obtain⟨r,G⟩:=zx (a:=a) g i out;rw[E]at G;have hl:fd.length=out.length+r.length:=by rw[G,Lk]
  rw[X1];simp only[yg];by_cases hi:i<out.length
  ·rw[OU hi];obtain⟨I,rfl⟩:∃I,g=I+1:=⟨g - 1,oa⟩;rw[j0,OU hi]at E;have hg:O6 out i=O6 fd i:=by
    rw[G];unfold O6;simp[oQ,List.getElem?_append_left hi]
   rw[hg]at E;have S:i<fd.length:=oa
   have hh:Z4 (Xf a).ed (i:Int)=a.al.filterMap (KR a fd i):=by
    rw[ha];unfold Xr;rw[jF (λj e he=>by
     obtain⟨v,_,J⟩:=MX.1 he;unfold KR at J;split at J
     ·cases J;rfl
     cases J),OU S]
   have hj:Yi (Xf a) i ⟨Jb out.length,Ja fd.length out.length,Xc a fd i,Xr a fd i⟩=⟨Jb out.length,Ja fd.length out.length,Xc a fd (i+1),Xr a fd i⟩:=by
    unfold Yi;simp only[];rw[jW hi,hb,QjW];by_cases O:O6 fd i∈a.mr
    ·rw[OU ((QcH S).2 O),OU O]
    rw[OT (λh=>O ((QcH S).1 h)),OT O];simp
   have hk:qW (Xf a) i ⟨Jb out.length,Ja fd.length out.length,Xc a fd i,Xr a fd i⟩=⟨Jb (fdR a out (O6 fd i)).length,Ja fd.length (fdR a out (O6 fd i)).length,Xc a fd (i+1),Xr a fd (i+1)⟩:=by
    unfold qW;rw[hj];simp only[];rw[jW hi,hh];obtain⟨r3,Y⟩:=zx (a:=a) I (i+1) (fdR a out (O6 fd i));rw[E]at Y;rw[zj a.al out ⟨Jb out.length,Ja fd.length out.length,Xc a fd (i+1),Xr a fd i⟩ ⟨r3,Y⟩ rfl rfl,QjY];rfl
   rw[hk];obtain⟨r4,hm⟩:=zy (a:=a) (s:=O6 fd i) a.al out;exact ih I (i+1) _ (by unfold fdR;rw[hm,Lk];omega) E oa oa
  rw[OT hi];have h5:j0 a g i out=out:=by
   cases g with
   | zero=>rfl
   | succ g=>rw[j0,OT hi]
  exact done i out H (h5.symm.D E) hi
theorem QjV (E:ZE a)(G:0<a.st):Yd (Xf a)=Xf a:=by
 have T:=QcG E G;have I:=(yv E).1.len E.st0;have V:(Xf a).st=((xq a).length:Int):=rfl;have H:(Xf a).st.toNat=(xq a).length:=oa
 have h:=QjX (a:=a) U I (xq a).length a.st.toNat 0 (fd0 a) (Ln _) U oa oa;have J:fd0 a=[0]:=by unfold fd0;rw[OU G]
 rw[J]at h;have O:YR (Xf a)=⟨Jb 1,Ja (xq a).length 1,Xc a (xq a) 0,Xr a (xq a) 0⟩:=by
  unfold YR;rw[H];have e:(oN (xq a).length (-1:Int)).set 0 0=Ja (xq a).length 1:=by
   apply Mt
   ·simp[Ja]
   intro k Y h2;rw[M7];simp only[Ja,List.getElem_map,List.getElem_range,List.getElem_replicate];by_cases e:k=0
   ·subst e;simp
   rw[OT oa,OT oa]
  rw[e];simp[Jb,Xc,Xr]
 unfold Yd;rw[OT oa];simp only[];rw[O,H];have S:X1 (Xf a) (xq a).length 0 ⟨Jb 1,Ja (xq a).length 1,Xc a (xq a) 0,Xr a (xq a) 0⟩=⟨Jb (xq a).length,Ja (xq a).length (xq a).length,Xc a (xq a) (xq a).length,Xr a (xq a) (xq a).length⟩:=h;rw[S];simp only[yg];rfl
theorem QdA (E:ZE a)(G:0<a.st):Vh (Xf a)=true:=by
 unfold Vh;rw[QjV E G];simp[(Z1 _).2 (Qbe E).1]
theorem GdA.can (h:GdA a):Vh a=true:=by
 obtain⟨H,E,G,rfl⟩:=h.c;exact QdA E G
structure D25 (c:ZB):Prop where
 ev:c.ev.length=5/\Ke c.ev=0
 c0:c.co.length≠0
 c3:c.co.length<=3
 r2:c.rq.length<=2
 co:∀x∈c.co,Y3 x.nm=true/\GdA x.a/\∀e∈x.a.al,e<5
 rq:∀x∈c.rq,Y3 x.nm=true/\GdA x.a/\∀e∈x.a.al,∃y∈c.co,e∈y.a.al
 nd:(c.co.map (·.nm)++c.rq.map (·.nm)).Nodup
 x2:c.ex.length<=2
 ex:∀x∈c.ex,Y3 x.nm=true/\x.ls≠[]/\XW (szs c.co) none x.ls=0
 xn:(c.ex.map (·.nm)).Nodup
 k1:c.cs.length<=1
 cs:∀x∈c.cs,Y3 x.nm=true/\Xx (szs c.co) x=0
theorem QkS (n:Nat)(x:Int):x∈K1 n↔0<=x/\x<(n:Int):=QbY n x
theorem QkT (n:Nat):YY (K1 n):=Qio n
theorem QlA {a b:LI}(ia:YY a)(ib:YY b)(h:∀e∈a,e∈b):(mns a b).length=0:=by
 refine Nat.eq_zero_of_not_pos λG=>?_;obtain⟨x,hx⟩:=List.exists_mem_of_length_pos G;have:=(zq ia ib x).1 hx;by_cases E:x∈a
 ·simp[E,h x E]at this
 simp[E]at this
theorem Qfn {nev:Nat}{amg:LI}{seen:List ByteArray}{x:Xt}(G:Y3 x.nm=true)(H:x.nm∉seen)(E:GdA x.a)(I:∀e∈x.a.al,e<(nev:Int))(hi:YY amg)(J:∀e∈x.a.al,e∈amg):Yo nev amg seen x=0:=by
 have T:=E.p;unfold Yo;rw[OT (by rw[G];decide),OT H,OT (by simpa using(Z1 _).2 E.ok),OT (by rw[E.can];decide),OT oa,OT,OT (oz (QlA E.ok.ali hi J))];intro h;obtain⟨e,O,S⟩:=Nr.1 h;have:=I e O;have:=OY S;omega
theorem Qfo {nev:Nat}{al:LI}(V:YY al):∀(l:List Xt) (s:List ByteArray) (u:LI),YY u->(∀x∈l,Y3 x.nm=true/\GdA x.a/\∀e∈x.a.al,e<(nev:Int)/\e∈al)->(s++l.map (·.nm)).Nodup ->
  ∃H,Yu nev al s u l=(0,s++l.map (·.nm),H)/\YY H/\∀e,e∈H↔e∈u\/∃y∈l,e∈y.a.al
 | [],s,u,J,_,_=>⟨u,by simp[Yu],J,oe⟩
 | x::l,s,u,J,hx,O=>by
  obtain⟨h1,S,Y⟩:=hx x Lr;have ha:x.nm∉s:=by
   intro hm;rw[LK,MC]at O;exact O.2.2 _ hm _ Lr U
  have hz:=Qfn h1 ha S (λe T=>(Y e T).1) V (λe T=>(Y e T).2);obtain⟨H,k1,k2,k3⟩:=Qfo V l (s++[x.nm]) (mrg (· || ·) u x.a.al) (QeG _ _ _ _ (Lu _) J S.ok.ali) (λy E=>hx y (Lj _ E)) (oz O);refine⟨H,?_,k2,λe=>?_⟩
  ·rw[Yu,OT (oz hz),k1];simp
  rw[k3,zq J S.ok.ali];constructor
  ·rintro(⟨G|G,_⟩|⟨y,E,I⟩)
   ·exact .inl G
   ·exact .inr ⟨x,Lr,G⟩
   exact .inr ⟨y,Lj _ E,I⟩
  rintro(G|⟨y,E,I⟩)
  ·exact .inl ⟨.inl G,by simp[G]⟩
  rcases Li.1 E with rfl|E
  ·exact .inl ⟨.inr I,by simp[I]⟩
  exact .inr ⟨y,E,I⟩
theorem Qfk {nev:Nat}{u:LI}(H:YY u):∀(l:List Xt) (s:List ByteArray),(∀x∈l,Y3 x.nm=true/\GdA x.a/\∀e∈x.a.al,e<(nev:Int)/\e∈u)->(s++l.map (·.nm)).Nodup->JP nev u s l=0
 | [],s,_,_=>rfl
 | x::l,s,hx,E=>by
  obtain⟨J,O,I⟩:=hx x Lr;have S:x.nm∉s:=by
   intro T;rw[LK,MC]at E;exact E.2.2 _ T _ Lr U
  have V:=Qfn J S O (λe G=>(I e G).1) H (λe G=>(I e G).2);rw[JP,OT (oz V)];exact Qfk H l (s++[x.nm]) (λy Y=>hx y (Lj _ Y)) (oz E)
theorem Qab {sz:LI}:∀(l:List UV) (s:List ByteArray),(∀x∈l,Y3 x.nm=true/\x.ls≠[]/\XW sz none x.ls=0)->(s++l.map (·.nm)).Nodup->Yq sz s l=0
 | [],s,_,_=>rfl
 | x::l,s,hx,E=>by
  obtain⟨G,H,I⟩:=hx x Lr;have J:x.nm∉s:=by
   intro O;rw[LK,MC]at E;exact E.2.2 _ O _ Lr U
  have S:Kd s x.nm=0:=by unfold Kd;rw[OT (by rw[G];decide),OT J]
  have hl:x.ls.length≠0:=λh=>H (Lp h);have T:Jd sz x.ls=0:=by unfold Jd;rw[OT hl];exact I
  rw[Yq,OT (oz S),OT (oz T)];exact Qab l (s++[x.nm]) (λy V=>hx y (Lj _ V)) (oz E)
theorem Qim:∀{k:Nat},k<5->Y3 (nm1 97 k)=true
 | 0,_=>og
 | 1,_=>og
 | 2,_=>og
 | 3,_=>og
 | 4,_=>og
theorem UG {seen:List ByteArray}{k:Nat}(E:k<5)(G:nm1 97 k∉seen):Jk seen (KM k n)=0:=by
 have H:(KM k n).nm=nm1 97 k:=by unfold KM;split <;> rfl
 unfold Jk;rw[H,OT (by rw[Qim E];decide),OT G];unfold KM;by_cases h:48<=n/\n<52
 ·rw[OU h];simp only[];rw[OT oa,OT oe]
 rw[OT h];simp only[];rw[OT oa,OT oe]
theorem Qjj (ns:LN):Ke (JO ns 5)=0:=by
 have e:JO ns 5=[KM 0 (ns.getD 0 0),KM 1 (ns.getD 1 0),KM 2 (ns.getD 2 0),KM 3 (ns.getD 3 0),KM 4 (ns.getD 4 0)]:=rfl;have E:∀k n,(KM k n).nm=nm1 97 k:=λk n=>by unfold KM;split <;> rfl
 unfold Ke;rw[OT (by rw[VB];decide),e];simp only[qN,E];rw[UG og og,UG og og,UG og og,UG og og,UG og og];simp
theorem D25.ck (h:D25 c):Zl c=0:=by
 have ha:=h.c3;have hc:=h.r2;have T:c.ev.length=5:=h.ev.1;obtain⟨u',k1,k2,k3⟩:=Qfo (nev:=c.ev.length) (al:=K1 c.ev.length) (QkT _) c.co [] [] List.Pairwise.nil (λx hx=>by
  obtain⟨G,E,H⟩:=h.co x hx;refine⟨G,E,λe I=>?_⟩;have:=H e I;have:=(E.ok.al e I).1;rw[T,QkS];exact⟨oa,oa,oa⟩) (by
  have:=h.nd;rw[MC]at this;simpa using this.1)
 have V:=Qfk (nev:=c.ev.length) k2 c.rq (c.co.map (·.nm)) (λx hx=>by
  obtain⟨G,E,H⟩:=h.rq x hx;refine⟨G,E,λe I=>?_⟩;obtain⟨y,O,J⟩:=H e I;have:=(h.co y O).2.2 e J;exact⟨oa,(k3 e).2 (.inr ⟨y,O,J⟩)⟩) h.nd
 unfold Zl;rw[OT (not_not_intro h.ev.2),OT h.c0,OT oa,k1];simp only[Ok];rw[OT oe,OT (oz V)];unfold Yw;have hf:(szs c.co).length=c.co.length:=by unfold szs;simp
 have hg:=h.x2;have hk1:=h.k1;have Y:¬(szs c.co).any Ku=true:=by
  intro hb;obtain⟨n,G,E⟩:=Nr.1 hb;unfold szs at G;obtain⟨x,hx,rfl⟩:=LC.1 G;have:=(h.co x hx).2.1;have H:=this.p;have J:=this.s;unfold Ku at E;simp at E;omega
 rw[OT oa,OT Y,OT oa,OT (by simpa using Qab c.ex [] h.ex (oz h.xn))];rcases S:c.cs with _|⟨x,l⟩
 ·rfl
 have hl:l=[]:=Lp (by rw[S,LS]at hk1;omega);obtain⟨G,E⟩:=h.cs x (by rw[S];exact Lr);have hz:Kd [] x.nm=0:=by unfold Kd;rw[OT (by rw[G];decide),OT oe]
 rw[hl,Y6,OT (oz hz),OT (oz E)];rfl
end Go.Lg
namespace Go.Proofs
open Go.Proofs.Tryz
open Go.Shelf
def Tryz.sortI_ren:Go.Shelf.Ren:=⟨λ|5=>71|8=>139|7=>138|19=>214|20=>215|10=>206|11=>207|12=>208|13=>209|14=>210|15=>211|16=>174|17=>212|18=>213|30=>267|31=>268|32=>269|33=>270|34=>271|35=>248|40=>312|n=>n,λ|23=>56|25=>3|3=>3|32=>285|22=>56|0=>0|44=>367|46=>369|4=>4|36=>361|35=>360|41=>236|5=>5|9=>9|53=>421|57=>425|63=>452|64=>411|n=>n,λ|n=>n⟩
theorem Tryz.sortI:Go.Proofs.SlLaysM.n5 prog Tryz.sortI_ren:={
 mixed:=od
 f5:=⟨Tryz.f71.name,og,func71.D (OV some od)⟩
 f7:=⟨Tryz.f138.name,og,func138.D (OV some od)⟩
 f8:=func139.D (OV some od)
 f10:=⟨Tryz.f206.name,og,func206.D (OV some od)⟩
 f11:=⟨Tryz.f207.name,og,func207.D (OV some od)⟩
 f12:=⟨Tryz.f208.name,og,func208.D (OV some od)⟩
 f13:=⟨Tryz.f209.name,og,func209.D (OV some od)⟩
 f14:=⟨Tryz.f210.name,og,func210.D (OV some od)⟩
 f15:=⟨Tryz.f211.name,og,func211.D (OV some od)⟩
 f16:=⟨Tryz.f174.name,og,func174.D (OV some od)⟩
 f17:=⟨Tryz.f212.name,og,func212.D (OV some od)⟩
 f18:=⟨Tryz.f213.name,og,func213.D (OV some od)⟩
 f19:=func214.D (OV some od)
 f20:=func215.D (OV some od)
 f30:=⟨Tryz.f267.name,og,func267.D (OV some od)⟩
 f31:=func268.D (OV some od)
 f32:=func269.D (OV some od)
 f33:=⟨Tryz.f270.name,og,func270.D (OV some od)⟩
 f34:=⟨Tryz.f271.name,og,func271.D (OV some od)⟩
 f35:=⟨Tryz.f248.name,og,func248.D (OV some od)⟩
 f40:=⟨Tryz.f312.name,og,func312.D (OV some od)⟩
 t0:=underlying0
 a0:=isAgg0
 z0:=sizeOf0
 v0:=zeroValue0
 t3:=underlying3
 a3:=isAgg3
 z3:=sizeOf3
 v3:=zeroValue3
 t4:=underlying4
 a4:=isAgg4
 z4:=sizeOf4
 v4:=zeroValue4
 t5:=underlying5
 a5:=isAgg5
 z5:=sizeOf5
 v5:=zeroValue5
 t9:=underlying9
 a9:=isAgg9
 z9:=sizeOf9
 v9:=zeroValue9
 t22:=underlying56
 a22:=isAgg56
 z22:=sizeOf56
 v22:=zeroValue56
 t23:=underlying56
 a23:=isAgg56
 z23:=sizeOf56
 v23:=zeroValue56
 t25:=underlying3
 a25:=isAgg3
 z25:=sizeOf3
 v25:=zeroValue3
 t32:=underlying285
 a32:=isAgg285
 z32:=sizeOf285
 v32:=zeroValue285
 t35:=underlying360
 a35:=isAgg360
 z35:=sizeOf360
 v35:=zeroValue360
 t36:=underlying361
 a36:=isAgg361
 z36:=sizeOf361
 v36:=zeroValue361
 t41:=underlying236
 a41:=isAgg236
 z41:=sizeOf236
 v41:=zeroValue236
 t44:=underlying367
 a44:=isAgg367
 z44:=sizeOf367
 v44:=zeroValue367
 t46:=underlying369
 a46:=isAgg369
 z46:=sizeOf369
 v46:=zeroValue369
 t53:=underlying421
 a53:=isAgg421
 z53:=sizeOf421
 v53:=zeroValue421
 t57:=underlying425
 a57:=isAgg425
 z57:=sizeOf425
 v57:=zeroValue425
 t63:=underlying452
 a63:=isAgg452
 z63:=sizeOf452
 v63:=zeroValue452
 t64:=underlying411
 a64:=isAgg411
 z64:=sizeOf411
 v64:=zeroValue411 }
def Tryz.cmpI_ren:Go.Shelf.Ren:=⟨λ|43=>72|n=>n,λ|22=>56|23=>3|3=>3|4=>4|0=>0|n=>n,λ|n=>n⟩
theorem Tryz.cmpI:Go.Proofs.SlLaysE.n43 prog Tryz.cmpI_ren:={
 mixed:=od
 f43:=⟨Tryz.f72.name,og,func72.D (OV some od)⟩
 t0:=underlying0
 a0:=isAgg0
 z0:=sizeOf0
 v0:=zeroValue0
 t3:=underlying3
 a3:=isAgg3
 z3:=sizeOf3
 v3:=zeroValue3
 t4:=underlying4
 a4:=isAgg4
 z4:=sizeOf4
 v4:=zeroValue4
 t22:=underlying56
 a22:=isAgg56
 z22:=sizeOf56
 v22:=zeroValue56
 a23:=isAgg3
 z23:=sizeOf3 }
def Tryz.delI_ren:Go.Shelf.Ren:=⟨λ|10=>37|6=>74|n=>n,λ|22=>56|23=>3|25=>112|3=>3|4=>4|0=>0|n=>n,λ|n=>n⟩
theorem Tryz.delI:Go.Proofs.SlLaysH.n10 prog Tryz.delI_ren:={
 mixed:=od
 f6:=⟨Tryz.f74.name,og,func74.D (OV some od)⟩
 f10:=⟨Tryz.f37.name,og,func37.D (OV some od)⟩
 t0:=underlying0
 a0:=isAgg0
 z0:=sizeOf0
 v0:=zeroValue0
 t3:=underlying3
 a3:=isAgg3
 z3:=sizeOf3
 v3:=zeroValue3
 t4:=underlying4
 a4:=isAgg4
 z4:=sizeOf4
 v4:=zeroValue4
 t22:=underlying56
 a22:=isAgg56
 z22:=sizeOf56
 v22:=zeroValue56
 a23:=isAgg3
 z23:=sizeOf3
 t25:=underlying112
 a25:=isAgg112
 z25:=sizeOf112
 v25:=zeroValue112 }
end Go.Proofs
namespace Go.Lg
open Go.Lg Go.Sort Go.Lib
abbrev iC:Int->O2:=Value.int .i64
theorem U9 {e:Nat}{cur:Array O2}(G:w.heap[g]?=some (.cells cur e (0,0)))(I:cur.toList.take (l.length*1)=l.map iC):Holds iC w g 0 l.toArray:=by
 intro j E;rw[LP]at E;have J:cur.toList[j]?=some (iC l[j]):=by
  have H:(cur.toList.take (l.length*1))[j]?=(l.map iC)[j]?:=by rw[I]
  rw[LU,OU oa,Nf,LF E]at H;exact H
 have O:l.toArray[j]! = l[j]:=by simp[E]
 constructor
 ·show(match w.heap[g]? with|some (.cells c _ _)=>if(none:Option _).isSome then none else c[0+j]?|_=>none)=_
  rw[G,O];simp only[oY,OD,OE,if_false];rw[<-Mo,J]
 show(match w.heap[g]? with|some (.cells _ _ (lo,hi))=>decide (lo<=0+j) && decide (0+j<hi)|_=>false)=false
 rw[G];simp
theorem QaH {e base:Nat}{k:Nat}{cur:Array O2}{os:xC}{d:Array Int}(J:base<=g)(H:w.heap[g]?=some (.cells cur e (0,0)))(hb:d.size<=cap)(O:cap<=maxLen)(S:cur.size=cap*1)(hk:k<=d.size):
  O5 [g] w (grow (putRow iC (Sort.ahead w n) g 0 d) os)/\Qu e base (grow (putRow iC (Sort.ahead w n) g 0 d) os) (.slice (some ⟨g,0,none⟩) k cap) (d.toList.take k):=by
 have T:g<w.heap.size:=(LG.1 H).1;have E:(grow (putRow iC (Sort.ahead w n) g 0 d) os).heap=w.heap.modify g (onCells (putCells iC 0 d))++os:=rfl;have V:(d.toList.take k).length=k:=by simp;omega
 refine⟨⟨U,U,U,?_,λi hi Y=>?_⟩,?_⟩
 ·rw[E,MT,Md];omega
 ·rw[E,Mh,Md,OU hi,Mv,OT (λe=>Y (by simp[e]))]
 unfold Qu;rw[V];refine⟨by simp;omega,.inr ⟨g,cap,putCells iC 0 d cur,U,J,?_,oa,O,by simp[putCells,S],?_⟩⟩
 ·rw[E,Mh,Md,OU T,Mv,OU rfl,H];rfl
 apply M2;intro j;rw[LU,Nf,LU];by_cases I:j<k
 ·rw[OU oa,OU I];have ha:j<cur.size:=oa
  have G:j<d.size:=oa
  rw[Mo,Mo,Mw G];simp only[putCells,Ow,Oj ha,Oy,OR,oY,true_and,OU G,OI];rw[getElem!_pos d j G]
 rw[OT oa,OT I];rfl
theorem jx {base:Nat}{v:O2}(h:Qu 3 base w v l)(hl:l.length<=1099511627776):
  Q6 prog 71 [v] w λ_ w'=>O5 (ob v) w w'/\Qu 3 base w' v (l.mergeSort λx y=>decide (x<=y)):=by
 unfold Q6;rcases h.2 with⟨rfl,O⟩|⟨g,cap,cur,rfl,S,H,hf,T,V,Y⟩
 ·have ha:l=[]:=Lp O;subst ha;have E:=AnyM.slices_Sort_int_none Tryz.sortI none 0 w;change Calls prog 71 _ _ _ at E;refine Calls.mono E λe w' I=>?_;obtain⟨rfl,rfl⟩:=I;exact⟨O5.Z _ _,by rw[List.mergeSort_nil];exact h⟩
 have hb:g<w.heap.size:=(LG.1 H).1;have E:=AnyM.slices_Sort_int Tryz.sortI g 0 cap l w (U9 H Y) hb oa;change Calls prog 71 _ _ _ at E;refine Calls.mono E λe w' I=>?_;obtain⟨rfl,n,os,rfl⟩:=I;have hp:=ND l (λx y=>decide (x<=y));have J:=hp.length_eq;have:=QaH (e:=3) (n:=n) (k:=l.length) (os:=os) (d:=(l.mergeSort λx y=>decide (x<=y)).toArray) S H (by simp;omega) T V oe;refine⟨this.1,?_⟩;have G:=this.2;simp only[List.take_of_length_le (Nat.le_of_eq J)]at G;unfold Qu at G ⊢;rw[J]at G ⊢;exact G
theorem QhC {base:Nat}{v:O2}(h:Qu 3 base w v l)(hl:l.length<=1099511627776):
  Q6 prog 71 [v] w λ_ w'=>O5 (ob v) w w'/\∃l',l'.length=l.length/\(∀x,x∈l'↔x∈l)/\Qu 3 base w' v l' :=
 (jx h hl).mono λ_ _ ⟨E,G⟩=>⟨E,_,(ND l _).length_eq,λ_=>(ND l _).mem_iff,G⟩
theorem Qfh (l:LI):∀m,m<=l.length->∀x,x∈compactUpTo l.toArray m↔x∈l.take m
 | 0,_,x=>by simp[compactUpTo]
 | m+1,h,x=>by
  have ih:=Qfh l m oa x;have G:m<l.length:=oa
  have hx:l.toArray[m]! = l[m]:=by simp[G]
  rw[compactUpTo_succ,Lc,ih,Lm G,Lc,hx,Lb];by_cases E:keeps l.toArray m=true
  ·rw[OU E,Lb]
  rw[OT E];refine⟨λh=>.inl (h.resolve_right oe),λh=>.inl (h.elim id λe=>?_)⟩;simp only[keeps,decide_eq_true_eq,not_or]at E;have J:m≠0:=by simpa using E.1
  have H:l.toArray[m]! = l.toArray[m - 1]!:=by simpa using E.2
  have I:l.toArray[m - 1]! = l[m - 1]:=by simp[show m - 1<l.length by omega]
  rw[e,<-hx,H,I];rw[List.mem_take_iff_getElem];exact⟨m - 1,oa,U⟩
theorem QmA {base:Nat}{v:O2}(h:Qu 3 base w v l)(hl:l.length<=1099511627776):
  Q6 prog 72 [v] w λr w'=>O5 (ob v) w w'/\∃l',l'.length<=l.length/\(∀x,x∈l'↔x∈l)/\Qu 3 base w' r l':=by
 rcases h.2 with⟨rfl,J⟩|⟨g,cap,cur,rfl,O,G,S,T,V,Y⟩
 ·have ha:l=[]:=Lp J;subst ha;refine Zq func72 ?_;refine Qc<|Qb<|Qd<|Qm<|x (Us U)<|QZ U U<|xe<|QY U (λ_=>?_) (λh8=>OW og h8);refine Qm<|Qb<|Qk ⟨[nS],La,O5.Z _ _,[],Lu _,λx=>Iff.rfl,h⟩
 unfold Q6;have E:=AnyE.slices_Compact Tryz.cmpI iC (λ_=>U) (.intD _ _ .i64) (.intD _ _ .i64) 0 (λw=>od) g 0 cap l.toArray w (U9 G Y) (by simp;omega) (oz S);change Calls prog 72 _ _ _ at E;rw[LP]at E;refine Calls.mono E λe w' he=>?_;obtain⟨rfl,q,rfl⟩:=he;have H:=Qfh l l.length (Lu _);rw[M1]at H;have hb:(compactUpTo l.toArray l.length).length<=l.length:=by
  unfold compactUpTo;rw[Lh];exact LJ (Mi _ _) oe
 generalize compactUpTo l.toArray l.length=u at *;have:=QaH (e:=3) (n:=q) (k:=u.length) (os:=#[]) (d:=(u++oN (l.length - u.length) 0).toArray) O G (by simp;omega) T V oe;rw[grow_empty]at this;refine⟨this.1,u,hb,H,?_⟩;have I:=this.2;have h3:(u++oN (l.length - u.length) 0).toArray.toList.take u.length=u:=oe
 rw[h3]at I;exact I
theorem Qc4 {a b:LI}(S:QQ [] w.heap va a)(T:QQ [] w.heap vb b)(hl:a.length+b.length<=1000):
  Q6 prog 35 [va,vb] w λr w'=>O5 [] w w'/\∃l,l.length<=a.length+b.length/\(∀x,x∈l↔x∈a\/x∈b)/\Qu 3 w.heap.size w' r l:=by
 refine Zq func35 ?_;refine Qc<|Qb<|Qm<|QM<|(Z0 S).mono ?_;rintro v1 w1 ⟨G,H⟩;have hm:=G.size;refine Qa<|Qe<|QaL H U (T.I G) U (Uu b) oa oa λv2 I V Y hn=>Qb ?_;have J:Qu 3 w.heap.size I v2 (a++b):=by
  unfold Qu;rw[Lk,Ls];exact V
 have he:O5 [] w I:=G.then Y (λc E=>.inr (Qi H c E).1);have ho:(a++b).length=a.length+b.length:=Lk;refine Qm<|QM<|(QhC J oa).mono ?_;rintro r3 w3 ⟨hf,l3,hp,hg,O⟩;have hh:O5 [] w w3:=he.then hf (λc E=>.inr (Qi J c E).1);refine xe<|Qm<|QM<|(QmA O oa).mono ?_;rintro r4 w4 ⟨hi,l4,hq,hj,hk⟩;refine Qb<|Qk ⟨[_],La,hh.then hi (λc E=>.inr (Qi O c E).1),l4,oa,λx=>by rw[hj,hg,Lc],hk⟩
theorem yu {v:O2}(h:QQ [] w.heap v al)(hb:∀e∈al,0<=e/\e<32)(hi:YY al)(hn:ns.length=27)(J:∀n∈ns,n<256):
  Q6 prog 36 [v,.agg (bys ns).toArray,oF oG 3] w λr w'=>O5 [] w w'/\∃a:Q9,Jv w.heap.size w'.heap r a/\GdA a/\a.al=al:=by
 refine Zq func36 ?_;refine Qc<|Qe<|QS (us:=bys ns) U λb4 w1 hg hh E=>Qe<|Qo (us:=[nS,oF oG 0,nS,nS]) U λb6 w2 G hr O=>xe ?_;obtain⟨s0,hj⟩:∃s0,ns.getD 0 0=s0:=⟨_,U⟩;have S:ns[0]?=some s0:=by
  rw[<-hj,Ns,LF oa];rfl
 have hs:s0<256:=J s0 (Mr S);have q0:(bys ns)[0]?=some (.int .u8 (s0:Int)):=by
  unfold bys;rw[Nf,S];rfl
 have hk:=hg.D G;have ht:=E.lt;have hu:=O.lt;refine Qc<|Qs U (E.I G) U q0<|Qa<|x (Z3 (k':=.u8) U ⟨oa,oa⟩)<|x (JH (a:=(s0:Int)) (b:=3) U U oa oa)<|Q2 U<|Qe<|QB (u:=.int .u8 ((s0 % 3:Nat):Int)) (E.I G) U (OV (Value.int .u8) (by omega:(s0:Int) % 3=((s0 % 3:Nat):Int))) (by rw[XJ];omega) U λw3 H T =>
  xe ?_
 have I:O5 [] w w3:=hk.O H hh;rw[Qj0]at T;have V:(ns.set 0 (s0 % 3)).length=27:=by rw[L7];exact hn
 have Y:(ns.set 0 (s0 % 3)).getD 0 0=s0 % 3:=QhF oa;refine Qm<|Q5 T U (by rw[XJ];exact V)<|QM<|(Qf8 (h.I I) hb hi V (Qk7 J oa)).mono ?_;rintro r4 w4 ⟨ha,a,hA,hw,_,hl,hc⟩;obtain⟨a0,k0,k1,k2,k3⟩:=hc (by rw[Y];omega);rw[Y]at k2;obtain⟨us,hv,he,hm⟩:=JR hA;have ho:Zb w4.heap b6 59 [nS,oF oG 0,nS,nS]:=(O.J H om).I ha;have hp:=I.size;have hy:=H.size;refine Qe<|Qj (us:=us) ho U (show Go.Lg.ev _ _=_ from hv) he U hm λw5 hf hq=>xe ?_;refine Qk ⟨[.agg us.toArray],⟨⟨_,U,Qn he (hq.at (L:=[]) oe).cells⟩,Z⟩,(I.D ha).O hf oa,a,?_,GdA.of k0 k1 k2 k3 (NM _ og),hl⟩;show Jv _ _ (.agg us.toArray) _;rw[<-hv];exact(KA hA oa hf).mono hp
section
variable {pS:String}
theorem U6 {k:IntKind}[h:Ik P t k][h':St P E]{x:O3}{G:IntKind}(hx:ev f x=.int G n)(H:n<128):
  (execOp (ev f) ⟨d,.convert t E x,ty,pS,af,gd⟩).run P w=.ok (.value (.string ⟨#[UInt8.ofNat n]⟩)) w:=by
 refine zm hx ?_;rw[run_convert_int_string w t E G n (by rw[h.u];rfl) h'.u];have I:Utf8.valid (n:Int)=true:=by
  unfold Utf8.valid;simp;omega
 unfold Utf8.encode;simp only[I,if_true,Ot,H]
theorem QhS {x:O3}{k:IntKind}{a b:Int}(hx:ev f x=.int k a)(G:ev f y=.int k b)(H:b≠0):
  (execOp (ev f) ⟨d,.binOp .rem t x y E,ty,pS,af,gd⟩).run P w=.ok (.value (.int k (a.tmod b))) w:=by
 refine Ji hx G ?_;simp[binOp,Op.intDiv,H]
end
open Go.Lg Go.Sort
theorem Qn5 (e:Int)(w:O1)(E:Zb w.heap b T [va])(G:QQ L w.heap va al):
  Q6 prog 38 ([oF oG e]++[.pointer (some ⟨b,0,none⟩)]) w λr w'=>r=.bool (decide (e∉al))/\w'=w:=by
 refine Zq func38 ?_;refine Qc<|Qb<|Qc<|Y7 E U U<|Qa<|QM<|(Yj G e).mono ?_;rintro H I ⟨rfl,rfl⟩;refine x (Zx U)<|Qb<|Qk ⟨[_],La,?_,U⟩;show Value.bool (!decide (e∈al))=_;rw[decide_not]
theorem jN (e:Int)(w:O1)(G:Zb w.heap b T [va])(H:QQ L w.heap va al):
  FnGives prog 38 #[.pointer (some ⟨b,0,none⟩)] #[iC e] (.bool (decide (e∉al))) w:=by
 have h:=Qn5 e w G H;unfold Q6 at h;unfold FnGives;refine Calls.mono h λI w' E=>?_;cases I with
 | returned v =>
  obtain⟨rfl,rfl⟩:=E;exact⟨U,0,U⟩
 | _=>exact E.elim
theorem QnP {os:xC}{d:Array Int}:O5 [g] w (grow (putRow iC (Sort.ahead w n) g 0 d) os):=by
 have E:(grow (putRow iC (Sort.ahead w n) g 0 d) os).heap=w.heap.modify g (onCells (putCells iC 0 d))++os:=rfl;refine⟨U,U,U,?_,λi hi G=>?_⟩
 ·rw[E,MT,Md];omega
 rw[E,Mh,Md,OU hi,Mv,OT (λe=>G (by simp[e]))]
theorem Qmi {base:Nat}{v:O2}(h:Qu 3 base w v l)(hl:l.length<=1099511627776)(I:Zb w.heap b T [va])(hb:b∉ob v)(J:QQ (ob v) w.heap va al):
  Q6 prog 37 [v,.func (.func 38) #[] #[.pointer (some ⟨b,0,none⟩)]] w λr w'=>O5 (ob v) w w'/\Qu 3 base w' r (l.filter λx=>decide (x∈al)):=by
 have eg:∀args w,(callFunc 38 args).run prog w=.ok (.enter 38 args) w:=enters_of func38 od U;rcases h.2 with⟨rfl,h0⟩|⟨g,cap,cur,rfl,ha,O,hh,hi,hj,hm⟩
 ·have hn:l=[]:=Lp h0;subst hn;refine Zq func37 ?_;refine Qc<|Qb<|Qm<|Qa<|ZP<|(QiO (cap:=[.pointer (some ⟨b,0,none⟩)]) (q:=λ_=>true) (QQ.fl (KI [] w.heap)) (λe G=>by cases G)).mono ?_;rintro r1 w1 ⟨rfl,S⟩;refine Qb<|Qd<|Qm<|x (Q0 U U)<|xe<|QY U (λ_=>?_) (λh8=>OW U h8);refine Qm<|Qb<|Qk ⟨[nS],La,S,Qp h S⟩
 unfold Q6;have V:=λ(n:Nat) (os:xC) (d:Array Int)=>QnP (w:=w) (g:=g) (n:=n) (os:=os) (d:=d);have ho:b∉[g]:=hb;have hp:QQ [g] w.heap va al:=J;have H:=AnyE.slices_DeleteFunc Tryz.delI iC (λ_=>U) (λx=>decide (x∉al)) 38 #[.pointer (some ⟨b,0,none⟩)] eg 0 (λw=>od) g 0 cap l.toArray w
  (λW x E=>by
   have Y:O5 [] w W:=⟨E.os,E.tape,E.output,E.size,λk hk _=>E.block k hk⟩;exact jN x W (I.I Y) (J.I Y))
  (λn os dk x _=>jN x _ (I.J (V n os dk) ho) (hp.st (V n os dk)))
  (U9 O hm) (by simp;omega) (oz hh)
 change Calls prog 37 _ _ _ at H;rw[LP]at H;refine Calls.mono H λe w' G=>?_;obtain⟨rfl,q,rfl⟩:=G;have hf:(l.toArray.toList.filter λx=>!decide (x∉al))=l.filter λx=>decide (x∈al):=by
  refine List.filter_congr λx _=>?_;by_cases hx:x∈al <;> simp[hx]
 rw[hf];have hq:=Mi (λx=>decide (x∈al)) l;generalize (l.filter λx=>decide (x∈al))=u at *;have:=QaH (e:=3) (n:=q) (k:=u.length) (os:=#[]) (d:=(u++oN (l.length - u.length) 0).toArray) ha O (by simp;omega) hi hj oe;rw[grow_empty]at this;refine⟨this.1,?_⟩;have h2:=this.2;have h3:(u++oN (l.length - u.length) 0).toArray.toList.take u.length=u:=oe
 rw[h3]at h2;exact h2
section
variable {pS:String}
theorem QeA {e bys:Nat}[h:Sl P t e sz bys z](Y:∀u∈z.cells,u.oneCell'=true){s:O3}{m c:Nat}(I:Zb w.heap b T cs)(G:∃E,ev f s=.slice (some ⟨b,E,none⟩) m c/\(0<m->E=o/\o+m*sz<=cs.length))
  (hK:∀w' cs',O5 [b] w w'->Zb w'.heap b T cs'->cs'.length=cs.length->cs'.take o=cs.take o->K (QW f d (.tuple #[])) w'):XO P ⟨d,.call ⟨.builtin .clear,#[s],#[t]⟩,ty,pS,af,gd⟩ f w K:=by
 obtain⟨E,G,hm⟩:=G;obtain⟨i,hi,hz,hc,_⟩:=Sl.info h;have ha:=h.zs;rcases Nat.eq_zero_or_pos m with rfl|hmp
 ·have J:(execOp (ev f) ⟨d,.call ⟨.builtin .clear,#[s],#[t]⟩,ty,pS,af,gd⟩).run P w=.ok (.value (.tuple #[])) w:=by
   simp[execOp,resolve,invoke,builtin,G,Builtin.clear_,run_underlying h.u]
  exact xv J (hK w cs (O5.Z _ _) I U U)
 obtain⟨rfl,he⟩:=hm hmp;have hb:(Builtin.zeroCells z.cells m).toList.length=m*sz:=by simp[Builtin.zeroCells,ha]
 have O:=run_storeCells_at P b E T (Builtin.zeroCells z.cells m).toList 0 cs.toArray w I (by simp only[Od];omega) (λu S=>by
  simp only[Builtin.zeroCells,Array.toList_map,Oz]at S;obtain⟨j,hj,rfl⟩:=S;have hf:=h.pos;have V:j % z.cells.size<z.cells.size:=NM _ oa;rw[getElem!_pos z.cells _ V];exact Y _ (Array.getElem_mem V))
 simp only[OC]at O;obtain⟨H,rfl⟩:∃H,m=H+1:=⟨m - 1,oa⟩;have J:(execOp (ev f) ⟨d,.call ⟨.builtin .clear,#[s],#[t]⟩,ty,pS,af,gd⟩).run P w=.ok (.value (.tuple #[])) (w.setRow b ((cs.take E++(Builtin.zeroCells z.cells (H+1)).toList++cs.drop (E+(Builtin.zeroCells z.cells (H+1)).toList.length))).toArray):=by
  simp[execOp,resolve,invoke,builtin,G,Builtin.clear_,run_underlying h.u,zeroValue,typeInfo,hi,hz]at O ⊢;simp[O]
 refine xv J (hK _ _ (O5.setRow _ _ _) (XX I) ?_ ?_)
 ·simp only[oM,Oa,o6,hb];omega
 rw[LB,MZ (by simp;omega),M4,Nat.min_self]
theorem Ko {α:Type}{sz:Nat}{g:α->LV}(E:∀x,(g x).length=sz):∀(l:List α) (i:Nat) (u:α),i<l.length->(l.set i u).flatMap g=(l.flatMap g).take (i*sz)++g u++(l.flatMap g).drop (i*sz+sz)
 | [],i,u,h=>OW h oe
 | a::l,0,u,h=>by
  rw[List.set_cons_zero,LH,LH,OP,List.take_zero,L8,LR,List.drop_append_of_le_length (by rw[E a];exact Lu _),Lq (by rw[E a];exact Lu _),L8]
 | a::l,i+1,u,h=>by
  have G:(i+1)*sz=(g a).length+i*sz:=by rw[E a,Nat.succ_mul];omega
  have H:(i+1)*sz+sz=(g a).length+(i*sz+sz):=oa
  have I:∀(F:LV) k,(g a++F).take ((g a).length+k)=g a++F.take k:=λF k=>by rw[OK,Lt (l:=g a) oa,MK]
  have J:∀(F:LV) k,(g a++F).drop ((g a).length+k)=F.drop k:=λF k=>by rw[List.drop_append,Lq (l:=g a) oa,L8,MK]
  rw[NN,LH,LH,H,G,I,J,Ko E l i u (oz h)];simp only[o0]
theorem jI [h1:Ag P t sz]{g:α->LV}(E:∀x,(g x).length=sz){x:O3}{base e:Nat}{l:List α}{u:α}(h:w.ownsRow base e sz (.slice (some ⟨b,0,none⟩) l.length cap) l.length (l.flatMap g))(hx:ev f x=.pointer (some ⟨b,i*sz,none⟩))(I:ev f y=.agg (g u).toArray)(hi:i<l.length)(J:Zr (g u))
  (hK:∀w',O5 [b] w w'->w'.ownsRow base e sz (.slice (some ⟨b,0,none⟩) l.length cap) l.length ((l.set i u).flatMap g)->K (QW f d undef) w'):XO P ⟨d,.store t x y,ty,pS,af,gd⟩ f w K:=by
 rcases h.2 with⟨e1,_⟩|⟨g',cap',cur,e1,O,S,G,T,V,Y⟩
 ·cases e1
 cases e1
 have hB:Zb w.heap b e cur.toList:=S;have he:l.length*sz<=cap*sz:=LY _ G;have ha:(i+1)*sz<=l.length*sz:=LY _ hi;rw[Nat.succ_mul]at ha;have H:cur.toList.length=cap*sz:=by rw[Array.length_toList];exact V
 have hb:=h.1;refine YB hB hx I (E u) oa J U λw' hs hc=>hK w' hs ⟨?_,.inr ⟨b,cap,_,U,O,hc,G,T,?_,?_⟩⟩
 ·rw[Ko E l i u hi];simp only[oM,Oa,o6,E u,hb];omega
 ·simp only[Od,oM,Oa,o6,E u,H];omega
 have hX:(cur.toList.take (i*sz)++g u).length=i*sz+sz:=by simp only[oM,Oa,E u,H];omega
 rw[Ko E l i u hi,<-Y];show(cur.toList.take (i*sz)++g u++cur.toList.drop (i*sz+sz)).take (l.length*sz)=_;rw[OK,Lt oa,hX,M4,Mj oa,List.drop_take]
end
theorem Qip (p:Int×Int)(w:O1):Q6 prog 41 [.agg (QI p).toArray] w λr w'=>r=.bool (decide (p.2=0))/\O5 [] w w':=by
 refine Zq func41 ?_;refine Qc<|Qe<|QS (us:=QI p) U λb1 H E I G=>Qb<|Qc<|Qs U G U U<|x (Q0 U U)<|Qb<|Qk ⟨[_],La,U,E⟩
theorem QlS [Fu prog gp fn]{cap:LV}{q:(Int×Int)->Bool}{v:O2}{l:xx}(h:Zn L w.heap v l.length 2 (l.flatMap QI))
  (Y:∀e∈l,∀(G:O1),O5 [] w G->Q6 prog gp ([.agg (QI e).toArray]++cap) G λr w'=>r=.bool (q e)/\O5 [] G w'):
  Q6 prog 76 [v,.func (.func gp) #[] cap.toArray] w λr w'=>r=oF oG (fix q 0 l)/\O5 [] w w':=by
 have hc:=h.le;refine Zq func76 ?_;refine Qc<|Qb<|Qd<|Qm<|QK h U<|Qa<|xe<|Qf<|QD (α:=Nat) [(4,5),(8,18)] (λz=>[(8,oF oG z)]) (λz w'=>z<=l.length/\O5 [] w w'/\fix q z (l.drop z)=fix q 0 l) (λz=>l.length - z) ol 0 La
  ⟨Ln _,O5.Z _ _,U⟩ ?_
 rintro k g G ⟨hk1,H,E⟩;refine Qc<|QZ U U<|xe<|Qd<|QG U (λJ=>?_) (λJ=>?_)
 ·refine Qy ?_;have ha:l.length<=k:=by have hb:¬(k:Int)<(l.length:Int):=J;omega
  rw[Lq ha]at E;refine Qc<|Qb<|Qk ⟨[_],La,by rw[<-E];rfl,H⟩
 have I:k<l.length:=by have hb:(k:Int)<(l.length:Int):=J;omega
 rw[Zg I,Ym]at E;have S:=Ll I;refine Qh<|Qd<|Qf<|Qm<|Qb<|Qm<|Qa<|Qa<|O8 YA (h.I H) U U I λhf T=>?_;refine Zk (l[k]'I) λe he=>?_;rw[he]at T E S;refine x (Qx T U U)<|Qe<|xc (first:=[]) (capt:=cap) U<|(Y e S G H).mono ?_;rintro r2 w2 ⟨rfl,V⟩;refine xe<|QX rfl (λO=>?_) (λO=>?_)
 ·rw[OU O]at E;refine Qm<|Qb<|Qk ⟨[_],La,by rw[<-E];rfl,H.D V⟩
 rw[OT (by rw[O];decide)]at E;refine Qh<|Qw<|QP U U<|Qa<|xe ?_;exact⟨k+1,oa,La,I,H.D V,E⟩
section
variable {pS:String}
theorem U5 {e bys:Nat}[h:Sl P t e sz bys z]{x E:O3}{k:IntKind}(hx:ev f x=.slice (some ⟨b,0,none⟩) n cap)(hl:ev f E=.int k lo)(J:lo<=n):
  (execOp (ev f) ⟨d,.slice t x (some E) none none,ty,pS,af,gd⟩).run P w=.ok (.value (.slice (some ⟨b,if cap=lo then 0 else lo*sz,none⟩) (n - lo) (cap - lo))) w:=by
 obtain⟨i,G,_,H,_⟩:=Sl.info h;have e2:(Instr.sliceBound (.int k lo) n .sliceB).run P w=.ok lo w:=ZM J;by_cases I:cap=lo
 ·simp[execOp,hx,hl,Instr.sliceAt,Instr.slice,run_underlying h.u,Instr.sliceBounds,e2,sizeOf,typeInfo,G,H,I]
 simp[execOp,hx,hl,Instr.sliceAt,Instr.slice,run_underlying h.u,Instr.sliceBounds,e2,sizeOf,typeInfo,G,H,I,Addr.add];exact λe=>e.symm
theorem Jy {e bys:Nat}[h:Sl P t e sz bys z]{x E:O3}{k:IntKind}(hx:ev f x=.slice (some ⟨b,0,none⟩) n cap)(G:ev f E=.int k hi)(H:hi<=cap):
  (execOp (ev f) ⟨d,.slice t x none (some E) none,ty,pS,af,gd⟩).run P w=.ok (.value (.slice (some ⟨b,0,none⟩) hi cap)) w:=by
 obtain⟨i,I,_,J,_⟩:=Sl.info h;have e2:(Instr.sliceBound (.int k hi) cap .sliceAcap).run P w=.ok hi w:=ZM H;simp[execOp,hx,G,Instr.sliceAt,Instr.slice,run_underlying h.u,Instr.sliceBounds,e2,sizeOf,typeInfo,I,Addr.add]
end
theorem jY {α:Type}(q:α->Bool):∀(l:List α) (i:Nat),(fix q i l=-1/\∀x∈l,q x=false)\/∃k,k<l.length/\fix q i l=((i+k:Nat):Int)/\l.take k=(l.take (k+1)).filter λx=>!q x
 | [],i=>.inl ⟨U,λx h=>by cases h⟩
 | a::l,i=>by
  rw[Ym];by_cases h:q a=true
  ·rw[OU h];exact .inr ⟨0,oe,oe,by simp[h]⟩
  rw[OT h];have H:q a=false:=by simpa using h
  rcases jY q l (i+1)with⟨E,G⟩|⟨k,E,G,I⟩
  ·exact .inl ⟨E,λx hx=>by rcases Li.1 hx with rfl|hx;exact H;exact G x hx⟩
  exact .inr ⟨k+1,oz E,by rw[G];congr 1;omega,by rw[MJ,MJ,Mf,OU (by simp[H]),<-I]⟩
theorem Jn {base e:Nat}(h:w.ownsRow base e sz (.slice (some ⟨b,0,none⟩) n cap) n cs):n<=cap/\∃cur:LV,Zb w.heap b e cur/\cur.length=cap*sz/\cur.take (n*sz)=cs:=by
 rcases h.2 with⟨e1,_⟩|⟨g',cap',cur,e1,J,E,G,O,H,I⟩
 ·cases e1
 cases e1
 exact⟨G,cur.toList,E,by rw[Array.length_toList];exact H,I⟩
theorem Vx {base e k:Nat}{cs' cur:LV}(h:w.ownsRow base e sz (.slice (some ⟨b,0,none⟩) n cap) n cs)(O:k<=n)(E:Zb w'.heap b e cur)(hl:cur.length=cap*sz)(G:cur.take (k*sz)=cs')(H:cs'.length=k*sz):
  w'.ownsRow base e sz (.slice (some ⟨b,0,none⟩) k cap) k cs':=by
 rcases h.2 with⟨e1,_⟩|⟨g',cap',cur',e1,I,S,T,J,V,Y⟩
 ·cases e1
 cases e1
 exact⟨H,.inr ⟨b,cap,cur.toArray,U,I,E,oa,J,by rw[LP];exact hl,G⟩⟩
theorem xG {α:Type}{sz:Nat}{g:α->LV}(E:∀x,(g x).length=sz):∀l:List α,(l.flatMap g).length=l.length*sz
 | []=>oe
 | a::l=>by rw[LH,Lk,xG E l,E a,LS,Nat.succ_mul];omega
theorem Qev:∀(l:xx) (k:Nat),(l.flatMap QI).take (k*2)=(l.take k).flatMap QI
 | [],k=>oe
 | a::l,0=>oe
 | a::l,k+1=>by
  rw[show(k+1)*2=k*2+2 by omega,LH,MJ,LH,<-Qev l k];rfl
abbrev nzT (l:xx):xx:=l.filter λp=>!decide (p.2=0)
theorem Qmh {base:Nat}{v:O2}{l:xx}(h:w.ownsRow base 123 2 v l.length (l.flatMap QI))(hl:l.length<=1000):
  Q6 prog 40 [v,.func (.func 41) #[] #[]] w λr w'=>O5 (ob v) w w'/\w'.ownsRow base 123 2 r (nzT l).length ((nzT l).flatMap QI):=by
 have hix:=QlS (cap:=[]) (q:=λp=>decide (p.2=0)) (QJ (L:=[]) h oa oe) (λe _ T _=>Qip e T);have ho:=jY (λp:Int×Int=>decide (p.2=0)) l 0;rcases h.2 with⟨rfl,V⟩|⟨g,cap,cur,rfl,hR,_⟩
 ·have h5:l=[]:=Lp V;subst h5;refine Zq func40 ?_;refine Qc<|Qb<|Qm<|Qa<|ZP<|hix.mono ?_;rintro r1 T ⟨rfl,G⟩;refine Qb<|Qd<|Qm<|x (Q0 U U)<|xe<|QY U (λ_=>?_) (λh8=>OW U h8);refine Qm<|Qb<|Qk ⟨[nS],La,G,Qp h G⟩
 obtain⟨hS,_⟩:=Jn h;refine Zq func40 ?_;refine Qc<|Qb<|Qm<|Qa<|ZP<|hix.mono ?_;rintro r1 T ⟨rfl,G⟩;refine Qb<|Qd<|Qm<|x (Q0 U U)<|xe<|QY rfl (λY=>?_) (λY=>?_)
 ·have h6:nzT l=l:=NE.2 λp hp=>by
   rcases ho with⟨_,h2⟩|⟨k,_,h2,_⟩
   ·have:=h2 p hp;simpa using this
   have hT:fix (λp:Int×Int=>decide (p.2=0)) 0 l=-1:=Y;omega
  refine Qm<|Qb<|Qk ⟨[.slice (some ⟨g,0,none⟩) l.length cap],La,G.any,?_⟩;rw[h6];exact Qp h G
 refine Exists.elim (ho.resolve_left λa=>Y a.1) λO ha=>?_;have h7:=ha.1;have hq:fix (λp:Int×Int=>decide (p.2=0)) 0 l=(O:Int):=by have:=ha.2.1;omega
 have h9:=ha.2.2;refine Qh<|Qd<|Qm<|x (XR (a:=(O:Int)) (b:=1) (OV (Value.int .i64) hq) U ⟨oa,oa⟩)<|Qb<|Qf<|QD (α:=Nat×Nat×xx) [(5,7),(16,35)] (λz=>[(5,oF oG z.1),(6,oF oG z.2.1)])
  (λz w'=>z.1<z.2.1/\z.2.1<=l.length/\z.2.2.length=l.length/\z.2.2.take z.1=nzT (l.take z.2.1)/\z.2.2.drop z.2.1=l.drop z.2.1/\O5 [g] w w'/\w'.ownsRow base 123 2 (.slice (some ⟨g,0,none⟩) z.2.2.length cap) z.2.2.length (z.2.2.flatMap QI))
  (λz=>l.length - z.2.1) ol (O,O+1,l) ⟨OV (Value.int .i64) hq,U,Z⟩
  ⟨Nat.lt_succ_self _,h7,U,h9,U,G.any,Qp h G⟩ ?_
 rintro⟨i,j,ts⟩ g2 w2 ⟨hB,hj,hb,H,hc,hr,I⟩;simp only[]at hB hj hb H hc I;refine Qd<|Qm<|Qa<|x (Us U)<|QZ U U<|xe<|QG rfl (λhf=>?_) (λhf=>?_)
 ·refine Qy ?_;have hC:j=l.length:=by have hD:¬(j:Int)<(l.length:Int):=hf;omega
  rw[hC,M1]at H;have hs:(nzT l).length=i:=by rw[<-H,Ly];omega
  refine Exists.elim (Jn I).2 λhU ht=>?_;have hE:=ht.1;have hF:=ht.2.2;refine Qm<|Qa<|x (U5 (lo:=i) U U oa)<|Qe<|QeA (m:=l.length - i) (o:=i*2) (λu hu=>by simp[Value.cells]at hu;rw[hu];rfl) hE ⟨_,U,λh=>⟨by rw[OT oa],oa⟩⟩ λw3 hV hg hG hW hH=>xe ?_;refine Qm<|Qa<|x (Jy (hi:=i) U U oa)<|Qb<|Qk ⟨[.slice (some ⟨g,0,none⟩) i cap],La,hr.Q hg,?_⟩;rw[hs];refine Vx I oa hG oa ?_ ?_
  ·rw[hH,<-H,<-Qev,<-hF,M4,Mj oa]
  rw[xG YA,hs]
 have E:j<l.length:=by have hD:(j:Int)<(l.length:Int):=hf;omega
 have hh:j<ts.length:=oa
 have hI:ts[j]'hh=l[j]'E:=by
  have S:=OV (λz=>z[0]?) hc;simp only[List.getElem?_drop,OC,Of hh,Of E]at S;exact Option.some.inj S
 have hv:ts.drop (j+1)=l.drop (j+1):=by
  have S:=OV (List.drop 1) hc
  rwa [List.drop_drop,List.drop_drop]at S
 have J:nzT (l.take (j+1))=nzT (l.take j)++(if(l[j]'E).2=0 then[]else[l[j]'E]):=by
  unfold nzT;rw[Lm E,L5];by_cases V:(l[j]'E).2=0 <;> simp[V]
 have hA:=QJ (L:=[]) I oa oe;rw[show Value.slice (some ⟨g,0,none⟩) ts.length cap=.slice (some ⟨g,0,none⟩) l.length cap from by rw[hb]]at hA;refine Qh<|Qd<|Qf<|Qm<|Qa<|O8 YA hA U U hh λhX hk=>?_;rw[hI]at hk;refine Zk (l[j]'E) λe he=>?_;rw[he]at hk J;refine x (Qx hk U U)<|Qe<|Qo (us:=[oF oG 0,oF oG 0]) U λb7 w3 hg hJ hK=>Qe<|Qj (us:=QI e) hK U U U U oA λw4 hL hw=>xe ?_;have hM:O5 [] w2 w4:=hg.O hL hJ;refine Qm<|Q5 hw U U<|Qe<|xc (first:=[]) (capt:=[]) U<|(Qip e w4).mono ?_;rintro r5 w5 ⟨rfl,hy⟩;refine x (Zx U)<|xe ?_;have hz:=hM.D hy;have h3:=Qp I hz;have h4:O5 [g] w w5:=hr.D hz.any;refine QX rfl (λhm=>?_) (λhm=>?_)
 ·have hn:¬e.2=0:=by simpa using hm
  rw[OT hn]at J;have hN:w5.ownsRow base 123 2 (.slice (some ⟨g,0,none⟩) ts.length cap) ts.length (ts.flatMap QI):=h3;refine Qm<|Qa<|Q5 (hw.I hy) U U<|x (Zu (i:=i) U U oa)<|Qe<|jI (u:=e) YA hN (OV (λn=>Value.pointer (some ⟨g,n,none⟩)) (LR (i*2))) U oa oA λw6 hO hP =>
   xe ?_
  refine Qw<|Qa<|QP U U<|Qb<|Qw<|Qa<|QP U U<|Qb ?_;have hQ:(ts.set i e).length=ts.length:=L7;refine⟨(i+1,j+1,ts.set i e),oh,oA,oh,E,oh,?_,?_,h4.Q hO,?_⟩
  ·simp only[];rw[J,<-H,List.set_eq_take_append_cons_drop,OU oa,OK,Lt (by rw[Ly];omega),Ly,Mj oa,MK,MJ,List.take_zero]
  ·simp only[];rw[List.drop_set_of_lt oa,hv]
  simp only[];rw[hQ];exact hP
 have hn:e.2=0:=by simpa using hm
 rw[OU hn,LQ]at J;refine Qh<|Qw<|Qa<|QP U U<|Qb<|⟨(i,j+1,ts),oh,oA,oh,E,hb,by rw[J];exact H,hv,h4,h3⟩
instance ayAz1:Ay prog 25 3 24 1:=⟨od,od⟩
instance ayAz2:Ay prog 30 2 24 1:=⟨od,od⟩
instance ayAz3:Ay prog 31 2 28 27:=⟨od,od⟩
instance ayAz4:Ay prog 34 3 33 1:=⟨od,od⟩
abbrev X4V:={r:LN // r.length=4/\∀n∈r,n<256}
abbrev Xk (r:X4V):LV:=bys r.1
theorem zJ (r:X4V):(Xk r).length=4:=by show(bys r.1).length=4;unfold bys;rw[Lh,r.2.1]
structure PlV where
 ns:LN
 vx:O2
 xs:List X4V
 f0:Int
 f1:Int
 f2:Int
 bd:Int
abbrev Xa (l:PlV):LV:=bys l.ns++[l.vx,.int .i8 l.f0,.int .i8 l.f1,.int .i8 l.f2,.int .i8 l.bd]
abbrev i8R (n:Int):Prop:=-128<=n/\n<=127
structure PlA (L:LN)(H:xC)(l:PlV):Prop where
 n:l.ns.length=147
 b:∀n∈l.ns,n<256
 x:Zn L H l.vx l.xs.length 4 (l.xs.flatMap Xk)
 f0:i8R l.f0
 f1:i8R l.f1
 f2:i8R l.f2
 bd:i8R l.bd
theorem QnR {l:PlV}(h:l.ns.length=147):(Xa l).length=152:=by rw[Xa,Lk,XJ,h];rfl
theorem Qh4 {l:PlV}(h:l.ns.length=147)(j:Nat):(Xa l)[147+j]?=([l.vx,.int .i8 l.f0,.int .i8 l.f1,.int .i8 l.f2,.int .i8 l.bd]:LV)[j]?:=by
 rw[Xa,ML (by rw[XJ];omega),XJ,h,MK]
theorem Qes {l:PlV}(h:l.ns.length=147)(E:j<147):(Xa l)[j]?=some (.int .u8 ((l.ns.getD j 0:Nat):Int)):=by
 rw[Xa,Mn (by rw[XJ];omega)];exact qw oa
theorem Qdl {l:PlV}{m:Nat}(j:Nat)(u:O2)(h:(bys ((l.ns.drop o).take m))[j]?=some u):(Xa l)[o+j]?=some u:=by
 have E:=QmD (ns:=l.ns) (o:=o) (n:=m) j u h;have G:=(Me.1 E).1;rw[Xa,Mn G];exact E
theorem Qfm {sz:LI}:∀(ls:xx) (pr:Option Int),(∀b,pr=some b->∀p∈ls,b<p.1)->ls.Pairwise (λp q=>p.1<q.1)->(∀p∈ls,0<=p.1/\p.1<(sz.length:Int)/\0<=p.2/\p.2<O6 sz p.1.toNat)->XW sz pr ls=0
 | [],_,_,_,_=>rfl
 | p::ls,pr,H,I,G=>by
  obtain⟨O,S,T,V⟩:=G p Lr;obtain⟨k1,k2⟩:=L3.1 I;have hl:jd pr p.1=false:=by
   cases pr with
   | none=>rfl
   | some b=>have:=H b U p Lr;unfold jd;exact OZ oa
  rw[XW,OT oa,OT (by rw[hl];decide),OT oa];exact Qfm ls (some p.1) (λb J q E=>by cases J;exact k1 q E) k2 (λq E=>G q (Lj _ E))
theorem Qfj {sz:LI}:∀(ls:xx) (pr:Option Int),(∀b,pr=some b->∀p∈ls,b<p.1)->ls.Pairwise (λp q=>p.1<q.1)->(∀p∈ls,0<=p.1/\p.1<(sz.length:Int)/\p.2≠0/\-65536<=p.2/\p.2<=65536)->J6 sz pr ls=0
 | [],_,_,_,_=>rfl
 | p::ls,pr,H,I,G=>by
  obtain⟨T,V,J,Y,h5⟩:=G p Lr;obtain⟨k1,k2⟩:=L3.1 I;have hl:jd pr p.1=false:=by
   cases pr with
   | none=>rfl
   | some b=>have:=H b U p Lr;unfold jd;exact OZ oa
  have O:grt p.2=false:=by unfold grt;rw[OZ oa,OZ oa];rfl
  rw[J6,OT oa,OT (by rw[hl];decide),OT (by rw[O];simpa using J)];exact Qfj ls (some p.1) (λb S q E=>by cases S;exact k1 q E) k2 (λq E=>G q (Lj _ E))
theorem Qeg (a:Int){b:Int}(h:0<b):-b<a.tmod b/\a.tmod b<b:=⟨Int.lt_tmod_of_pos a h,Int.tmod_lt_of_pos a h⟩
structure ItG (c:Nat)(k:Nat)(q:IV):Prop where
 nm:q.nm=⟨#[UInt8.ofNat c]⟩++⟨#[UInt8.ofNat (48+k)]⟩
 g:GdA q.p.a
 e:∀e∈q.p.a.al,e<5
theorem Qil (k:Nat)(h:k<3):Y3 (nmI 99 k)=true/\Y3 (nmI 114 k)=true/\Y3 (nmI 101 k)=true:=by
 match k,h with
 | 0,_=>decide
 | 1,_=>decide
 | 2,_=>decide
theorem Qf4:∀n,n<4->∀m,m<3->((oT n).map (nmI 99)++(oT m).map (nmI 114)).Nodup:=og
theorem jR {c:Nat}{co:List IV}(h:∀k (E:k<co.length),ItG c k (co[k]'E)):(co.map IV.it).map (·.nm)=(oT co.length).map (nmI c):=by
 apply Mt
 ·simp
 intro i G H;simp only[List.getElem_map,List.getElem_range];exact(h i (oz G)).nm
theorem QoN {co rq:List IV}(h1:1<=co.length)(h3:co.length<=3)(I:∀k (E:k<co.length),ItG 99 k (co[k]'E))(S:∀e,e∈al↔∃q∈co,e∈q.p.a.al)(hb:rq.length<=2)
  (J:∀k (E:k<rq.length),ItG 114 k (rq[k]'E)/\∀e∈(rq[k]'E).p.a.al,e∈al) (hc:qx.length<=2) (T:(qx.map (·.nm)).Nodup) (V:∀q∈qx,(∃k,k<2/\q.nm=⟨#[101]⟩++⟨#[UInt8.ofNat (48+k)]⟩)/\q.ls≠[]/\q.ls.length<=3/\XW (co.map (·.p.a.st)) none q.ls=0)
  (hf:ks.length<=1) (Y:∀q∈ks,q.nm=⟨#[107]⟩/\Xx (co.map (·.p.a.st)) q.k=0):D25 ⟨JO ns 5,co.map IV.it,rq.map IV.it,qx.map XV.x,ks.map KV.k⟩:=by
 have O:szs (co.map IV.it)=co.map (·.p.a.st):=by unfold szs;rw[Mu];rfl
 refine⟨⟨VB ns 5,Qjj ns⟩,by simp only[Oc];omega,by simp only[Oc];omega,by simp only[Oc];omega,λx hx=>?_,λx hx=>?_,?_,by simp only[Oc];omega,λx hx=>?_,?_,by simp only[Oc];omega,λx hx=>?_⟩
 ·obtain⟨q,G,rfl⟩:=LC.1 hx;obtain⟨k,E,rfl⟩:=LM G;have g:=I k E;exact⟨by show Y3 (co[k]'E).nm=true;rw[g.nm];exact(Qil k oa).1,g.g,g.e⟩
 ·obtain⟨q,G,rfl⟩:=LC.1 hx;obtain⟨k,E,rfl⟩:=LM G;have g:=J k E;refine⟨by show Y3 (rq[k]'E).nm=true;rw[g.1.nm];exact(Qil k oa).2.1,g.1.g,λe he=>?_⟩;obtain⟨y,hy,ha⟩:=(S e).1 (g.2 e he);exact⟨y.it,LO hy,ha⟩
 ·show((co.map IV.it).map (·.nm)++(rq.map IV.it).map (·.nm)).Nodup;rw[jR I,jR (λk E=>(J k E).1)];exact Qf4 _ oa _ oa
 ·obtain⟨q,G,rfl⟩:=LC.1 hx;obtain⟨⟨k,k1,k2⟩,H,_,g4⟩:=V q G;refine⟨by show Y3 q.nm=true;rw[k2];exact(Qil k oa).2.2,H,?_⟩;show XW (szs (co.map IV.it)) none q.ls=0;rw[O];exact g4
 ·show((qx.map XV.x).map (·.nm)).Nodup;rw[Mu];exact T
 obtain⟨q,G,rfl⟩:=LC.1 hx;obtain⟨g1,H⟩:=Y q G;refine⟨by show Y3 q.nm=true;rw[g1];decide,?_⟩;show Xx (szs (co.map IV.it)) q.k=0;rw[O];exact H
def flk (l:PlV)(i:Nat):Int:=[l.f0,l.f1,l.f2].getD i 0
theorem QpI {l:PlV}(h:l.ns.length=147)(hi:i<3):(Xa l)[0+148+i*1]?=some (.int .i8 (flk l i)):=by
 rw[show 0+148+i*1=147+(1+i) by omega,Qh4 h]
 match i,hi with
 | 0,_=>rfl
 | 1,_=>rfl
 | 2,_=>rfl
theorem QpH {l:PlV}(h:PlA L H l)(i:Nat)(hi:i<3):i8R (flk l i):=by
 match i,hi with
 | 0,_=>exact h.f0
 | 1,_=>exact h.f1
 | 2,_=>exact h.f2
theorem Qji (ns:LN):∀e∈JO ns 5,Jp e.nm:=λe E=>by
 unfold JO at E;obtain⟨k,_,rfl⟩:=LC.1 E;unfold KM;split <;> exact Xu oe
theorem Qf9 {l:PlV}(h:PlA [] w.heap l):
  Q6 prog 10 [.agg (Xa l).toArray] w λr w'=>O5 [] w w'/\∃k,Qed w.heap.size w'.heap r k/\D25 k:=by
 refine Zk (1+l.ns.getD 5 0 % 3) λn hn=>?_;have hn3:1<=n/\n<=3:=oa
 refine Zq func10 ?_;refine Qc<|Qe<|QS (us:=Xa l) U λb1 w1 hs1 hb1 pf=>Qe<|Qo (us:=Z6) U λb2 w2 kz hb2 pg=>xe ?_;have ph:=hs1.D kz;have hl1:=pf.lt;have hl2:=pg.lt;have gx:=pf.I kz;have pj:((l.ns.drop 0).take 5).length=5:=by rw[Ly,LT,h.n];rfl
 have hflt:∀n∈(l.ns.drop 0).take 5,n<256:=λn hn=>h.b n (L6 (LX hn));refine Qc<|Q2 U<|x (U8 (us:=bys ((l.ns.drop 0).take 5)) gx U (by rw[XJ];exact pj) (λj u hu=>Qdl (l:=l) (o:=0) (m:=5) j u hu))<|QM<|(QcV (ns:=(l.ns.drop 0).take 5) pj hflt).mono ?_;rintro ve w3 ⟨pm,go⟩;refine Zk (JO ((l.ns.drop 0).take 5) 5) λev kj=>?_;rw[kj]at go;refine x (Qz ⟨xM go,Z⟩)<|Qe<|Qo (us:=Z6) U λH w4 hs4 hb3 hB3=>Qe<|Qj (us:=[ve,Zz,Zz,Zz,Zz]) hB3 U U U U ⟨Qt go,U,U,U,U,Z⟩ λw5 hs5 pn =>
  xe ?_
 have po:O5 [] w3 w5:=hs4.O hs5 hb3;refine Qc<|Qe<|Qo (us:=[Zz]) U λb4 w6 pp hb4 pu=>xe ?_;have pw:=po.D pp;have gy:=pm.D pw;have T:=kz.D gy;have hz3:=pm.size;have hz35:=po.size;have hl3:=pn.lt;have hl4:=pu.lt;have k0:=gx.I gy;have hB36:=pn.I pp;have q5:=Qes (l:=l) h.n (j:=5) oa;have q5l:=Jr h.b 5;refine Zk (l.ns.getD 5 0) λcn hcn=>?_;rw[hcn]at q5 q5l hn;refine Qc<|Qs U k0 U q5<|x (JH (a:=(cn:Int)) (b:=3) U U oa oa)<|x (Z3 (k':=.i64) U ⟨oa,oa⟩)<|QP U U<|Qb<|Q3 (α:=O2×List IV×O2×LI) [(6,7),(26,55)] (λ_=>[]) (λz w'=>O5 [H,b4] w6 w'/\Zb w'.heap H 44 [ve,z.1,Zz,Zz,Zz]/\Zb w'.heap b4 56 [z.2.2.1]/\zc w6.heap.size w' z.1 z.2.2.1 z.2.1 z.2.2.2/\z.2.1.length=n/\(∀k (O:k<z.2.1.length),ItG 99 k (z.2.1[k]'O))/\z.2.2.2.length<=5*n/\∀e,e∈z.2.2.2↔∃q∈z.2.1,e∈q.p.a.al) ol ?_ ?_
 ·refine Qm<|Qa<|xe<|Qf<|QD (α:=Nat×O2×List IV×O2×LI) [(6,7),(27,55)] (λz=>[(27,oF oG z.1)])
   (λz w'=>z.1<=n/\O5 [H,b4] w6 w'/\Zb w'.heap H 44 [ve,z.2.1,Zz,Zz,Zz]/\Zb w'.heap b4 56 [z.2.2.2.1]/\zc w6.heap.size w' z.2.1 z.2.2.2.1 z.2.2.1 z.2.2.2.2/\z.2.2.1.length=z.1/\(∀k (O:k<z.2.2.1.length),ItG 99 k (z.2.2.1[k]'O))/\z.2.2.2.2.length<=5*z.1/\∀e,e∈z.2.2.2.2↔∃q∈z.2.2.1,e∈q.p.a.al)
   (λz=>n - z.1) ol (0,Zz,[],Zz,[]) La
   ⟨Ln _,O5.Z _ _,hB36,pu,zc.nil,U,λk O=>OW O oe,oe,oe⟩ ?_
  rintro⟨i,vc,co,va,al⟩ g7 w7 ⟨hi,hC,gp,gc,hv,gz,hU,k4,gq⟩;simp only[]at hi gp gc hv gz hU k4 gq;refine Qc<|QZ U U<|xe<|Qd<|QG U (λk5=>?_) (λk5=>?_)
  ·refine Qy ?_;have k6:i=n:=by have h29:¬(i:Int)<1+(cn:Int) % 3:=k5;omega
   exact⟨(vc,co,va,al),Z,hC,gp,gc,hv,oh,hU,oh,gq⟩
  have h5:i<n:=by have h29:(i:Int)<1+(cn:Int) % 3:=k5;omega
  have k7:b1∉[H,b4]:=oq
  have hV:=k0.J hC k7;have qs:=Qes (l:=l) h.n (j:=0+6+i*1) oa;have qsl:=Jr h.b (0+6+i*1);refine Zk (l.ns.getD (0+6+i*1) 0) λm hm=>?_;rw[hm]at qs qsl;have k8:=JG m 5;have g0:=QbH m 5;have gg:=Qep m 5;refine Zk (setK m 5) λsk g2=>?_;rw[g2]at k8 g0 gg;refine Qh<|Qd<|Qf<|Qm<|Qb<|Qm<|Q2 U<|x (ZZ (i:=i) U U oa)<|Y7 hV U qs<|QM<|(Um m qsl _).mono ?_;rintro vs w8 ⟨hg,kk⟩;rw[g2]at kk;refine Qb ?_;have pz:=hg.size;have hE:=hv.I hg;have hI8:=Qu.ints (L:=[]) hE.a oa oe;have hJ8:=Qu.ints (L:=[]) kk oa oe;refine Qc<|Y7 (gc.I hg) U U<|Qa<|QM<|(Qc4 hI8 hJ8 oa).mono ?_;rintro p0 w9 ⟨V,p1,hal2,p2,gh⟩;have kn:=hg.D V;have k9:=V.size;have hz7:=hC.size;refine Qe<|QB (gc.I kn) U U oe (Qt gh) λhh hw hB410=>xe ?_;have hl36:H<w6.heap.size:=oa
  have h7:zc w6.heap.size w9 vc p0 co p1:=hE.setA (Zv gh oa) V.any (λb E=>.inr (Qi gh b E).1);have hy:=h7.low hw (λb E=>by rw[Lb.1 E];omega);have g3:Zb hh.heap H 44 [ve,vc,Zz,Zz,Zz]:=(gp.I kn).J hw om;have ma:=(hV.I kn).J hw om;have mf:QQ [] hh.heap vs sk:=Qu.ints (L:=[]) (Qg (Qp kk V) hw (λb E hm=>by have:=(Qi kk b E).1;rw[Lb.1 hm]at this;omega)) oa oe;have hz10:=hw.size;have n3v:H∉ob vc:=QT hy.c oa;have n1v:b1∉ob vc:=QT hy.c oa;have gi:=QiV (ns:=l.ns) (o:=0+9+i*27) (ou h.n);have g4:=Qnd (o:=0+9+i*27) h.b;have g5:=λj u=>Qdl (l:=l) (o:=0+9+i*27) (m:=27) j u;refine Zk (grN l.ns (0+9+i*27)) λgr h8=>?_;have mg:∀j u,(bys gr)[j]?=some u->(Xa l)[0+9+i*27+j]?=some u:=by rw[<-h8];exact g5
  rw[h8]at gi g4;have g6:O5 [] hh { hh with drawn:=hh.drawn+1 }:=O5.C _ _
  have ka:(48:Int)+(i:Int)=((48+i:Nat):Int):=oa
  refine Zk (⟨#[99]⟩++⟨#[UInt8.ofNat (48+i)]⟩:ByteArray) λnm hH=>?_;refine ZD (ob vc) (Xb 0 18 [12,14,15,17])<|p (QR U)<|pq (λ_ hc=>Qq (g3.J hc n3v) U U)<|p QE<|p (λ_=>XR U U ⟨oa,oa⟩)<|p (λ_=>Z3 (k':=.i32) U ⟨oa,oa⟩)<|p (λ_=>U6 (n:=48+i) (OV (Value.int .i32) ka) oa) <|
   p (λ_=>YL (a:=⟨#[99]⟩) (b:=⟨#[UInt8.ofNat (48+i)]⟩) U U (by show 1+1<=1000000000;omega))<|p QE<|p QE<|p (QR U)<|p (λ_=>ZZ (i:=i) U U oa)<|pq (λ_ hc=>U8 (us:=bys gr) (ma.J hc n1v) U (by rw[XJ];exact gi) mg)<|?_
  refine pk<|xg<|(yu (mf.I g6) (λe S=>ou (gg e S)) g0 gi g4).mono ?_;rintro r11 ho ⟨gj,a,⟨xa,xm,h6,rfl,hA⟩,hG,gs⟩;have hI:=g6.D gj;have p3:=hI.size;have gk:=hA [] oe;refine⟨hI.any,?_⟩;refine p (λ_=>Zf [(0,[.string nm]),(1,[xa,oF oG a.st,xm,h6])] ⟨OV (λb=>(Value.string b).cells) hH,U,U,U,Z⟩)<|pk<|QC (us:=[QO ⟨nm,⟨xa,xm,h6,a⟩⟩]) U U og (show 1*5<=1000000 by omega) oA λb14 gl hf hb14 mh=>⟨(hI.D hf).any,?_⟩;have hz:=hI.D hf;have kb:=hy.I hz;refine pk<|Za (news:=QO ⟨nm,⟨xa,xm,h6,a⟩⟩) (L:=[]) kb.c U U U (mh.at oe) (Qa0 gk.al.one gk.mr.one gk.ed.one) oa (ou hz.size) λmj hJ kc J mo=>⟨(hz.any (L:=ob vc)).Q J,?_⟩;have mq:=kb.setC (yq (q:=⟨nm,⟨xa,xm,h6,a⟩⟩) (N:=hh.heap.size) (λL hL=>(hA L hL).I hf) oa hy.avlt) kc J mo;refine p (QR U)<|pkl (hl:=by kernel_rfl)<|QB ((g3.I hz).J J n3v) U U oe (Qt kc) λhK T hW=>pe ?_;have hge:=Qi hy.c;have n4v:b4∉ob vc:=QT hy.c oa;have hB416:=((hB410.I hz).J J n4v).J T om;have hs710:O5 [b4] w7 hh:=kn.any.Q hw;have hs615:O5 [H,b4] w6 hJ:=((hC.Q (hs710.mono oe)).D hz.any).then J (λb E=>.inr (hge b E).1);refine Qw<|QP U U<|Qa<|xe<|⟨(i+1,mj,co++[⟨nm,⟨xa,xm,h6,a⟩⟩],p0,p1),oh,La,h5,hs615.Q (T.mono oe),hW,hB416,mq.low T (λb E=>by rw[List.mem_singleton.1 E];omega),by simp only[oM,oO];omega,λk O=>?_,oh,λe=>?_⟩
  ·simp only[]at O ⊢;by_cases hj:k<co.length
   ·rw[MG hj];exact hU k hj
   have ke:k=i:=by simp only[oM,oO]at O;omega
   subst ke;rw[M6 oa];simp only[gz,Nat.sub_self,List.getElem_cons_zero];exact⟨hH.symm,hG,λe S=>by rw[gs]at S;exact(gg e S).2⟩
  simp only[]at p2 ⊢;rw[p2,gq];constructor
  ·rintro(⟨q,G,S⟩|S)
   ·exact⟨q,Mc _ G,S⟩
   exact⟨_,Nv _ (Lb.2 U),by rw[gs];exact S⟩
  rintro⟨q,G,S⟩;rcases Lc.1 G with G|G
  ·exact .inl ⟨q,G,S⟩
  rw[Lb.1 G,gs]at S;exact .inr S
 rintro⟨vc,co,va,al⟩ g7 w7 ⟨hC,gp,gc,hv,gz,hU,k4,gq⟩;simp only[]at gp gc hv gz hU k4 gq;have hz7:=hC.size;have k7:b1∉[H,b4]:=oq
 have hV:=k0.J hC k7;have ms:b1∉[H]:=om
 have n43:b4∉[H]:=om
 have p4:=Qes (l:=l) h.n (j:=90) oa;have q90l:=Jr h.b 90;refine Zk (l.ns.getD 90 0) λrn hrn=>?_;rw[hrn]at p4 q90l;refine Zk (rn % 3) λr hr=>?_;refine Q3 (α:=O2×List IV) [(8,9),(56,87)] (λ_=>[]) (λz w'=>O5 [H] w7 w'/\Zb w'.heap H 44 [ve,vc,z.1,Zz,Zz]/\zc w7.heap.size w' z.1 Zz z.2 []/\z.2.length=r/\∀k (O:k<z.2.length),ItG 114 k (z.2[k]'O)/\∀e∈(z.2[k]'O).p.a.al,e∈al) ol ?_ ?_
 ·refine Qc<|Qs U hV U p4<|x (JH (a:=(rn:Int)) (b:=3) U U oa oa)<|x (Z3 (k':=.i64) U ⟨oa,oa⟩)<|Qa<|xe<|Qf<|QD (α:=Nat×O2×List IV) [(8,9),(60,87)] (λz=>[(60,oF oG z.1)])
   (λz w'=>z.1<=r/\O5 [H] w7 w'/\Zb w'.heap H 44 [ve,vc,z.2.1,Zz,Zz]/\zc w7.heap.size w' z.2.1 Zz z.2.2 []/\z.2.2.length=z.1/\∀k (O:k<z.2.2.length),ItG 114 k (z.2.2[k]'O)/\∀e∈(z.2.2[k]'O).p.a.al,e∈al)
   (λz=>r - z.1) ol (0,Zz,[]) La
   ⟨Ln _,O5.Z _ _,gp,zc.nil,U,λk O=>OW O oe⟩ ?_
  rintro⟨i,vr,rq⟩ g8 w8 ⟨hi,hg,gt,hE,ko,h8⟩;simp only[]at hi gt hE ko h8;refine Qc<|QZ U U<|xe<|Qd<|QG U (λmt=>?_) (λmt=>?_)
  ·refine Qy ?_;have k6:i=r:=by have h62:¬(i:Int)<(rn:Int) % 3:=mt;omega
   exact⟨(vr,rq),Z,hg,gt,hE,oh,h8⟩
  have h5:i<r:=by have h62:(i:Int)<(rn:Int) % 3:=mt;omega
  have kf:=hV.J hg ms;have hB48:=gc.J hg n43;have qs:=Qes (l:=l) h.n (j:=0+91+i*1) oa;have qsl:=Jr h.b (0+91+i*1);refine Zk (l.ns.getD (0+91+i*1) 0) λm hm=>?_;rw[hm]at qs qsl;have k8:=JG m 5;have g0:=QbH m 5;have gg:=Qep m 5;refine Zk (setK m 5) λsk g2=>?_;rw[g2]at k8 g0 gg;refine Qh<|Qd<|Qf<|Qm<|Qb<|Qm<|Q2 U<|x (ZZ (i:=i) U U oa)<|Y7 kf U qs<|QM<|(Um m qsl _).mono ?_;rintro vs w9 ⟨V,gh⟩;rw[g2]at gh;have pz:=hg.size;have k9:=V.size;have hva8:=Qp (Qg hv.a hg (λb E hm=>by rw[Lb.1 hm]at E;exact QT hv.a oa E)) V;have g5:=Qi gh;have hlv:=Zc hv.a;have hD:=Qmi gh oa (hB48.I V) (λhm=>ou (g5 b4 hm).1) (QJ hva8 oa (λb E hbs=>ov (g5 b hbs).1 (hlv b E)));refine x (Zy (l:=[]) (l':=[_]))<|QM<|hD.mono ?_;rintro vd hh ⟨hw,p5⟩;have p6:YY (sk.filter λx=>decide (x∈al)):=List.Pairwise.filter _ g0;have hFL:=Mi (λx=>decide (x∈al)) sk;have kq:∀e∈sk.filter λx=>decide (x∈al),e∈sk/\e∈al:=λe S=>by
   have:=L9.1 S;exact⟨this.1,OY this.2⟩
  refine Zk (sk.filter λx=>decide (x∈al)) λF hF=>?_;rw[hF]at p5 p6 hFL kq;refine Qb ?_;have kg:O5 [] w8 hh:=V.then hw (λb E=>.inr (g5 b E).1);have hz10:=kg.size;have hy:=hE.I kg;have g3:=gt.I kg;have ma:=kf.I kg;have mf:QQ [] hh.heap vd F:=Qu.ints (L:=[]) p5 oa oe;have n3v:H∉ob vr:=QT hy.c oa;have n1v:b1∉ob vr:=QT hy.c oa;have gi:=QiV (ns:=l.ns) (o:=0+93+i*27) (ou h.n);have g4:=Qnd (o:=0+93+i*27) h.b;have mg:=λj u=>Qdl (l:=l) (o:=0+93+i*27) (m:=27) j u;refine Zk (grN l.ns (0+93+i*27)) λgr p7=>?_;have hgs2:∀j u,(bys gr)[j]?=some u->(Xa l)[0+93+i*27+j]?=some u:=by rw[<-p7];exact mg
  rw[p7]at gi g4;have g6:O5 [] hh { hh with drawn:=hh.drawn+1 }:=O5.C _ _
  have ka:(48:Int)+(i:Int)=((48+i:Nat):Int):=oa
  refine Zk (⟨#[114]⟩++⟨#[UInt8.ofNat (48+i)]⟩:ByteArray) λnm hH=>?_;refine ZD (ob vr) (Xb 0 18 [12,14,15,17])<|p (QR U)<|pq (λ_ hc=>Qq (g3.J hc n3v) U U)<|p QE<|p (λ_=>XR U U ⟨oa,oa⟩)<|p (λ_=>Z3 (k':=.i32) U ⟨oa,oa⟩)<|p (λ_=>U6 (n:=48+i) (OV (Value.int .i32) ka) oa) <|
   p (λ_=>YL (a:=⟨#[114]⟩) (b:=⟨#[UInt8.ofNat (48+i)]⟩) U U (by show 1+1<=1000000000;omega))<|p QE<|p QE<|p (QR U)<|p (λ_=>ZZ (i:=i) U U oa)<|pq (λ_ hc=>U8 (us:=bys gr) (ma.J hc n1v) U (by rw[XJ];exact gi) hgs2)<|?_
  refine pk<|xg<|(yu (mf.I g6) (λe S=>ou (gg e (kq e S).1)) p6 gi g4).mono ?_;rintro r11 ho ⟨gj,a,⟨xa,xm,h6,rfl,hA⟩,hG,gs⟩;have hI:=g6.D gj;have p3:=hI.size;have gk:=hA [] oe;refine⟨hI.any,?_⟩;refine p (λ_=>Zf [(0,[.string nm]),(1,[xa,oF oG a.st,xm,h6])] ⟨OV (λb=>(Value.string b).cells) hH,U,U,U,Z⟩)<|pk<|QC (us:=[QO ⟨nm,⟨xa,xm,h6,a⟩⟩]) U U og (show 1*5<=1000000 by omega) oA λb14 gl hf hb14 mh=>⟨(hI.D hf).any,?_⟩;have hz:=hI.D hf;have kb:=hy.I hz;refine pk<|Za (news:=QO ⟨nm,⟨xa,xm,h6,a⟩⟩) (L:=[]) kb.c U U U (mh.at oe) (Qa0 gk.al.one gk.mr.one gk.ed.one) oa (ou hz.size) λmj hJ kc J mo=>⟨(hz.any (L:=ob vr)).Q J,?_⟩;have mq:=kb.setC (yq (q:=⟨nm,⟨xa,xm,h6,a⟩⟩) (N:=hh.heap.size) (λL hL=>(hA L hL).I hf) oa hy.avlt) kc J mo;refine p (QR U)<|pkl (hl:=by kernel_rfl)<|QB ((g3.I hz).J J n3v) U U oe (Qt kc) λhK T hW=>pe ?_;have hge:=Qi hy.c;have hs715:O5 [H] w7 hJ:=((hg.D kg.any).D hz.any).then J (λb E=>.inr (hge b E).1);refine Qw<|QP U U<|Qa<|xe<|⟨(i+1,mj,rq++[⟨nm,⟨xa,xm,h6,a⟩⟩]),oh,La,h5,hs715.Q T,hW,mq.low T (λb E=>by rw[Lb.1 E];omega),by simp only[oM,oO];omega,λk O=>?_⟩;simp only[]at O ⊢;by_cases hj:k<rq.length
  ·rw[MG hj];exact h8 k hj
  have ke:k=i:=by simp only[oM,oO]at O;omega
  subst ke;rw[M6 oa];simp only[ko,Nat.sub_self,List.getElem_cons_zero];exact⟨⟨hH.symm,hG,λe S=>by rw[gs]at S;exact(gg e (kq e S).1).2⟩,λe S=>by rw[gs]at S;exact(kq e S).2⟩
 rintro⟨vr,rq⟩ g8 w8 ⟨hg,gt,hE,ko,h8⟩;simp only[]at gt hE ko h8;have pz:=hg.size;have kf:=hV.J hg ms;have g147:=Qh4 (l:=l) h.n 0;have hX6:Zn [H,b4] w6.heap l.vx l.xs.length 4 (l.xs.flatMap Xk):=((h.x.up (L':=[H,b4]) (λb E=>.inr (by simp only[oL,oJ,or_false]at E;omega))).I ph).I gy;have p8:Zn [H] w8.heap l.vx l.xs.length 4 (l.xs.flatMap Xk):=((hX6.st hC).up (L':=[H]) (λb E=>.inl (by simp only[oI]at E;simp[E]))).st hg;refine Q3 (α:=O2×List XV) [(10,14),(88,151)] (λ_=>[]) (λz w'=>O5 [H] w8 w'/\Zb w'.heap H 44 [ve,vc,vr,z.1,Zz]/\VP Q8 2 116 (λq=>[(q.v,q.ls.length,2,q.ls.flatMap QI)]) w8.heap.size w' z.1 z.2/\z.2.length<=2/\(z.2.map (·.nm)).Nodup/\∀q∈z.2,(∃k,k<2/\q.nm=⟨#[101]⟩++⟨#[UInt8.ofNat (48+k)]⟩)/\q.ls≠[]/\q.ls.length<=3/\XW (co.map (·.p.a.st)) none q.ls=0) ol ?_ ?_
 ·refine Qc<|Qs U kf U g147<|QK p8 U<|Qa<|xe<|Qf<|QD (α:=Nat×O2×List XV) [(10,14),(91,151)] (λz=>[(91,oF oG z.1)])
   (λz w'=>z.1<=l.xs.length/\z.1<=2/\O5 [H] w8 w'/\Zb w'.heap H 44 [ve,vc,vr,z.2.1,Zz]/\VP Q8 2 116 (λq=>[(q.v,q.ls.length,2,q.ls.flatMap QI)]) w8.heap.size w' z.2.1 z.2.2/\z.2.2.length<=z.1/\(z.2.2.map (·.nm)).Nodup/\∀q∈z.2.2,(∃k,k<z.1/\q.nm=⟨#[101]⟩++⟨#[UInt8.ofNat (48+k)]⟩)/\q.ls≠[]/\q.ls.length<=3/\XW (co.map (·.p.a.st)) none q.ls=0)
   (λz=>l.xs.length - z.1) ol (0,Zz,[]) La
   ⟨Ln _,Ln _,O5.Z _ _,gt,VP.nil,Lu _,List.Pairwise.nil,λq G=>by cases G⟩ ?_
  rintro⟨i,vx,qx⟩ g9 w9 ⟨hi,hi2,V,hX,h7,kr,hY,hM⟩;simp only[]at hi hi2 hX h7 kr hY hM;have p9:(∀q∈qx,(∃k,k<2/\q.nm=⟨#[101]⟩++⟨#[UInt8.ofNat (48+k)]⟩)/\q.ls≠[]/\q.ls.length<=3/\XW (co.map (·.p.a.st)) none q.ls=0):=λq G=>by
   obtain⟨⟨k,k1,k2⟩,h2⟩:=hM q G;exact⟨⟨k,oa,k2⟩,h2⟩
  refine Qc<|QZ U U<|xe<|Qd<|QG U (λqc=>?_) (λqc=>?_)
  ·refine Qy ?_;exact⟨(vx,qx),Z,V,hX,h7,oh,hY,p9⟩
  have h5:i<l.xs.length:=by have h93:(i:Int)<(l.xs.length:Int):=qc;omega
  have hX9:=p8.st V;refine Qh<|Qd<|Qf<|Qm<|O8 zJ hX9 U U h5 λa94 ql=>?_;refine Zk (l.xs[i]'h5) λxr hxr=>?_;rw[hxr]at ql;refine x (Qx ql U (zJ xr))<|Qe<|Qo (us:=[.int .u8 0,.int .u8 0,.int .u8 0,.int .u8 0]) U λqo hh hw hb11 hB11=>x Ql<|Qe<|Qj (us:=Xk xr) hB11 U U (zJ xr) U (QcK xr.1) λho gj qr=>xe ?_;have hB:O5 [] w9 ho:=hw.O gj hb11;refine Qd<|Qm<|x (Q0 U U)<|xe<|QY U (λq0=>?_) (λq0=>?_)
  ·refine Qy ?_;exact⟨(vx,qx),Z,V.D hB.any,hX.I hB,h7.I hB,oh,hY,p9⟩
  have hi3:i<2:=by have h98:¬(i:Int)=2:=q0;omega
  have ka:(48:Int)+(i:Int)=((48+i:Nat):Int):=oa
  have p3:=hB.size;have hl11:=qr.lt;refine Zk (⟨#[101]⟩++⟨#[UInt8.ofNat (48+i)]⟩:ByteArray) λnm hH=>?_;refine Qh<|Qm<|QP U U<|x (Z3 (k':=.i32) U ⟨oa,oa⟩)<|x (U6 (n:=48+i) (OV (Value.int .i32) ka) oa)<|x (YL (a:=⟨#[101]⟩) (b:=⟨#[UInt8.ofNat (48+i)]⟩) U U (by show 1+1<=1000000000;omega))<|x (Qz La) <|
   Qe<|Qo (us:=[.string .empty,Zz]) U λb12 gl hf q1 gx=>Qe<|Qj (us:=[.string nm,Zz]) gx U (show Go.Lg.ev _ _=_ from OV (λs=>Value.agg #[.string s,Zz]) hH) U U oA λhN hO hB1213=>xe ?_
  have kt:O5 [] ho hN:=hf.O hO q1;have mu:=hB.D kt;have hz1113:=kt.size;have k9:=V.size;have hltC:=Zc hv.c;have nc3:H∉ob vc:=QT hv.c oa;have q2:∀b∈ob vc,b∉[H]:=λb E hm=>by rw[Lb.1 hm]at E;exact nc3 E
  have hC13:=Qp (Qg (Qg hv.c hg q2) V q2) mu;have mv:=hX.I mu;have hB1113:=qr.I kt;have hl12:=gx.lt;have q3:H∉[b12]:=om
  have n1112:qo∉[b12]:=om
  have q4:=QJ (L:=[b12]) hC13 oa (λb E hm=>by rw[Lb.1 hm]at E;have:=hltC b12 E;omega);refine Q3 (α:=O2×xx) [(13,14),(104,140)] (λ_=>[]) (λz w'=>O5 [b12] hN w'/\Zb w'.heap b12 116 [.string nm,z.1]/\w'.ownsRow hN.heap.size 118 2 z.1 z.2.length (z.2.flatMap QI)/\z.2.length<=co.length/\z.2.Pairwise (λp q=>p.1<q.1)/\∀p∈z.2,0<=p.1/\p.1<(co.length:Int)/\0<=p.2/\p.2<O6 (co.map (·.p.a.st)) p.1.toNat) ol ?_ ?_
  ·refine Qc<|Qs U mv U U<|QK q4 U<|Qa<|xe<|Qf<|QD (α:=Nat×O2×xx) [(13,14),(107,140)] (λz=>[(107,oF oG z.1)])
    (λz w'=>z.1<=co.length/\O5 [b12] hN w'/\Zb w'.heap b12 116 [.string nm,z.2.1]/\w'.ownsRow hN.heap.size 118 2 z.2.1 z.2.2.length (z.2.2.flatMap QI)/\z.2.2.length<=z.1/\z.2.2.Pairwise (λp q=>p.1<q.1)/\∀p∈z.2.2,0<=p.1/\p.1<(z.1:Int)/\0<=p.2/\p.2<O6 (co.map (·.p.a.st)) p.1.toNat)
    (λz=>co.length - z.1) ol (0,Zz,[]) La
    ⟨Ln _,O5.Z _ _,hB1213,QL _ _ _ _,Lu _,List.Pairwise.nil,λp I=>by cases I⟩ ?_
   rintro⟨k,vl,ls⟩ g14 hP ⟨O,Y,hQ,ha,mw,gm,hR⟩;simp only[]at O hQ ha mw gm hR;refine Qc<|QZ U U<|xe<|Qd<|QG U (λmy=>?_) (λmy=>?_)
   ·refine Qy ?_;have ke:k=co.length:=by have h109:¬(k:Int)<(co.length:Int):=my;omega
    rw[ke]at hR;exact⟨(vl,ls),Z,Y,hQ,ha,oh,gm,hR⟩
   have hj:k<co.length:=by have h109:(k:Int)<(co.length:Int):=my;omega
   have hAC14:=q4.st Y;have hZ:=mv.J Y q3;have j1:=hB1113.J Y n1112;refine Qh<|Qd<|Qf<|Qm<|Qb<|Qc<|Qs U hZ U U<|Qa<|O8 Yp hAC14 U U hj λa113 j2=>?_;refine Zk (co[k]'hj) λq G=>?_;rw[G]at j2;refine x (Zp U)<|x (Zp U)<|x (QA ((j2.from 1).fld 1 (oF oG q.p.a.st) U) U)<|Qb ?_;have mz:=(hU k hj).g;rw[G]at mz;have hqp:=mz.p;have hqs:=mz.s;have m2:=qw (ns:=xr.1) (j:=0+k*1) (by rw[xr.2.1];omega);have qx0l:=Jr xr.2.2 (0+k*1);refine Zk (xr.1.getD (0+k*1) 0) λxk hxk=>?_;rw[hxk]at m2 qx0l;have hmod:0<=(xk:Int) % (q.p.a.st+2):=Int.emod_nonneg _ oa;refine Qm<|x (ZZ (i:=k) U U oa)<|Y7 j1 U m2<|x (Z3 (k':=.i64) U ⟨oa,oa⟩)<|Qa<|QP U U<|x (JH (a:=(xk:Int)) (b:=q.p.a.st+2) U U oa oa)<|Qa<|QZ U U<|xe ?_;have hgeL:=Qi ha;have j3:=Y.size;have za:=hO.size;have zb:b12∉ob vl:=QT ha oa;have hn11v:qo∉ob vl:=QT ha oa;have hcget:O6 (co.map (·.p.a.st)) k=q.p.a.st:=by
    unfold O6;simp[oQ,List.getElem?_map,Of hj,G]
   refine QG U (λh125=>?_) (λh125=>?_)
   ·refine Qh<|Qw<|QP U U<|Qa<|xe ?_;exact⟨(k+1,vl,ls),oh,La,hj,Y,hQ,ha,oh,gm,λp I=>by have:=hR p I;simp only[];omega⟩
   have hd14:O5 [] hP { hP with drawn:=hP.drawn+1 }:=O5.C _ _
   refine Zk ((xk:Int) % (q.p.a.st+2)) λst hst=>?_;refine ZD (ob vl) (Xb 0 15 [11,12,14])<|p (QR U)<|pq (λ_ hc=>Qq (hQ.J hc zb) U U)<|p QE<|p QE<|p (λ_=>ZZ (i:=k) U U oa)<|pq (λ_ hc=>Qq (j1.J hc hn11v) U m2)<|p (λ_=>Z3 (k':=.i64) U ⟨oa,oa⟩)<|p QE<|p (λ_=>XR U U ⟨oa,oa⟩) <|
    p (λ_=>JH (a:=(xk:Int)) (b:=q.p.a.st+2) U U oa oa)<|p (λ_=>Qz ⟨U,U,Z⟩)<|pk<|QC (us:=[QI ((k:Int),(xk:Int) % (q.p.a.st+2))]) U U og (show 1*2<=1000000 by omega) oA λb137 hJ J hb137 hB137=>?_
   have gu:=hd14.D J;have hz1415:=gu.size;refine⟨gu.any,?_⟩;refine pk<|Za (news:=QI ((k:Int),(xk:Int) % (q.p.a.st+2))) (L:=[]) (Qp ha gu) U U U (hB137.at oe) (Qew _) oa oa λv16 hK gv T zv=>⟨(gu.any (L:=ob vl)).Q T,?_⟩;have hge16:∀b∈ob v16,hN.heap.size<=b:=λb E=>(Qi gv b E).1;refine p (QR U)<|pkl (hl:=by kernel_rfl)<|QB ((hQ.I gu).J T zb) U U oe (Qt gv) λm3 h0 hV=>pe ?_;refine Qw<|QP U U<|Qa<|xe<|⟨(k+1,v16,ls++[((k:Int),(xk:Int) % (q.p.a.st+2))]),oh,La,hj,((Y.D gu.any).then T (λb E=>.inr (hgeL b E).1)).Q h0,hV,?_,by simp only[oM,oO];omega,?_,λp I=>?_⟩
   ·have h9:=Qg gv h0 (λb E=>by have:=hge16 b E;simp only[oI];omega);simp only[oM,List.flatMap_append];simpa using h9
   ·simp only[];rw[MF];exact⟨gm,NF _ _,λp I p' m4=>by rw[Lb.1 m4];have:=hR p I;simp only[];omega⟩
   simp only[]at I ⊢;rcases Lc.1 I with I|I
   ·have:=hR p I;omega
   rw[Lb.1 I];simp only[Ot];rw[hcget];omega
  rintro⟨vl,ls⟩ g14 hP ⟨Y,hQ,ha,mw,gm,hR⟩;simp only[]at hQ ha mw gm hR;have j3:=Y.size;have za:=hO.size;have ga:O5 [] w9 hP:=mu.O Y oa;have hZ:=mv.J Y q3;have ku:=h7.I ga;refine Qc<|Qs U hQ U U<|QK (QJ (L:=[]) ha oa oe) rfl<|x (Z7 rfl rfl)<|xe<|QG U (λz0=>?_) (λz0=>?_)
  ·refine Qh<|Qw<|QP U U<|Qa<|xe<|⟨(i+1,vx,qx),oh,La,h5,oh,V.D ga.any,hZ,ku,oh,hY,λq G=>?_⟩;obtain⟨⟨k,k1,k2⟩,h2⟩:=hM q G;exact⟨⟨k,oh,k2⟩,h2⟩
  have z1:(0:Int)<(ls.length:Int):=z0;have hxx:=Qt ha;refine Qw<|Qs U hZ U U<|Q5 hQ U U<|Qe<|QC (us:=[Q8 ⟨nm,vl,ls⟩]) U U og (show 1*2<=1000000 by omega) oA λb148 hJ J hb148 hB148=>?_;refine Qe<|Za (news:=Q8 ⟨nm,vl,ls⟩) (L:=[]) (Qp ku.own J) U U U (hB148.at oe) (Qas hxx) oa (ov ga.size J.size) λv16 hK gv T zv=>?_;have hs1115:O5 [] ho hJ:=(kt.O Y q1).D J;have hM16:=(h7.I hB).app hs1115 (q:=⟨nm,vl,ls⟩) (λt ht=>by rw[Lb.1 ht];exact⟨hN.heap.size,118,Qp ha J,by show ls.length<=_;omega,hz1113⟩) oa gv T zv;have hgeX:=Qi ku.own;have n3x:H∉ob vx:=QT ku.own oa;refine Q2 U<|Qe<|QB ((hZ.I J).J T n3x) U U oe (Qt gv) λm3 h0 hB317=>xe ?_;refine Qw<|QP U U<|Qa<|xe ?_;have kv:O5 [H] w8 hK:=((V.D ga.any).D J.any).then T (λb E=>.inr (hgeX b E).1);refine⟨(i+1,v16,qx++[⟨nm,vl,ls⟩]),oh,La,h5,oh,kv.Q h0,hB317,hM16.low h0 (λb E=>by rw[Lb.1 E];omega),by simp only[oM,oO];omega,?_,λq G=>?_⟩
  ·simp only[Oi,oX,OL];rw[MC];refine⟨hY,oe,λs hs s' hs' e=>?_⟩;obtain⟨q,G,rfl⟩:=LC.1 hs;obtain⟨⟨k,k1,k2⟩,_⟩:=hM q G;have hk0:k=0:=oa
   have hi1:i=1:=oa
   rw[Lb.1 hs',k2,<-hH,hk0,hi1]at e;exact OW e og
  rcases Lc.1 G with G|G
  ·obtain⟨⟨k,k1,k2⟩,h2⟩:=hM q G;exact⟨⟨k,oh,k2⟩,h2⟩
  rw[Lb.1 G];refine⟨⟨i,Nat.lt_succ_self _,hH.symm⟩,λe=>by rw[show ls=[] from e]at z1;exact OW z1 og,by show ls.length<=3;omega,Qfm ls none (λb E=>by cases E) gm (λp I=>?_)⟩;rw[Lh];exact hR p I
 rintro⟨vx,qx⟩ g9 w9 ⟨V,hX,h7,kr,hY,hM⟩;simp only[]at hX h7 kr hY hM;have k9:=V.size;have z2:=kf.J V ms;have g151:=Qh4 (l:=l) h.n 4;have hbd:=h.bd;have hbdb:=Qeg l.bd (b:=8) og;refine Zk (l.bd.tmod 8) λbd z3=>?_;rw[z3]at hbdb;refine Qc<|Qs U z2 U g151<|x (Z3 (k':=.i64) U ⟨oa,oa⟩)<|x (QhS U U og)<|x (Qz ⟨U,U,Z⟩)<|Qe<|Qo (us:=[.string .empty,Zz,oF oG 0]) U λgb hh hw m5 m6 =>
  Qe<|Qj (us:=[.string ⟨#[107]⟩,Zz,oF oG bd]) m6 U (show Go.Lg.ev _ _=_ from OV (λn=>Value.agg #[.string ⟨#[107]⟩,Zz,oF oG n]) z3) U U oB λho gj z4=>xe ?_
 have hB:O5 [] w9 ho:=hw.O gj m5;have hB111:=z2.I hB;have hB311:=hX.I hB;have n115:b1∉[gb]:=om
 have n315:H∉[gb]:=om
 have hl15:=z4.lt;refine Q3 (α:=O2×xx) [(16,16),(157,179)] (λ_=>[]) (λz w'=>O5 [gb] ho w'/\Zb w'.heap gb 121 [.string ⟨#[107]⟩,z.1,oF oG bd]/\w'.ownsRow ho.heap.size 123 2 z.1 z.2.length (z.2.flatMap QI)/\z.2.length<=n/\z.2.Pairwise (λp q=>p.1<q.1)/\∀p∈z.2,0<=p.1/\p.1<(n:Int)/\-4<p.2/\p.2<4) ol ?_ ?_
 ·refine Qm<|Qa<|xe<|Qf<|QD (α:=Nat×O2×xx) [(16,16),(158,179)] (λz=>[(158,oF oG z.1)])
   (λz w'=>z.1<=n/\O5 [gb] ho w'/\Zb w'.heap gb 121 [.string ⟨#[107]⟩,z.2.1,oF oG bd]/\w'.ownsRow ho.heap.size 123 2 z.2.1 z.2.2.length (z.2.2.flatMap QI)/\z.2.2.length<=z.1/\z.2.2.Pairwise (λp q=>p.1<q.1)/\∀p∈z.2.2,0<=p.1/\p.1<(z.1:Int)/\-4<p.2/\p.2<4)
   (λz=>n - z.1) ol (0,Zz,[]) La
   ⟨Ln _,O5.Z _ _,z4,QL _ _ _ _,Lu _,List.Pairwise.nil,λp I=>by cases I⟩ ?_
  rintro⟨i,vt,ts⟩ g12 gl ⟨hi,hf,hS,h4,kh,gn,hT⟩;simp only[]at hi hS h4 kh gn hT;refine Qc<|QZ U U<|xe<|Qd<|QG U (λm7=>?_) (λm7=>?_)
  ·refine Qy ?_;have k6:i=n:=by have h160:¬(i:Int)<1+(cn:Int) % 3:=m7;omega
   rw[k6]at kh hT;exact⟨(vt,ts),Z,hf,hS,h4,kh,gn,hT⟩
  have h5:i<n:=by have h160:(i:Int)<1+(cn:Int) % 3:=m7;omega
  have z5:=hB111.J hf n115;have qf:=QpI (l:=l) h.n (i:=i) oa;have qfb:=QpH h i oa;refine Zk (flk l i) λfk hfk=>?_;rw[hfk]at qf qfb;refine Qh<|Qd<|Qf<|Qm<|Qb<|Qm<|Q2 U<|x (ZZ (i:=i) U U oa)<|Y7 z5 U qf<|ZA U U<|xe<|QG U (λh165=>?_) (λh165=>?_)
  ·refine Qh<|Qw<|QP U U<|Qa<|xe ?_;exact⟨(i+1,vt,ts),oh,La,h5,hf,hS,h4,oh,gn,λp I=>by have:=hT p I;simp only[];omega⟩
  have hmd:=Qeg fk (b:=4) og;have hd12:O5 [] gl { gl with drawn:=gl.drawn+1 }:=O5.C _ _
  have hz12:=hf.size;have hgeT:=Qi h4;have hn15v:gb∉ob vt:=QT h4 oa;have hn1v:b1∉ob vt:=QT h4 oa;refine ZD (ob vt) (Xb 0 14 [10,11,13])<|p (QR U)<|pq (λ_ hc=>Qq (hS.J hc hn15v) U U)<|p QE<|p QE<|p (QR U)<|p (λ_=>ZZ (i:=i) U U oa)<|pq (λ_ hc=>Qq (z5.J hc hn1v) U qf)<|p (λ_=>Z3 (k':=.i64) U ⟨oa,oa⟩) <|
   p (λ_=>QhS U U og)<|p (λ_=>Qz ⟨U,U,Z⟩)<|pk<|QC (us:=[QI ((i:Int),fk.tmod 4)]) U U og (show 1*2<=1000000 by omega) oA λb176 hN hO hb176 hB176=>?_
  have gw:=hd12.D hO;have hz1213:=gw.size;refine⟨gw.any,?_⟩;refine pk<|Za (news:=QI ((i:Int),fk.tmod 4)) (L:=[]) (Qp h4 gw) U U U (hB176.at oe) (Qew _) oa oa λv14 hP ha Y hn14=>⟨(gw.any (L:=ob vt)).Q Y,?_⟩;have hge14:∀b∈ob v14,ho.heap.size<=b:=λb E=>(Qi ha b E).1;refine p (QR U)<|pkl (hl:=by kernel_rfl)<|QB ((hS.I gw).J Y hn15v) U U oe (Qt ha) λhJ J m6=>pe ?_;refine Qw<|QP U U<|Qa<|xe<|⟨(i+1,v14,ts++[((i:Int),fk.tmod 4)]),oh,La,h5,((hf.D gw.any).then Y (λb E=>.inr (hgeT b E).1)).Q J,m6,?_,by simp only[oM,oO];omega,?_,λp I=>?_⟩
  ·have h9:=Qg ha J (λb E=>by have:=hge14 b E;simp only[oI];omega);simp only[oM,List.flatMap_append];simpa using h9
  ·simp only[];rw[MF];exact⟨gn,NF _ _,λp I p' m4=>by rw[Lb.1 m4];have:=hT p I;simp only[];omega⟩
  simp only[]at I ⊢;rcases Lc.1 I with I|I
  ·have:=hT p I;omega
  rw[Lb.1 I];simp only[];omega
 rintro⟨vt,ts⟩ g12 gl ⟨hf,hS,h4,kh,gn,hT⟩;simp only[]at hS h4 kh gn hT;have hz12:=hf.size;have hgT:=Qi h4;refine Qc<|Qs U hS U U<|QM<|(Qmh h4 oa).mono ?_;rintro vu hN ⟨hO,kw⟩;have hup:(nzT ts).Pairwise (λp q=>p.1<q.1):=List.Pairwise.filter _ gn;have hul:=Mi (λp:Int×Int=>!decide (p.2=0)) ts;have hub:∀p∈nzT ts,0<=p.1/\p.1<(n:Int)/\p.2≠0/\-65536<=p.2/\p.2<=65536:=λp I=>by
  have h1:=L9.1 I;have h2:=hT p h1.1;have h3:¬p.2=0:=by simpa using h1.2
  omega
 refine Zk (nzT ts) λus hus=>?_;have hul':us.length<=3:=by rw[<-hus];exact LJ hul oa
 rw[hus]at kw hup hub;have n15t:gb∉ob vt:=QT h4 oa;refine Q2 rfl<|Qe<|QB (hS.J hO n15t) U U oe (Qt kw) λhP Y hB1514=>xe ?_;have ga:O5 [] w9 hP:=(((hB.O hf m5).then hO (λb E=>.inr (ou (hgT b E).1)))).O Y m5;have za:=hO.size;have j3:=Y.size;have hgU:=Qi kw;have ha:=Qg kw Y (λb E=>by have:=(hgU b E).1;simp only[oI];omega);have hZ:=hX.I ga;refine Q3 (α:=O2×List KV) [(184,190)] (λ_=>[]) (λz w'=>O5 [H] hP w'/\Zb w'.heap H 44 [ve,vc,vr,vx,z.1]/\z.2.length<=1/\(∀q∈z.2,q.nm=⟨#[107]⟩/\Xx (co.map (·.p.a.st)) q.k=0)/\∀L:LN,(∀b∈L,b<w6.heap.size)->yT L w'.heap z.1 z.2) ol ?_ ?_
 ·refine Qc<|Qs U hB1514 U U<|QK (QJ (L:=[]) ha oa oe) rfl<|x (Z7 rfl rfl)<|xe<|QG U (λh187=>?_) (λh187=>?_)
  ·refine Qh ?_;exact⟨(Zz,[]),Z,O5.Z _ _,hZ,og,λq G=>(by cases G),λL _=>⟨Zn.nil _ _ 3,λq G=>(by cases G),λq G=>(by cases G)⟩⟩
  refine Qw<|Q5 hB1514 U U<|Qe<|QC (us:=[Zd ⟨⟨#[107]⟩,vu,us,bd⟩]) U U og (show 1*3<=1000000 by omega) oA λb189 hJ J hb189 hB189=>?_;refine Q2 U<|Qe<|QB (hZ.I J) U U oe rfl λhK T hW=>xe ?_;refine⟨(_,[⟨⟨#[107]⟩,vu,us,bd⟩]),Z,J.any.Q T,hW,Lu _,λq G=>?_,λL hL=>?_⟩
  ·rw[Lb.1 G];refine⟨rfl,?_⟩;have hgr0:grt bd=false:=by unfold grt;rw[OZ oa,OZ oa];rfl
   have hct:=Qfj (sz:=co.map (·.p.a.st)) us none (λb E=>by cases E) hup (λp I=>by rw[Lh,gz];exact hub p I);show Xx _ ⟨_,us,bd⟩=0;unfold Xx;rw[OT oh,OT (by rw[hct];decide),OT (by simp only[];rw[hgr0];decide)]
  have kx:∀b∈H::L,b<ho.heap.size:=λb E=>by
   rcases Li.1 E with rfl|E
   ·omega
   have:=hL b E;omega
  have h1:yT (H::L) hJ.heap (.slice (some ⟨b189,0,none⟩) 1 1) [⟨⟨#[107]⟩,vu,us,bd⟩]:=by
   refine⟨hB189.arr (λE=>ou (kx _ E)) U og (Lu _),λq G=>?_,λq G=>?_⟩
   ·rw[Lb.1 G];exact(QJ (L:=H::L) ha oa (λb E hbL=>ov (hgU b E).1 (kx b hbL))).I J
   rw[Lb.1 G];exact Xu og
  exact(h1.st (T.mono oe)).up (λb E=>.inl (Lj _ E))
 rintro⟨vk,ks⟩ g16 hK ⟨T,hW,hj,hgk,m8⟩;simp only[]at hW hj hgk m8;have hge3:=Qi go;have hlt3:=Zc go;have kv:O5 [H] w8 hK:=(V.D ga.any).Q T;have hs716:O5 [H] w7 hK:=hg.Q kv;have m9:O5 [H,b4] w6 hK:=hC.Q (hs716.mono oe);have pa:∀b∈[H],b<w6.heap.size:=λb E=>by rw[Lb.1 E];omega
 have hE16:=Qg (Qp go pw) m9 (λb E hm=>by have:=hlt3 b E;simp only[oL,oJ,or_false]at hm;omega);have hC16:=hv.low hs716 pa;have hR16:=hE.low kv (λb E=>ou (pa b E));have hX16:=(h7.I ga).low T (λb E=>ou (pa b E));have n23:b2∉[H]:=om
 have n234:b2∉[H,b4]:=oq
 have hB216:=(pg.I gy).J m9 n234;refine Qc<|Q5 hW U U<|Qe<|Qj (us:=[ve,vc,vr,vx,vk]) hB216 U U U U ⟨Qt hE16,Qt hC16.c,Qt hR16.c,Qt hX16.own,(m8 [] oe).arr.one,Z⟩ λm3 h0 hB217=>xe ?_;have pc:∀b∈[b2],b<w6.heap.size:=λb E=>by rw[Lb.1 E];omega
 have lo2':∀b∈[b2],b<w2.heap.size:=λb E=>by rw[Lb.1 E];omega
 have hE17:=Qg hE16 h0 (λb E hm=>ov (hge3 b E).1 (lo2' b hm));have hC17:=hC16.low h0 pc;have hR17:=hR16.low h0 (λb E=>ou (pc b E));have pd:=hX16.low h0 (λb E=>ou (pc b E));have hs017:O5 [] w m3:=((ph.D gy).then m9 (λb E=>.inr (by simp only[oL,oJ,or_false]at E;omega))).O h0 oa;have hcon:∀q∈co,Jp q.nm:=λq G=>by
  obtain⟨k,O,rfl⟩:=LM G;rw[(hU k O).nm];exact qg 99 k
 have hrqn:∀q∈rq,Jp q.nm:=λq G=>by
  obtain⟨k,O,rfl⟩:=LM G;rw[(h8 k O).1.nm];exact qg 114 k
 have hxnm:∀q∈qx,Jp q.nm:=λq G=>by
  obtain⟨⟨k,_,k2⟩,_⟩:=hM q G;rw[k2];exact qg 101 k
 have hevn:∀e∈ev,Jp e.nm:=λe S=>Qji _ e (by rw[kj];exact S);have hevl:ev.length=5:=by rw[<-kj];exact VB _ _
 refine Qk ⟨[.agg #[ve,vc,vr,vx,vk]],⟨⟨_,U,Qn U (hB217.at (L:=[]) oe).cells⟩,Z⟩,hs017,⟨ev,co.map IV.it,rq.map IV.it,qx.map XV.x,ks.map KV.k⟩,⟨⟨ve,vc,vr,vx,vk,ev,co,rq,qx,ks⟩,rfl,rfl,λL hL=>?_⟩,?_⟩
 ·have kx:∀b∈L,b<w2.heap.size:=λb E=>ou (hL b E)
  have hLn:b2∉L:=λhm=>ou (hL b2 hm)
  have ki:∀b∈b2::L,b<w6.heap.size:=λb E=>by
   rcases Li.1 E with rfl|E
   ·omega
   have:=hL b E;omega
  refine⟨⟨QJ hE17 (by show ev.length<=_;omega) (λb E hbL=>ov (hge3 b E).1 (kx b hbL)),hevn⟩,hC17.itms oa hcon (λb E=>ou (ki b (Lj _ E))),hR17.itms oa hrqn (λb E=>ou (ki b (Lj _ E))),⟨QJ pd.own (by show qx.length<=_;omega) (λb E hbL=>ov (Qi pd.own b E).1 (ki b (Lj _ hbL))),λq G=>?_,hxnm⟩,?_⟩
  ·exact pd.each q G _ (Lb.2 U) L (λb E=>.inl (ou (ki b (Lj _ E))))
  exact((m8 (b2::L) ki).st (h0.mono oe)).up (λb E=>.inl (Lj _ E))
 rw[<-kj];exact QoN oa oa hU gq oa h8 kr hY hM hj hgk
structure jk (base:Nat)(w:O1)(vc va:O2)(co:List IV)(al:List J9):Prop where
 c:w.ownsRow base 71 5 vc co.length (co.flatMap QO)
 a:w.ownsRow base 183 5 va al.length (al.flatMap Zo)
 dj:Dj vc va
 each:∀q∈co,∀t∈Qge q,YG base (ob vc++ob va) w.heap t.1 t.2.1 t.2.2.1 t.2.2.2
section
variable {base:Nat}{vc vc' va':O2}{co:List IV}{al:List J9}
theorem jk.nil:jk base w (nS) (nS) [] []:=⟨QL _ _ _ _,QL _ _ _ _,Dj.nil _,λq E=>by cases E⟩
theorem jk.I (h:jk base w vc va co al)(E:O5 [] w w'):jk base w' vc va co al:=⟨Qp h.c E,Qp h.a E,h.dj,λq G t H=>(h.each q G t H).I E⟩
theorem jk.low {X:LN}(h:jk base w vc va co al)(E:O5 X w w')(G:∀b∈X,b<base):jk base w' vc va co al :=
 ⟨Qg h.c E (λb H I=>ov (Qi h.c b H).1 (G b I)),Qg h.a E (λb H I=>ov (Qi h.a b H).1 (G b I)),h.dj,λq J t O=>(h.each q J t O).low E G⟩
theorem jk.avlt (h:jk base w vc va co al):∀b∈ob vc++ob va,b<w.heap.size:=λb E=>(Lc.1 E).elim (Zc h.c b) (Zc h.a b)
theorem jk.setC {q:IV}(h:jk base w vc va co al)(V:∀t∈Qge q,YG base (ob vc++ob va) w.heap t.1 t.2.1 t.2.2.1 t.2.2.2)(Y:w'.ownsRow base 71 5 vc' (co.length+1) (co.flatMap QO++QO q))
  (G:O5 (ob vc) w w') (H:∀b∈ob vc',b∈ob vc\/w.heap.size<=b):jk base w' vc' va (co++[q]) al:=by
 have I:O5 (ob vc++ob va) w w':=G.mono (λb E=>Lc.2 (.inl E));have J:∀b∈ob vc'++ob va,b∈ob vc++ob va\/w.heap.size<=b:=λb E=>by
  rcases Lc.1 E with E|E
  ·exact(H b E).imp (λh=>Lc.2 (.inl h)) id
  exact .inl (Lc.2 (.inr E))
 refine⟨?_,Qg h.a G (λb E ha=>h.dj b ha E),λb E O=>?_,λd hd t S=>?_⟩
 ·rw[Lk,LA];simpa using Y
 ·rcases H b E with T|T
  ·exact h.dj b T O
  have:=Zc h.a b O;omega
 rcases Lc.1 hd with hd|hd
 ·exact(h.each d hd t S).app I J
 simp only[oI]at hd;subst hd;exact(V t S).app I J
theorem jk.setA {G:List J9}(h:jk base w vc va co al)(S:w'.ownsRow base 183 5 va' G.length (G.flatMap Zo))(I:O5 (ob va) w w')(J:∀b∈ob va',b∈ob va\/w.heap.size<=b):jk base w' vc va' co G:=by
 have T:O5 (ob vc++ob va) w w':=I.mono (λb E=>Lc.2 (.inr E));have V:∀b∈ob vc++ob va',b∈ob vc++ob va\/w.heap.size<=b:=λb E=>by
  rcases Lc.1 E with E|E
  ·exact .inl (Lc.2 (.inl E))
  exact(J b E).imp (λh=>Lc.2 (.inr h)) id
 refine⟨Qg h.c I (λb E H=>h.dj b E H),S,λb E H=>?_,λd hd t Y=>(h.each d hd t Y).app T V⟩;rcases J b H with O|O
 ·exact h.dj b E O
 have:=Zc h.c b E;omega
theorem jk.itms (h:jk base w vc va co al)(I:co.length<=1099511627776)(J:∀q∈co,Jp q.nm)(G:∀b∈L,b<base):XM L w.heap vc co :=
 ⟨QJ h.c I (λb E hbL=>ov (Qi h.c b E).1 (G b hbL)),λq H=>⟨h.each q H (q.p.va,q.p.a.al.length,1,q.p.a.al.map (.int .i64)) oe L (λb E=>.inl (G b E)),h.each q H (q.p.vm,q.p.a.mr.length,1,q.p.a.mr.map (.int .i64)) oe L (λb E=>.inl (G b E)),h.each q H (q.p.ve,q.p.a.ed.length,3,q.p.a.ed.flatMap QF) oe L (λb E=>.inl (G b E))⟩,J⟩
end
def mzA (s f:Int):Q9:=⟨[s,f],2,[0],[(0,s,1),(1,f,0)]⟩
theorem Qd7 (nm:ByteArray)(s f:Int)(w:O1):Q6 prog 67 [.string nm,oF oG s,oF oG f] w λr w'=>O5 [] w w'/\∃xa xm xe,r=.agg #[.string nm,xa,oF oG 2,xm,xe]/\Zr [xa,xm,xe]/\∀L:LN,(∀b∈L,b<w.heap.size)->ZH L w'.heap xa xm xe (mzA s f):=by
 refine Zq func67 ?_;refine Qc<|Qe<|Qo (us:=[.string .empty,nS,oF oG 0,nS,nS]) U λb6 w1 hf hg T=>xe ?_;have hh:=T.lt;refine Qm<|Qa<|Qe<|QC (us:=[[oF oG s],[oF oG f]]) U U og oe ⟨rfl,rfl,rfl,rfl,Z⟩ λE w2 V ht hi=>Qe<|QC (us:=[[oF oG 0]]) rfl rfl og oe ⟨rfl,rfl,Z⟩ λG w3 J hu hj =>
  Qa<|x (Qz ⟨U,U,U,Z⟩)<|Qa<|x (Qz ⟨U,U,U,Z⟩)<|Qe<|QC (us:=[QF (0,s,1),QF (1,f,0)]) U U og (by exact(by decide:2*3<=1000000)) oC λH Y O hv hk=>?_
 have ha:=(V.D J).D O;have hl:=hf.D ha;have hw:=V.size;have hy:=J.size;have hF:Jv w1.heap.size Y.heap (.agg #[.slice (some ⟨E,0,none⟩) 2 2,oF oG 2,.slice (some ⟨G,0,none⟩) 1 1,.slice (some ⟨H,0,none⟩) 2 2]) (mzA s f):=
  Qar (a:=mzA s f) ((hi.I J).I O) (hj.I O) hk oa oa oa U U U og og og
 refine x (Qz ⟨U,U,U,U,Z⟩)<|Qe<|Qo (us:=KJ) U λb7 w5 hm hn ho=>Qe<|Qj (us:=[.slice (some ⟨E,0,none⟩) 2 2,oF oG 2,.slice (some ⟨G,0,none⟩) 1 1,.slice (some ⟨H,0,none⟩) 2 2]) ho U U U U oC λw6 hp hq=>xe ?_;have S:O5 [] Y w6:=hm.O hp hn;refine Qm<|Q5 hq U U<|x (Zf [(0,[.string nm]),(1,[.slice (some ⟨E,0,none⟩) 2 2,oF oG 2,.slice (some ⟨G,0,none⟩) 1 1,.slice (some ⟨H,0,none⟩) 2 2])] ⟨U,U,U,U,Z⟩) <|
  Qe<|Qj (us:=[.string nm,.slice (some ⟨E,0,none⟩) 2 2,oF oG 2,.slice (some ⟨G,0,none⟩) 1 1,.slice (some ⟨H,0,none⟩) 2 2]) ((T.I ha).I S) U U U U ⟨U,U,U,U,U,Z⟩ λw7 hc hr=>xe ?_
 obtain⟨xa,xm,hz,hs,hA⟩:=hF;have he:=OV (λv=>match v with|Value.agg cs=>cs.toList|_=>[]) hs
 simp only[List.cons.injEq,and_true]at he;obtain⟨rfl,_,rfl,rfl⟩:=he;refine Qk ⟨[.agg #[.string nm,.slice (some ⟨E,0,none⟩) 2 2,oF oG 2,.slice (some ⟨G,0,none⟩) 1 1,.slice (some ⟨H,0,none⟩) 2 2]],⟨⟨_,U,Qn U (hr.at (L:=[]) oe).cells⟩,Z⟩,(hl.D S).O hc hg,_,_,_,rfl,⟨rfl,rfl,rfl,Z⟩,λL hL=>?_⟩;have h1:=(hA (b6::L) (λb I=>by
  rcases Li.1 I with rfl|I
  ·exact hh
  have:=hL b I;omega)).I S
 exact(h1.st (hc.mono oe)).up (λb I=>.inl (Lj _ I))
def nmZ (p:Array UInt8)(i:Nat):ByteArray:=⟨p⟩++⟨#[UInt8.ofNat (97+i)]⟩
abbrev Qh5:Array UInt8:=#[115,116,97,114,116]
abbrev Qeu:Array UInt8:=#[102,105,110,105,115,104]
abbrev JI:Array UInt8:=#[109,97,99,104,105,110,101]
def QbZ (i:Nat):List J9:=[⟨nmZ Qh5 i,true,true,false,0⟩,⟨nmZ Qeu i,false,true,false,0⟩]
def mzE (c:Nat):List J9:=(oT c).flatMap QbZ
def QpN (i:Nat):Xt:=⟨nmZ JI i,mzA (2*(i:Int)) (2*(i:Int)+1)⟩
def mzC (c:Nat):ZB:=⟨mzE c,(oT c).map QpN,[],[],[]⟩
theorem qd (p:Array UInt8)(i:Nat)(h:p.size<=10):Jp (nmZ p i):=by
 show(ByteArray.mk _++ByteArray.mk _).size<=_;rw[ByteArray.size_append];show p.size+1<=_;omega
theorem Qn3 (c:Nat):∀e∈mzE c,Jp e.nm:=λe E=>by
 unfold mzE at E;obtain⟨i,_,hi⟩:=Mb.1 E;simp only[QbZ,oL,oJ,or_false]at hi;rcases hi with rfl|rfl
 ·exact qd _ _ og
 exact qd _ _ og
theorem Qb0 (c:Nat):mzE (c+1)=mzE c++QbZ c:=by unfold mzE;rw[Ny,LA];simp
theorem QeF:∀c,(mzE c).length=2*c
 | 0=>rfl
 | c+1=>by rw[Qb0,Lk,QeF c];show 2*c+2=_;omega
theorem Qf6 (i:Nat):∀u∈(QbZ i).flatMap Zo,u.oneCell'=true:=λu E=>by
 obtain⟨e,_,G⟩:=Mb.1 E;exact Qcg e u G
theorem J8 (c:Nat)(hX:c<=4)(w:O1):Q6 prog 30 [oF oG c] w λr w'=>O5 [] w w'/\Qed w.heap.size w'.heap r (mzC c):=by
 refine Zq func30 ?_;refine Qc<|Qe<|Qo (us:=Z6) U λb2 w1 hE hY hv=>xe ?_;refine Qc<|Qe<|Qo (us:=Z6) U λJ O hw hZ hy=>xe ?_;have hF:=hE.D hw;have ga:=hv.lt;have hj:=hy.lt;have hG:=hv.I hw;refine Qd<|Qm<|Qa<|xe<|Qf<|QD (α:=Nat×O2×List J9×O2×List IV) [(4,4),(6,42)] (λz=>[(6,oF oG z.1)])
  (λz w'=>z.1<=c/\O5 [J] O w'/\Zb w'.heap J 44 [z.2.1,z.2.2.2.1,Zz,Zz,Zz]/\jk O.heap.size w' z.2.2.2.1 z.2.1 z.2.2.2.2 z.2.2.1/\z.2.2.1=mzE z.1/\z.2.2.2.2.map IV.it=(oT z.1).map QpN/\∀q∈z.2.2.2.2,Jp q.nm)
  (λz=>c - z.1) ol (0,Zz,[],Zz,[]) La ⟨Ln _,O5.Z _ _,hy,jk.nil,U,U,λq E=>by cases E⟩ ?_
 rintro⟨i,ve,ev,vc,co⟩ g3 w3 ⟨hi,ha,hf,H,S,T,hk⟩;simp only[]at hi hf H S T hk;have gb:=ha.size;have gc:ev.length=2*i:=by rw[S];exact QeF i
 have gg:co.length=i:=by have:=OV oP T;simpa using this
 refine Qc<|QZ U U<|xe<|Qd<|QG U (λh7=>?_) (λh7=>?_)
 ·refine Qy ?_;have hH:i=c:=by have h8:¬(i:Int)<(c:Int):=h7;omega
  rw[hH]at S T;have hI:b2∉[J]:=om
  have hm:=hG.J ha hI;refine Qc<|Q5 hf U U<|Qe<|Qj (us:=[ve,vc,Zz,Zz,Zz]) hm U U U U ⟨Qt H.a,Qt H.c,U,U,U,Z⟩ λw4 I hJ=>xe ?_;have hK:∀b∈[b2],b<O.heap.size:=λb G=>by rw[Lb.1 G];omega
  have hn:=H.low I hK;refine Qk ⟨[.agg #[ve,vc,Zz,Zz,Zz]],⟨⟨_,U,Qn U (hJ.at (L:=[]) oe).cells⟩,Z⟩,(hF.O ha oa).O I oa,⟨ve,vc,Zz,Zz,Zz,ev,co,[],[],[]⟩,rfl,?_,λL hL=>?_⟩
  ·show(⟨ev,co.map IV.it,[],[],[]⟩:ZB)=mzC c;rw[S,T];rfl
  have hz:∀b∈L,b<O.heap.size:=λb G=>ou (hL b G)
  exact⟨⟨QJ hn.a (by show ev.length<=_;omega) (λb G hbL=>ov (Qi hn.a b G).1 (hz b hbL)),λe he=>Qn3 c e (by rw[<-S];exact he)⟩,hn.itms oa hk hz,⟨Zn.nil _ _ 5,λq E=>(by cases E),λq E=>(by cases E)⟩,⟨Zn.nil _ _ 2,λq E=>(by cases E),λq E=>(by cases E)⟩,⟨Zn.nil _ _ 3,λq E=>(by cases E),λq E=>(by cases E)⟩⟩
 have hM:i<c:=by have h8:(i:Int)<(c:Int):=h7;omega
 have hu:(97:Int)+(i:Int)=((97+i:Nat):Int):=oa
 refine Qh<|Qd<|Qf<|Qm<|Qb<|Qc<|Qs U hf U U<|Qa<|QP U U<|x (Z3 (k':=.i32) U ⟨oa,oa⟩)<|x (U6 (n:=97+i) (OV (Value.int .i32) hu) oa)<|x (YL (a:=⟨Qh5⟩) (b:=⟨#[UInt8.ofNat (97+i)]⟩) U U (by show 5+1<=1000000000;omega))<|x (Qz ⟨U,U,U,Z⟩) <|
  Qa<|QP rfl U<|x (Z3 (k':=.i32) U ⟨oa,oa⟩)<|x (U6 (n:=97+i) (OV (Value.int .i32) hu) oa)<|x (YL (a:=⟨Qeu⟩) (b:=⟨#[UInt8.ofNat (97+i)]⟩) U U (by show 6+1<=1000000000;omega))<|x (Qz ⟨U,U,Z⟩) <|
  Qe<|QC (us:=(QbZ i).map Zo) U U og (by exact(by decide:2*5<=1000000)) oC λgh w4 I gi hm=>?_
 have gj:=I.size;have hN:J∉ob ve:=QT H.a hj;have h0:J∉ob vc:=QT H.c hj;have hge:=Qi H.a;have hO:=Qi H.c;refine Qe<|Za (m:=2) (news:=(QbZ i).flatMap Zo) (L:=[]) (Qp H.a I) U U U (hm.at oe) (Qf6 i) oa oa λho w5 h1 hp hP=>?_;refine Q2 rfl<|Qe<|QB (j:=0) (u:=ho) ((hf.I I).J hp hN) U U oe (Qt h1) λV h2 h3=>xe ?_;have hQ:jk O.heap.size w5 vc ho co (ev++QbZ i):=(H.I I).setA (by rw[Lk,LA];exact h1) hp hP;have h4:∀b∈[J],b<O.heap.size:=λb G=>by rw[Lb.1 G];exact hj
 have h5:=hQ.low h2 h4;have h6:O5 [J] O V:=((ha.D I.any).then hp (λb G=>.inr (hge b G).1)).Q h2;have gk:=h6.size;have hR:O5 [] V { V with drawn:=V.drawn+1 }:=O5.C _ _
 refine ZD (ob vc) (Xb 0 17 [12,13,14,16])<|p (QR U)<|pq (λ_ hc=>Qq (h3.J hc h0) U U)<|p QE<|p (λ_=>XR U U ⟨oa,oa⟩)<|p (λ_=>Z3 (k':=.i32) U ⟨oa,oa⟩)<|p (λ_=>U6 (n:=97+i) (OV (Value.int .i32) hu) oa) <|
  p (λ_=>YL (a:=⟨JI⟩) (b:=⟨#[UInt8.ofNat (97+i)]⟩) U U (by show 7+1<=1000000000;omega))<|p QE<|p (λ_=>QhU U U ⟨oa,oa⟩)<|p QE<|p (λ_=>QhU U U ⟨oa,oa⟩)<|p (λ_=>XR U U ⟨oa,oa⟩) <|
  pk<|xg<|(Qd7 (nmZ JI i) (2*(i:Int)) (2*(i:Int)+1) _).mono ?_
 rintro r7 w7 ⟨hS,xa,xm,hg,rfl,hr,hA⟩;have hs:=hR.D hS;refine⟨hs.any,?_⟩;refine pk<|QC (us:=[QO ⟨nmZ JI i,⟨xa,xm,hg,mzA (2*(i:Int)) (2*(i:Int)+1)⟩⟩]) U U og (show 1*5<=1000000 by omega) oA λgl w8 ht gm hT=>⟨(hs.D ht).any,?_⟩;have Y:=hs.D ht;have h9:=h5.I Y;refine pk<|Za (news:=QO ⟨nmZ JI i,⟨xa,xm,hg,mzA (2*(i:Int)) (2*(i:Int)+1)⟩⟩) (L:=[]) h9.c U U U (hT.at oe) (Qa0 hr.1 hr.2.1 hr.2.2.1) oa (ou Y.size) λhB w9 hC hh hU=>⟨(Y.any (L:=ob vc)).Q hh,?_⟩;have hV:=h9.setC (yq (q:=⟨nmZ JI i,⟨xa,xm,hg,mzA (2*(i:Int)) (2*(i:Int)+1)⟩⟩) (N:=V.heap.size) (λL hL=>(hA L hL).I ht) oa h5.avlt) hC hh hU;refine p (QR U)<|pkl (hl:=by kernel_rfl)<|QB (j:=1) (u:=hB) ((h3.I Y).J hh h0) U U oe (Qt hC) λgn hD hW=>pe ?_;refine Qw<|QP U U<|Qa<|xe<|⟨(i+1,ho,ev++QbZ i,hB,co++[⟨nmZ JI i,⟨xa,xm,hg,mzA (2*(i:Int)) (2*(i:Int)+1)⟩⟩]),oh,La,hM,((h6.D Y.any).then hh (λb G=>.inr (hO b G).1)).Q hD,hW,hV.low hD h4,?_,?_,λq E=>?_⟩
 ·simp only[];rw[Qb0,S]
 ·simp only[];rw[Ls,T,Ny,Ls];rfl
 rcases Lc.1 E with E|E
 ·exact hk q E
 rw[Lb.1 E];exact qd _ _ og
section
variable {pS:String}
abbrev i4 (p:Int×Int×Int×Int):LV:=[oF oG p.1,oF oG p.2.1,oF oG p.2.2.1,oF oG p.2.2.2]
class S4 (P:O4)(t:Nat):Prop where
 u:∃f0 f1 f2 f3,P.underlying t=some (.struct #[f0,f1,f2,f3])/\f0.name ≠ "_" /\ f1.name ≠ "_" /\ f2.name ≠ "_" /\ f3.name ≠ "_" /\ f0.offset=0/\f1.offset=1/\f2.offset=2/\f3.offset=3 /\
  P.underlying f0.type=some (.int .i64)/\P.underlying f1.type=some (.int .i64)/\P.underlying f2.type=some (.int .i64)/\P.underlying f3.type=some (.int .i64)
 s:P.stoodInHeld t=false
 g:P.eqGuardType P.depth t=false
theorem QaE [h:S4 P t](w:O1)(p:Int×Int×Int×Int):(Op.equal t (.agg (i4 p).toArray) (.agg (i4 p).toArray)).run P w=.ok true w:=by
 obtain⟨a,b,c,e⟩:=p;obtain⟨f0,f1,f2,f3,O,S,n1,T,V,Y,o1,o2,o3,I,J,u2,u3⟩:=h.u;have G:∀e w,P.underlying e=some (.int .i64)->(isAgg e).run P w=.ok false w:=λe w E=>by simp[isAgg,run_underlying E]
 have hp:∀e (x y z u:Int) (w:O1),P.underlying e=some (.int .i64)->(part e #[oF oG x,oF oG y,oF oG z,oF oG u] 0).run P w=.ok (oF oG x) w:=λe x y z u w E=>by simp[part,G e w E]
 have ha:∀e (x y z u:Int) (w:O1),P.underlying e=some (.int .i64)->(part e #[oF oG x,oF oG y,oF oG z,oF oG u] 1).run P w=.ok (oF oG y) w:=λe x y z u w E=>by simp[part,G e w E]
 have hb:∀e (x y z u:Int) (w:O1),P.underlying e=some (.int .i64)->(part e #[oF oG x,oF oG y,oF oG z,oF oG u] 2).run P w=.ok (oF oG z) w:=λe x y z u w E=>by simp[part,G e w E]
 have hc:∀e (x y z u:Int) (w:O1),P.underlying e=some (.int .i64)->(part e #[oF oG x,oF oG y,oF oG z,oF oG u] 3).run P w=.ok (oF oG u) w:=λe x y z u w E=>by simp[part,G e w E]
 have H:∀e (m:Nat) (x y:Int) (w:O1),P.underlying e=some (.int .i64)->(Op.equalIn (m+1) e (oF oG x) (oF oG y)).run P w=.ok (x == y) w:=λe m x y w E=>by simp[Op.equalIn,run_underlying E]
 have key:∀m,(Op.equalIn (m+2) t (.agg (i4 (a,b,c,e)).toArray) (.agg (i4 (a,b,c,e)).toArray)).run P w=.ok true w:=by
  intro m;simp only[i4];unfold Op.equalIn;simp only[Sem.run_bind,run_underlying O,Result.andThen_ok];simp[h.s,S,n1,T,V,Y,o1,o2,o3,hp _ _ _ _ _ _ I,ha _ _ _ _ _ _ J,hb _ _ _ _ _ _ u2,hc _ _ _ _ _ _ u3,H _ _ _ _ _ I,H _ _ _ _ _ J,H _ _ _ _ _ u2,H _ _ _ _ _ u3]
 exact key 9998
theorem QhT [h:S4 P t]{x:O3}{p:Int×Int×Int×Int}(hx:ev f x=.agg (i4 p).toArray)(G:ev f y=.agg (i4 p).toArray):
  (execOp (ev f) ⟨d,.binOp .neq t x y E,ty,pS,af,gd⟩).run P w=.ok (.value (.bool false)) w:=by
 have H:(eqGuard .neq t x y (.agg (i4 p).toArray) (.agg (i4 p).toArray)).run P w=.ok () w:=by simp[eqGuard,h.g]
 simp only[execOp,hx,G,Sem.run_bind,H,Result.andThen_ok,binOp,QaE,Sem.run_pure];rfl
end
instance s4Rsn:S4 prog 185:=⟨⟨_,_,_,_,underlying185,og,og,og,og,U,U,U,U,underlying3,underlying3,underlying3,underlying3⟩,od,od⟩
theorem qn {v:O2}{l:List Rsn}(h:Zn L w.heap v l.length 4 (l.flatMap ZX))(G:Zn L' w.heap v' l.length 4 (l.flatMap ZX)):
  Q6 prog 136 [v,v'] w λr w'=>r=.bool true/\O5 [] w w':=by
 have ha:=h.le;refine Zq func136 ?_;refine Qc<|Qb<|Qd<|Qm<|QK h U<|Qa<|QK G U<|ZA U U<|xe<|QY rfl (λJ=>OW U J) (λJ=>?_);refine Qh<|Qd<|Qm<|QK h U<|Qa<|xe<|Qf<|QD (α:=Nat) [(4,5),(13,25)] (λk=>[(13,oF oG k)]) (λk w'=>O5 [] w w'/\k<=l.length) (λk=>l.length - k) ol 0 La ⟨O5.Z _ _,Ln _⟩ ?_;rintro k g O ⟨H,hk⟩
 replace h:=h.I H
 replace G:=G.I H;refine Qc<|QZ U U<|xe<|Qd<|QG U (λS=>?_) (λS=>?_)
 ·refine Qy<|Qc<|Qb<|Qk ⟨[.bool true],La,U,H⟩
 have E:k<l.length:=oa
 refine Qh<|Qd<|Qf<|Qm<|Qb<|Qd<|ZD [] (Xb 0 9 [])<|p QE<|p QE<|Lg.pig (g:=ZX) (i:=k) U QhJ h U U E λhb T=>pq (λ_ I=>Qx (T.I I) U U) <|
  p QE<|p QE<|Lg.pig (g:=ZX) (i:=k) U QhJ G U U E λhe V=>pq (λ_ I=>Qx (V.I I) U U)<|p (λ_=>QhT (p:=((l[k]'E).st,(l[k]'E).kd,(l[k]'E).ix,(l[k]'E).ev)) U U)<|pe ?_
 have Y:=H.D (O5.C [] O);refine ZL rfl<|Qh<|Qw<|QP U U<|Qa<|xe ?_;exact⟨k+1,oa,La,Y,oa⟩
def Uv:ByteArray:=⟨#[110,101,118,101,114]⟩
def Y2:ByteArray:=⟨#[98,111,116,104]⟩
def QaN:ByteArray:=⟨#[109,111,115,116]⟩
def Qa1:Xt:=⟨Uv,⟨[1],1,[0],[]⟩⟩
def Qje (i j:Int):UV:=⟨Y2,[(i,1),(j,1)]⟩
def QoP:xL:=⟨QaN,[(0,1),(1,1)],1⟩
def k1C:ZB:={ mzC 1 with rq:=[Qa1] }
def k2C:ZB:={ mzC 2 with ex:=[Qje 0 1] }
def k3C:ZB:={ mzC 2 with cs:=[QoP] }
theorem QpZ:Y0 k1C=0:=od
theorem QpY:(spc k1C).fb=[⟨1,3,0,1⟩]:=od
theorem Qnc:(spc k1C).a.st=2:=od
theorem Qof:Qfi k1C=true:=od
theorem Qog:cmB k1C=[2]:=od
theorem Qq5:Y0 k2C=0:=od
theorem QpW:(spc k2C).fb=[⟨3,1,0,-1⟩]:=od
theorem QpV:(spc k2C).a.st=4:=od
theorem Qq4:Y0 k3C=0:=od
theorem QpU:(spc k3C).fb=[⟨3,2,0,-1⟩]:=od
theorem QfD {v:O2}(E:v.cells=#[v]):Q6 prog 265 [v] w λr w'=>O5 [] w w'/\∃b,r=.func (.func 310) #[] #[.pointer (some ⟨b,0,none⟩)]/\w.heap.size<=b/\Zb w'.heap b 56 [v]:=by
 refine Zq func265 ?_;refine Qc<|Qe<|QS (us:=[v]) E λb1 J G H I=>Qb<|Qc<|x Zy<|Qb<|Qk ⟨[_],La,G,b1,U,H,I⟩
theorem Qbt {m:Nat}{v:O2}{es:LI}(hb:Zb w.heap b1 56 [v])(hE:QQ L w.heap v es):
  SeqStopsK (fen none) m prog 310 #[.pointer (some ⟨b1,0,none⟩)] (λx:Int=>#[oF oG x]) (Lw w.heap.size L) (λys=>ys=es) (λ_=>True) (es.length+1) w:=by
 intro l J Jx W hc hJ hf hY h0;have S:O5 [] w W:=O5.of_below hc;have hm:=hE.le;have ab:∀{ys:LI} {W1 W2:O1},J ys W1->O5 [] W1 W2->J ys W2:=λ{ys W1 W2} hj I=>hJ ys W1 W2 none hj ⟨I.os,I.tape,I.output,I.size,λk O _=>I.block k O oe⟩ (λr e=>by cases e);have key:Q6 prog 310 [.func (.yield l) #[] #[],.pointer (some ⟨b1,0,none⟩)] W (λ_ W'=>(∃ys,ys=es/\J ys W')\/(∃pre,True/\Jx pre W')):=by
  refine Q6.of_G m func310 U ntmps310 results310 oe ?_;have hg:=hb.I S;refine Zh<|QN ol ol<|Y7 hg U U<|QK (hE.I S) U<|Qa<|xe<|Z9<|qI (α:=Nat) [(4,4),(7,15)] (λk=>[(7,oF oG k)]) (λk ds W'=>ds=[]/\k<=es.length/\O5 L w W'/\J (es.take k) W') (λk=>es.length - k) ol 0 La
   ⟨U,Ln _,S.any,h0⟩ ?_
  rintro k g ds w1 ⟨rfl,O,ha,T⟩;refine Zh<|QN ol ol<|QZ U U<|xe<|Zh<|Qaq U (λV=>?_) (λV=>?_)
  ·refine Vv ?_;have hh:es.length<=k:=by have Y:¬(k:Int)<(es.length:Int):=V;omega
   rw[Lt hh]at T;exact⟨λ_ h=>(by cases h),MM,[],λW' E=>⟨Z,.inl ⟨es,rfl,ab T E⟩⟩⟩
  refine YN ?_;have G:k<es.length:=by have Y:(k:Int)<(es.length:Int):=V;omega
  have hi:es.take (k+1)=es.take k++[es[k]'G]:=Lm G;have hn:(es.take k).length=k:=by rw[Ly];omega
  refine Zh<|Z9<|Zh<|QN ol ol<|xii (i:=k) (hE.st ha) U U G λa9 Y=>x (QA Y U)<|Qb<|Zh<|VK ol ?_;refine JU.pre2 ?_;refine Qa<|Qa<|xe<|xy (l:=l) U (hY (es.take k) (es[k]'G) w1 T oa) λen W3 hl=>Or.elim hl (λH=>⟨.bool true,H.1,?_⟩) (λH=>⟨.bool false,H.1,?_⟩)
  ·refine JU.of_XL<|x (Zx U)<|xe<|VL U<|YN ?_;refine QN ol ol<|QP U U<|Qa<|xe ?_;exact⟨k+1,oa,La,U,G,ha.lw H.2.2,by rw[hi];exact H.2.1⟩
  refine JU.of_XL<|x (Zx U)<|xe<|Qbj U ?_;refine Vu ⟨λ_ h=>(by cases h),MM,[],λW' E=>⟨Z,.inr ⟨es.take k++[es[k]'G],Z,?_⟩⟩⟩;exact hf _ W3 W' none H.2 ⟨E.os,E.tape,E.output,E.size,λk O _=>E.block k O oe⟩ (λr e=>by cases e)
 refine(callsIn_wide (n:=m)).2 ?_;have ea:(#[.func (.yield l) #[] #[]]++[.pointer (some ⟨b1,0,none⟩)].toArray:Array O2)=#[.func (.yield l) #[] #[],.pointer (some ⟨b1,0,none⟩)]:=oe
 rw[ea];unfold Q6 at key;refine Calls.mono key λe w' he=>?_;cases e with
 | returned v=>exact⟨⟨v,U⟩,he⟩
 | panicked c=>exact he.elim
 | outgrown=>exact he.elim
theorem QgQ {v:O2}{es:LI}(hh:Zb w.heap b1 56 [v])(hE:QQ [] w.heap v es)(hl:es.length<=1000):
  Q6 prog 338 [Zz,.func (.func 310) #[] #[.pointer (some ⟨b1,0,none⟩)]] w λr w'=>O5 [] w w'/\Qu 3 w.heap.size w' r es:=by
 refine Q6.of_G 20 func338 U ntmps338 results338 oe ?_;refine Zh<|QN ol ol<|Qe<|QS (us:=[Zz]) U λb2 w1 S ha hc=>Qb ?_;have ho:=S.size;have hp:=hc.lt;refine Zh<|Zh<|QN ol ol<|Qa<|xe<|Z9<|QmT (α:=Int) [b2] oa (capt:=[.pointer (some ⟨b1,0,none⟩)]) U (enc:=λx=>oF oG x) og
  (Qbt (hh.I S) ((hE.up (L':=[b2]) (λb E=>.inr (by rw[Lb.1 E];exact ha))).I S))
  (λpre W=>∃vo,O5 [b2] w1 W/\Zb W.heap b2 56 [vo]/\Qu 3 w1.heap.size W vo pre)
  (λpre=>Yy.ex λvo=>(Yy.J (Lu _)).and (Yy.blk.and Yy.row))
  ⟨Zz,O5.Z _ _,hc,QL _ _ _ _⟩
  (λf x T W=>T=upd (upd f 7 (oF oG x)) 5 (oF oG x)) (λx T=>Yy.pure _) ?_ ?_ ?_
 ·rintro l pre e W ⟨vo,J,I,G⟩;refine QN ol ol<|Qb<|⟨U,KT.refl _ _ _,⟨vo,J,I,G⟩,U⟩
 ·rintro l pre e T W ⟨vo,J,I,G⟩ rfl hN;have he:b2∉ob vo:=QT G oa;have hge:=Qi G;have hi:=J.size;refine Z9<|QN ol ol<|Y7 I U U<|Qa<|Qe<|QC (us:=[[oF oG e]]) U U og oe ⟨rfl,rfl,Z⟩ λhq w2 H hr hj=>?_;refine Qe<|Za (m:=1) (news:=[oF oG e]) (Qp G H) U U U (hj.at (L:=[]) oe) (by simp[Value.oneCell']) oa (ou H.size) λv3 w3 V O hs=>?_;refine Qe<|QB (u:=v3) ((I.I H).J O he) U U oe (Qt V) λw4 Y hk=>xe ?_;have ht:=H.size;refine⟨((KT.I H hi).D (KT.J O oa (λb E=>⟨.inr (hge b E).1,Go.Lg.QU (Qp G H) b E⟩))).D (KT.blk Y (ou O.size) ((I.I H).J O he) (.inl Lr)),v3,((J.D H.any).then O (λb E=>.inr (hge b E).1)).Q Y,hk,?_⟩;have h9:=Qg V Y (λb E=>by have:=(Qi V b E).1;simp only[oI];omega);exact Qu.snoc h9
 rintro D xs W hD rfl ⟨vo,J,I,G⟩ hf;refine Zh<|QN ol ol<|Y7 I U U<|Qb<|Vu ⟨λD' hn=>by rw[Lb.1 hn];exact hf,NF _ _,[vo],λW' hg=>⟨La,(S.O J ha).then hg (λb E=>.inr (by rw[Lb.1 E];omega)),?_⟩⟩;refine Zv (Qg G hg (λb E hm=>?_)) oa;rw[Lb.1 hm]at E;obtain⟨o,h1,h2⟩:=Go.Lg.QU G _ E;rw[hf]at h1;cases h1
 cases h2
theorem QdP {v:O2}{es:LI}(E:Zb w.heap b1 56 [v])(hE:QQ [] w.heap v es)(hl:es.length<=1000):
  Q6 prog 309 [.func (.func 310) #[] #[.pointer (some ⟨b1,0,none⟩)]] w λr w'=>O5 [] w w'/\Qu 3 w.heap.size w' r es:=by
 refine Zq func309 ?_;refine Qc<|Qb<|Qm<|QM<|(QgQ E hE hl).mono ?_;rintro v1 I ⟨G,H⟩;refine Qb<|Qk ⟨[v1],La,G,H⟩
theorem QfH {v:O2}{es:LI}(G:Zb w.heap b1 56 [v])(hE:QQ [] w.heap v es)(hl:es.length<=1000):
  Q6 prog 264 [.func (.func 310) #[] #[.pointer (some ⟨b1,0,none⟩)]] w λr w'=>O5 [] w w'/\Qu 3 w.heap.size w' r (es.mergeSort λx y=>decide (x<=y)):=by
 refine Zq func264 ?_;refine Qc<|Qb<|Qm<|QM<|(QdP G hE hl).mono ?_;rintro v1 S ⟨H,E⟩;refine Qb<|Qm<|QM<|(jx E oa).mono ?_;rintro r2 T ⟨I,J⟩;refine xe<|Qm<|Qb<|Qk ⟨[v1],La,H.then I (λb O=>.inr (Qi E b O).1),J⟩
theorem QiU:∀{l:LI}{k:Nat}(h:k<l.length) {n:Int},l[k]'h=n->n∉l.take k->l.idxOf n=k
 | [],_,h,_,_,_=>by simp at h
 | a::l,0,_,n,e,_=>by
  have e2:a=n:=e;rw[e2,List.idxOf_cons_self]
 | a::l,k+1,h,n,e,E=>by
  have G:a≠n:=λe2=>E (by rw[MJ,e2];exact Lr);rw[List.idxOf_cons,show(a == n)=false by simpa using G];show List.idxOf n l+1=k+1;have:=QiU (l:=l) (k:=k) (oz h) (oz e) (λH=>E (by rw[List.take_succ_cons];exact Lj _ H));omega
theorem Qou {v:O2}(h:QQ L w.heap v l){n:Int}(I:n∈l):
  Q6 prog 75 [v,oF oG n] w λr w'=>w'=w/\r=oF oG (l.idxOf n:Nat):=by
 have S:=h.le;refine Zq func75 ?_;refine Qc<|Qb<|Qd<|Qm<|QK h U<|Qa<|xe<|Qf<|QD (α:=Nat) [(4,5),(8,18)] (λk=>[(8,oF oG k)]) (λk w'=>w'=w/\k<=l.length/\n∉l.take k) (λk=>l.length - k) ol 0 La ⟨U,Ln _,oe⟩ ?_;rintro k g T ⟨rfl,V,E⟩;refine Qc<|QZ U U<|xe<|Qd<|QG U (λJ=>?_) (λJ=>?_)
 ·exfalso;rw[Lt oa]at E;exact E I
 have G:k<l.length:=oa
 refine Qh<|Qd<|Qf<|Qm<|Qb<|Qm<|Qa<|Qa<|xii h U U G λY O=>x (QA O U)<|x (Q0 U U)<|xe<|QY rfl (λH=>?_) (λH=>?_)
 ·refine Qm<|Qb<|Qk ⟨[oF oG k],La,U,OV (λm:Nat=>oF oG m) (QiU G (Eq.symm H) E).symm⟩
 refine Qh<|Qw<|QP U U<|Qa<|xe<|⟨k+1,oa,La,U,oa,?_⟩;rw[Lm G,Lc,Lb];exact λh=>h.elim E H
def rlE (a:Q9)(to:LI):List Ed:=a.ed.map λe=>(e.1,O6 to (a.al.idxOf e.2.1),e.2.2)
theorem Qd3 {to sa:LI}{se:List Ed}(h:ZH [] w.heap va vm ve a)(g3:Jl a=0)(ho:ZE a)(ht:QQ [] w.heap vt to)(hD:to.length=a.al.length)(hM:∀e∈to,0<=e/\e<32)(g4:to.Nodup)
  (hN:to.mergeSort (λx y=>decide (x<=y))=sa) (g5:∀l',l'.Perm (rlE a to)->l'.Pairwise Qcn->l'=se) (g6:ZE ⟨sa,a.st,a.mr,se⟩):
  Q6 prog 203 [.agg #[va,oF oG a.st,vm,ve],vt] w λr w'=>O5 [] w w'/\∃v,r=.tuple #[v,oF oG 0]/\Jv w.heap.size w'.heap v (Yd ⟨sa,a.st,a.mr,se⟩):=by
 have mu:=ho.st0;have mv:=ho.st1;have mw:=ho.al_le;refine Zq func203 ?_;refine Qc<|Qe<|QS (us:=[va,oF oG a.st,vm,ve]) U λb2 w1 hO my g7=>Qe<|Qo (us:=KJ) U λb4 w2 hP mz hQ=>Qb ?_;have hR:=hO.D hP;have m2:=hO.size;have m3:=hQ.lt;have hS:=g7.I hP;refine Qd<|Qc<|Q5 hS U U<|QM<|(Je (h.I hR)).mono ?_;rintro r3 w3 ⟨hT,hz⟩;rw[g3]at hT;subst hT;have hE:=hR.D hz;have m4:=hz.size;have hh:=hS.I hz;have g8:=hQ.I hz;refine Qb<|Qm<|ZA U U<|xe<|ZL rfl<|Qh ?_;have h0:=h.I hE;have V:=ht.I hE;refine Qd<|Qm<|QK V U<|Qs U hh U U<|QK h0.al U<|ZA U U<|xe<|QY rfl (λhU=>OW (OV (λm:Nat=>(m:Int)) hD) hU) (λhU=>?_);refine Qh<|Q3 (α:=Unit) [(5,5),(7,8),(25,47)] (λ_=>[]) (λ_ w'=>w'=w3) ol ?_ ?_
 ·refine Qm<|QK V U<|Qa<|xe<|Qf<|QD (α:=Nat) [(5,5),(7,8),(27,47)] (λk=>[(27,oF oG k)]) (λk w'=>w'=w3/\k<=to.length) (λk=>to.length - k) ol 0 La ⟨U,Ln _⟩ ?_;rintro k g w' ⟨rfl,hk⟩;refine Qc<|QZ U U<|xe<|Qd<|QG U (λhV=>?_) (λhV=>?_)
  ·refine Qy ?_;exact⟨(),Z,U⟩
  have I:k<to.length:=by have m5:(k:Int)<(to.length:Int):=hV;omega
  have g9:=hM _ (Ll I);have hW:(to[k]'I)∉to.take k:=λhm=>by
   obtain⟨j,hj,hX⟩:=LM hm;rw[Ng]at hX;have ka:j<k:=by rw[Ly]at hj;omega
   have:=(MQ.1 g4) j k oa I ka;exact this hX
  refine Zk (to[k]'I) λe T=>?_;rw[T]at g9 hW;refine Qh<|Qd<|Qf<|Qm<|xii V U U I λm6 hY=>?_;rw[T]at hY;refine x (QA hY U)<|x Ql<|Qb<|Qf<|Qm<|xb (YQ U U) (λhZ=>OW (show e<0 from hZ) oa) (λhZ=>?_);refine Qa<|Qa<|x (Ys U U)<|QH U<|Qb<|QY U (λga=>OW (show e≥32 from ga) oa) (λga=>?_);refine Qm<|Qa<|Qnr V U U oa λkb kc=>?_;have ke:QQ [] w'.heap kb (to.take k):=by
   unfold QQ;have kf:(to.take k).length=k:=by rw[Ly];omega
   rw[kf,NO];simpa using kc
  refine Qa<|QM<|(Yj ke e).mono ?_;rintro m7 w' ⟨rfl,rfl⟩;refine Qb<|QY U (λgb=>OW gb hW) (λgb=>?_);refine Qh<|Qw<|QP U U<|Qa<|xe ?_;exact⟨k+1,oa,La,U,I⟩
 rintro⟨⟩ g w' rfl;have kg:O5 [] w' { w' with drawn:=w'.drawn+1 }:=O5.C _ _
 refine Q3 (α:=Nat×O2) [(9,9),(48,55)] (λz=>[(9,.pointer (some ⟨z.1,0,none⟩))]) (λz H=>O5 [] w' H/\w'.heap.size<=z.1/\Zb H.heap z.1 59 [z.2,oF oG a.st,vm,nS]/\z.2.oneCell'=true/\∀L:LN,(∀b∈L,b<w'.heap.size\/b=z.1)->QQ L H.heap z.2 sa) ol ?_ ?_
 ·refine VG (α:=O2) (O5 [] w') [oD 0,oD 3,oD 4,oD 5,oD 6] [oE 1,oE 2,oD 7] 8 9 [oE 9] [] [(48,55)] [(49,50),(55,55)] (λz=>[(55,.agg #[z,oF oG a.st,vm,nS])])
   (λz own H=>(∀b∈own,w'.heap.size<=b)/\z.oneCell'=true/\∀L:LN,(∀b∈L,b∉own)->QQ L H.heap z sa)
   (λv H=>∃b,v=.pointer (some ⟨b,0,none⟩)/\w'.heap.size<=b/\Zb H.heap b 59 KJ) mixed ol od ol U kg oe ?_ ?_ ?_ ?_
  ·rintro v own wa wb ⟨b,rfl,E,hB⟩ hs hn;exact⟨b,U,E,hB.J hs (hn b ot)⟩
  ·rintro z own wa wb ⟨h1,Y,h3⟩ hs;exact⟨h1,Y,λL hL=>(h3 L hL).I hs⟩
  ·rintro z g own wz v ⟨i1,i2,i3⟩ kh ⟨G,rfl,hf,hi⟩ ki;have gc:=(ki G ot).1;refine pkl (hl:=by kernel_rfl)<|Qj (us:=[z,oF oG a.st,vm,nS]) hi U U U U ⟨i2,U,h0.mr.one,U,Z⟩ λH ha kj=>pe ?_;refine⟨(G,z),La,kh.O ha hf,hf,kj,i2,λL hL=>?_⟩;have h1:=i3 (G::L) (λb E=>by
    rcases Li.1 E with rfl|E
    ·exact gc
    rcases hL b E with Y|Y
    ·exact λh3=>ou (i1 b h3)
    subst Y;exact gc)
   exact(h1.st (ha.mono oe)).up (λb E=>.inl (by simp[E]))
  refine Go.Lg.p QE<|Go.Lg.p (QR U)<|pq (λ_ hc=>Qq (hh.I hc) U U)<|Go.Lg.p (QR U)<|pq (λ_ hc=>Qq (hh.I hc) U U) <|
   pe ⟨λg wf gg=>Qo (us:=KJ) U λb m8 gh gi gj=>⟨gh,gg.D gh,⟨b,U,LJ gg.size gi,gj⟩,λx hx=>?_⟩,?_⟩
  ·have kk:x=b:=by
    have kn:x∈[b]:=hx;simpa using kn
   subst kk;exact⟨gi,gj.lt⟩
  refine f2k λx1 p1 c1=>xg<|(QfD V.cells).mono ?_;rintro m9 y1 ⟨gk,pa,rfl,pc,hG⟩;refine⟨c1.D gk,U2 x1.heap.size y1.heap.size,gk.any,λb E=>.inr (ZC.1 E),?_⟩;refine f2k λx2 p2 c2=>xg<|(QfH (hG.I p2) (V.I c2) oa).mono ?_;rintro ko y2 ⟨gl,hq⟩;rw[hN]at hq;refine⟨c2.D gl,U2 x1.heap.size y1.heap.size++U2 x2.heap.size y2.heap.size,gl.any,λb E=>(Lc.1 E).imp id λE=>ZC.1 E,?_⟩;refine f2p (λ_=>Qz ⟨xM hq,U,h0.mr.cells,Z⟩)<|f2e ?_;refine⟨ko,La,λb E=>?_,Qt hq,λL hL=>?_⟩
  ·have e1:=c1.size;have e2:=c2.size;rcases Lc.1 E with E|E
   ·have:=ZC.1 E;omega
   have:=ZC.1 E;omega
  exact QJ hq (by rw[<-hN,(ND to _).length_eq];omega) (λb E hm=>hL b hm (Lc.2 (.inr (ZC.2 (Qi hq b E)))))
 rintro⟨G,vs⟩ g H ⟨ha,hf,hi,hvo,gm⟩;simp only[]at hf hi hvo gm;have gn:=hi.lt;have go:=hh.I ha;have gp:∀b∈[G],b∈([]:LN)\/w'.heap.size<=b:=λb E=>.inr (by rw[Lb.1 E];exact hf);have hr:ZH [G] H.heap va vm ve a:=(h0.up gp).I ha;have kq:QQ [G] H.heap vt to:=(V.up gp).I ha;have kr:=gm [G] (λb E=>.inr (Lb.1 E));have pd:=hr.ed.le;have kt:b2∉[G]:=by have:=hh.lt;simp only[oI];omega
 have pf:b4∉[G]:=om
 have ku:(rlE a to).length=a.ed.length:=by unfold rlE;rw[Lh]
 have kv:∀e∈rlE a to,(0<=e.1/\e.1<1099511627776)/\0<=e.2.1/\e.2.1<1099511627776:=λe T=>by
  unfold rlE at T;obtain⟨d,hd,rfl⟩:=LC.1 T;have h1:=ho.ed d hd;have Y:a.al.idxOf d.2.1<to.length:=by rw[hD];exact MH h1.2.2.1
  have h3:=hM _ (Ll Y);have h4:=ZG Y;simp only[];omega
 refine Q3 (α:=O2) [(11,11),(56,78)] (λ_=>[]) (λz J=>O5 [G] H J/\Zb J.heap G 59 [vs,oF oG a.st,vm,z]/\J.ownsRow H.heap.size 167 3 z (rlE a to).length ((rlE a to).flatMap QF)) ol ?_ ?_
 ·refine Qc<|Qs U go U U<|QK hr.ed U<|Qa<|xe<|Qf<|QD (α:=Nat×O2) [(11,11),(59,78)] (λz=>[(59,oF oG z.1)]) (λz J=>z.1<=a.ed.length/\O5 [G] H J/\Zb J.heap G 59 [vs,oF oG a.st,vm,z.2]/\J.ownsRow H.heap.size 167 3 z.2 z.1 (((rlE a to).take z.1).flatMap QF)) (λz=>a.ed.length - z.1) ol (0,Zz) La ⟨Ln _,O5.Z _ _,hi,QL _ _ _ _⟩ ?_;rintro⟨k,vr⟩ g J ⟨hk,O,hg,S⟩;simp only[]at hk hg S;refine Qc<|QZ U U<|xe<|Qd<|QG U (λhH=>?_) (λhH=>?_)
  ·refine Qy ?_;have kw:k=a.ed.length:=by have h5:¬(k:Int)<(a.ed.length:Int):=hH;omega
   rw[Lt oa,kw,<-ku]at S;exact⟨vr,Z,O,hg,S⟩
  have I:k<a.ed.length:=by have h5:(k:Int)<(a.ed.length:Int):=hH;omega
  have hI:=ho.ed _ (Ll I);have kx:(rlE a to)[k]'oa=((a.ed[k]'I).1,O6 to (a.al.idxOf (a.ed[k]'I).2.1),(a.ed[k]'I).2.2):=by unfold rlE;rw[Mq]
  have hu:(rlE a to).take (k+1)=(rlE a to).take k++[(rlE a to)[k]'oa]:=Lm oa;rw[kx]at hu;refine Zk (a.ed[k]'I) λe T=>?_;rw[T]at hI hu;have hix:a.al.idxOf e.2.1<to.length:=by rw[hD];exact MH hI.2.2.1
  rw[<-ZG hix]at hu;refine Zk (to[a.al.idxOf e.2.1]'hix) λy hy=>?_;rw[hy]at hu;refine Qh<|Qd<|Qf<|Qc<|xie (i:=k) (hr.ed.st O) U U I λpg h5=>?_;rw[T]at h5;refine x (Qx h5 U U)<|Qe<|Qo (us:=[oF oG 0,oF oG 0,oF oG 0]) U λkz w7 hw gq k0=>Qe<|Qj (us:=QF e) k0 U U U U oB λw8 h6 gr=>xe ?_;have h7:O5 [] J w8:=hw.O h6 gq;have k4:=O.size;refine Qm<|Qs U ((go.J O kt).I h7) U U<|Qs U gr U U<|QM<|(Qou ((hr.al.st O).I h7) hI.2.2.1).mono ?_;rintro ph w8 ⟨rfl,rfl⟩;refine xii ((kq.st O).I h7) U U hix λpj gs=>?_;rw[hy]at gs;refine x (QA gs U)<|Q2 U<|Qe<|QB (u:=oF oG y) gr U U (by simp[QF]) rfl λw9 h8 k5=>xe ?_;have k6:Zb w9.heap kz 167 (QF (e.1,y,e.2.2)):=k5;have hA:O5 [] J w9:=h7.O h8 gq;have gt:=hg.I hA;have k7:=Qp S hA;have n9v:G∉ob vr:=QT S gn;have hge:=Qi S;have pm:=hA.size;refine Qw<|Qs U gt U U<|Q5 k6 U U<|Qe<|QC (us:=[QF (e.1,y,e.2.2)]) U U og (by exact(by decide:1*3<=1000000)) oA λpn po hC pp k8=>?_;refine Qe<|Za (m:=1) (news:=QF (e.1,y,e.2.2)) (L:=[]) (Qp k7 hC) U U U (k8.at oe) (by simp[QF,Value.oneCell']) oa (ou hC.size) λgu pu hJ gv pw=>?_;refine Q2 U<|Qe<|QB (u:=gu) ((gt.I hC).J gv n9v) U U oe (Qt hJ) λpz gw k9=>xe ?_;refine Qw<|QP U U<|Qa<|xe<|⟨(k+1,gu),oh,La,I,(((O.D hA.any).D hC.any).then gv (λb E=>.inr (hge b E).1)).Q gw,k9,?_⟩;simp only[];rw[hu,LA];have h9:=Qg hJ gw (λb E=>by have:=(Qi hJ b E).1;simp only[oI];omega);simpa using h9
 rintro vr g J ⟨O,hg,S⟩;have n9r:G∉ob vr:=QT S gn;have k4:=O.size;have gx:=Qi S;refine Qc<|Qs U hg U U<|QM<|(Qaz S oa kv).mono ?_;rintro r7 w7 ⟨hw,l',hp,ma,mf⟩;have mg:=g5 l' hp ma;subst mg;refine xe ?_;have mh:=hg.J hw n9r;have mj:∀b∈G::ob vr,b∈[G]\/H.heap.size<=b:=λb E=>by
  rcases Li.1 E with rfl|E
  ·exact .inl Lr
  exact .inr (gx b E).1
 have gy:∀{v:O2} {l:LI},QQ [G] H.heap v l->QQ [] w7.heap v l:=λhv=>(((hv.up mj).st (O.mono oe)).st (hw.mono (λb E=>Lj _ E))).up (λb E=>by cases E);have mo:zg [] w7.heap vr l':=QJ mf (ou hp.length_eq) oe;have mq:ZH [] w7.heap vs vm vr ⟨sa,a.st,a.mr,l'⟩:=⟨gy kr,gy hr.mr,mo⟩;have hK:O5 [] w' w7:=(ha.O O hf).then hw (λb E=>.inr (ou (gx b E).1));have p0:=hK.size;have ms:=g8.I hK;refine Qc<|Q5 mh U U<|QM<|(Jt mq g6).mono ?_;rintro v w8 ⟨h6,hF⟩;obtain⟨us,gz,g0,mt⟩:=JR hF;refine Qe<|Qj (us:=us) (ms.I h6) U gz g0 U mt λw9 h8 hG=>Qb ?_;have g2:=hE.D hK;refine Qk ⟨[.agg us.toArray,oF oG 0],⟨⟨_,U,Qn g0 (hG.at (L:=[]) oe).cells⟩,rfl,Z⟩,(g2.D h6).O h8 oa,v,by rw[gz];rfl,?_⟩;exact(KA hF oa h8).mono (ou g2.size)
theorem QnJ {motive:LI->Prop}(nil:motive [])(append_singleton:∀u v,motive u->motive (u++[v]))(u:LI):motive u:=by
 have key:∀r:LI,motive r.reverse:=by
  intro r;induction r with
  | nil=>exact nil
  | cons v r ih=>rw[List.reverse_cons];exact append_singleton _ _ ih
 have:=key u.reverse;rw[List.reverse_reverse]at this;exact this
def enc (u:LI):Int:=u.foldl (λn e=>n*33+(e+1)) 0
theorem Vk (u:LI)(v:Int):enc (u++[v])=enc u*33+(v+1):=by unfold enc;rw[MD];rfl
def QgW (u:LI):Prop:=∀e∈u,0<=e/\e<32
theorem QgW.snoc {v:Int}(h:QgW (u++[v])):QgW u/\0<=v/\v<32:=⟨λe E=>h e (Mc _ E),h v oe⟩
theorem QoE (h:QgW u):0<=enc u:=by
 induction u using QnJ with
 | nil=>exact NI _
 | append_singleton u v ih=>rw[Vk];have:=ih h.snoc.1;have:=h.snoc.2;omega
def rn (a:Q9)(x:Int)(u:LI):Int:=u.foldl (λs v=>xj a.ed s v) x
theorem Qlf (a:Q9)(x:Int)(u:LI)(v:Int):rn a x (u++[v])=xj a.ed (rn a x u) v:=by unfold rn;rw[MD];rfl
structure Fw where
 u:LI
 s:Int
def qL:Fw:=⟨[],0⟩
def wdN (e:Fw)(d:Ed):Fw:=⟨e.u++[d.2.1],d.2.2⟩
def wdR (a:Q9)(e:Fw):List Fw:=(Z4 a.ed e.s).map (wdN e)
def wdL (a:Q9)(most:Nat):Nat->Nat->List Fw->Option (List Fw)
 | 0,_,L=>some L
 | f+1,i,L=>if i<L.length then(if(L.getD i qL).u.length=most then some L else if 1024<(L++wdR a (L.getD i qL)).length then none else wdL a most f (i+1) (L++wdR a (L.getD i qL)))else some L
def wds (a:Q9)(most:Nat):Option (List Fw):=wdL a most 1025 0 [qL]
structure WdI (a:Q9)(most i:Nat)(L:List Fw):Prop where
 ne:0<L.length
 le:i<=L.length
 mx:L.length<=1024
 rx:∀e∈L,e.s=rn a 0 e.u/\0<=e.s/\e.s<a.st/\(∀v∈e.u,v∈a.al)/\e.u.length<=most
 so:L.Pairwise λp q=>enc p.u<enc q.u
 hd:(L.getD 0 qL).u=[]
 pr:∀e∈L,e.u=[]\/∃j v,j<i/\e.u=(L.getD j qL).u++[v]
 ch:∀j v,j<i->0<=xj a.ed (L.getD j qL).s v->∃e∈L,e.u=(L.getD j qL).u++[v]
theorem Qi2 {L:List Fw}(h:i<L.length):L.getD i qL∈L:=by simp[oQ,h]
theorem Qi3 {L r:List Fw}(h:i<L.length):(L++r).getD i qL=L.getD i qL:=by simp[oQ,List.getElem?_append_left h]
theorem WdI.J (O:ZE a){most:Nat}{L:List Fw}(h:WdI a most i L)(hi:i<L.length)(hl:(L.getD i qL).u.length≠most)(hm:¬1024<(L++wdR a (L.getD i qL)).length):WdI a most (i+1) (L++wdR a (L.getD i qL)):=by
 have T:QgW a.al:=O.al;have hc:∀e∈L,QgW e.u:=λe E u H=>T u ((h.rx e E).2.2.2.1 u H);have hb:=Qi2 hi;obtain⟨r1,r2,r3,r4,r5⟩:=h.rx _ hb;generalize V:L.getD i qL=ei at *;have Y:∀e∈wdR a ei,∃d∈Z4 a.ed ei.s,e=wdN ei d/\d.2.1∈a.al/\0<=d.2.2/\d.2.2<a.st/\xj a.ed ei.s d.2.1=d.2.2:=λe E=>by
  unfold wdR at E;obtain⟨d,hd,rfl⟩:=LC.1 E;obtain⟨hf,ht⟩:=ZU hd;have ha:=O.ed d hf;refine⟨d,hd,U,ha.2.2.1,ha.2.2.2.1,ha.2.2.2.2,?_⟩;rw[QeB];obtain⟨k,hk,rfl⟩:=LM hd;refine Qdo _ ei.s _ k hk (λe E=>(ZU E).2) U (λm hg e=>?_);have I:(Z4 a.ed ei.s).Pairwise λx y:Ed=>x.1<y.1\/(x.1=y.1/\x.2.1<y.2.1):=List.Pairwise.sublist MY O.edi;have:=MQ.1 I m k oa hk hg;have e1:=(ZU (Ll (l:=Z4 a.ed ei.s) (show m<(Z4 a.ed ei.s).length by omega))).2;have e2:=(ZU (Ll hk)).2;omega
 have hw:=QoE (hc _ hb);have hh:∀e∈L,∀v,v∈a.al->enc e.u<enc (ei.u++[v]):=λe E v hv=>by
  have hz:=T v hv;rw[Vk];rcases h.pr e E with G|⟨j,u,J,G⟩
  ·rw[G];show(0:Int)<_;omega
  rw[G,Vk];have h0:enc (L.getD j qL).u<enc ei.u:=by
   have:=MQ.1 h.so j i oa hi J;rw[<-V];simpa[oQ,show j<L.length by omega,hi]using this
  have h5:u<32:=by
   have:=(h.rx e E).2.2.2.1 u (by rw[G];simp);exact(T u this).2
  omega
 have keepD:∀r:List Fw,∀j,j<L.length->(L++r).getD j qL=L.getD j qL:=λr j J=>Qi3 J;refine⟨by simp;have:=h.ne;omega,by simp;omega,oa,λe E=>?_,?_,by rw[keepD _ 0 h.ne];exact h.hd,λe E=>?_,λj v J S=>?_⟩
 ·rcases Lc.1 E with E|E
  ·exact h.rx e E
  obtain⟨d,_,rfl,G,h2,h3,h4⟩:=Y e E;refine⟨?_,h2,h3,λu H=>?_,?_⟩
  ·show d.2.2=rn a 0 (ei.u++[d.2.1]);rw[Qlf,<-r1,h4]
  ·rcases Lc.1 (show u∈ei.u++[d.2.1] from H)with H|H
   ·exact r4 u H
   simp only[oI]at H;subst H;exact G
  show(ei.u++[d.2.1]).length<=most;rw[Lk,LD];omega
 ·rw[MF];refine⟨h.so,?_,λp I q hq=>?_⟩
  ·unfold wdR;rw[MO];have I:(Z4 a.ed ei.s).Pairwise λx y:Ed=>x.1<y.1\/(x.1=y.1/\x.2.1<y.2.1):=List.Pairwise.sublist MY O.edi;refine List.Pairwise.imp_of_mem (λ{x y} hx hy h6=>?_) I;have e1:=(ZU hx).2;have e2:=(ZU hy).2;show enc (ei.u++[x.2.1])<enc (ei.u++[y.2.1]);rw[Vk,Vk];omega
  obtain⟨d,_,rfl,G,_⟩:=Y q hq;exact hh p I _ G
 ·rcases Lc.1 E with E|E
  ·rcases h.pr e E with G|⟨j,u,J,G⟩
   ·exact .inl G
   exact .inr ⟨j,u,oa,by rw[keepD _ j oa];exact G⟩
  obtain⟨d,_,rfl,_⟩:=Y e E;exact .inr ⟨i,d.2.1,oa,by rw[keepD _ i hi,V];rfl⟩
 rw[keepD _ j oa]at S ⊢;by_cases e:j=i
 ·subst e;rw[V]at S ⊢;have hr:=QaM S;refine⟨wdN ei (ei.s,v,xj a.ed ei.s v),Nv _ ?_,U⟩;unfold wdR;exact LO (by unfold Z4;exact L9.2 ⟨hr,oe⟩)
 obtain⟨e',hs,G⟩:=h.ch j v oa S;exact⟨e',Mc _ hs,G⟩
theorem Qpt (G:0<a.st)(most:Nat):WdI a most 0 [qL]:=by
 refine⟨oe,OR _,oe,λe E=>?_,oe,by simp[oQ,qL],λe E=>?_,λj v H=>oa⟩
 ·simp only[oI]at E;subst E;exact⟨U,NI _,G,by simp[qL],by simp[qL]⟩
 simp only[oI]at E;subst E;exact .inl U
section
variable {pS:String}
theorem qV {base e:Nat}{bys:Nat}[h:Sl P t e sz bys z]{v:O2}(E:w.ownsRow base e sz v n cs)
  {a:Addr} {m c:Nat}  (hl:news.length=m*sz) (S:∀j u,news[j]?=some u->w.cell? (a.add j)=some u) (h1:∀u∈news,u.oneCell'=true)
  (hb:n+m<=1099511627776) (hq:bys<=128) (hc:base<=w.heap.size):
  ∃v' w',(Builtin.append_ #[t,t] ty #[v,.slice (some a) m c]).run P w=.ok v' w'/\w'.ownsRow base e sz v' (n+m) (cs++news)/\O5 (ob v) w w'/\(∀b∈ob v',b∈ob v\/w.heap.size<=b)/\w'.ownsRow base e sz v n cs:=by
 obtain⟨i,hi,V,J,Y⟩:=Sl.info h;have ha:(n+m)*bys<=140737488355328:=LJ (Nat.mul_le_mul hb hq) oa;have he:n+m<=maxLen:=by simp only[maxLen];omega
 by_cases hg:∃g cap cur,v=.slice (some ⟨g,0,none⟩) n cap/\w.heap[g]?=some (.cells cur e (0,0))/\n+m<=cap
 ·obtain⟨v',w',I,ho,hs,_⟩:=run_append_own (P:=P) w base t ty e i z sz bys h.u hi V J Y h.zs h.pos v n cs E a m c news hl S h1 he ha hc;have ht:O5 (ob v) w w':=by rw[yc];exact O5.of_grown hs
  refine⟨v',w',I,ho,ht,?_⟩;obtain⟨g,cap,cur,rfl,hf,O⟩:=hg;rcases E.2 with⟨h2,_⟩|⟨g2,cap2,hh,h2,h3,h4,h5,h6,h7,h8⟩
  ·cases h2
  cases h2
  have hu:n*i.size+news.length<=hh.size:=by rw[hl,h7,J,<-Ms];exact LY _ O
  have hv:=run_append_room (P:=P) w t ty e i h.u hi g n cap hh h4 a m c news (by rw[J];exact hl) S h1 O hu;rw[hv]at I;cases I
  refine⟨λb H=>.inl H,E.1,?_⟩;have hB:=E.1;rcases ho.2 with⟨e1,_⟩|⟨g3,cap3,cur3,e1,k3,k4,k5,k6,k7,k8⟩
  ·cases e1
  cases e1
  refine .inr ⟨g,cap,cur3,U,k3,k4,h5,k6,k7,?_⟩;have:=OV (List.take (n*sz)) k8;rw[M4,Mj (LY _ (Nat.le_add_right n m)),MZ oa,Lt (l:=cs) oa]at this;exact this
 have new:∀(old:Nat),old<n+m->∀G,G=(Obj.cells (cs.toArray++news.toArray++Builtin.zeroCells z.cells (grownCap w (n+m) old e - (n+m))) e) ->
   (w.drew.alloc G).ownsRow base e sz (.slice (some ⟨w.heap.size,0,none⟩) (n+m) (grownCap w (n+m) old e)) (n+m) (cs++news):=by
  intro old ho G hw;subst hw;have hge:=grownCap_ge w (n+m) old e;have hj:grownCap w (n+m) old e<=maxLen:=grownCap_le_maxLen w (n+m) old e he;have hp:(cs++news).length=(n+m)*sz:=by rw[Lk,E.1,hl,Ms]
  refine⟨hp,.inr ⟨w.heap.size,_,_,U,hc,Kg w.drew _,hge,hj,?_,?_⟩⟩
  ·simp only[Array.size_append,Od,size_zeroCells,h.zs,E.1,hl,<-Oo];congr 1;omega
  simp only[Array.toList_append,o0];rw[<-LB,<-hp];exact List.take_left
 have stp:∀G,O5 (ob v) w (w.drew.alloc G):=λG=>⟨U,U,U,by rw[VF];exact NQ _,λk hk _=>qB w.drew G k hk⟩;have hy:∀G,O5 [] w (w.drew.alloc G):=λG=>⟨U,U,U,by rw[VF];exact NQ _,λk hk _=>qB w.drew G k hk⟩;have fin:∀(b:Nat),b∈ob (.slice (some ⟨w.heap.size,0,none⟩) (n+m) 0)->b∈ob v\/w.heap.size<=b:=λb H=>by simp[ob]at H;omega
 rcases E.2 with⟨rfl,rfl⟩|⟨g,cap,cur,rfl,hC,hf,hD,hj,hE,hF⟩
 ·have hx:cs=[]:=Lp (oz E.1);subst hx;by_cases hm:m=0
  ·subst hm;have T:news=[]:=Lp (oz hl);subst T;refine⟨nS,w,?_,QL _ _ _ _,O5.Z _ _,λb H=>by simp[ob]at H,QL _ _ _ _⟩;simp[Builtin.append_,run_underlying h.u,sizeOf,typeInfo,hi,Builtin.lenOf,Builtin.firstCells,loadCells,loadCellsFrom]
  have I:=run_append_nil (P:=P) w t ty e i z h.u hi V a m c news (by rw[J];exact hl) S oa oa (by rw[Y];have h0:=ha;simp only[oY]at h0;omega);have T:=new 0 oa _ U;simp only[oY,Ok,Array.empty_append]at T ⊢;exact⟨_,_,I,T,stp _,λb H=>fin b H,QL _ _ _ _⟩
 have O:cap<n+m:=by
  rcases OH cap (n+m)with h9|hge
  ·exact h9
  exact OW ⟨g,cap,cur,U,hf,hge⟩ hg
 have hA:∀j u,cs[j]?=some u->w.cell? ((⟨g,0,none⟩:Addr).add j)=some u:=E.cells (g:=g) U;have I:=run_append_grow (P:=P) w t ty e i z h.u hi V ⟨g,0,none⟩ n cap cs (by rw[J];exact E.1) hA a m c news (by rw[J];exact hl) S O oa (growslice_fits O (by rw[Y];exact ha));exact⟨_,_,I,new cap O _ U,stp _,λb H=>fin b H,Qp E (hy _)⟩
theorem Qie {e bys:Nat}[h:Sl P t e sz bys z]{s:O3}{base:Nat}{v:O2}(E:w.ownsRow base e sz v n cs)(G:ev f s=v)
  {a:Addr} {m c:Nat}  (H:ev f y=.slice (some a) m c) (hl:news.length=m*sz)  (I:At L w.heap a news) (J:∀u∈news,u.oneCell'=true)
  (O:n+m<=1099511627776) (S:base<=w.heap.size)
  (hK:∀v' w',w'.ownsRow base e sz v' (n+m) (cs++news)->O5 (ob v) w w'->(∀b∈ob v',b∈ob v\/w.heap.size<=b)->w'.ownsRow base e sz v n cs->K (QW f d v') w') (T:bys<=128:=by decide):
  XO P ⟨d,.call ⟨.builtin .append,#[s,y],#[t,t]⟩,ty,pS,af,gd⟩ f w K:=by
 obtain⟨v',w',V,Y,h3,h4,h5⟩:=qV (P:=P) (t:=t) (ty:=ty) E hl I.cells J O T S (c:=c);have ha:(execOp (ev f) ⟨d,.call ⟨.builtin .append,#[s,y],#[t,t]⟩,ty,pS,af,gd⟩).run P w=.ok (.value v') w':=by
  simp[execOp,resolve,invoke,builtin,G,H,V]
 exact xv ha (hK v' w' Y h3 h4 h5)
end
section
variable {pS:String}{C:xA}{pl:xu}{i0:Nat}
theorem Qq0 {g:α->LV}{x:O3}{e bys:Nat}[Sl P t e sz bys z](G:QV ops i0=⟨d,.indexAddr t x y,ty,pS,af,gd⟩)(J:∀x,(g x).length=sz){es:List α}{v:O2}{H:O1}{k:IntKind}
  (h:∀w',C w'->Zn L w'.heap v es.length sz (es.flatMap g)) (O:C H) (S:ev f x=v) (T:ev f y=.int k i) (hi:i<es.length)
  (hK:∀a,(∀w',C w'->At L w'.heap a (g es[i]))->XP P ops C K pl (QW f d (.pointer (some a))) w) (V:Yb ops f (QV ops i0)=true:=by rfl):
  XP P ops C K ((i0,true)::pl) f w:=by
 obtain⟨a,cap,E,_⟩:=Zn.at (h H O) hi;refine Lg.p (λw'=>by rw[G];exact Xm (S.D E) T oa oa) ?_ V;rw[G];refine hK _ λw' Y=>?_;obtain⟨a',cap',ha,I⟩:=Zn.at (h w' Y) hi;rw[ha]at E;cases E
 rw[XH g sz J es i hi]at I;simpa using I
end
theorem Qqk (b:Bool):b=true\/b=false:=by cases b;exact .inr U;exact .inl U
structure FV where
 v:O2
 f:Fw
abbrev Yh (p:FV):LV:=[p.v,oF oG p.f.s]
theorem Qa2 (p:FV):(Yh p).length=2:=rfl
structure WdM (wB:O1)(vL:O2)(es:List FV)(w:O1):Prop where
 st:O5 [] wB w
 l:w.ownsRow wB.heap.size 414 2 vL es.length (es.flatMap Yh)
 each:∀p∈es,QQ (ob vL) w.heap p.v p.f.u
theorem WdM.I {wB w w':O1}{vL:O2}{es:List FV}(h:WdM wB vL es w)(E:O5 [] w w'):WdM wB vL es w':=⟨h.st.D E,Qp h.l E,λp G=>(h.each p G).I E⟩
theorem WdM.add {wB:O1}{vL vL':O2}{es:List FV}{p:FV}(h:WdM wB vL es w)(H:O5 (ob vL) w w')(hl:w'.ownsRow wB.heap.size 414 2 vL' (es.length+1) (es.flatMap Yh++Yh p))(I:∀b∈ob vL',b∈ob vL\/w.heap.size<=b)(J:QQ (ob vL) w.heap p.v p.f.u):WdM wB vL' (es++[p]) w':=by
 refine⟨h.st.then H (λb G=>.inr (Qi h.l b G).1),by rw[Lk,LA];simpa using hl,λq E=>?_⟩;rcases Lc.1 E with E|E
 ·exact(h.each q E).grow H (λb G=>G) I
 simp only[oI]at E;subst E;exact J.grow H (λb G=>G) I
theorem QiX {es:List FV}(h:i<es.length):(es.map (·.f)).getD i qL=(es[i]'h).f:=by simp[oQ,h]
theorem Qll (E:ZE a)(s:Int):(Z4 a.ed s).length<=32:=by
 have G:(Z4 a.ed s).Pairwise λx y:Ed=>x.1<y.1\/(x.1=y.1/\x.2.1<y.2.1):=List.Pairwise.sublist MY E.edi;have hi:YY ((Z4 a.ed s).map λe=>e.2.1):=by
  unfold YY;rw[MO];refine List.Pairwise.imp_of_mem (λ{x y} hx H O=>?_) G;have e1:=(ZU hx).2;have e2:=(ZU H).2;omega
 have:=X0 _ 0 32 hi (λv I=>by
  obtain⟨e,J,rfl⟩:=LC.1 I;exact E.al _ (E.ed e (ZU J).1).2.2.1)
 rw[Lh]at this;omega
def Qhe (a:Q9)(most:Nat)(mk:Bool):Option (List (LI)):=if a.st=0 then some []else(wds a most).map λL=>(L.filter λf=>!mk || decide (f.s∈a.mr)).map (·.u)
def Qqr (o:Option (List (LI)))(r:O2)(H:xC):Prop:=(o=none/\r=.tuple #[Zz,oF oG 3])\/∃l v ps,o=some l/\r=.tuple #[v,oF oG 0]/\JV [] H v ps/\ps.map (·.2)=l
theorem QgS (h:ZH [] w.heap va vm ve a)(mq:Jl a=0)(ho:ZE a)(most:Nat)(q5:most<=4096)(mk:Bool):
  Q6 prog 202 [.agg #[va,oF oG a.st,vm,ve],oF oG most,.bool mk] w λr w'=>O5 [] w w'/\Qqr (Qhe a most mk) r w'.heap:=by
 have j1:=ho.st0;have j2:=ho.st1;refine Zq func202 ?_;refine Qc<|Qe<|QS (us:=[va,oF oG a.st,vm,ve]) U λb3 w1 g3 j3 g5=>x Ql<|Qb<|Qd<|Qc<|Q5 g5 U U<|QM<|(Je (h.I g3)).mono ?_;rintro r2 w2 ⟨g7,g8⟩;rw[mq]at g7;subst g7;have J:=g3.D g8;refine Qb<|Qm<|ZA U U<|xe<|ZL rfl<|Qh<|Qd<|Qm<|xb (YQ U U) (λg9=>OW (show(most:Int)<0 from g9) oa) (λg9=>?_);refine Qa<|Qa<|x (Z7 U U)<|QH U<|xe<|QY rfl (λka=>OW (show(most:Int) > 4096 from ka) oa) (λka=>?_);refine Qh ?_;have hO:=g5.I g8;refine Qd<|Qc<|Qs U hO U U<|x (Q0 U U)<|xe<|QY rfl (λhP=>?_) (λhP=>?_)
 ·refine Qc<|x Ql<|Qb<|Qk ⟨[Zz,oF oG 0],oA,J,.inr ⟨[],Zz,[],by unfold Qhe;rw[OU hP],rfl,⟨Zn.nil _ _ _,λp G=>by cases G⟩,rfl⟩⟩
 have ms:0<a.st:=by have za:¬a.st=0:=hP;omega
 have hW:Qhe a most mk=(wds a most).map λL=>(L.filter λf=>!mk || decide (f.s∈a.mr)).map (·.u):=by unfold Qhe;rw[OT oa]
 refine Zk (wds a most) λR hR=>?_;rw[hR]at hW;refine Qh<|Qc<|x (Qz Z)<|Qe<|QC (us:=[Yh ⟨nS,qL⟩]) U U og (by exact(by decide:1*2<=1000000)) oA λkb w3 mt mu mv=>Qb ?_;have mw:WdM w2 (.slice (some ⟨kb,0,none⟩) 1 1) [⟨nS,qL⟩] w3:=by
  refine⟨mt,mv.own (n:=1) U oa mu,λp G=>?_⟩;simp only[oI]at G;subst G;exact Zn.nil _ _ _
 have my:∀e∈a.ed,0<=e.1/\e.1<=1099511627776:=λe he=>ou (ho.ed e he)
 refine Q3 (α:=O2×List FV) [(6,7),(9,10),(12,12),(32,77)] (λz=>[(9,z.1)]) (λz w'=>WdM w2 z.1 z.2 w'/\R=some (z.2.map (·.f))/\z.2.length<=1024) ol ?_ ?_
 ·refine Qc<|Qb<|Qf<|QD (α:=Nat×O2×List FV) [(6,7),(9,10),(12,12),(32,77)] (λz=>[(9,z.2.1),(10,oF oG z.1)])
   (λz w'=>z.1<=1025/\WdM w2 z.2.1 z.2.2 w'/\WdI a most z.1 (z.2.2.map (·.f))/\wdL a most (1025 - z.1) z.1 (z.2.2.map (·.f))=R) (λz=>1025 - z.1) ol (0,.slice (some ⟨kb,0,none⟩) 1 1,[⟨nS,qL⟩]) oA
   ⟨Ln _,mw,Qpt ms most,hR⟩ ?_
  rintro⟨i,vL,es⟩ g4 w4 ⟨mz,hg,h5,H⟩;simp only[]at mz hg h5 H;have hQ:=h5.mx;have m2:=h5.le;rw[Lh]at hQ m2;have hw:Zn [] w4.heap vL es.length 2 (es.flatMap Yh):=QJ hg.l oa (λb _=>oe);refine Qd<|Qm<|Qa<|QK hw U<|QZ U U<|xe<|QG U (λhS=>?_) (λhS=>?_)
  ·refine Qy ?_;have m3:¬i<(es.map (·.f)).length:=by rw[Lh];have m4:¬(i:Int)<(es.length:Int):=hS;omega
   refine⟨(vL,es),La,hg,?_,hQ⟩;rw[<-H];generalize 1025 - i=f;cases f with
   | zero=>rfl
   | succ f=>rw[wdL,OT m3]
  have hi:i<es.length:=by have m4:(i:Int)<(es.length:Int):=hS;omega
  rw[show 1025 - i=(1025 - (i+1))+1 by omega,wdL,OU (by rw[Lh];exact hi),QiX hi]at H;have kc:=hg.each _ (Ll hi);have hU:=h5.rx _ (LO (f:=λq:FV=>q.f) (Ll hi));have hV:=λhl hm=>h5.J ho (by rw[Lh];exact hi) hl hm;rw[QiX hi]at hV;refine Zk (es[i]'hi) λei hG=>?_;rw[hG]at H kc hU hV;have ke:=hg.st;have m5:=kc.up (L':=[]) (λb E=>by cases E);refine Qh<|Qd<|Qf<|Qd<|Qm<|Qa<|O8 (g:=Yh) (i:=i) Qa2 hw U U hi λzb kf=>?_;rw[hG]at kf;refine x (Zp U)<|x (QA (kf.fld 0 _ U) U)<|QK m5 U<|Qa<|x (Q0 U U)<|xe<|QY U (λhX=>?_) (λhX=>?_)
  ·refine Qy ?_;have hH:ei.f.u.length=most:=by have m6:(ei.f.u.length:Int)=(most:Int):=hX;omega
   rw[OU hH]at H;exact⟨(vL,es),La,hg,H.symm,hQ⟩
  have hH:ei.f.u.length≠most:=by have m6:¬(ei.f.u.length:Int)=(most:Int):=hX;omega
  rw[OT hH]at H;have hY:=hV hH;refine Qh ?_;have m7:=hO.I ke;have m8:ZH (ob vL) w4.heap va vm ve a:=((h.I J).up (L':=ob vL) (λb E=>.inr (Qi hg.l b E).1)).I ke;have m9:=Qll ho ei.f.s;have hout:=QaK (va:=va) (vm:=vm) (st:=a.st) (m8.ed.I (O5.C [] w4)) ho.eds my ei.f.s hU.2.1 oa;refine Zk (Z4 a.ed ei.f.s) λos kg=>?_;rw[kg]at m9 hout;have pa:wdR a ei.f=os.map (wdN ei.f):=by unfold wdR;rw[kg]
  rw[pa]at H hY;refine Qd<|Qd<|ZD [] [oD 0,oD 1,oD 2,oD 3,oD 4,oD 5,oD 8,oE 6,oD 7]<|pq (λ_ O=>ZY (m7.I O) U U)<|p QE<|p QE<|Lg.pig (g:=Yh) (i:=i) U Qa2 hw U U hi λzv kh=>?_;rw[hG]at kh;refine p (λ_=>Zp U)<|pq (λ_ O=>QA ((kh.fld 1 _ U).I O) U)<|p QE<|pk<|xg<|hout.mono ?_;rintro ro w5 ⟨pc,ki⟩;have kj:=(O5.C [] w4).D pc;refine⟨kj,?_⟩;refine p (λ_=>Xo ki U)<|pe ?_;have pd:=hg.I kj;refine Zk (es.map (·.f)++os.map (wdN ei.f)) λL1 kk=>?_;rw[kk]at H hY;refine Qf<|QD (α:=Nat×O2×List FV) [(9,9),(12,12),(54,74)] (λz=>[(9,z.2.1),(54,oF oG z.1)])
   (λz w'=>z.1<=os.length/\WdM w2 z.2.1 z.2.2 w'/\zg (ob z.2.1) w'.heap ro os/\z.2.2.length=es.length+z.1/\(∃h:i<z.2.2.length,z.2.2[i]'h=ei)/\z.2.2.map (·.f)++(os.drop z.1).map (wdN ei.f)=L1) (λz=>os.length - z.1) ol (0,vL,es) oA
   ⟨Ln _,pd,ki,U,⟨hi,hG⟩,kk⟩ ?_
  rintro⟨k,vL2,fs⟩ g6 w6 ⟨hk,hn,hZ,pf,kn,hh⟩;simp only[]at hk hn hZ pf kn hh;refine Qc<|QZ U U<|xe<|Qd<|QG U (λga=>?_) (λga=>?_)
  ·refine Qy ?_;have gb:os.length<=k:=by have hI:¬(k:Int)<(os.length:Int):=ga;omega
   rw[Lq gb,Np,LQ]at hh;have pg:Zn [] w6.heap vL2 fs.length 2 (fs.flatMap Yh):=QJ hn.l oa (λb _=>oe);have z0:L1.length=fs.length:=by rw[<-hh,Lh]
   refine Qm<|QK pg U<|x (Z7 U U)<|xe<|QY U (λgc=>?_) (λgc=>?_)
   ·have hJ:1024<L1.length:=by have ph:(fs.length:Int) > 1024:=gc;omega
    rw[OU hJ]at H;refine Qc<|x Ql<|Qb<|Qk ⟨[Zz,oF oG 3],oA,J.D hn.st,.inl ⟨by rw[hW,<-H];rfl,U⟩⟩
   have hJ:¬1024<L1.length:=by have ph:¬(fs.length:Int) > 1024:=gc;omega
   rw[OT hJ,<-hh]at H;have ko:=hY hJ;rw[<-hh]at ko;refine Qh<|Qw<|Qa<|QP U U<|Qb<|⟨(i+1,vL2,fs),oh,oA,oh,hn,ko,H⟩
  have S:k<os.length:=by have hI:(k:Int)<(os.length:Int):=ga;omega
  rw[Zg S,LK]at hh;refine Zk (os[k]'S) λd hd=>?_;rw[hd]at hh;refine Qh<|Exists.elim kn λgg gh=>?_;have kq:=hn.each _ (Ll gg);rw[gh]at kq;refine Q3 (α:=O2×O2) [(9,9),(12,12),(56,73)] (λz=>[(9,z.1)]) (λz w'=>WdM w2 z.1 (fs++[⟨z.2,wdN ei.f d⟩]) w'/\zg (ob z.1) w'.heap ro os) ol ?_ ?_
  ·refine Qf<|Qc<|xie (i:=k) hZ U U S λz1 hI=>?_;rw[hd]at hI;refine x (Qx hI U U)<|Qe<|Qo (us:=[oF oG 0,oF oG 0,oF oG 0]) U λb12 w7 pj pm pn=>Qe<|Qj (us:=QF d) pn U U U U oB λI po kr=>xe ?_;have gi:O5 [] w6 I:=pj.O po pm;have h6:=hn.I gi;have kt:=hZ.I gi;have pp:=kq.I gi;have ku:=pp.up (L':=[]) (λb E=>by cases E);have h0:O5 [] I { I with drawn:=I.drawn+1 }:=O5.C [] I
   have z2:=h0.size;have kv:=hU.2.2.2.2;have V:∀w',O5 [] I w'->O5 (ob vL2) I w'/\w'.ownsRow w2.heap.size 414 2 vL2 fs.length (fs.flatMap Yh):=λw' hs=>⟨hs.mono oe,Qp h6.l hs⟩;have kw:b12∉ob vL2:=λE=>ou (Zc hn.l b12 E)
   refine QmM (λw'=>O5 (ob vL2) I w'/\w'.ownsRow w2.heap.size 414 2 vL2 fs.length (fs.flatMap Yh)) (.f2 [oD 0,oD 1,oD 2,oD 3,oD 4,oD 5,oD 7,oD 8,oD 11,oD 12] 6 9 (.pl [oE 9,oE 10,oD 13,oE 14,oE 15,oD 16]) (.pl [oE 6,oE 10,oD 13,oE 14,oE 15,oD 16])) mixed ol od (V _ h0) ?_;refine u2<|p QE<|p QE<|p QE<|Qq0 (g:=Yh) (i:=i) (L:=[]) U Qa2 (λw' O=>QJ O.2 oa (λb _=>oe)) (V _ h0) rfl rfl gg λz3 kx=>?_;rw[gh]at kx;refine p (λ_=>Zp U)<|pq (λw' O=>QA ((kx w' O).fld 0 _ U) U)<|p (QR U)<|pq (λ_ O=>Qq (kr.J O.1 kw) U U)<|p (QR U)<|pq (λ_ O=>Qq (kr.J O.1 kw) U U)<|pe ⟨?_,?_⟩
   ·refine ue<|xg<|(Z0 (ku.I h0)).mono ?_;rintro vk w9 ⟨h7,h8⟩;have h2:=h0.D h7;have pu:=h7.size;have gj:=Qi h8;refine⟨V _ h2,?_⟩;refine uP<|pk<|QC (us:=[[oF oG d.2.1]]) U U og oe ⟨rfl,rfl,Z⟩ λbl pw hq hbl gk=>?_;have h9:=h2.D hq;have pz:=hq.size;refine⟨V _ h9,?_⟩;refine pk<|Za (news:=[oF oG d.2.1]) (L:=[]) (Qp h8 hq) U U U (gk.at oe) (by simp[Value.oneCell']) oa oa λT gl gm gn p0=>?_;have hA:O5 [] I gl:=h9.then gn (λb E=>.inr (ou (gj b E).1));have hr:=Qu.snoc (Zv gm (show I.heap.size<=_ by omega));refine⟨V _ hA,?_⟩;have go:=(Qu.ints (L:=[]) hr (by simp;omega) oe).one;have gp:=(Qu.ints (L:=[]) hr (by simp;omega) oe).cells;refine p (λ_=>Qz ⟨gp,U,Z⟩)<|pk<|QC (us:=[Yh ⟨T,wdN ei.f d⟩]) U U og (by exact(by decide:1*2<=1000000)) oA λbm gq J p1 hB=>?_;have ha:=hA.D J;refine⟨V _ ha,?_⟩;have ht:=h6.I ha;have gr:=ht.st.size;refine pk<|Qie (news:=Yh ⟨T,wdN ei.f d⟩) (L:=[]) (m:=1) ht.l U U U (hB.at oe) (by intro u hu;simp only[oL,oJ,or_false]at hu;rcases hu with rfl|rfl;exact go;rfl) oa gr λvz p2 gs hv hC gt=>⟨⟨(ha.mono oe).Q hv,gt⟩,p ZN<|pe ?_⟩
    have gu:QQ (ob vL2) gq.heap T (wdN ei.f d).u:=Qu.ints (Qp hr J) (by show(ei.f.u++[d.2.1]).length<=_;rw[Lk,LD];omega) (λb E=>Zc h6.l b E);exact⟨(vz,T),La,ht.add hv gs hC gu,(kt.I ha).grow hv (λb E=>E) hC⟩
   refine ue<|QC (us:=[[oF oG d.2.1]]) U U og oe ⟨rfl,rfl,Z⟩ λbl w9 h7 hbl gk=>?_;have h2:=h0.D h7;have pu:=h7.size;refine⟨V _ h2,?_⟩;refine uP<|pk<|xg<|(Z0 (ku.I h2)).mono ?_;rintro vk pw ⟨hq,h8⟩;have h9:=h2.D hq;have pz:=hq.size;have gj:=Qi h8;refine⟨V _ h9,?_⟩;refine pk<|Za (news:=[oF oG d.2.1]) (L:=[]) h8 U U U ((gk.I hq).at oe) (by simp[Value.oneCell']) oa oa λT gl gm gn p0=>?_;have hA:O5 [] I gl:=h9.then gn (λb E=>.inr (ou (gj b E).1));have hr:=Qu.snoc (Zv gm (show I.heap.size<=_ by omega));refine⟨V _ hA,?_⟩;have go:=(Qu.ints (L:=[]) hr (by simp;omega) oe).one;have gp:=(Qu.ints (L:=[]) hr (by simp;omega) oe).cells;refine p (λ_=>Qz ⟨gp,U,Z⟩)<|pk<|QC (us:=[Yh ⟨T,wdN ei.f d⟩]) U U og (by exact(by decide:1*2<=1000000)) oA λbm gq J p1 hB=>?_;have ha:=hA.D J;refine⟨V _ ha,?_⟩;have ht:=h6.I ha;have gr:=ht.st.size;refine pk<|Qie (news:=Yh ⟨T,wdN ei.f d⟩) (L:=[]) (m:=1) ht.l U U U (hB.at oe) (by intro u hu;simp only[oL,oJ,or_false]at hu;rcases hu with rfl|rfl;exact go;rfl) oa gr λvz p2 gs hv hC gt=>⟨⟨(ha.mono oe).Q hv,gt⟩,p ZN<|pe ?_⟩
   have gu:QQ (ob vL2) gq.heap T (wdN ei.f d).u:=Qu.ints (Qp hr J) (by show(ei.f.u++[d.2.1]).length<=_;rw[Lk,LD];omega) (λb E=>Zc h6.l b E);exact⟨(vz,T),La,ht.add hv gs hC gu,(kt.I ha).grow hv (λb E=>E) hC⟩
  rintro⟨vz,T⟩ z4 z5 ⟨kz,k0⟩;simp only[]at kz k0;refine Qw<|QP U U<|Qa<|xe ?_;exact⟨(k+1,vz,fs++[⟨T,wdN ei.f d⟩]),oh,oA,S,kz,k0,by simp;omega,⟨by simp;omega,by simp only[];rw[MG gg];exact gh⟩,by simp only[];rw[Ls,LB];exact hh⟩
 rintro⟨vL,es⟩ g20 hD ⟨h3,k4,p3⟩;simp only[]at h3 k4 p3;rw[k4]at hW;have p4:=J.D h3.st;have hw:Zn [] hD.heap vL es.length 2 (es.flatMap Yh):=QJ h3.l oa (λb _=>oe);refine Qc<|Qb<|Qd<|Qm<|QK hw U<|Qa<|xe<|Qf<|QD (α:=Nat×O2×List TV) [(13,13),(15,15),(80,100)] (λz=>[(13,z.2.1),(80,oF oG z.1)])
  (λz w'=>z.1<=es.length/\O5 [] hD w'/\ji 56 hD.heap.size w' z.2.1 z.2.2/\z.2.2.map (·.2)=((es.take z.1).filter λp=>!mk || decide (p.f.s∈a.mr)).map (λp=>p.f.u)/\∀p∈z.2.2,QQ (ob z.2.1) w'.heap p.1 p.2) (λz=>es.length - z.1) ol (0,nS,[]) oA
  ⟨Ln _,O5.Z _ _,QL _ _ _ _,U,λp G=>by cases G⟩ ?_
 rintro⟨k,vT,ps⟩ g21 k5 ⟨hk,hf,hT,hE,hK⟩;simp only[]at hk hf hT hE hK;have hpl:ps.length<=k:=by
  have h1:=OV oP hE;rw[Lh,Lh]at h1;rw[h1];refine LJ (Mi _ _) ?_;rw[Ly];omega
 refine Qc<|QZ U U<|xe<|Qd<|QG U (λgv=>?_) (λgv=>?_)
 ·refine Qy ?_;have gb:es.length<=k:=by have hL:¬(k:Int)<(es.length:Int):=gv;omega
  refine Qm<|x Ql<|Qb<|Qk ⟨[vT,oF oG 0],oA,p4.D hf,.inr ⟨_,vT,ps,hW,U,⟨QJ hT oa (λb _=>oe),λp G=>(hK p G).up (λb E=>by cases E)⟩,?_⟩⟩;rw[hE,Lt gb];show _=((es.map (λp:FV=>p.f)).filter λf=>!mk || decide (f.s∈a.mr)).map (λx:Fw=>x.u);rw[List.filter_map,Mu];rfl
 have S:k<es.length:=by have hL:(k:Int)<(es.length:Int):=gv;omega
 have k6:=h3.each _ (Ll S);refine Zk (es[k]'S) λek gw=>?_;rw[gw]at k6;have k7:QQ (ob vT) k5.heap ek.v ek.f.u:=((k6.up (L':=[]) (λb E=>by cases E)).up (λb E=>.inr (Qi hT b E).1)).I hf;refine Qh<|Qd<|Qf<|Qc<|O8 (g:=Yh) (i:=k) Qa2 (hw.I hf) U U S λa82 hL=>?_;rw[gw]at hL;refine x (Qx hL U U)<|Qe<|Qo (us:=[nS,oF oG 0]) U λb15 w22 p5 p6 p7=>Qe<|Qj (us:=Yh ek) p7 U U U U ⟨k7.one,U,Z⟩ λhj p8 k8=>xe ?_;have Y:O5 [] k5 hj:=p5.O p8 p6;have hB:=((hO.I h3.st).I hf).I Y;have p9:QQ [] hj.heap vm a.mr:=(((h.I J).mr.I h3.st).I hf).I Y;have hF:(es.take (k+1)).filter (λp=>!mk || decide (p.f.s∈a.mr))=(es.take k).filter (λp=>!mk || decide (p.f.s∈a.mr))++(if(!mk || decide (ek.f.s∈a.mr))=true then[ek]else[]):=by
  rw[Lm S,L5,gw,Mf,Nk]
 refine Q3 (α:=Bool) [(84,92)] (λz=>[(92,.bool z)]) (λz w'=>w'=hj/\z=(!mk || decide (ek.f.s∈a.mr))) ol ?_ ?_
 ·refine Or.elim (Qqk mk) (λgx=>?_) (λgx=>?_)
  ·subst gx;refine Qw<|Qa<|x (Zx U)<|Qa<|Qs U hB U U<|Qs U k8 U U<|QM<|(Yj p9 ek.f.s).mono ?_;rintro r91 hj ⟨rfl,rfl⟩;refine QH U<|xe ?_;exact⟨_,La,U,U⟩
  subst gx;refine Qw<|Qa<|x (Zx U)<|Qa<|Qr<|Qr<|Qr<|Qr<|Qr<|QH U<|xe ?_;exact⟨true,La,U,U⟩
 rintro z g23 hj ⟨rfl,hz⟩;rw[<-hz]at hF;refine QX rfl (λgy=>?_) (λgy=>?_)
 rotate_left
 ·rw[OT (by rw[gy];decide),LQ]at hF;refine Qh<|Qw<|QP U U<|Qa<|xe ?_;exact⟨(k+1,vT,ps),oh,oA,S,hf.D Y,Qp hT Y,by simp only[];rw[hF];exact hE,λp G=>(hK p G).I Y⟩
 rw[OU gy]at hF;have k9:=k7.I Y;have ma:=Qp hT Y;have kv:=k9.le;refine Qw<|Qa<|Qe<|XG λb94 w24 hM mf qc=>Q2 U<|x (Qq (k8.I hM) U U) <|
  Qe<|QaL (base:=hj.heap.size) (qc.own (n:=0) (sz:=1) U oa mf) U (k9.I hM) U (Uu ek.f.u) oa (ou hM.size) λh4 gz qf ql hn25=>?_
 have qo:O5 [] hj gz:=hM.O ql mf;have qr:Qu 3 hj.heap.size gz h4 ek.f.u:=by simpa[tup]using qf
 have g0:QQ (ob vT) gz.heap h4 ek.f.u:=Qu.ints qr kv (λb E=>Zc ma b E);refine Qe<|QC (us:=[[h4]]) U U og oe ⟨g0.cells,rfl,Z⟩ λb98 w26 mg hb98 q0=>?_;have hN:=qo.D mg;have q1:=Qp ma hN;refine Qe<|Za (news:=[h4]) (L:=[]) q1 U U U (q0.at oe) (λy hy=>by simp only[oI]at hy;subst hy;exact g0.one) oa (oy hf.size Y.size hN.size) λmh mj q2 g2 mo=>Qb ?_;have q3:O5 [] hD mj:=((hf.D Y).D hN).then g2 (λb E=>.inr (Qi hT b E).1);have q4:ji 56 hD.heap.size mj mh (ps++[(h4,ek.f.u)]):=ji.snoc q2;refine Qw<|QP U U<|Qa<|xe<|⟨(k+1,mh,ps++[(h4,ek.f.u)]),oh,oA,S,q3,q4,?_,λp G=>?_⟩
 ·simp only[];rw[Ls,hE,hF,Ls];rfl
 rcases Lc.1 G with G|G
 ·exact(((hK p G).I Y).I hN).grow g2 (λb E=>E) mo
 simp only[oI]at G;subst G;exact(g0.I mg).grow g2 (λb E=>E) mo
theorem Un {v:O2}{l':LI}(h:QQ L w.heap v l)(E:QQ L' w.heap v' l'):Q6 prog 205 [v,v'] w λr w'=>r=.bool (decide (l=l'))/\O5 [] w w':=by
 have hg:=h.le;refine Zq func205 ?_;refine Qc<|Qb<|Qd<|Qm<|QK h U<|Qa<|QK E U<|ZA U U<|xe<|QY rfl (λV=>?_) (λV=>?_)
 ·refine Qc<|Qb<|Qk ⟨[.bool false],La,?_,O5.Z _ _⟩;have H:l≠l':=λe=>V (by rw[e]);simp[tup,H]
 refine Qh<|Qd<|Qc<|Qb<|Qf<|QD (α:=Nat) [(4,5),(11,25)] (λk=>[(5,oF oG k)]) (λk w'=>O5 [] w w'/\k<=l.length/\(l=l'↔l.drop k=l'.drop k)) (λk=>l.length - k) ol 0 La ⟨O5.Z _ _,Ln _,oe⟩ ?_;rintro k g w1 ⟨G,hk,I⟩
 replace h:=h.I G
 replace E:=E.I G;refine Qd<|Qm<|Qa<|QK h U<|QZ U U<|xe<|QG rfl (λha=>?_) (λha=>?_)
 ·refine Qy<|Qc<|Qb<|Qk ⟨[.bool true],La,?_,G⟩;rw[Lq oa,Lq oa]at I;simp[tup,I]
 have J:k<l.length:=oa
 have O:k<l'.length:=oa
 refine Qh<|Qd<|Qf<|Qd<|ZD [] (Xb 0 9 [])<|p QE<|p QE<|pii (i:=k) U h U U J λhh hb=>pq (λ_ S=>QA (hb.I S) U)<|p QE<|p QE<|pii (i:=k) U E U U O λhi hf=>pq (λ_ S=>QA (hf.I S) U)<|p (λ_=>YP U U)<|pe ?_;have Y:=G.D (O5.C [] w1);refine QY rfl (λT=>?_) (λT=>?_)
 ·refine Qc<|Qb<|Qk ⟨[.bool false],La,?_,Y⟩;have H:l≠l':=λe=>T (by simp[e]);simp[tup,H]
 refine Qh<|Qw<|Qa<|QP U U<|Qb<|⟨k+1,oa,La,Y,oa,?_⟩;have he:l[k]'J=l'[k]'O:=Lo.1 T;rw[I,Zg J,Zg O,he];exact⟨λh=>(List.cons.inj h).2,λh=>by rw[h]⟩
theorem Qki {ua um ue:O2}(h:ZH L w.heap va vm ve a)(h':ZH L' w.heap ua um ue a):Q6 prog 204 [.agg #[va,oF oG a.st,vm,ve],.agg #[ua,oF oG a.st,um,ue]] w λr w'=>r=.bool true/\O5 [] w w':=by
 have hv:=h.ed.le;refine Zq func204 ?_;refine Qc<|Qe<|QS (us:=[va,oF oG a.st,vm,ve]) U λb2 w1 hl hw hm=>Qe<|QS (us:=[ua,oF oG a.st,um,ue]) U λb3 w2 hb hy I=>Qb ?_;have S:=hl.D hb;have J:=hm.I hb;have T:=h.I S;have V:=h'.I S;refine Qd<|Q3 (α:=Unit) [(6,35)] (λ_=>[(35,.bool false)]) (λ_ w'=>O5 [] w2 w') ol ?_ ?_
 ·refine Qw<|Qs U J U U<|Qs U I U U<|QM<|(Un T.al V.al).mono ?_;rintro r3 w3 ⟨he,E⟩;rw[OX rfl]at he;subst he;refine x (Zx U)<|Qa<|Qs U (J.I E) U U<|Qs U (I.I E) U U<|xb (YP U U) (λhf=>OW U hf) (λhf=>?_);refine QH U<|Qa<|Qs U (J.I E) U U<|Qs U (I.I E) U U<|QM<|(Un (T.mr.I E) (V.mr.I E)).mono ?_;rintro r4 w4 ⟨hg,G⟩;rw[OX rfl]at hg;subst hg;have O:=E.D G;refine x (Zx U)<|QH U<|Qa<|Qs U (J.I O) U U<|QK (T.ed.I O) U<|Qs U (I.I O) U U<|QK (V.ed.I O) U<|xb (YP U U) (λhh=>OW U hh) (λhh=>?_);refine QH U<|xe ?_;exact⟨(),La,O⟩
 rintro⟨⟩ g w3 E;have Y:=S.D E;have hn:=J.I E;have ho:=I.I E;have h3:=h.I Y;have hp:=h'.I Y;refine ZL rfl<|Qh<|Qd<|Qc<|Qb<|Qf<|QD (α:=Nat) [(4,5),(36,53)] (λk=>[(5,oF oG k)]) (λk w'=>O5 [] w3 w'/\k<=a.ed.length) (λk=>a.ed.length - k) ol 0 La ⟨O5.Z _ _,Ln _⟩ ?_;rintro k g w4 ⟨G,hk⟩;have h4:=h3.ed.I G;have hq:=hp.ed.I G;have hi:=hn.I G;have hr:=ho.I G;refine Qd<|Qm<|Qs U hi U U<|QK h4 U<|QZ U U<|xe<|QG rfl (λhs=>?_) (λhs=>?_)
 ·refine Qy<|Qc<|Qb<|Qk ⟨[.bool true],La,U,Y.D G⟩
 have ha:k<a.ed.length:=oa
 refine Qh<|Qd<|Qf<|Qd<|ZD [] (Xb 0 11 [])<|p (QR U)<|pq (λ_ H=>Qq (hi.I H) U U)<|p QE<|pie (i:=k) U h4 U U ha λhz ht=>pq (λ_ H=>Qx (ht.I H) U U)<|p (QR U)<|pq (λ_ H=>Qq (hr.I H) U U)<|p QE <|
  pie (i:=k) U hq U U ha λh0 hu=>pq (λ_ H=>Qx (hu.I H) U U)<|p (λ_=>Ur U U)<|pe ?_
 refine QY rfl (λhj=>OW U hj) (λhj=>?_);refine Qh<|Qw<|Qa<|QP U U<|Qb<|⟨k+1,oa,La,G.D (O5.C _ _),ha⟩
theorem QaG {pS:String}[h:S3 P t]{x:O3}{p q:Ed}(hx:ev f x=.agg (QF p).toArray)(G:ev f y=.agg (QF q).toArray):
  (execOp (ev f) ⟨d,.binOp .eql t x y E,ty,pS,af,gd⟩).run P w=.ok (.value (.bool (decide (p=q)))) w:=by
 have H:(eqGuard .eql t x y (.agg (QF p).toArray) (.agg (QF q).toArray)).run P w=.ok () w:=by simp[eqGuard,h.g]
 simp only[execOp,hx,G,Sem.run_bind,H,Result.andThen_ok,binOp,Up,Sem.run_pure]
def ex3:Q9:=⟨[0,2],3,[2],[(0,0,2),(0,2,0),(2,2,0)]⟩
def cn3:Q9:=⟨[0,2],2,[1],[(0,0,1),(0,2,0),(1,2,0)]⟩
def se3:List Ed:=[(0,1,0),(0,3,1),(1,1,0)]
theorem Qjg:Jl ex3=0:=od
theorem Ql7:Yd ex3=cn3:=od
theorem Qbd:Jl cn3=0:=od
theorem Qmy:Qlc cn3 0 [0,0]=0:=od
theorem Qmz:flw cn3 0 [0,0]=(1,1):=od
theorem Qmx:Qhe cn3 2 true=some [[0],[2,0]]:=od
theorem QnL:Jl ⟨[1,3],2,[1],se3⟩=0:=od
theorem QnK:(Yd ⟨[1,3],2,[1],se3⟩).ed=se3:=od
theorem QoU:rlE cn3 [3,1]=[(0,3,1),(0,1,0),(1,1,0)]:=od
theorem QqQ:([3,1]:LI).mergeSort (λx y=>decide (x<=y))=[1,3]:=by
 refine List.Perm.eq_of_pairwise (le:=λx y:Int=>x<=y) (λa b _ _ E G=>oa) ?_ og ((ND _ _).D (List.Perm.swap _ _ _));refine(List.pairwise_mergeSort (le:=λx y:Int=>decide (x<=y)) (λa b c E G=>by simp at *;omega) (λa b=>by simp;omega) [3,1]).imp λh=>oz h
theorem QnG (l':List Ed)(E:l'.Perm (rlE cn3 [3,1]))(O:l'.Pairwise Qcn):l'=se3:=by
 rw[QoU]at E;refine List.Perm.eq_of_pairwise (le:=Qcn) (λa b S G H I=>?_) O (by unfold se3 Qcn;decide) (E.D (List.Perm.swap _ _ _));have J:=E.mem_iff.1 S;simp only[oL,oJ,or_false]at J;simp only[se3,oL,oJ,or_false]at G;unfold Qcn at H I;rcases J with rfl|rfl|rfl <;> rcases G with rfl|rfl|rfl <;> first|rfl|(exfalso;simp only[]at H I;omega)
theorem Qcf (w:O1):Q6 prog 200 [] w λr w'=>O5 [] w w'/\Jv w.heap.size w'.heap r ex3:=by
 refine Zq func200 ?_;refine Qc<|Qe<|Qo (us:=KJ) U λb0 V I Y J=>xe ?_;have ha:=J.lt;refine Qc<|Qe<|QC (us:=[[oF oG 0],[oF oG 2]]) U U og oe ⟨rfl,rfl,rfl,rfl,Z⟩ λb1 w2 O hh hb=>Qe<|QC (us:=[[oF oG 2]]) rfl rfl og oe ⟨rfl,rfl,Z⟩ λb2 w3 E hi hc =>
  x (Qz ⟨rfl,U,U,Z⟩)<|x (Qz ⟨U,U,U,Z⟩)<|x (Qz ⟨U,U,U,Z⟩)<|Qe<|QC (us:=[QF (0,0,2),QF (0,2,0),QF (2,2,0)]) U U og (by exact(by decide:3*3<=1000000)) ⟨U,U,U,U,U,U,Z⟩ λG w4 H hj he=>?_
 have S:=(O.D E).D H;have hf:=I.size;have hk:=O.size;have hl:=E.size;have hF:Jv V.heap.size w4.heap (.agg #[.slice (some ⟨b1,0,none⟩) 2 2,oF oG 3,.slice (some ⟨b2,0,none⟩) 1 1,.slice (some ⟨G,0,none⟩) 3 3]) ex3 :=
  Qar (a:=ex3) ((hb.I E).I H) (hc.I H) he oa oa oa U U U og og og
 refine x (Qz ⟨U,U,U,U,Z⟩)<|Qe<|Qj (us:=[.slice (some ⟨b1,0,none⟩) 2 2,oF oG 3,.slice (some ⟨b2,0,none⟩) 1 1,.slice (some ⟨G,0,none⟩) 3 3]) (J.I S) U U U U oC λw5 T hg=>xe ?_;refine Qk ⟨[.agg #[.slice (some ⟨b1,0,none⟩) 2 2,oF oG 3,.slice (some ⟨b2,0,none⟩) 1 1,.slice (some ⟨G,0,none⟩) 3 3]],⟨⟨_,U,Qn U (hg.at (L:=[]) oe).cells⟩,Z⟩,(I.D S).O T Y,?_⟩;exact(KA hF ha T).mono hf
theorem Qgd (w:O1):Q6 prog 137 [] w λr w'=>r=.bool true/\O5 [] w w':=by
 refine Zq func137 ?_;refine Qc<|Qb<|Qc<|QM<|(Qcf w).mono ?_;rintro r1 w1 ⟨hE,va,vm,ve,rfl,hF⟩;refine QM<|(Qbm (hF [] oe)).mono ?_;rintro r2 w2 ⟨hG,v2,rfl,_,hH⟩;have hf:=hH Qjg;rw[Ql7]at hf;obtain⟨ca,cm,ce,rfl,hI⟩:=hf;have J:=hI [] oe;refine Qa<|Q7 U U<|Q7 U U<|Qe<|Qo (us:=KJ) U λb1 w3 hJ hK hM=>Qe<|Qj (us:=[ca,oF oG 2,cm,ce]) hM U U U U ⟨J.al.one,U,J.mr.one,J.ed.one,Z⟩ λw4 hN O=>Qb ?_;have hg:O5 [] w2 w4:=hJ.O hN hK;have S:=J.I hg;have hO:=(hE.D hG).D hg;refine Qc<|Q5 O U U<|Qe<|QC (us:=[[oF oG 0],[oF oG 0]]) U U og oe ⟨rfl,rfl,rfl,rfl,Z⟩ λg6 w5 hh g7 hP=>QM<|(Qpb (u:=[0,0]) (S.I hh) (hP.arr (L:=[]) oe (n:=2) (cap:=2) (sz:=1) rfl oa (Lu _)) 0).mono ?_;rintro r6 w6 ⟨hQ,hi⟩;rw[OT (by rw[Qmy];decide),Qmz]at hi;subst hi;refine Qa<|Q7 U U<|Q7 U U<|Q7 U U<|x Ql<|x Ql<|Qb ?_;have V:=hh.D hQ;refine Qc<|Q5 (O.I V) U U<|QM<|(QgS (S.I V) Qbd ((Z1 _).1 Qbd) 2 og true).mono ?_;rintro r7 w7 ⟨hS,hj⟩;rw[Qmx]at hj;have hT:∃I G H,r7=.tuple #[I,oF oG 0]/\JV [] w7.heap I [G,H]/\G.2=[0]/\H.2=[2,0]:=by
  rcases hj with⟨h,_⟩|⟨l,I,ps,hl,h2,Y,E⟩
  ·cases h
  cases hl
  match ps,Y,E with
  | [G,H],Y,E =>
   simp only[oX,OL,List.cons.injEq,and_true]at E;exact⟨I,G,H,h2,Y,E.1,E.2⟩
  | [],_,E=>simp at E
  | [_],_,E=>simp at E
  | _::_::_::_,_,E=>simp at E
 obtain⟨I,G,H,rfl,hU,hV,hW⟩:=hT;refine Qa<|Q7 U U<|Q7 U U<|x Ql<|Qb ?_;have ha:=V.D hS;refine Qc<|Q5 (O.I ha) U U<|Qe<|QC (us:=[[oF oG 3],[oF oG 1]]) U U og oe ⟨rfl,rfl,rfl,rfl,Z⟩ λg8 w8 hk g9 hX =>
  QM<|(Qd3 (to:=[3,1]) ((S.I ha).I hk) Qbd ((Z1 _).1 Qbd) (hX.arr (L:=[]) oe (n:=2) (cap:=2) (sz:=1) rfl oa (Lu _)) rfl og og QqQ QnG ((Z1 _).1 QnL)).mono ?_
 rintro r9 w9 ⟨hY,v9,rfl,hZ⟩;obtain⟨ra,rm,re,rfl,ga⟩:=hZ;have hR:=ga [] oe;have gb:zg [] w9.heap re se3:=by
  have h:=hR.ed;rw[show(Yd ⟨[1,3],cn3.st,cn3.mr,se3⟩).ed=se3 from QnK]at h;exact h
 refine Qa<|Q7 U U<|Q7 U U<|Qe<|Qo (us:=KJ) U λb8 ka gc gg gh=>Qe<|Qj (us:=[ra,oF oG (Yd ⟨[1,3],cn3.st,cn3.mr,se3⟩).st,rm,re]) gh U U U U ⟨hR.al.one,U,hR.mr.one,hR.ed.one,Z⟩ λhm gi gj=>Qb ?_;have hn:O5 [] w9 hm:=gc.O gi gg;have ho:=(hk.D hY).D hn;have hb:=ha.D ho;have gk:=S.I hb;have gl:=O.I hb;have gm:=hU.I ho;have gn:=gb.I hn;refine Q3 (α:=Unit) [(0,0),(33,98)] (λz=>[(0,.bool true)]) (λz w'=>O5 [] hm w') ol ?_ ?_
 ·refine Qw<|Qa<|xb (Q0 U U) (λhp=>?_) (λhp=>OW Qjg hp);refine Qa<|Q5 gl U U<|Qe<|QC (us:=[[oF oG 0],[oF oG 2]]) U U og oe ⟨rfl,rfl,rfl,rfl,Z⟩ λgo kb gp kc gq=>Qe<|QC (us:=[[oF oG 1]]) rfl rfl og oe ⟨rfl,rfl,Z⟩ λgr ke hq kf gs =>
   x (Qz ⟨U,U,U,Z⟩)<|x (Qz ⟨U,U,U,Z⟩)<|x (Qz ⟨U,U,U,Z⟩)<|Qe<|QC (us:=[QF (0,0,1),QF (0,2,0),QF (1,2,0)]) U U og (by exact(by decide:3*3<=1000000)) ⟨U,U,U,U,U,U,Z⟩ λgt gu hc kg gv=>?_
  have hr:=(gp.D hq).D hc;have hL:ZH [] gu.heap (.slice (some ⟨go,0,none⟩) 2 2) (.slice (some ⟨gr,0,none⟩) 1 1) (.slice (some ⟨gt,0,none⟩) 3 3) cn3 :=
   ⟨((gq.I hq).I hc).arr (L:=[]) oe (n:=2) (cap:=2) (sz:=1) rfl oa (Nat.le_refl _),(gs.I hc).arr (L:=[]) oe (n:=1) (cap:=1) (sz:=1) rfl oa (Nat.le_refl _),gv.arr (L:=[]) oe (n:=3) (cap:=3) (sz:=3) rfl oa (Lu _)⟩
  refine x (Qz ⟨U,U,U,U,Z⟩)<|QM<|(Qki (a:=cn3) (gk.I hr) hL).mono ?_;rintro kh ki ⟨rfl,gw⟩;have hs:=hr.D gw;have T:=gm.I hs;refine QH U<|Qa<|Qa<|xb (Q0 U U) (λht=>?_) (λht=>OW U ht);refine QH U<|Qa<|Qa<|xb (Q0 U U) (λhu=>?_) (λhu=>OW U hu);refine QH U<|Qa<|Qa<|xb (Q0 U U) (λhv=>?_) (λhv=>OW U hv);refine QH U<|Qa<|Qa<|xb (Q0 U U) (λhw=>?_) (λhw=>OW U hw);refine QH U<|Qa<|Qa<|QK T.arr U<|xb (Q0 U U) (λhy=>?_) (λhy=>OW U hy);refine QH U<|Qa<|Qa<|O8 (g:=YK) (i:=0) V0 T.arr U U oe λkj gx=>x (QA gx rfl)<|Qe<|QC (us:=[[oF oG 0]]) rfl rfl og oe ⟨rfl,rfl,Z⟩ λkk kn hz ko gy =>
   QM<|(Un (l:=G.2) (l':=[0]) ((T.each G oe).I hz) (gy.arr (L:=[]) oe (n:=1) (cap:=1) (sz:=1) rfl oa (Lu _))).mono ?_
  rintro kq kr ⟨h0,gz⟩;rw[hV,OX rfl]at h0;subst h0;have h1:=hz.D gz;have h5:=T.I h1;refine QH U<|Qa<|Qa<|O8 (g:=YK) (i:=1) V0 h5.arr U U oe λkt g0=>x (QA g0 rfl)<|Qe<|QC (us:=[[oF oG 2],[oF oG 0]]) rfl rfl og oe ⟨rfl,rfl,rfl,rfl,Z⟩ λku kv h6 kw g2 =>
   QM<|(Un (l:=H.2) (l':=[2,0]) ((h5.each H oe).I h6) (g2.arr (L:=[]) oe (n:=2) (cap:=2) (sz:=1) rfl oa (Lu _))).mono ?_
  rintro kx kz ⟨h7,g3⟩;rw[hW,OX rfl]at h7;subst h7;have he:=(hs.D h1).D (h6.D g3);have h8:=gj.I he;have h9:=gn.I he;refine QH U<|Qa<|Qa<|xb (Q0 U U) (λhA=>?_) (λhA=>OW U hA);refine QH U<|Qa<|Qs U h8 U U<|QK h9 U<|xb (Q0 U U) (λhB=>?_) (λhB=>OW U hB);refine QH U<|Qa<|Qs U h8 U U<|xie (i:=1) h9 U U og λk0 g4=>x (Qx g4 U U)<|x (Qz ⟨U,U,U,Z⟩)<|xb (QaG (p:=(0,3,1)) (q:=(0,3,1)) U U) (λhD=>?_) (λhD=>OW U hD);refine QH U<|Qb<|⟨(),La,he⟩
 rintro z g k4 g5;exact Qk ⟨[.bool true],La,U,(hO.D hb).D g5⟩
theorem QgY (w:O1):Q6 prog 69 [] w λr w'=>r=.bool true/\O5 [] w w':=by
 refine Zq func69 ?_;refine Qc<|Qb<|Qc<|QM<|(Qgd w).mono ?_;rintro G H ⟨rfl,E⟩;refine Qb<|Qk ⟨[.bool true],La,U,E⟩
theorem CL.cel_rq {c:CL}{k:ZB}(h:c.V=k)(v:O2)(qs:List IV):(CL.mk c.ve c.vc v c.vx c.vk c.ev c.co qs c.ex c.cs).V={ k with rq:=qs.map IV.it }:=by rw[<-h];rfl
theorem CL.cel_ex {c:CL}{k:ZB}(h:c.V=k)(v:O2)(qs:List XV):(CL.mk c.ve c.vc c.vr v c.vk c.ev c.co c.rq qs c.cs).V={ k with ex:=qs.map XV.x }:=by rw[<-h];rfl
theorem CL.cel_cs {c:CL}{k:ZB}(h:c.V=k)(v:O2)(qs:List KV):(CL.mk c.ve c.vc c.vr c.vx v c.ev c.co c.rq c.ex qs).V={ k with cs:=qs.map KV.k }:=by rw[<-h];rfl
theorem Qdd {c:CL}{k:ZB}(h:ZK [] w.heap c)(J:c.V=k)(G:Y0 k=0)(O:Kb w 4096):
  Q6 prog 65 [c.val] w λr w'=>O5 [] w w'/\∃va vm ve v1 v2 v3 E,r=.tuple #[.agg #[va,oF oG (spc k).a.st,vm,ve,v1,v2,v3,E],oF oG 0]/\Zr [va,oF oG (spc k).a.st,vm,ve,v1,v2,v3,E]/\Zn [] w'.heap E (spc k).fb.length 4 ((spc k).fb.flatMap ZX):=by
 refine(yR h O).mono ?_;rintro r w' ⟨S,v,rfl,⟨us,T,_,H⟩,I⟩;rw[J]at I ⊢;obtain⟨va,vm,ve,v1,v2,v3,E,cos,rqs,rfl,_,_,V⟩:=I G;have Y:us=[va,oF oG (spc k).a.st,vm,ve,v1,v2,v3,E]:=by
  have h9:=OV (λv=>match v with|Value.agg cs=>cs.toList|_=>[]) T
  simpa using h9.symm
 rw[Y]at H;exact⟨S,va,vm,ve,v1,v2,v3,E,by rw[G],H,(V [] oe).2.2.2.2⟩
theorem QoV {c:CL}{k:ZB}(h:ZK [] w.heap c)(E:c.V=k)(G:Y0 k=0)(H:(spc k).a.st<4096)(I:Qfi k=true)(J:Kb w 4096):
  Q6 prog 135 [c.val] w λr w'=>O5 [] w w'/\∃xa xm xe vb,r=.tuple #[.agg #[xa,oF oG ((spc k).a.st+1),xm,xe],vb,oF oG 0]/\Zr [xa,xm,xe]/\Qu 3 w.heap.size w' vb (cmB k):=by
 subst E;exact QcX h J G H I
abbrev Qn0:LV:=[nS,oF oG 0,nS,nS,nS,nS,nS,nS]
theorem Qqq {P:Prop}{a b:Int}(e:a=b)(h:¬a=b):P:=OW e h
theorem Qdu (ha:Kb w 4096):Q6 prog 68 [] w λr w'=>r=.bool true/\O5 [] w w':=by
 refine Zq func68 ?_;refine Qc<|Qb<|Qc<|QM<|(J8 1 og w).mono ?_;rintro r1 w1 ⟨hG,c1,rfl,gw,gx⟩;refine QM<|(J8 2 og w1).mono ?_;rintro r2 w2 ⟨h0,c2,rfl,gy,gz⟩;refine QM<|(J8 2 og w2).mono ?_;rintro r3 w3 ⟨hc,c3,rfl,g0,g2⟩;have he:=((gx [] oe).I h0).I hc;have hf:=(gz [] oe).I hc;have hg:=g2 [] oe;refine Qe<|Qo (us:=Z6) U λb1 w4 g3 qf hH=>Qe<|Qo (us:=Z6) U λb2 w5 hI ql hJ=>Qe<|Qo (us:=Z6) U λE w6 h1 qo J=>?_;have qr:=hH.lt;have q0:=hJ.lt;have q1:=J.lt;refine Qe<|Qj (us:=c1.cells) ((hH.I hI).I h1) U U U U he.ones λw7 hh g4=>Qe<|Qj (us:=c2.cells) ((hJ.I h1).J hh om) U U U U hf.ones λw8 hi g5 =>
  Qe<|Qj (us:=c3.cells) ((J.J hh om).J hi om) U U U U hg.ones λw9 hj g6=>xe ?_
 have hk:O5 [] w3 w9:=((((g3.D hI).D h1).O hh oa).O hi oa).O hj oa;have g7:=((hG.D h0).D hc).D hk;have g8:=(g4.J hi om).J hj om;have g9:=g5.J hj om;have J:∀b∈[b1,b2,E],w3.heap.size<=b/\b<w6.heap.size:=λb H=>by
  simp only[oL,oJ,or_false]at H;rcases H with rfl|rfl|rfl <;> omega
 have m1:∀b∈[b1],b∈[b1,b2,E]:=oe
 have m2:∀b∈[b2],b∈[b1,b2,E]:=oe
 have m3:∀b∈[E],b∈[b1,b2,E]:=oe
 have he:=(he.up (L':=[b1,b2,E]) (λb H=>.inr (J b H).1)).I hk;have hf:=(hf.up (L':=[b1,b2,E]) (λb H=>.inr (J b H).1)).I hk;have hg:=(hg.up (L':=[b1,b2,E]) (λb H=>.inr (J b H).1)).I hk;have q2:w6.heap.size<=w9.heap.size:=by have:=hh.size;have:=hi.size;have:=hj.size;omega
 have nB:∀b,w9.heap.size<=b->b∉[b1,b2,E]:=λb H hm=>ou (J b hm).2
 refine Qc<|Qe<|QC (us:=[[oF oG 1]]) U U og oe ⟨rfl,rfl,Z⟩ λhl q3 hK q4 ka=>Qe<|QC (us:=[[oF oG 0]]) rfl rfl og oe ⟨rfl,rfl,Z⟩ λhn q5 h2 j1 kb=>x (Qz ⟨rfl,rfl,rfl,Z⟩) <|
  x (Zf [(0,[.string Uv]),(1,[.slice (some ⟨hl,0,none⟩) 1 1,oF oG 1,.slice (some ⟨hn,0,none⟩) 1 1,nS])] ⟨U,U,U,U,Z⟩) <|
  Qe<|QC (us:=[[.string Uv,.slice (some ⟨hl,0,none⟩) 1 1,oF oG 1,.slice (some ⟨hn,0,none⟩) 1 1,nS]]) U U og (by exact(by decide:1*5<=1000000)) oA λh3 kc h4 j2 ke=>?_
 have ho:=(hK.D h2).D h4;refine Q2 rfl<|Qe<|QB (j:=2) (u:=.slice (some ⟨h3,0,none⟩) 1 1) (g8.I ho) U U oe rfl λh5 hp kf=>xe ?_;have j3:=hK.size;have za:=h2.size;have V:O5 [b1,b2,E] w9 h5:=ho.any.Q (hp.mono m1);have kg:ZK [b1,b2,E] h5.heap (CL.mk c1.ve c1.vc (.slice (some ⟨h3,0,none⟩) 1 1) c1.vx c1.vk c1.ev c1.co [⟨Uv,⟨.slice (some ⟨hl,0,none⟩) 1 1,.slice (some ⟨hn,0,none⟩) 1 1,nS,Qa1.a⟩⟩] c1.ex c1.cs):=by
  have G:=he.st V;refine⟨G.ev,G.co,XM.st (w:=kc) ⟨ke.arr (nB _ oa) (n:=1) (cap:=1) (sz:=5) U og (Lu _),λq I=>?_,λq I=>?_⟩ (hp.mono m1),G.ex,G.cs⟩
  ·rw[Lb.1 I];exact⟨((ka.I h2).I h4).arr (nB _ oa) (n:=1) (cap:=1) (sz:=1) U og (Lu _),(kb.I h4).arr (nB _ oa) (n:=1) (cap:=1) (sz:=1) U og (Lu _),Zn.nil _ _ 3⟩
  rw[Lb.1 I];exact Xu og
 refine Qc<|x (Qz ⟨U,U,Z⟩)<|x (Qz ⟨U,U,Z⟩)<|Qe<|QC (us:=[QI (0,1),QI (1,1)]) U U og (by exact(by decide:2*2<=1000000)) oC λh6 zb hL zv kh=>x (Qz ⟨U,U,Z⟩) <|
  Qe<|QC (us:=[[.string Y2,.slice (some ⟨h6,0,none⟩) 2 2]]) U U og (by exact(by decide:1*2<=1000000)) oA λh7 ki hM z0 kj=>?_
 have hr:=hL.D hM;refine Q2 rfl<|Qe<|QB (j:=3) (u:=.slice (some ⟨h7,0,none⟩) 1 1) ((g9.J (ho.any.Q hp) om).I hr) U U oe rfl λh8 hs kk=>xe ?_;have z1:=hL.size;have Y:O5 [b1,b2,E] h5 h8:=hr.any.Q (hs.mono m2);have z2:=Y.size;have z3:=V.size;have kn:ZK [b1,b2,E] h8.heap (CL.mk c2.ve c2.vc c2.vr (.slice (some ⟨h7,0,none⟩) 1 1) c2.vk c2.ev c2.co c2.rq [⟨Y2,.slice (some ⟨h6,0,none⟩) 2 2,[(0,1),(1,1)]⟩] c2.cs):=by
  have G:=hf.st (V.Q Y);refine⟨G.ev,G.co,G.rq,yY.st (w:=ki) ⟨kj.arr (nB _ oa) (n:=1) (cap:=1) (sz:=2) U og (Lu _),λq I=>?_,λq I=>?_⟩ (hs.mono m2),G.cs⟩
  ·rw[Lb.1 I];exact(kh.I hM).arr (nB _ oa) (n:=2) (cap:=2) (sz:=2) U og (Lu _)
  rw[Lb.1 I];exact Xu og
 refine Qc<|x (Qz ⟨U,U,Z⟩)<|x (Qz ⟨U,U,Z⟩)<|Qe<|QC (us:=[QI (0,1),QI (1,1)]) U U og (by exact(by decide:2*2<=1000000)) oC λhA z4 hN z5 ko=>x (Qz ⟨U,U,U,Z⟩) <|
  Qe<|QC (us:=[[.string QaN,.slice (some ⟨hA,0,none⟩) 2 2,oF oG 1]]) U U og (by exact(by decide:1*3<=1000000)) oA λhB kq hO hb32 kr=>?_
 have ht:=hN.D hO;refine Q2 rfl<|Qe<|QB (j:=4) (u:=.slice (some ⟨hB,0,none⟩) 1 1) (((g6.J (ho.any.Q hp) om).J (hr.any.Q hs) om).I ht) U U oe rfl λS hu kt=>xe ?_;have hz17:=hN.size;have hv:O5 [b1,b2,E] h8 S:=ht.any.Q (hu.mono m3);have ku:ZK [b1,b2,E] S.heap (CL.mk c3.ve c3.vc c3.vr c3.vx (.slice (some ⟨hB,0,none⟩) 1 1) c3.ev c3.co c3.rq c3.ex [⟨QaN,.slice (some ⟨hA,0,none⟩) 2 2,[(0,1),(1,1)],1⟩]):=by
  have G:=hg.st ((V.Q Y).Q hv);refine⟨G.ev,G.co,G.rq,G.ex,yT.st (w:=kq) ⟨kr.arr (nB _ oa) (n:=1) (cap:=1) (sz:=3) U og (Lu _),λq I=>?_,λq I=>?_⟩ (hu.mono m3)⟩
  ·rw[Lb.1 I];exact(ko.I hO).arr (nB _ oa) (n:=2) (cap:=2) (sz:=2) U og (Lu _)
  rw[Lb.1 I];exact Xu og
 have hP:ZK [] S.heap _:=((kg.st Y).st hv).up (L':=[]) oe;have kv:ZK [] S.heap _:=(kn.st hv).up (L':=[]) oe;have kw:ZK [] S.heap _:=ku.up (L':=[]) oe;have hQ:=(kf.J (hr.any.Q hs) om).J (ht.any.Q hu) om;have kx:=kk.J (ht.any.Q hu) om;have hR:O5 [] w S:=g7.then ((V.Q Y).Q hv) (λb H=>.inr (ov (J b H).1 ((hG.D h0).D hc).size));have hS:=CL.cel_rq gw (.slice (some ⟨h3,0,none⟩) 1 1) [⟨Uv,⟨.slice (some ⟨hl,0,none⟩) 1 1,.slice (some ⟨hn,0,none⟩) 1 1,nS,Qa1.a⟩⟩];have kz:=CL.cel_ex gy (.slice (some ⟨h7,0,none⟩) 1 1) [⟨Y2,.slice (some ⟨h6,0,none⟩) 2 2,[(0,1),(1,1)]⟩];have k0:=CL.cel_cs g0 (.slice (some ⟨hB,0,none⟩) 1 1) [⟨QaN,.slice (some ⟨hA,0,none⟩) 2 2,[(0,1),(1,1)],1⟩];refine Qc<|Q5 hQ U U<|QM<|(Qdd (k:=k1C) hP hS QpZ (ha.I hR)).mono ?_;rintro r20 k4 ⟨k5,sa,sm,se,s1,s2,s3,s4,rfl,k6,hT⟩;rw[QpY]at hT;refine Qa<|Q7 U U<|Q7 U U<|Qe<|Qo (us:=Qn0) U λb4 w21 k7 k8 k9=>Qe<|Qj (us:=[sa,oF oG (spc k1C).a.st,sm,se,s1,s2,s3,s4]) k9 U U U U k6 λma mf mg=>Qb ?_;have hU:O5 [] k4 ma:=k7.O mf k8;have hw:=k5.D hU;have hV:=hR.D hw;refine Qc<|Q5 (hQ.I hw) U U<|QM<|(QoV (k:=k1C) (hP.I hw) hS QpZ (by rw[Qnc];decide) Qof (ha.I hV)).mono ?_;rintro r23 hW ⟨mh,xa,xm,mj,vb,rfl,hC,hX⟩;rw[Qog]at hX;have mo:QQ [] hW.heap vb [2]:=Qu.ints (L:=[]) hX oe oe;refine Qa<|Q7 U U<|Q7 U U<|Q7 U U<|Qe<|Qo (us:=KJ) U λb6 w24 mq ms mt=>Qe<|Qj (us:=[xa,oF oG ((spc k1C).a.st+1),xm,mj]) mt U U U U ⟨hC.1,U,hC.2.1,hC.2.2.1,Z⟩ λmu mv mw=>x Ql<|Qb ?_;have hY:O5 [] hW mu:=mq.O mv ms;have hy:=mh.D hY;have hD:=hw.D hy;have hZ:=hV.D hy;refine Qc<|Q5 (kx.I hD) U U<|QM<|(Qdd (k:=k2C) (kv.I hD) kz Qq5 (ha.I hZ)).mono ?_;rintro r26 my ⟨mz,ta,tm,te,t1,t2,t3,t4,rfl,m4,ga⟩;rw[QpW]at ga;refine Qa<|Q7 U U<|Q7 U U<|Qe<|Qo (us:=Qn0) U λb9 w27 m5 m6 m7=>Qe<|Qj (us:=[ta,oF oG (spc k2C).a.st,tm,te,t1,t2,t3,t4]) m7 U U U U m4 λm8 m9 pa=>Qb ?_;have gb:O5 [] my m8:=m5.O m9 m6;have T:=mz.D gb;have gc:=hD.D T;have gg:=hZ.D T;refine Qc<|Q5 (kt.I gc) U U<|QM<|(Qdd (k:=k3C) (kw.I gc) k0 Qq4 (ha.I gg)).mono ?_;rintro r29 pc ⟨pd,ua,um,ue,u1,u2,u3,u4,rfl,pf,gh⟩;rw[QpU]at gh;refine Qa<|Q7 U U<|Q7 U U<|Qe<|Qo (us:=Qn0) U λb11 w30 pg ph pj=>Qe<|Qj (us:=[ua,oF oG (spc k3C).a.st,um,ue,u1,u2,u3,u4]) pj U U U U pf λgi pm pn=>Qb ?_;have gj:O5 [] pc gi:=pg.O pm ph;have O:=pd.D gj;have po:=gg.D O;have pp:=((mg.I hy).I T).I O;have pu:=(mw.I T).I O;have gk:=pa.I O;have pw:=((((hT.I hU).I hy).I T).I O);have pz:=(ga.I gb).I O;have p0:=gh.I gj;have p1:=((mo.I hY).I T).I O;refine Q3 (α:=Unit) [(0,0),(55,105)] (λz=>[(0,.bool true)]) (λz w'=>O5 [] gi w') ol ?_ ?_
 ·refine Qw<|Qa<|xb (Q0 U U) (λgl=>?_) (λgl=>OW U gl);refine Qa<|Qa<|xb (Q0 U U) (λgm=>?_) (λgm=>OW U gm);refine QH U<|Qa<|Qa<|xb (Q0 U U) (λgn=>?_) (λgn=>OW U gn);refine QH U<|Qa<|Qa<|xb (Q0 U U) (λgo=>?_) (λgo=>OW U go);refine QH U<|Qa<|Qs U pp U U<|x (Qz ⟨U,U,U,U,Z⟩)<|Qe<|QC (us:=[ZX ⟨1,3,0,1⟩]) U U og (by exact(by decide:1*4<=1000000)) oA λb73 w32 gp hb73 p2 =>
   QM<|(qn (l:=[⟨1,3,0,1⟩]) (pw.I gp) (p2.arr (L:=[]) oe (n:=1) (cap:=1) (sz:=4) rfl og (Lu _))).mono ?_
  rintro r74 w33 ⟨rfl,p3⟩;have hE:=gp.D p3;refine QH U<|Qa<|Qs U (pu.I hE) U U<|xb (Q0 U U) (λgq=>?_) (λgq=>Qqq (by rw[Qnc];rfl) gq);refine QH U<|Qa<|Qa<|Qe<|QC (us:=[[oF oG 2]]) U U og oe ⟨rfl,rfl,Z⟩ λb83 w34 gr hb83 p4 =>
   QM<|(JD (l:=[2]) (l':=[2]) ((p1.I hE).I gr) (p4.arr (L:=[]) oe (n:=1) (cap:=1) (sz:=1) rfl oa (Lu _))).mono ?_
  rintro r84 w35 ⟨gs,p5⟩;rw[OX rfl]at gs;subst gs;have hz:=hE.D (gr.D p5);refine QH U<|Qa<|Q2 U<|Qs U (gk.I hz) U U<|xb (Q0 U U) (λgt=>?_) (λgt=>Qqq QpV gt);refine QH U<|Qa<|Qs U (gk.I hz) U U<|x (Qz ⟨U,U,U,U,Z⟩)<|Qe<|QC (us:=[ZX ⟨3,1,0,-1⟩]) U U og (by exact(by decide:1*4<=1000000)) oA λb96 w36 gu hb96 p6 =>
   QM<|(qn (l:=[⟨3,1,0,-1⟩]) ((pz.I hz).I gu) (p6.arr (L:=[]) oe (n:=1) (cap:=1) (sz:=4) rfl og (Lu _))).mono ?_
  rintro r97 w37 ⟨rfl,p7⟩;have hF:=hz.D (gu.D p7);refine QH U<|Qa<|Qs U (pn.I hF) U U<|x (Qz ⟨U,U,U,U,Z⟩)<|Qe<|QC (us:=[ZX ⟨3,2,0,-1⟩]) U U og (by exact(by decide:1*4<=1000000)) oA λb103 w38 gv hb103 p8 =>
   QM<|(qn (l:=[⟨3,2,0,-1⟩]) ((p0.I hF).I gv) (p8.arr (L:=[]) oe (n:=1) (cap:=1) (sz:=4) rfl og (Lu _))).mono ?_
  rintro r104 w39 ⟨rfl,p9⟩;refine QH U<|Qb<|⟨(),La,hF.D (gv.D p9)⟩
 rintro z g w40 qc;exact Qk ⟨[.bool true],La,U,po.D qc⟩
section
variable {s:Q9}{l:List Uj}
end
section
variable {s:Q9}{l:List Uj}
end
def xN (n:Nat)(d:LI):Prop:=∀x,x<n->0<=O6 d x->O6 d x<=x/\O6 d (O6 d x).toNat=O6 d x
section
variable {s:Q9}{l:List Uj}
end
section
variable {p s:Q9}{pairs:List (LI)}
end
section
variable {s:Q9}{l:List Uj}
end
section
variable {s:Q9}{l:List Uj}{nm:LI}
end
section
variable {s:Q9}{l:List Uj}
end
theorem QgK (E:ZE a):ZE (Yd a):=by
 have h0:=E.st0;have h1:=E.st1;by_cases T:a.st=0
 ·unfold Yd;rw[OU T];exact⟨E.al,E.ali,oe,oe,oe,oe,oe,oe⟩
 obtain⟨ord,h⟩:=QgJ E oa;have hl:ord.length<=a.st.toNat:=xH _ _ h.nd (λx hx=>ou (h.bd x hx));refine⟨by rw[h.al];exact E.al,by rw[h.al];exact E.ali,by rw[h.st];omega,by rw[h.st];omega,λs H=>?_,?_,λe J=>?_,?_⟩
 ·rw[h.mk2]at H;simp only[Oz,OF,OA]at H;obtain⟨i,⟨hi,_⟩,rfl⟩:=H;rw[h.st];omega
 ·rw[h.mk2];unfold YY;rw[MO];refine List.Pairwise.sublist MY ?_;exact(Nh (s:=0) (n:=ord.length)).imp (λh=>oa)
 ·rw[h.ed]at J;obtain⟨j,I,hd⟩:=Mb.1 J;rw[MB]at I;unfold cnR at hd;obtain⟨d,O,rfl⟩:=LC.1 hd;have V:=h.cl j oa d O;have:=MH V;have Y:=(E.ed d (ZU O).1).2.2.1;rw[h.st,h.al];unfold cnF;exact⟨oh,oh,Y,oh,oh⟩
 rw[h.ed];have key:∀n,((oR 0 n).flatMap (cnR a ord)).Pairwise λx y:Ed=>x.1<y.1\/(x.1=y.1/\x.2.1<y.2.1):=by
  intro n;induction n with
  | zero=>simp
  | succ n ih =>
   rw[Mz,LA,LR,MF];refine⟨ih,?_,λx hx y G=>?_⟩
   ·simp only[Oe,OM,Ox];unfold cnR;rw[MO];have h2:(Z4 a.ed (Ya ord n)).Pairwise λx y:Ed=>x.1<y.1\/(x.1=y.1/\x.2.1<y.2.1):=List.Pairwise.sublist MY E.edi;refine List.Pairwise.imp_of_mem (λ{x y} hx G ha=>?_) h2;have e1:=(ZU hx).2;have e2:=(ZU G).2;right;exact⟨U,by show x.2.1<y.2.1;omega⟩
   obtain⟨j,I,S⟩:=Mb.1 hx;rw[MB]at I;simp only[Oe,OM,Ox]at G;unfold cnR at S G;obtain⟨d,_,rfl⟩:=LC.1 S;obtain⟨d',_,rfl⟩:=LC.1 G;left;show(j:Int)<(n:Int);omega
 exact key _
theorem Qd8 (E:Kb w 4096):Q6 prog 32 [] w λr w'=>r=.bool true/\O5 [] w w':=by
 refine Zq func32 ?_;refine Qc<|Qb<|Q3 (α:=Unit) [(0,4)] (λz=>[(0,.bool true)]) (λz w'=>O5 [] w w') ol ?_ ?_
 ·refine Qw<|QM<|(Qdu E).mono ?_;rintro O G ⟨rfl,H⟩;refine Qa<|QM<|(QgY G).mono ?_;rintro r2 S ⟨rfl,I⟩;refine QH U<|Qb<|⟨(),La,H.D I⟩
 rintro z g T J;exact Qk ⟨[.bool true],La,U,J⟩
def Y1:ByteArray:=⟨#[98,117,102,102,101,114]⟩
def Uz:Xt:=⟨Y1,⟨[1,2],2,[0,1],[(0,1,1),(1,2,0)]⟩⟩
def QaX:ZB:={ mzC 3 with rq:=[Uz],ex:=[Qje 1 2] }
theorem Qoe:Zl QaX=0:=od
open Go.ChangeShapes Go.WideShapes Go.RowKit
section
variable {H:Type}{enc:TypeId×O2->H}
theorem Qae (hl:laidOutB P=true){W W':O1}(G:O5 [] W W'){sp:Nat->Bool}:∀{ts:List TypeId}{vs:LV}{ds:List (DataW H)}{ps:List MemPlace},
  (ts.all λt=>P.readableRec t && decide (t<P.types.size))=true->DataW.TrodAll enc P W 0 (λ_=>true) true ts vs ds ps->(∀x∈ps,x.block<W.heap.size)->(∀x∈ps,sp x.block=true)->DataW.TrodAll enc P W' 0 sp true ts vs ds ps
 | [],vs,ds,ps,_,h,_,_=>by
  obtain⟨rfl,rfl,rfl⟩:=trodAll_nil h;exact trodAll_mk0
 | t::ts,vs,ds,ps,E,h,I,hsp=>by
  obtain⟨v,T,d,ds1,a,b,rfl,rfl,rfl,J,O⟩:=trodAll_cons h;simp only[oS,oK,decide_eq_true_eq]at E;have S:Below W.heap.size W W':=G.below;refine trodAll_cons_mk (WideElems.Trod_stays hl E.1.1 E.1.2 J (λx hx=>S.same (I x (Mc _ hx))) (λx hx=>hsp x (Mc _ hx))) ?_;exact Qae hl G (oz E.2) O (λx hx=>I x (Nv _ hx)) (λx hx=>hsp x (Nv _ hx))
theorem Qiz {f:Func}{s:ChangeSpec}{apart fresh handsOn again:Bool}{W:O1}{args:Array O2}{ds gs:List (DataW H)}{before:List MemPlace}{tb:TypeId}
  (hl:laidOutB P=true) (hf:(f.params.toList.all λt=>P.readableRec t && decide (t<P.types.size))=true) (J:f.resultTypes=#[tb]) (O:P.underlying tb=some .bool) (S:s.vars=[])
  (E:s.fn H (ds++gs)={ results:=[.lit (.bool true)],args:=ds })
  (G:DataW.Whole enc P f.params.toList s.vars apart W args.toList ds gs before) (T:O5 [] W W'):s.post enc P f apart fresh handsOn again W args (.bool true) W':=by
 have I:=G.lt;have hg:=G;obtain⟨p,q,hA,hV,rfl,hz,hn⟩:=G;rw[S]at hV;obtain⟨rfl,rfl⟩:=trodVars_none hV;rw[LQ]at *;have V:∀sp:Nat->Bool,(∀x∈p,sp x.block=true)->DataW.TrodAll enc P W' 0 sp true f.params.toList args.toList ds p:=λsp hsp=>Qae hl T hf hA I hsp;have Y:∀(b:Nat) (sp:Nat->Bool) (hd:Bool),DataW.TrodAll enc P W' b sp hd f.resultTypes.toList ((Value.bool true).resultList f.resultTypes.size) [.lit (.bool true)] []:=λb sp hd=>by
  rw[J];exact trodAll_mk1 (shut_bool O true)
 have hb:Below W.heap.size W W':=T.below;have hc:∀sp:Nat->Bool,DataW.TrodVars enc P W' sp s.vars ([]:List (DataW H)) []:=λsp=>by rw[S];rfl
 have hh:(s.fn H ds).results=[.lit (.bool true)]:=by rw[E]
 have hi:(s.fn H ds).args=ds:=by rw[E]
 have hj:(s.fn H ds).vars=[]:=by rw[E]
 have hk:∀(j:Nat) (t:TypeId) (r:O2),f.resultTypes[j]?=some t->((Value.bool true).resultList f.resultTypes.size)[j]?=some r->Value.okWide P W' .any 0 t r:=ok_one J U (okWide_bool_mk O true);refine⟨ds,[],p,[],p,[],hg,?_,?_,?_,?_,λ_=>⟨hk,[.lit (.bool true)]++ds,[],([]++p)++[],⟨[]++p,[],?_,?_,U,?_,?_⟩,?_⟩⟩
 ·rw[LQ,hh];exact Y _ _ _
 ·rw[LQ,hi];exact V _ (λx hx=>oz (I x hx))
 ·rw[LQ,hj];exact hc _
 ·exact World.keptBut_mono (λ_ f=>f.elim) (hb.frame (λ_=>False))
 ·exact trodAll_append (V _ (λ_ _=>U)) (Y _ _ _)
 ·exact hc _
 ·intro b off hp;have he:MemPlace.cell b off∈p:=by simpa using hp
  rw[hb.frozen (p:=⟨b,off,none⟩) (I _ he)];exact hz b off he
 ·intro ha;have:=hn ha;simpa using this
 intro x hx _;simpa using hx
end
open Go.ChangeShapes Go.WideShapes Go.RowKit Go.Lg
theorem Qbg:∀(l:LV),(∀v∈l,∃n:Nat,v=.int .u8 (n:Int)/\n<256)->∃ns:LN,l=bys ns/\ns.length=l.length/\∀n∈ns,n<256
 | [],_=>⟨[],U,U,oe⟩
 | v::l,h=>by
  obtain⟨n,rfl,G⟩:=h v Lr;obtain⟨ns,H,I,J⟩:=Qbg l (λv O=>h v (Lj _ O));refine⟨n::ns,by rw[H];rfl,by simp[I],λm E=>?_⟩;rcases Li.1 E with rfl|E
  ·exact G
  exact J m E
theorem Qns {n:Int}(h:(Lit.int .u8 n).wf=true):∃m:Nat,n=m/\m<256:=by
 simp only[Lit.wf,oK,decide_eq_true_eq]at h;rw[show IntKind.u8.min=0 from rfl,show IntKind.u8.max=255 from rfl]at h;exact⟨n.toNat,oa,oa⟩
theorem QnF {s:TypeId×Nat}(h:w.shape? b=some s):b<w.heap.size:=by
 unfold World.shape? at h;cases E:w.heap[b]? with
 | none=>simp[E]at h
 | some o=>exact(LG.1 E).1
theorem QlX {base:Nat}{a:Addr}{e:TypeId}(h:w.has P .any base a e n):a.block<w.heap.size:=by
 obtain⟨_,_,row,cells,E,_⟩:=h;exact QnF E
theorem Qk6 {base:Nat}{t e:TypeId}{a:Addr}{c:Nat}(E:P.underlying t=some (.slice e))(h:Cell.okWide P w .any base t (.slice (some a) n c)):a.block<w.heap.size:=by
 simp only[Cell.okWide,Cell.ok,E]at h;exact QlX h.2.2
theorem Qiw {α:Type}{p:Nat->α->Prop}:∀(n:Nat),(∀i,i<n->∃e,p i e)->∃l:List α,l.length=n/\∀i (h:i<l.length),p i (l[i]'h)
 | 0,_=>⟨[],U,λi h=>by simp at h⟩
 | n+1,h=>by
  obtain⟨l,E,I⟩:=Qiw n (λi hi=>h i oa);obtain⟨e,J⟩:=h n oa;refine⟨l++[e],by simp[E],λi hi=>?_⟩;by_cases G:i<l.length
  ·rw[MG G];exact I i G
  have:i=n:=by simp at hi;omega
  subst this;rw[M6 oa];simpa[E]using J
theorem yj {α:Type}{f:α->Option O2}:∀{L:List α}{l:LV},L.mapM f=some l->l.length=L.length/\∀(i:Nat) (a:α),L[i]?=some a->f a=l[i]?
 | [],l,h=>by
  simp at h;subst h;exact⟨U,λi a h=>by simp at h⟩
 | x::L,l,h=>by
  simp only[List.mapM_cons,Option.bind_eq_bind,Option.pure_def,Option.bind_eq_some_iff]at h;obtain⟨v,E,S,G,I⟩:=h;cases I
  obtain⟨J,O⟩:=yj G;refine⟨by simp[J],λi a hi=>?_⟩;cases i with
  | zero=>simp at hi;subst hi;simpa using E
  | succ i=>simpa using O i a (oz hi)
def kT (P:O4)(k:IntKind):Nat->TypeId->Bool
 | 0,_=>false
 | m+1,t=>match P.underlying t with
  | some (.int k')=>k' == k
  | some (.array n e)=>kT P k m e && decide (0<P.cellsOf e) && decide (P.cellsOf t=n*P.cellsOf e)
  | some (.struct fs)=>(oT (P.cellsOf t)).all λj=>fs.toList.any λf=>kT P k m f.type && decide (f.offset<=j/\j<f.offset+P.cellsOf f.type)
  | _=>false
theorem Qbc {c:O2}(h:cs[j]?=some c)(E:o<=j)(G:j<o+n):c∈(cs.drop o).take n:=by
 refine Mr (i:=j - o) ?_;rw[LU,OU oa,ME,show o+(j - o)=j by omega];exact h
section
variable {H:Type}{enc:TypeId×O2->H}{W:O1}{base b0:Nat}{sp:Nat->Bool}{held:Bool}
theorem Vg {k:IntKind}:∀(m:Nat) {t:TypeId}{cs:LV}{fuel:Nat}{x:DataW H×List MemPlace},kT P k m t=true->DataW.trod enc P W b0 sp held fuel t cs=some x->∀c∈cs,∃n,c=.int k n/\(Lit.int k n).wf=true
 | 0,_,_,_,_,h,_,_,_=>by cases h
 | m+1,t,cs,fuel,x,h,O,c,S=>by
  unfold kT at h;obtain⟨j,V,Y⟩:=LM S;have T:cs[j]?=some c:=by rw[LF V,Y]
  split at h
  ·rename_i k' G;have hk:k'=k:=by simpa using h
   subst hk;obtain⟨n,I,_,E⟩:=DataW.trod_int G O;rw[I]at S;exact⟨n,Lb.1 S,E⟩
  ·rename_i n e G;simp only[oK,decide_eq_true_eq]at h;obtain⟨⟨I,E⟩,h3⟩:=h;obtain⟨xs,m',_,_,hl,ha,hx⟩:=DataW.trod_array G O;have hb:=Nat.div_add_mod j (P.cellsOf e);have hn:=NM j E;have hi:j / P.cellsOf e<n:=by
    refine(Nat.div_lt_iff_lt_mul E).2 ?_;omega
   have J:=hx (j / P.cellsOf e) hi;rw[LF (show j / P.cellsOf e<xs.length by omega)]at J;rw[Nat.mul_comm]at hb;exact Vg m I J c (Qbc T oa oa)
  ·rename_i fs G;obtain⟨xs,m',_,_,hl,ha,hx⟩:=DataW.trod_struct G O;have I:=Mg.1 h j (Nc.2 oa);obtain⟨f,he,E⟩:=Nr.1 I;simp only[oK,decide_eq_true_eq]at E;obtain⟨i,hi,hg⟩:=LM he;have hh:i<fs.size:=by simpa using hi
   have hm:fs[i]?=some f:=by rw[Mw hh,<-hg];simp
   have J:=hx i f hm;rw[LF (show i<xs.length by omega)]at J;exact Vg m E.1 J c (Qbc T E.2.1 E.2.2)
  cases h
theorem UE {k:IntKind}{m:Nat}{fs:Array Field}{xs:List (DataW H×List MemPlace)}{I:Nat}(V:xs.length=fs.size)
  (hx:∀(i:Nat) (f:Field),fs[i]?=some f->DataW.trod enc P W b0 sp held I f.type ((cs.drop f.offset).take (P.cellsOf f.type))=xs[i]?)  {f:Field} {c:O2} (E:fs[i]?=some f) (J:kT P k m f.type=true) (O:f.offset<=j) (S:j<f.offset+P.cellsOf f.type) (T:cs[j]?=some c):
  ∃n,c=.int k n/\(Lit.int k n).wf=true:=by
 have G:=hx i f E;have hi:i<fs.size:=(LG.1 E).1;rw[LF (show i<xs.length by omega)]at G;exact Vg m J G c (Qbc T O S)
theorem Qc5 {c:O2}(h:∃n,c=.int .u8 n/\(Lit.int .u8 n).wf=true):∃n:Nat,c=.int .u8 (n:Int)/\n<256:=by
 obtain⟨n,rfl,E⟩:=h;obtain⟨m,rfl,G⟩:=Qns E;exact⟨m,U,G⟩
end
theorem QpM {W:O1}{base:Nat}{ts:List TypeId}{cs:Array O2}(h:∀(i:Nat) (v:O2),cs[i]?=some v->∃u,ts[i % ts.length]?=some u/\Cell.okWide P W .any base u v)(i:Nat)(t:TypeId)(v:O2)(G:cs[i]?=some v)(I:ts[i % ts.length]?=some t):Cell.okWide P W .any base t v:=by
 obtain⟨u,E,k⟩:=h i v G;rw[I]at E;cases E
 exact k
theorem Qoy {H:Type}{enc:TypeId×O2->H}{W:O1}{b0 m:Nat}{sp:Nat->Bool}{held:Bool}{fs:Array Field}{xs:List (DataW H×List MemPlace)}
  (h:∀(i:Nat) (f:Field),fs[i]?=some f->DataW.trod enc P W b0 sp held m f.type ((cs.drop f.offset).take (P.cellsOf f.type))=xs[i]?) (i:Nat) {f:Field}  {c:O2} (E:fs[i]?=some f) (G:f.type=t) (I:f.offset=o) (J:P.cellsOf t=1) (O:(cs.drop o).take 1=[c]) (hi:i<xs.length):
  DataW.trod enc P W b0 sp held m t [c]=some (xs[i]'hi):=by
 have e:=h i f E;rw[G,I,J,O]at e;rw[e];simp[hi]
theorem Qpw {W:O1}{l:List (String×DataW Unit)}{a b:String×DataW Unit}(hl:l=[a,b,("internal/strconv.uint64pow10",Lib.tabData .u64 Lib.pow10Tab)]) (h:laidMetH prog l W) (E:(l.all λx=>x.2.handleName?.isNone)=true):Tb W:=by
 rw[Go.MakeChecks.laidMetH_plain _ _ _ E,hl]at h;exact Lib.tabIs_of_head (n:=20) (g:=0) od (t:=479) od od (e:=369) od od od h.tail.tail
structure PwV where
 ns:LN
 ad:Option Addr
 n:Nat
 cp:Nat
 f0:Int
 f1:Int
 f2:Int
 bd:Int
def PwV.pl (l:PwV)(rs:List X4V):PlV:=⟨l.ns,.slice l.ad l.n l.cp,rs,l.f0,l.f1,l.f2,l.bd⟩
abbrev X5 (l:PwV):LV:=bys l.ns++[.slice l.ad l.n l.cp,.int .i8 l.f0,.int .i8 l.f1,.int .i8 l.f2,.int .i8 l.bd]
structure PwA (w:O1)(l:PwV):Prop where
 n:l.ns.length=147
 b:∀n∈l.ns,n<256
 f0:i8R l.f0
 f1:i8R l.f1
 f2:i8R l.f2
 bd:i8R l.bd
 r:l.n<=4->∃rs:List X4V,rs.length=l.n/\Zn [] w.heap (.slice l.ad l.n l.cp) l.n 4 (rs.flatMap Xk)
theorem PwA.pl {w w':O1}{l:PwV}(h:PwA w l)(G:O5 [] w w')(I:l.n<=4):∃rs,PlA [] w'.heap (l.pl rs)/\rs.length=l.n:=by
 obtain⟨rs,E,J⟩:=h.r I;exact⟨rs,⟨h.n,h.b,by show Zn _ _ _ rs.length 4 _;rw[E];exact J.I G,h.f0,h.f1,h.f2,h.bd⟩,E⟩
theorem QpF {l:PwV}(h:l.ns.length=147):(X5 l)[147]?=some (.slice l.ad l.n l.cp):=by
 show(X5 l)[147+0]?=_;rw[X5,ML (by rw[XJ];omega),XJ,h,MK];rfl
theorem QeW {c:O2}(h:∃n,c=.int .i8 n/\(Lit.int .i8 n).wf=true):∃n:Int,c=.int .i8 n/\i8R n:=by
 obtain⟨n,rfl,h⟩:=h;simp only[Lit.wf,oK,decide_eq_true_eq]at h;rw[show IntKind.i8.min=-128 from rfl,show IntKind.i8.max=127 from rfl]at h;exact⟨n,U,oa⟩
def Qnh (P:O4)(fs:Array Field)(n:Nat):Bool:=(oT n).all λj=>fs.toList.any λf=>kT P .u8 5 f.type && decide (f.offset<=j/\j<f.offset+P.cellsOf f.type)
section
variable {H:Type}{enc:TypeId×O2->H}{W:O1}{base b0:Nat}{sp:Nat->Bool}{held:Bool}
theorem QjZ {fs:Array Field}{m:Nat}{xs:List (DataW H×List MemPlace)}(h:Qnh P fs n=true)(G:xs.length=fs.size)
  (hx:∀(i:Nat) (f:Field),fs[i]?=some f->DataW.trod enc P W b0 sp held m f.type ((cs.drop f.offset).take (P.cellsOf f.type))=xs[i]?)  {c:O2} (I:j<n) (J:cs[j]?=some c):∃k:Nat,c=.int .u8 (k:Int)/\k<256:=by
 have O:=Mg.1 h j (Nc.2 I);obtain⟨f,S,E⟩:=Nr.1 O;simp only[oK,decide_eq_true_eq]at E;obtain⟨i,hi,T⟩:=LM S;have V:i<fs.size:=by simpa using hi
 have Y:fs[i]?=some f:=by rw[Mw V,<-T];simp
 exact Qc5 (UE G hx Y E.1 E.2.1 E.2.2 J)
theorem Qqn {t e:TypeId}{c:O2}{fuel:Nat}{x:DataW H×List MemPlace}(J:P.underlying t=some (.slice e))(he:kT P .u8 5 e=true)(hc:P.cellsOf e=4)
  (hb:Cell.okWide P W .any base t c) (hf:DataW.trod enc P W b0 sp held fuel t [c]=some x):∃a n cp,c=.slice a n cp/\(n<=12->∃u:List X4V,u.length=n/\Zn [] W.heap (.slice a n cp) n 4 (u.flatMap Xk)):=by
 rcases DataW.trod_slice J hf with⟨E,_⟩|⟨a,len,cap,elems,rest,m,_,E,_,_,hl,_,ho,hg,_,_⟩
 ·simp at E;subst E;exact⟨none,0,0,U,λ_=>⟨[],U,Zn.nil _ _ _⟩⟩
 simp at E;subst E;refine⟨some a,len,cap,U,λhp=>?_⟩;have each:∀i,i<len->∃d:X4V,∀r v,(Xk d)[r]?=some v->W.cell? (a.add (i*4+r))=some v:=by
  intro i hi;have O:=hg i hi;rw[hc,LF (show i<elems.length by omega)]at O;obtain⟨cs,E,hh⟩:=MW.1 O;have hk:=Vg 5 he hh;obtain⟨ns,h1,h2,I⟩:=Qbg cs (λv G=>Qc5 (hk v G));unfold World.cells? at E;split at E
  ·have hq:cs.length=4:=by
    simpa using(yj E).1
   refine⟨⟨ns,oa,I⟩,λr v G=>?_⟩;have S:cs[r]?=some v:=by rw[h1];exact G
   have hm:r<4:=by have:=(Me.1 S).1;omega
   have T:=(yj E).2 r r (by simp[hm]);rw[Lg.Addr.add_add,S]at T;exact T
  cases E
 obtain⟨u,V,hu⟩:=Qiw len each;refine⟨u,V,?_⟩;have Y:(u.flatMap Xk).length=u.length*4:=Go.Lg.Y5 Xk 4 zJ u;refine⟨by rw[Y,V],oa,.inr ⟨a,cap,rfl,oa,λ_ _=>oe,λ_ _=>Qk6 J hb,λj v G=>?_⟩⟩;have hj:j<u.length*4:=by
  rw[<-Y];exact(Me.1 G).1
 have hi:j / 4<u.length:=oa
 have hn:=XH Xk 4 zJ u (j / 4) hi;have ha:j=j / 4*4+j % 4:=oa
 have I:(Xk (u[j / 4]'hi))[j % 4]?=some v:=by
  rw[<-hn,LU,OU (NM _ oa),ME,<-ha];exact G
 rw[<-Kt];have:=hu (j / 4) hi (j % 4) v I;rw[<-ha]at this;exact this
theorem QgO {v:O2}{d:DataW H}{ps:List MemPlace}{tp te:Nat}{fs:Array Field}{S J O:Field}(hu:P.underlying t=some (.struct fs))(ha:(P.cellTypes P.depth t).map (λts=>(ts.length,ts[147]?))=some (152,some tp))(hc:P.cellsOf t=152)
  (g7:fs[7]?=some S) (T:fs[8]?=some J) (g9:fs[9]?=some O) (hk:S.type=tp) (o7:S.offset=147) (o8:J.offset=148) (o9:O.offset=151) (c7:P.cellsOf tp=1) (c8:P.cellsOf J.type=3) (c9:P.cellsOf O.type=1)
  (kb:Qnh P fs 147=true) (V:kT P .i8 5 J.type=true) (k9:kT P .i8 5 O.type=true) (hn:P.underlying tp=some (.slice te)) (ho:kT P .u8 5 te=true) (hp:P.cellsOf te=4)
  (hb:Value.okWide P W .any base t v) (h:DataW.Trod enc P W b0 sp held t v d ps):∃l:PwV,v=.agg (X5 l).toArray/\PwA W l:=by
 simp only[Value.okWide,hu]at hb;obtain⟨cs,rfl,he,ts,hq,_,hr⟩:=hb;rw[hq]at ha;have hg:=Option.some.inj ha;have hs:ts.length=152:=OV Prod.fst hg;have ht:ts[147]?=some tp:=OV Prod.snd hg;rw[hc]at he;obtain⟨l⟩:=cs;have hl:l.length=152:=he;obtain⟨fuel,hf⟩:=h;obtain⟨xs,m,_,_,_,G,hv⟩:=DataW.trod_struct hu hf;have E:∀(i:Nat) (f:Field),fs[i]?=some f->DataW.trod enc P W b0 sp held m f.type ((l.drop f.offset).take (P.cellsOf f.type))=xs[i]?:=hv;have h0:7<fs.size:=(LG.1 g7).1;have g0:∀c∈l.take 147,∃n:Nat,c=.int .u8 (n:Int)/\n<256:=λc hm=>by
  obtain⟨j,hj,hh⟩:=LM hm;have hw:j<147:=by simp at hj;omega
  have hy:l[j]?=some c:=by
   rw[Ng]at hh;rw[LF oa,hh]
  exact QjZ kb G E hw hy
 obtain⟨ns,e1,e2,e3⟩:=Qbg _ g0;have hz:ns.length=147:=by rw[e2];simp;omega
 have I:∀j,j<152->∃c,l[j]?=some c:=λj hj=>⟨l[j]'oa,LF oa⟩;obtain⟨Y,q1⟩:=I 147 oa;obtain⟨x2,q2⟩:=I 148 oa;obtain⟨x3,q3⟩:=I 149 oa;obtain⟨x4,q4⟩:=I 150 oa;obtain⟨x5,q5⟩:=I 151 oa;have hi:l.drop 147=[Y,x2,x3,x4,x5]:=by
  apply M2;intro i;rw[ME]
  match i with
  | 0=>exact q1
  | 1=>exact q2
  | 2=>exact q3
  | 3=>exact q4
  | 4=>exact q5
  | i+5=>rw[MS oa];rfl
 obtain⟨y2,rfl,z2⟩:=QeW (UE G E T V oa oa q2);obtain⟨y3,rfl,z3⟩:=QeW (UE G E T V oa oa q3);obtain⟨y4,rfl,z4⟩:=QeW (UE G E T V oa oa q4);obtain⟨y5,rfl,z5⟩:=QeW (UE G E g9 k9 oa oa q5);have w7:=QpM hr 147 tp Y (oz q1) (by rw[hs];exact ht);have t7:=Qoy (c:=Y) E 7 g7 hk o7 c7 (by rw[hi];rfl) oa;obtain⟨a,n,cp,rfl,hP⟩:=Qqn hn ho hp w7 t7;refine⟨⟨ns,a,n,cp,y2,y3,y4,y5⟩,?_,hz,e3,z2,z3,z4,z5,λh3=>hP (by have h4:n<=4:=h3;omega)⟩;show Value.agg l.toArray=.agg (bys ns++_).toArray;rw[<-e1,<-hi,MI]
end
theorem Qqo {H:Type}{enc:TypeId×O2->H}{W:O1}{base b0:Nat}{sp:Nat->Bool}{held:Bool}{v:O2}{d:DataW H}{ps:List MemPlace}(E:Value.okWide prog W .any base 36 v)(h:DataW.Trod enc prog W b0 sp held 36 v d ps):
  ∃l:PwV,v=.agg (X5 l).toArray/\PwA W l :=
 QgO underlying36 (tp:=32) od od U U U U U U U od od od od od od underlying32 od od E h
theorem Qkh {l:PwV}(h:PwA w l):Q6 prog 9 [.agg (X5 l).toArray] w λr w'=>r=.bool (decide (l.n<=4))/\O5 [] w w':=by
 have E:=QpF h.n;refine Zq func9 ?_;refine Qc<|Qe<|QS (us:=X5 l) U λb1 I G J H=>Qb<|Qc<|Qs U H U E<|x (Us U)<|x (KW U U)<|Qb<|Qk ⟨[_],La,?_,G⟩;exact OV Value.bool (decide_eq_decide.2 oa)
section
variable {P:LI->Prop}
end
abbrev mB (c:ZB)(m:UU):Q9:=(spc (K3 c m)).a
abbrev mL (c:ZB)(m:UU):Lf:=QaF (mB c m) (fbs (spc (K3 c m))) (unc c.ev)
section
variable (h:D25 c)
abbrev suL (c:ZB):Lf:=QaF (spc c).a (fbs (spc c)) (unc c.ev)
end
abbrev q6 (c:ZB):LI×LI×List Q4:=(kpK (suL c) (spc c).a.st.toNat,kpD (suL c) (dsts (spc c).a (suL c)) (spc c).a.st.toNat,rmS (spc c).a (fbs (spc c)) (unc c.ev))
theorem Qfv {b:Q9}:a=b↔(a.al=b.al/\a.st=b.st/\a.mr=b.mr/\a.ed=b.ed):=⟨λh=>by subst h;exact⟨U,U,U,U⟩,λh=>by cases a;cases b;simp_all⟩
theorem Qe3 {a b:J9}:a=b↔(a.nm=b.nm/\a.co=b.co/\a.ob=b.ob/\a.fo=b.fo/\a.fl=b.fl):=⟨λh=>by subst h;exact⟨U,U,U,U,U⟩,λh=>by cases a;cases b;simp_all⟩
theorem QeU {a b:Xt}:a=b↔(a.nm=b.nm/\a.a=b.a):=⟨λh=>by subst h;exact⟨U,U⟩,λh=>by cases a;cases b;simp_all⟩
theorem zz {a b:UV}:a=b↔(a.nm=b.nm/\a.ls=b.ls):=⟨λh=>by subst h;exact⟨U,U⟩,λh=>by cases a;cases b;simp_all⟩
theorem UJ {a b:xL}:a=b↔(a.nm=b.nm/\a.ts=b.ts/\a.bd=b.bd):=⟨λh=>by subst h;exact⟨U,U,U⟩,λh=>by cases a;cases b;simp_all⟩
theorem Qfp {a b:ZB}:a=b↔(a.ev=b.ev/\a.co=b.co/\a.rq=b.rq/\a.ex=b.ex/\a.cs=b.cs):=⟨λh=>by subst h;exact⟨U,U,U,U,U⟩,λh=>by cases a;cases b;simp_all⟩
instance:DecidableEq Q9:=λ_ _=>decidable_of_iff _ Qfv.symm
instance:DecidableEq J9:=λ_ _=>decidable_of_iff _ Qe3.symm
instance:DecidableEq Xt:=λ_ _=>decidable_of_iff _ QeU.symm
instance:DecidableEq UV:=λ_ _=>decidable_of_iff _ zz.symm
instance:DecidableEq xL:=λ_ _=>decidable_of_iff _ UJ.symm
instance:DecidableEq ZB:=λ_ _=>decidable_of_iff _ Qfp.symm
abbrev Ky:=Int×ByteArray
structure xK where
 ky:Ky
 vr:Int
 sp:Q9
 kp:LI
 ds:LI
 rm:List Q4
 c:ZB
structure Rp where
 kept:List Ky
 made:List Ky
 gone:List Ky
def Yg (c:ZB)(m:UU):Ky:=(m.kd,if m.kd=1 then(c.rq.getD m.ix.toNat ⟨.empty,Vn⟩).nm else if m.kd=2 then(c.ex.getD m.ix.toNat ⟨.empty,[]⟩).nm else(c.cs.getD m.ix.toNat ⟨.empty,[],0⟩).nm)
def Ut (c:ZB)(v:Int)(m:UU):xK:=⟨Yg c m,v,suA (K3 c m),(q6 (K3 c m)).1,(q6 (K3 c m)).2.1,(q6 (K3 c m)).2.2,K3 c m⟩
def ja (l:List xK)(k:Ky):Option xK:=l.find? λp=>decide (p.ky=k)
def KS (c:ZB)(bf:List xK)(v:Int)(m:UU):Int×xK×Bool :=
 if mcE c m≠0 then(mcE c m,Ut c v m,false)else match ja bf (Yg c m)with
 | some p=>if p.c=K3 c m then(0,p,true)else(Y0 (K3 c m),Ut c v m,false)
 | none=>(Y0 (K3 c m),Ut c v m,false)
def blL (c:ZB)(bf:List xK)(v:Int):List UU->List xK->List Ky->List Ky->Int×List xK×List Ky×List Ky
 | [],o,k,n=>(0,o,k,n)
 | m::l,o,k,n=>if(KS c bf v m).1≠0 then((KS c bf v m).1,[],[],[])else
  if(KS c bf v m).2.2=true then blL c bf v l (o++[(KS c bf v m).2.1]) (k++[Yg c m]) n else blL c bf v l (o++[(KS c bf v m).2.1]) k (n++[Yg c m])
def qy (c:ZB)(bf:List xK)(v:Int):=blL c bf v (O9 c) [] [] []
def KZ (c:ZB)(bf:List xK)(v:Int):Int:=if Zl c≠0 then Zl c else(qy c bf v).1
def qz (c:ZB)(bf:List xK)(v:Int):List xK:=(qy c bf v).2.1
def Qri (c:ZB)(bf:List xK):List Ky:=(bf.filter λp=>decide (p.ky∉(O9 c).map (Yg c))).map (·.ky)
def XQ (c:ZB)(bf:List xK)(v:Int):Rp:=⟨(qy c bf v).2.2.1,(qy c bf v).2.2.2,Qri c bf⟩
structure Sys where
 c:ZB
 ps:List xK
 made:Int
 rs:List Rp
 un:List (ZB×List xK)
def yf (c:ZB):Int:=if(ZT c).1≠0 then(ZT c).1 else if Zl c≠0 then Zl c else KZ c [] 0
def Qf5 (c:ZB):Sys:=⟨c,qz c [] 0,((XQ c [] 0).made.length:Int),[],[]⟩
def edI (c:ZB)(es:List (Bool×Yc)):Int×List Yc:=if(ZT c).1≠0 then((ZT c).1,[])else je (ZT c).2 es
def qq (c:ZB)(es:List (Bool×Yc)):Int×ZB:=if(edI c es).1≠0 then((edI c es).1,UN)else if(VN c.ev (edI c es).2).1≠0 then((VN c.ev (edI c es).2).1,UN)else if Zl (VN c.ev (edI c es).2).2≠0 then(Zl (VN c.ev (edI c es).2).2,UN)else(0,(VN c.ev (edI c es).2).2)
def yW (s:Sys)(es:List (Bool×Yc)):Int:=if es.length=0 then 12 else if s.un.length=64 then 3 else if(qq s.c es).1≠0 then(qq s.c es).1 else KZ (qq s.c es).2 s.ps ((s.un.length:Int)+1)
def edS (s:Sys)(es:List (Bool×Yc)):Sys:=⟨(qq s.c es).2,qz (qq s.c es).2 s.ps ((s.un.length:Int)+1),s.made+((XQ (qq s.c es).2 s.ps ((s.un.length:Int)+1)).made.length:Int),s.rs++[XQ (qq s.c es).2 s.ps ((s.un.length:Int)+1)],s.un++[(s.c,s.ps)]⟩
def unS (s:Sys):Sys:=⟨(s.un.getLastD (s.c,s.ps)).1,(s.un.getLastD (s.c,s.ps)).2,s.made,s.rs.dropLast,s.un.dropLast⟩
abbrev KL (k:Ky):LV:=[oF oG k.1,.string k.2]
theorem Ql8 (a b:J9):KN (Zo a) (Zo b)=decide (a=b):=by
 rw[Bool.eq_iff_iff];simp only[KN,eqV,oK,beq_iff_eq,decide_eq_true_eq,Qe3,and_true]
theorem Qh9 (a b:Int×Int):KN (QI a) (QI b)=decide (a=b):=by
 rw[Bool.eq_iff_iff];simp only[KN,eqV,oK,beq_iff_eq,decide_eq_true_eq,Prod.ext_iff,and_true]
theorem QnO (a b:Q4):KN (q4C a) (q4C b)=decide (a=b):=by
 rw[Bool.eq_iff_iff];simp only[KN,eqV,oK,beq_iff_eq,decide_eq_true_eq,Prod.ext_iff,and_true]
theorem QiA (a b:Ky):KN (KL a) (KL b)=decide (a=b):=by
 rw[Bool.eq_iff_iff];simp only[KN,eqV,oK,beq_iff_eq,decide_eq_true_eq,Prod.ext_iff,and_true]
instance skEvt:Sk prog 183 [1,2,2,2,0]:=⟨⟨_,underlying183,.str og U underlying9<|.flag og U underlying4<|.flag og U underlying4<|.flag og U underlying4<|.int og U underlying3 .nil⟩,od,od⟩
instance skLoc:Sk prog 118 [0,0]:=⟨⟨_,underlying118,.int og U underlying3<|.int og U underlying3 .nil⟩,od,od⟩
instance skTrm:Sk prog 123 [0,0]:=⟨⟨_,underlying123,.int og U underlying3<|.int og U underlying3 .nil⟩,od,od⟩
instance skRmv:Sk prog 241 [0,0,0,0]:=⟨⟨_,underlying241,.int og U underlying3<|.int og U underlying3<|.int og U underlying3<|.int og U underlying3 .nil⟩,od,od⟩
instance skKey:Sk prog 75 [0,1]:=⟨⟨_,underlying75,.int og U underlying3<|.str og U underlying9 .nil⟩,od,od⟩
theorem Qgt {v:O2}{l l':List (J9)}(h:Zn L w.heap v l.length 5 (l.flatMap Zo))(E:Zn L' w.heap v' l'.length 5 (l'.flatMap Zo)):
  Q6 prog 113 [v,v'] w λr w'=>r=.bool (decide (l=l'))/\O5 [] w w':=by
 have hf:=h.le;refine Zq func113 ?_;refine Qc<|Qb<|Qd<|Qm<|QK h U<|Qa<|QK E U<|ZA U U<|xe<|QY rfl (λT=>?_) (λT=>?_)
 ·refine Qc<|Qb<|Qk ⟨[.bool false],La,?_,O5.Z _ _⟩;have:l≠l':=λe=>T (by rw[e]);simp[tup,this]
 refine Qh<|Qd<|Qm<|QK h U<|Qa<|xe<|Qf<|QD (α:=Nat) [(4,5),(13,25)] (λk=>[(13,oF oG k)]) (λk w'=>O5 [] w w'/\k<=l.length/\(l=l'↔l.drop k=l'.drop k)) (λk=>l.length - k) ol 0 La ⟨O5.Z _ _,Ln _,oe⟩ ?_;rintro k g Y ⟨G,hk,J⟩
 replace h:=h.I G
 replace E:=E.I G;refine Qc<|QZ U U<|xe<|Qd<|QG U (λha=>?_) (λha=>?_)
 ·refine Qy<|Qc<|Qb<|Qk ⟨[.bool true],La,?_,G⟩;rw[Lq oa,Lq oa]at J;simp[tup,J]
 have H:k<l.length:=oa
 have I:k<l'.length:=oa
 refine Qh<|Qd<|Qf<|Qm<|Qb<|Qd<|ZD [] (Xb 0 9 [])<|p QE<|p QE<|Lg.pig (g:=Zo) (i:=k) U UF h U U H λhg hb=>pq (λ_ O=>Qx (hb.I O) U U) <|
  p QE<|p QE<|Lg.pig (g:=Zo) (i:=k) U UF E U U I λhh he=>pq (λ_ O=>Qx (he.I O) U U)<|p (λ_=>(Va (xs:=Zo (l[k]'H)) (ys:=Zo (l'[k]'I)) U U U).D (by rw[Ql8]))<|pe ?_
 have V:=G.D (O5.C [] Y);refine QX rfl (λS=>?_) (λS=>?_)
 ·refine Qc<|Qb<|Qk ⟨[.bool false],La,?_,V⟩;have:l≠l':=λe=>by subst e;simp at S
  simp[tup,this]
 refine Qh<|Qw<|QP U U<|Qa<|xe<|⟨k+1,oa,La,V,oa,?_⟩;have e:l[k]'H=l'[k]'I:=by simpa using S
 rw[J,Zg H,Zg I,e];exact⟨λh=>(List.cons.inj h).2,λh=>by rw[h]⟩
theorem Qgs {v:O2}{l l':xx}(h:Zn L w.heap v l.length 2 (l.flatMap QI))(E:Zn L' w.heap v' l'.length 2 (l'.flatMap QI)):
  Q6 prog 117 [v,v'] w λr w'=>r=.bool (decide (l=l'))/\O5 [] w w':=by
 have hf:=h.le;refine Zq func117 ?_;refine Qc<|Qb<|Qd<|Qm<|QK h U<|Qa<|QK E U<|ZA U U<|xe<|QY rfl (λT=>?_) (λT=>?_)
 ·refine Qc<|Qb<|Qk ⟨[.bool false],La,?_,O5.Z _ _⟩;have:l≠l':=λe=>T (by rw[e]);simp[tup,this]
 refine Qh<|Qd<|Qm<|QK h U<|Qa<|xe<|Qf<|QD (α:=Nat) [(4,5),(13,25)] (λk=>[(13,oF oG k)]) (λk w'=>O5 [] w w'/\k<=l.length/\(l=l'↔l.drop k=l'.drop k)) (λk=>l.length - k) ol 0 La ⟨O5.Z _ _,Ln _,oe⟩ ?_;rintro k g Y ⟨G,hk,J⟩
 replace h:=h.I G
 replace E:=E.I G;refine Qc<|QZ U U<|xe<|Qd<|QG U (λha=>?_) (λha=>?_)
 ·refine Qy<|Qc<|Qb<|Qk ⟨[.bool true],La,?_,G⟩;rw[Lq oa,Lq oa]at J;simp[tup,J]
 have H:k<l.length:=oa
 have I:k<l'.length:=oa
 refine Qh<|Qd<|Qf<|Qm<|Qb<|Qd<|ZD [] (Xb 0 9 [])<|p QE<|p QE<|Lg.pig (g:=QI) (i:=k) U YA h U U H λhg hb=>pq (λ_ O=>Qx (hb.I O) U U) <|
  p QE<|p QE<|Lg.pig (g:=QI) (i:=k) U YA E U U I λhh he=>pq (λ_ O=>Qx (he.I O) U U)<|p (λ_=>(Va (xs:=QI (l[k]'H)) (ys:=QI (l'[k]'I)) U U U).D (by rw[Qh9]))<|pe ?_
 have V:=G.D (O5.C [] Y);refine QX rfl (λS=>?_) (λS=>?_)
 ·refine Qc<|Qb<|Qk ⟨[.bool false],La,?_,V⟩;have:l≠l':=λe=>by subst e;simp at S
  simp[tup,this]
 refine Qh<|Qw<|QP U U<|Qa<|xe<|⟨k+1,oa,La,V,oa,?_⟩;have e:l[k]'H=l'[k]'I:=by simpa using S
 rw[J,Zg H,Zg I,e];exact⟨λh=>(List.cons.inj h).2,λh=>by rw[h]⟩
theorem Qgr {v:O2}{l l':xx}(h:Zn L w.heap v l.length 2 (l.flatMap QI))(E:Zn L' w.heap v' l'.length 2 (l'.flatMap QI)):
  Q6 prog 120 [v,v'] w λr w'=>r=.bool (decide (l=l'))/\O5 [] w w':=by
 have hf:=h.le;refine Zq func120 ?_;refine Qc<|Qb<|Qd<|Qm<|QK h U<|Qa<|QK E U<|ZA U U<|xe<|QY rfl (λT=>?_) (λT=>?_)
 ·refine Qc<|Qb<|Qk ⟨[.bool false],La,?_,O5.Z _ _⟩;have:l≠l':=λe=>T (by rw[e]);simp[tup,this]
 refine Qh<|Qd<|Qm<|QK h U<|Qa<|xe<|Qf<|QD (α:=Nat) [(4,5),(13,25)] (λk=>[(13,oF oG k)]) (λk w'=>O5 [] w w'/\k<=l.length/\(l=l'↔l.drop k=l'.drop k)) (λk=>l.length - k) ol 0 La ⟨O5.Z _ _,Ln _,oe⟩ ?_;rintro k g Y ⟨G,hk,J⟩
 replace h:=h.I G
 replace E:=E.I G;refine Qc<|QZ U U<|xe<|Qd<|QG U (λha=>?_) (λha=>?_)
 ·refine Qy<|Qc<|Qb<|Qk ⟨[.bool true],La,?_,G⟩;rw[Lq oa,Lq oa]at J;simp[tup,J]
 have H:k<l.length:=oa
 have I:k<l'.length:=oa
 refine Qh<|Qd<|Qf<|Qm<|Qb<|Qd<|ZD [] (Xb 0 9 [])<|p QE<|p QE<|Lg.pig (g:=QI) (i:=k) U YA h U U H λhg hb=>pq (λ_ O=>Qx (hb.I O) U U) <|
  p QE<|p QE<|Lg.pig (g:=QI) (i:=k) U YA E U U I λhh he=>pq (λ_ O=>Qx (he.I O) U U)<|p (λ_=>(Va (xs:=QI (l[k]'H)) (ys:=QI (l'[k]'I)) U U U).D (by rw[Qh9]))<|pe ?_
 have V:=G.D (O5.C [] Y);refine QX rfl (λS=>?_) (λS=>?_)
 ·refine Qc<|Qb<|Qk ⟨[.bool false],La,?_,V⟩;have:l≠l':=λe=>by subst e;simp at S
  simp[tup,this]
 refine Qh<|Qw<|QP U U<|Qa<|xe<|⟨k+1,oa,La,V,oa,?_⟩;have e:l[k]'H=l'[k]'I:=by simpa using S
 rw[J,Zg H,Zg I,e];exact⟨λh=>(List.cons.inj h).2,λh=>by rw[h]⟩
theorem V3 {f:α->β}{l l':List α}(h:l.length≠l'.length):l.map f≠l'.map f:=λe=>h (by have:=OV oP e;rwa [Lh,Lh]at this)
theorem Ve {f:α->β}{l l':List α}{k:Nat}(h:k<l.length)(E:k<l'.length):(l.drop k).map f=(l'.drop k).map f↔f (l[k]'h)=f (l'[k]'E)/\(l.drop (k+1)).map f=(l'.drop (k+1)).map f:=by
 rw[LE h,LE E,LK,LK];exact List.cons_eq_cons
theorem Qe6 {v:O2}{l l':List IV}[Fu prog gf fn](h:Zn L w.heap v l.length 5 (l.flatMap QO))(E:Zn L' w.heap v' l'.length 5 (l'.flatMap QO))
  (h1:∀q∈l,Zr (QO q)) (hl:∀q∈l',Zr (QO q)) (hk:∀(k:Nat) (h:k<l.length) (E:k<l'.length) (G:O1),O5 [] w G->Q6 prog gf [.agg (QO (l[k]'h)).toArray,.agg (QO (l'[k]'E)).toArray] G λr w'=>r=.bool (decide ((l[k]'h).it=(l'[k]'E).it))/\O5 [] G w'):
  Q6 prog 114 [v,v',.func (.func gf) #[] #[]] w λr w'=>r=.bool (decide (l.map (·.it)=l'.map (·.it)))/\O5 [] w w':=by
 have h4:=h.le;refine Zq func114 ?_;refine Qc<|Qb<|Qd<|Qm<|QK h U<|Qa<|QK E U<|ZA U U<|xe<|QY rfl (λhb=>?_) (λhb=>?_)
 ·refine Qc<|Qb<|Qk ⟨[.bool false],La,?_,O5.Z _ _⟩;have:l.map (·.it)≠l'.map (·.it):=V3 λe=>hb (by rw[e]);simp[tup,this]
 refine Qh<|Qd<|Qm<|QK h U<|Qa<|xe<|Qf<|QD (α:=Nat) [(6,9),(17,31)] (λk=>[(17,oF oG k)]) (λk w'=>O5 [] w w'/\k<=l.length/\(l.map (·.it)=l'.map (·.it)↔(l.drop k).map (·.it)=(l'.drop k).map (·.it))) (λk=>l.length - k) ol 0 La ⟨O5.Z _ _,Ln _,oe⟩ ?_;rintro k g G ⟨J,hk1,O⟩;refine Qc<|QZ U U<|xe<|Qd<|QG U (λhn=>?_) (λhn=>?_)
 ·refine Qy<|Qc<|Qb<|Qk ⟨[.bool true],La,?_,J⟩;rw[Lq oa,Lq oa]at O;simp[tup,O]
 have H:k<l.length:=oa
 have I:k<l'.length:=oa
 have T:=hk k H I;have S:=Ve (f:=(·.it)) H I;have hm:=h1 _ (Ll H);have hc:=hl _ (Ll I);refine Qh<|Qd<|Qf<|Qm<|O8 (g:=QO) (i:=k) Yp (h.I J) U U H λh5 hf=>?_;refine Zk (l[k]'H) λq hq=>?_;rw[hq]at hf T hm S;refine x (Qx hf U U)<|Qe<|Qo (us:=[.string .empty,nS,oF oG 0,nS,nS]) U λb8 w2 ho hp hr=>x Ql<|Qe<|Qj (us:=QO q) hr U U U U hm λw3 ht hu=>xe ?_;have hg:O5 [] G w3:=ho.O ht hp;refine Qm<|Qa<|O8 (g:=QO) (i:=k) Yp ((E.I J).I hg) U U I λh6 hh=>?_;refine Zk (l'[k]'I) λV hv=>?_;rw[hv]at hh T hc S;refine x (Qx hh U U)<|Qe<|Qo (us:=[.string .empty,nS,oF oG 0,nS,nS]) U λb9 w4 hw hy hz=>Qe<|Qj (us:=QO V) hz U U U U hc λw5 h0 h2=>xe ?_;have hi:O5 [] w3 w5:=hw.O h0 hy;have Y:=(J.D hg).D hi;refine Qm<|Q5 (hu.I hi) U U<|Q5 h2 U U<|Qe<|xc (first:=[]) (capt:=[]) U<|(T w5 Y).mono ?_;rintro r6 w6 ⟨rfl,hj⟩;refine x (Zx U)<|xe<|QX rfl (λha=>?_) (λha=>?_)
 ·refine Qc<|Qb<|Qk ⟨[.bool false],La,?_,Y.D hj⟩;have h3:¬q.it=V.it:=by simpa using ha
  have:l.map (·.it)≠l'.map (·.it):=λe=>h3 (S.1 (O.1 e)).1;simp[tup,this]
 refine Qh ?_;have he:q.it=V.it:=by simpa using ha
 refine Qw<|QP U U<|Qa<|xe ?_;exact⟨k+1,oa,La,Y.D hj,oa,O.D (S.D ⟨λh=>h.2,λh=>⟨he,h⟩⟩)⟩
theorem Qma {v:O2}{l l':List XV}[Fu prog gf fn](h:Zn L w.heap v l.length 2 (l.flatMap Q8))(E:Zn L' w.heap v' l'.length 2 (l'.flatMap Q8))
  (h1:∀q∈l,Zr (Q8 q)) (hl:∀q∈l',Zr (Q8 q)) (hk:∀(k:Nat) (h:k<l.length) (E:k<l'.length) (G:O1),O5 [] w G->Q6 prog gf [.agg (Q8 (l[k]'h)).toArray,.agg (Q8 (l'[k]'E)).toArray] G λr w'=>r=.bool (decide ((l[k]'h).x=(l'[k]'E).x))/\O5 [] G w'):
  Q6 prog 115 [v,v',.func (.func gf) #[] #[]] w λr w'=>r=.bool (decide (l.map (·.x)=l'.map (·.x)))/\O5 [] w w':=by
 have h4:=h.le;refine Zq func115 ?_;refine Qc<|Qb<|Qd<|Qm<|QK h U<|Qa<|QK E U<|ZA U U<|xe<|QY rfl (λhb=>?_) (λhb=>?_)
 ·refine Qc<|Qb<|Qk ⟨[.bool false],La,?_,O5.Z _ _⟩;have:l.map (·.x)≠l'.map (·.x):=V3 λe=>hb (by rw[e]);simp[tup,this]
 refine Qh<|Qd<|Qm<|QK h U<|Qa<|xe<|Qf<|QD (α:=Nat) [(6,9),(17,31)] (λk=>[(17,oF oG k)]) (λk w'=>O5 [] w w'/\k<=l.length/\(l.map (·.x)=l'.map (·.x)↔(l.drop k).map (·.x)=(l'.drop k).map (·.x))) (λk=>l.length - k) ol 0 La ⟨O5.Z _ _,Ln _,oe⟩ ?_;rintro k g G ⟨J,hk1,O⟩;refine Qc<|QZ U U<|xe<|Qd<|QG U (λhn=>?_) (λhn=>?_)
 ·refine Qy<|Qc<|Qb<|Qk ⟨[.bool true],La,?_,J⟩;rw[Lq oa,Lq oa]at O;simp[tup,O]
 have H:k<l.length:=oa
 have I:k<l'.length:=oa
 have T:=hk k H I;have S:=Ve (f:=(·.x)) H I;have hm:=h1 _ (Ll H);have hc:=hl _ (Ll I);refine Qh<|Qd<|Qf<|Qm<|O8 (g:=Q8) (i:=k) Xz (h.I J) U U H λh5 hf=>?_;refine Zk (l[k]'H) λq hq=>?_;rw[hq]at hf T hm S;refine x (Qx hf U U)<|Qe<|Qo (us:=[.string .empty,nS]) U λb8 w2 ho hp hr=>x Ql<|Qe<|Qj (us:=Q8 q) hr U U U U hm λw3 ht hu=>xe ?_;have hg:O5 [] G w3:=ho.O ht hp;refine Qm<|Qa<|O8 (g:=Q8) (i:=k) Xz ((E.I J).I hg) U U I λh6 hh=>?_;refine Zk (l'[k]'I) λV hv=>?_;rw[hv]at hh T hc S;refine x (Qx hh U U)<|Qe<|Qo (us:=[.string .empty,nS]) U λb9 w4 hw hy hz=>Qe<|Qj (us:=Q8 V) hz U U U U hc λw5 h0 h2=>xe ?_;have hi:O5 [] w3 w5:=hw.O h0 hy;have Y:=(J.D hg).D hi;refine Qm<|Q5 (hu.I hi) U U<|Q5 h2 U U<|Qe<|xc (first:=[]) (capt:=[]) U<|(T w5 Y).mono ?_;rintro r6 w6 ⟨rfl,hj⟩;refine x (Zx U)<|xe<|QX rfl (λha=>?_) (λha=>?_)
 ·refine Qc<|Qb<|Qk ⟨[.bool false],La,?_,Y.D hj⟩;have h3:¬q.x=V.x:=by simpa using ha
  have:l.map (·.x)≠l'.map (·.x):=λe=>h3 (S.1 (O.1 e)).1;simp[tup,this]
 refine Qh ?_;have he:q.x=V.x:=by simpa using ha
 refine Qw<|QP U U<|Qa<|xe ?_;exact⟨k+1,oa,La,Y.D hj,oa,O.D (S.D ⟨λh=>h.2,λh=>⟨he,h⟩⟩)⟩
theorem Qmb {v:O2}{l l':List KV}[Fu prog gf fn](h:Zn L w.heap v l.length 3 (l.flatMap Zd))(E:Zn L' w.heap v' l'.length 3 (l'.flatMap Zd))
  (h1:∀q∈l,Zr (Zd q)) (hl:∀q∈l',Zr (Zd q)) (hk:∀(k:Nat) (h:k<l.length) (E:k<l'.length) (G:O1),O5 [] w G->Q6 prog gf [.agg (Zd (l[k]'h)).toArray,.agg (Zd (l'[k]'E)).toArray] G λr w'=>r=.bool (decide ((l[k]'h).k=(l'[k]'E).k))/\O5 [] G w'):
  Q6 prog 118 [v,v',.func (.func gf) #[] #[]] w λr w'=>r=.bool (decide (l.map (·.k)=l'.map (·.k)))/\O5 [] w w':=by
 have h4:=h.le;refine Zq func118 ?_;refine Qc<|Qb<|Qd<|Qm<|QK h U<|Qa<|QK E U<|ZA U U<|xe<|QY rfl (λhb=>?_) (λhb=>?_)
 ·refine Qc<|Qb<|Qk ⟨[.bool false],La,?_,O5.Z _ _⟩;have:l.map (·.k)≠l'.map (·.k):=V3 λe=>hb (by rw[e]);simp[tup,this]
 refine Qh<|Qd<|Qm<|QK h U<|Qa<|xe<|Qf<|QD (α:=Nat) [(6,9),(17,31)] (λk=>[(17,oF oG k)]) (λk w'=>O5 [] w w'/\k<=l.length/\(l.map (·.k)=l'.map (·.k)↔(l.drop k).map (·.k)=(l'.drop k).map (·.k))) (λk=>l.length - k) ol 0 La ⟨O5.Z _ _,Ln _,oe⟩ ?_;rintro k g G ⟨J,hk1,O⟩;refine Qc<|QZ U U<|xe<|Qd<|QG U (λhn=>?_) (λhn=>?_)
 ·refine Qy<|Qc<|Qb<|Qk ⟨[.bool true],La,?_,J⟩;rw[Lq oa,Lq oa]at O;simp[tup,O]
 have H:k<l.length:=oa
 have I:k<l'.length:=oa
 have T:=hk k H I;have S:=Ve (f:=(·.k)) H I;have hm:=h1 _ (Ll H);have hc:=hl _ (Ll I);refine Qh<|Qd<|Qf<|Qm<|O8 (g:=Zd) (i:=k) Xp (h.I J) U U H λh5 hf=>?_;refine Zk (l[k]'H) λq hq=>?_;rw[hq]at hf T hm S;refine x (Qx hf U U)<|Qe<|Qo (us:=[.string .empty,nS,oF oG 0]) U λb8 w2 ho hp hr=>x Ql<|Qe<|Qj (us:=Zd q) hr U U U U hm λw3 ht hu=>xe ?_;have hg:O5 [] G w3:=ho.O ht hp;refine Qm<|Qa<|O8 (g:=Zd) (i:=k) Xp ((E.I J).I hg) U U I λh6 hh=>?_;refine Zk (l'[k]'I) λV hv=>?_;rw[hv]at hh T hc S;refine x (Qx hh U U)<|Qe<|Qo (us:=[.string .empty,nS,oF oG 0]) U λb9 w4 hw hy hz=>Qe<|Qj (us:=Zd V) hz U U U U hc λw5 h0 h2=>xe ?_;have hi:O5 [] w3 w5:=hw.O h0 hy;have Y:=(J.D hg).D hi;refine Qm<|Q5 (hu.I hi) U U<|Q5 h2 U U<|Qe<|xc (first:=[]) (capt:=[]) U<|(T w5 Y).mono ?_;rintro r6 w6 ⟨rfl,hj⟩;refine x (Zx U)<|xe<|QX rfl (λha=>?_) (λha=>?_)
 ·refine Qc<|Qb<|Qk ⟨[.bool false],La,?_,Y.D hj⟩;have h3:¬q.k=V.k:=by simpa using ha
  have:l.map (·.k)≠l'.map (·.k):=λe=>h3 (S.1 (O.1 e)).1;simp[tup,this]
 refine Qh ?_;have he:q.k=V.k:=by simpa using ha
 refine Qw<|QP U U<|Qa<|xe ?_;exact⟨k+1,oa,La,Y.D hj,oa,O.D (S.D ⟨λh=>h.2,λh=>⟨he,h⟩⟩)⟩
theorem Qdy {a b:Xt}:a=b↔(a.nm=b.nm/\a.a.st=b.a.st/\a.a.al=b.a.al/\a.a.mr=b.a.mr/\a.a.ed=b.a.ed):=by
 rw[QeU,Qfv];exact⟨λ⟨E,G,H,I,J⟩=>⟨E,H,G,I,J⟩,λ⟨E,G,H,I,J⟩=>⟨E,H,G,I,J⟩⟩
theorem Qe7 {q E:IV}(h:ZH [] w.heap q.p.va q.p.vm q.p.ve q.p.a)(S:ZH [] w.heap E.p.va E.p.vm E.p.ve E.p.a):
  Q6 prog 112 [.agg (QO q).toArray,.agg (QO E).toArray] w λr w'=>r=.bool (decide (q.it=E.it))/\O5 [] w w':=by
 refine Zq func112 ?_;refine Qc<|Qe<|QS (us:=QO q) U λb2 Y T ha J=>Qe<|QS (us:=QO E) U λb3 w2 H hb O=>Qb ?_;have G:=T.D H;refine Qc<|Qs U (J.I H) U U<|Qs U O U U<|xb (XC U U) (λI=>?_) (λI=>?_)
 ·refine Qa<|Q2 U<|x (Qx (((J.I H).at (L:=[]) oe).from 1) rfl rfl)<|Q2 rfl<|x (Qx ((O.at (L:=[]) oe).from 1) rfl rfl)<|QM<|(QcW (h.I G) (S.I G)).mono ?_;rintro r4 w4 ⟨rfl,V⟩;refine QH U<|Qb<|Qk ⟨[.bool _],La,OV Value.bool (decide_eq_decide.2 ⟨λh=>Qdy.2 ⟨I,h⟩,λh=>(Qdy.1 h).2⟩),G.D V⟩
 refine Qa<|Qr<|Qr<|Qr<|Qr<|Qr<|QH U<|Qb<|Qk ⟨[.bool false],La,OV Value.bool (OZ λh=>I (Qdy.1 h).1).symm,G⟩
theorem Qmd {q E:XV}(h:jj [] w.heap q.v q.ls)(S:jj [] w.heap E.v E.ls):
  Q6 prog 116 [.agg (Q8 q).toArray,.agg (Q8 E).toArray] w λr w'=>r=.bool (decide (q.x=E.x))/\O5 [] w w':=by
 refine Zq func116 ?_;refine Qc<|Qe<|QS (us:=Q8 q) U λb2 Y T ha J=>Qe<|QS (us:=Q8 E) U λb3 w2 H hb O=>Qb ?_;have G:=T.D H;refine Qc<|Qs U (J.I H) U U<|Qs U O U U<|xb (XC U U) (λI=>?_) (λI=>?_)
 ·refine Qa<|Qs U (J.I H) U U<|Qs U O U U<|QM<|(Qgs (h.I G) (S.I G)).mono ?_;rintro r4 w4 ⟨rfl,V⟩;refine QH U<|Qb<|Qk ⟨[.bool _],La,OV Value.bool (decide_eq_decide.2 ⟨λh=>zz.2 ⟨I,h⟩,λh=>(zz.1 h).2⟩),G.D V⟩
 refine Qa<|Qr<|Qr<|Qr<|Qr<|Qr<|QH U<|Qb<|Qk ⟨[.bool false],La,OV Value.bool (OZ λh=>I (zz.1 h).1).symm,G⟩
theorem Qmc {q E:KV}(h:jj [] w.heap q.v q.ts)(T:jj [] w.heap E.v E.ts):
  Q6 prog 119 [.agg (Zd q).toArray,.agg (Zd E).toArray] w λr w'=>r=.bool (decide (q.k=E.k))/\O5 [] w w':=by
 refine Zq func119 ?_;refine Qc<|Qe<|QS (us:=Zd q) U λb2 w1 V ha I=>Qe<|QS (us:=Zd E) U λb3 w2 H hb J=>Qb ?_;have G:=V.D H;refine Qc<|Qs U (I.I H) U U<|Qs U J U U<|xb (XC U U) (λO=>?_) (λO=>?_)
 ·refine Qa<|Qs U (I.I H) U U<|Qs U J U U<|xb (Q0 U U) (λS=>?_) (λS=>?_)
  ·refine QH U<|Qa<|Qs U (I.I H) U U<|Qs U J U U<|QM<|(Qgr (h.I G) (T.I G)).mono ?_;rintro r4 w4 ⟨rfl,Y⟩;refine QH U<|Qb<|Qk ⟨[.bool _],La,OV Value.bool (decide_eq_decide.2 ⟨λh=>UJ.2 ⟨O,h,S⟩,λh=>(UJ.1 h).2.1⟩),G.D Y⟩
  refine QH U<|Qa<|Qr<|Qr<|Qr<|Qr<|Qr<|QH U<|Qb<|Qk ⟨[.bool false],La,OV Value.bool (OZ λh=>S (UJ.1 h).2.2).symm,G⟩
 refine Qa<|Qr<|Qr<|Qr<|Qr<|Qr<|QH U<|Qa<|Qr<|Qr<|Qr<|Qr<|Qr<|QH U<|Qb<|Qk ⟨[.bool false],La,OV Value.bool (OZ λh=>O (UJ.1 h).1).symm,G⟩
theorem QdV {c G:CL}(h0:ZK L w.heap c)(ht:ZK L' w.heap G):
  Q6 prog 60 [c.val,G.val] w λr w'=>r=.bool (decide (c.V=G.V))/\O5 [] w w':=by
 have h:=h0.up (L':=[]) oe;have E:=ht.up (L':=[]) oe;have Y:c.V=G.V↔(c.ev=G.ev/\c.co.map (·.it)=G.co.map (·.it)/\c.rq.map (·.it)=G.rq.map (·.it)/\c.ex.map (·.x)=G.ex.map (·.x)/\c.cs.map (·.k)=G.cs.map (·.k)):=Qfp;have hh:∀{b:Bool},(c.V=G.V->b=true)->b=false->Value.bool false=.bool (decide (c.V=G.V)):=λh1 h2=>OV Value.bool (OZ λe=>by rw[h1 e]at h2;cases h2).symm;have hi:∀{c:CL},ZK [] w.heap c->(∀q∈c.co,Zr (QO q))/\∀q∈c.rq,Zr (QO q):=λJ=>⟨λq H=>⟨U,(J.co.each q H).al.one,U,(J.co.each q H).mr.one,(J.co.each q H).ed.one,Z⟩,λq H=>⟨U,(J.rq.each q H).al.one,U,(J.rq.each q H).mr.one,(J.rq.each q H).ed.one,Z⟩⟩;have ho:∀{c:CL},ZK [] w.heap c->∀q∈c.ex,Zr (Q8 q):=λJ q H=>⟨U,(J.ex.each q H).one,Z⟩;have hp:∀{c:CL},ZK [] w.heap c->∀q∈c.cs,Zr (Zd q):=λJ q H=>⟨U,(J.cs.each q H).one,U,Z⟩;refine Zq func60 ?_;refine Qc<|Qe<|QS (us:=c.cells) U λb2 w1 hu h4 hv=>Qe<|QS (us:=G.cells) U λb3 w2 hr h5 ha=>Qb ?_;have T:=hu.D hr;have hb:=hv.I hr;refine Qc<|Qb<|Qc<|Qs U hb U U<|Qs U ha U U<|ZP<|(Qgt (h.ev.arr.I T) (E.ev.arr.I T)).mono ?_;rintro r1 w3 ⟨rfl,hj⟩;have he:=T.D hj;refine xB KD (λe1=>?_) (λe1=>?_)
 rotate_left
 ·refine Qr<|Qr<|Qr<|Qr<|Qr<|Qr<|QH U<|Qa<|Qr<|Qr<|Qr<|Qr<|Qr<|Qr<|QH U<|Qa<|Qr<|Qr<|Qr<|Qr<|Qr<|QH U<|Qa<|Qr<|Qr<|Qr<|Qr<|Qr<|QH U<|Qb<|Qk ⟨[.bool false],La,hh (λe=>OX (Y.1 e).1) e1,he⟩
 refine Qs rfl (hb.I hj) U U<|Qs U (ha.I hj) U U<|Qa<|ZP<|(Qe6 (gf:=112) (h.co.arr.I he) (E.co.arr.I he) (hi h).1 (hi E).1
  (λk O S w' I=>Qe7 (((h.co.each _ (Ll O)).I he).I I) (((E.co.each _ (Ll S)).I he).I I))).mono ?_
 rintro r2 w4 ⟨rfl,hw⟩;have hl:=hj.D hw;have hf:=T.D hl;refine QH rfl<|xB KD (λe2=>?_) (λe2=>?_)
 rotate_left
 ·refine Qr<|Qr<|Qr<|Qr<|Qr<|Qr<|QH U<|Qa<|Qr<|Qr<|Qr<|Qr<|Qr<|QH U<|Qa<|Qr<|Qr<|Qr<|Qr<|Qr<|QH U<|Qb<|Qk ⟨[.bool false],La,hh (λe=>OX (Y.1 e).2.1) e2,hf⟩
 refine Qs rfl (hb.I hl) U U<|Qs U (ha.I hl) U U<|Qa<|ZP<|(Qe6 (gf:=112) (h.rq.arr.I hf) (E.rq.arr.I hf) (hi h).2 (hi E).2
  (λk O S w' I=>Qe7 (((h.rq.each _ (Ll O)).I hf).I I) (((E.rq.each _ (Ll S)).I hf).I I))).mono ?_
 rintro r3 w5 ⟨rfl,hy⟩;have hm:=hl.D hy;have hg:=T.D hm;refine QH rfl<|xB KD (λe3=>?_) (λe3=>?_)
 rotate_left
 ·refine Qr<|Qr<|Qr<|Qr<|Qr<|QH U<|Qa<|Qr<|Qr<|Qr<|Qr<|Qr<|QH U<|Qb<|Qk ⟨[.bool false],La,hh (λe=>OX (Y.1 e).2.2.1) e3,hg⟩
 refine Qs rfl (hb.I hm) U U<|Qs U (ha.I hm) U U<|ZP<|(Qma (gf:=116) (h.ex.arr.I hg) (E.ex.arr.I hg) (ho h) (ho E)
  (λk O S w' I=>Qmd (((h.ex.each _ (Ll O)).I hg).I I) (((E.ex.each _ (Ll S)).I hg).I I))).mono ?_
 rintro r4 w6 ⟨rfl,hz⟩;have hn:=hm.D hz;have V:=T.D hn;refine QH rfl<|xB KD (λe4=>?_) (λe4=>?_)
 rotate_left
 ·refine Qr<|Qr<|Qr<|Qr<|Qr<|QH U<|Qb<|Qk ⟨[.bool false],La,hh (λe=>OX (Y.1 e).2.2.2.1) e4,V⟩
 refine Qs rfl (hb.I hn) U U<|Qs U (ha.I hn) U U<|ZP<|(Qmb (gf:=119) (h.cs.arr.I V) (E.cs.arr.I V) (hp h) (hp E)
  (λk O S w' I=>Qmc (((h.cs.each _ (Ll O)).I V).I I) (((E.cs.each _ (Ll S)).I V).I I))).mono ?_
 rintro r5 w7 ⟨rfl,h3⟩;refine QH rfl<|Qb<|Qk ⟨[.bool _],La,OV Value.bool (decide_eq_decide.2 ?_),V.D h3⟩;rw[Y];exact⟨λe=>⟨OY e1,OY e2,OY e3,OY e4,e⟩,λe=>e.2.2.2.2⟩
abbrev ZJ (p:ByteArray×Int):LV:=[.string p.1,oF oG p.2]
theorem Qdf (p:ByteArray×Int):(ZJ p).length=2:=rfl
structure VI (L:LN)(H:xC)(v:O2)(l:List (ByteArray×Int)):Prop where
 arr:Zn L H v l.length 2 (l.flatMap ZJ)
 nm:∀q∈l,Jp q.1
theorem VI.nil {L:LN}{H:xC}:VI L H (nS) []:=⟨Zn.nil _ _ _,oe⟩
theorem VI.I {L:LN}{w w':O1}{v:O2}{l:List (ByteArray×Int)}(h:VI L w.heap v l)(E:O5 [] w w'):VI L w'.heap v l:=⟨h.arr.I E,h.nm⟩
theorem VI.st {L:LN}{w w':O1}{v:O2}{l:List (ByteArray×Int)}(h:VI L w.heap v l)(E:O5 L w w'):VI L w'.heap v l:=⟨h.arr.st E,h.nm⟩
theorem VI.up {L L':LN}{H:xC}{v:O2}{l:List (ByteArray×Int)}(h:VI L H v l)(E:∀b∈L',b∈L\/H.size<=b):VI L' H v l:=⟨h.arr.up E,h.nm⟩
structure DV where
 kd:Int
 nm:ByteArray
 p:AV
 vl:O2
 ls:List (ByteArray×Int)
 vt:O2
 ts:List (ByteArray×Int)
 bd:Int
def DV.it (q:DV):Yc:=⟨q.kd,q.nm,q.p.a,q.ls,q.ts,q.bd⟩
abbrev Qv (q:DV):LV:=[oF oG q.kd,.string q.nm,q.p.va,oF oG q.p.a.st,q.p.vm,q.p.ve,q.vl,q.vt,oF oG q.bd]
theorem ZW (q:DV):(Qv q).length=9:=rfl
structure X7 (L:LN)(H:xC)(q:DV):Prop where
 nm:Jp q.nm
 a:ZH L H q.p.va q.p.vm q.p.ve q.p.a
 ls:VI L H q.vl q.ls
 ts:VI L H q.vt q.ts
theorem X7.I {L:LN}{w w':O1}{q:DV}(h:X7 L w.heap q)(E:O5 [] w w'):X7 L w'.heap q:=⟨h.nm,h.a.I E,h.ls.I E,h.ts.I E⟩
theorem X7.st {L:LN}{w w':O1}{q:DV}(h:X7 L w.heap q)(E:O5 L w w'):X7 L w'.heap q:=⟨h.nm,h.a.st E,h.ls.st E,h.ts.st E⟩
theorem X7.up {L L':LN}{H:xC}{q:DV}(h:X7 L H q)(E:∀b∈L',b∈L\/H.size<=b):X7 L' H q:=⟨h.nm,h.a.up E,h.ls.up E,h.ts.up E⟩
theorem X7.ones {q:DV}(h:X7 L H q):Zr (Qv q):=⟨U,U,h.a.al.one,U,h.a.mr.one,h.a.ed.one,h.ls.arr.one,h.ts.arr.one,U,Z⟩
structure Kx (L:LN)(H:xC)(v:O2)(qs:List DV):Prop where
 arr:Zn L H v qs.length 9 (qs.flatMap Qv)
 each:∀q∈qs,X7 L H q
theorem Kx.I {L:LN}{w w':O1}{v:O2}{qs:List DV}(h:Kx L w.heap v qs)(E:O5 [] w w'):Kx L w'.heap v qs:=⟨h.arr.I E,λq G=>(h.each q G).I E⟩
theorem Kx.up {L L':LN}{H:xC}{v:O2}{qs:List DV}(h:Kx L H v qs)(E:∀b∈L',b∈L\/H.size<=b):Kx L' H v qs:=⟨h.arr.up E,λq G=>(h.each q G).up E⟩
section
variable {pS:String}
theorem QnN {x:O3}{k:IntKind}{a b:Int}(hx:ev f x=.int k a)(G:ev f y=.int k b):
  (execOp (ev f) ⟨d,.call ⟨.builtin .max,#[x,y],#[t,E]⟩,ty,pS,af,gd⟩).run P w=.ok (.value (.int k (if b > a then b else a))) w:=by
 simp[execOp,resolve,invoke,builtin,hx,G,run_max_int2]
end
def ixD {α:Type}(q:α->Bool)(es:List α):Int:=if es.findIdx q<es.length then(es.findIdx q:Int)else -1
theorem Qop {q:α->Bool}{es:List α}(h:∀e∈es,q e=false):ixD q es=-1:=by
 unfold ixD;rw[OT];rw[List.findIdx_eq_length.2 h];omega
theorem Qoq {q:α->Bool}{es:List α}{k:Nat}(E:k<es.length)(G:∀e∈es.take k,q e=false)(H:q (es[k]'E)=true):ixD q es=(k:Int):=by
 have h:es.findIdx q=k:=(List.findIdx_eq E).2 ⟨H,λj I=>G _ (List.mem_take_iff_getElem.2 ⟨j,oa,U⟩)⟩;unfold ixD;rw[h,OU E]
theorem QeR {v:O2}{es:List DV}[Fu prog g fn]{cap:LV}{q:DV->Bool}(h:Zn L w.heap v es.length 9 (es.flatMap Qv))
  (hk:∀e∈es,∀G:O1,O5 [] w G->Q6 prog g ([.agg (Qv e).toArray]++cap) G λr w'=>r=.bool (q e)/\O5 [] G w'):
  Q6 prog 166 [v,.func (.func g) #[] cap.toArray] w λr w'=>r=oF oG (ixD q es)/\O5 [] w w':=by
 have hg:=h.le;refine Zq func166 ?_;refine Qc<|Qb<|Qd<|Qm<|QK h U<|Qa<|xe<|Qf<|QD (α:=Nat) [(4,5),(8,18)] (λz=>[(8,oF oG z)]) (λz w'=>z<=es.length/\O5 [] w w'/\∀m∈es.take z,q m=false) (λz=>es.length - z) ol 0 La ⟨Ln _,O5.Z _ _,λm S=>by simp at S⟩ ?_;rintro k g' G ⟨hh,H,J⟩;refine Qc<|QZ U U<|xe<|Qd<|QG U (λT=>?_) (λT=>?_)
 ·refine Qy ?_;have hf:es.length<=k:=by have I:¬(k:Int)<(es.length:Int):=T;omega
  rw[Lt hf]at J;refine Qc<|Qb<|Qk ⟨[oF oG (-1)],La,OV (Value.int .i64) (Qop J).symm,H⟩
 have E:k<es.length:=by have I:(k:Int)<(es.length:Int):=T;omega
 have V:es.take (k+1)=es.take k++[es[k]'E]:=Lm E;have Y:=λh2=>Qoq (q:=q) E J h2;have ha:=Ll E;refine Qh<|Qd<|Qf<|Qm<|Qb<|Qm<|Qa<|Qa<|O8 (g:=Qv) (i:=k) ZW (h.I H) U U E λhi hb=>?_;refine Zk (es[k]'E) λm S=>?_;rw[S]at hb V Y ha;refine x (Qx hb U U)<|Qe<|xc (first:=[]) (capt:=cap) U<|(hk m ha G H).mono ?_;rintro r2 w2 ⟨rfl,hc⟩;refine xe<|QX rfl (λI=>?_) (λI=>?_)
 ·refine Qm<|Qb<|Qk ⟨[oF oG k],La,OV (Value.int .i64) (Y I).symm,H.D hc⟩
 refine Qh<|Qw<|QP U U<|Qa<|xe<|⟨k+1,oa,La,E,H.D hc,λm' he=>?_⟩;rw[V]at he;rcases Lc.1 he with O|O
 ·exact J m' O
 simp only[oI]at O;subst O;exact I
theorem Qi0 {q:DV}{T1 T2:Nat}{k:Int}{n:ByteArray}(J:Zb w.heap b1 T1 [oF oG k])(O:Zb w.heap b2 T2 [.string n]):
  Q6 prog 220 [.agg (Qv q).toArray,.pointer (some ⟨b1,0,none⟩),.pointer (some ⟨b2,0,none⟩)] w λr w'=>r=.bool (V7 k n q.it)/\O5 [] w w':=by
 refine Zq func220 ?_;refine Qc<|Qe<|QS (us:=Qv q) U λS T E V I=>Qb<|Qc<|Qs U I U U<|Y7 (J.I E) U U<|xb (Q0 U U) (λG=>?_) (λG=>?_)
 ·refine Qa<|Qs U I U U<|Y7 (O.I E) U U<|xb (XC U U) (λH=>?_) (λH=>?_)
  ·refine QH U<|Qb<|Qk ⟨[.bool true],La,OV Value.bool (by unfold V7;rw[OX (show q.it.kd=k from G),OX (show q.it.nm=n from H)];rfl),E⟩
  refine QH U<|Qb<|Qk ⟨[.bool false],La,OV Value.bool (by unfold V7;rw[OZ (show ¬q.it.nm=n from H),Bool.and_false]),E⟩
 refine Qa<|Qr<|Qr<|Qr<|Qr<|QH U<|Qb<|Qk ⟨[.bool false],La,OV Value.bool (by unfold V7;rw[OZ (show ¬q.it.kd=k from G),Bool.false_and]),E⟩
theorem Qgx (es:List DV)(k:Int)(n:ByteArray):es.findIdx (λq=>V7 k n q.it)=Yx (es.map DV.it) k n:=by
 unfold Yx;rw[List.findIdx_map];rfl
theorem zG {v:O2}{es:List DV}(h:Zn L w.heap v es.length 9 (es.flatMap Qv))(k:Int)(n:ByteArray):
  Q6 prog 146 [v,oF oG k,.string n] w λr w'=>(∃i:Int,r=.tuple #[oF oG i,.bool (KP (es.map DV.it) k n)]/\(KP (es.map DV.it) k n=true->i=(Yx (es.map DV.it) k n:Int)))/\O5 [] w w':=by
 have H:=Qgx es k n;refine Zq func146 ?_;refine Qc<|Qe<|QS (us:=[oF oG k]) U λS w1 T hc V=>Qe<|QS (us:=[.string n]) U λY w2 I he ha=>x Ql<|Qb ?_;have J:=T.D I;refine Qm<|x (Zy (l:=[]) (l':=[_,_]))<|ZP<|(QeR (q:=λq=>V7 k n q.it) (cap:=[.pointer (some ⟨S,0,none⟩),.pointer (some ⟨Y,0,none⟩)]) (h.I J) (λe _ w5 O=>Qi0 ((V.I I).I O) (ha.I O))).mono ?_;rintro r3 w3 ⟨rfl,hb⟩;refine Qb<|Qm<|x (QnN U U)<|Qa<|x (Ys U U)<|x Ql<|Qb<|Qk ⟨[oF oG (if(0:Int) > ixD (λq:DV=>V7 k n q.it) es then 0 else ixD (λq:DV=>V7 k n q.it) es),.bool (decide ((0:Int)<=ixD (λq:DV=>V7 k n q.it) es))],oA,⟨if(0:Int) > ixD (λq:DV=>V7 k n q.it) es then 0 else ixD (λq:DV=>V7 k n q.it) es,?_,?_⟩,J.D hb⟩
 ·have e:decide ((0:Int)<=ixD (λq:DV=>V7 k n q.it) es)=KP (es.map DV.it) k n:=decide_eq_decide.2 (by
   unfold ixD;rw[H,Lh];split
   ·rename_i E;exact⟨λ_=>E,λ_=>oa⟩
   rename_i E;exact⟨λG=>oa,λG=>OW G E⟩)
  rw[e];rfl
 intro E;have G:Yx (es.map DV.it) k n<es.length:=by have:=OY E;rwa [Lh]at this
 unfold ixD;rw[H,OU G];split <;> omega
theorem QjN {v:O2}(h:Zn L w.heap v n 2 cs)(V:∀u∈cs,u.oneCell'=true):
  Q6 prog 143 [v] w λr w'=>O5 [] w w'/\w'.ownsRow w.heap.size 143 2 r n cs:=by
 have hb:=h.le;refine Zq func143 ?_;refine Qc<|Qb ?_;obtain⟨ao,cap,G⟩:=h.shape;refine Qd<|Qm<|x (XB (show ev _ _=_ from G) U)<|xe<|QX rfl (λI=>?_) (λI=>?_)
 ·refine Qc<|Qb<|Qk ⟨[nS],La,O5.Z _ _,?_⟩;rcases h.2.2 with⟨E,H⟩|⟨a,c,E,_⟩
  ·have J:cs=[]:=Lp (by rw[h.1,H]);subst J H;exact QL _ _ _ _
  rw[E]at G;cases G;cases I
 rcases h.2.2 with⟨E,H⟩|⟨a,c,E,H,J⟩
 ·rw[E]at G;injection G with e1;subst e1;cases I
 refine Qh<|Qc<|Qe<|XG λb5 w1 O S T=>Qa<|Qe<|Za (base:=w.heap.size) (T.own (n:=0) (sz:=2) U oa S) U (show ev _ _=_ from E) h.1 (J.I O) V oa (ou T.lt) λv2 w2 Y ha hc=>Qb<|Qk ⟨[v2],La,O.O ha S,?_⟩;simpa[tup]using Y
theorem QjM {v:O2}(h:Zn L w.heap v n 2 cs)(V:∀u∈cs,u.oneCell'=true):
  Q6 prog 144 [v] w λr w'=>O5 [] w w'/\w'.ownsRow w.heap.size 145 2 r n cs:=by
 have hb:=h.le;refine Zq func144 ?_;refine Qc<|Qb ?_;obtain⟨ao,cap,G⟩:=h.shape;refine Qd<|Qm<|x (XB (show ev _ _=_ from G) U)<|xe<|QX rfl (λI=>?_) (λI=>?_)
 ·refine Qc<|Qb<|Qk ⟨[nS],La,O5.Z _ _,?_⟩;rcases h.2.2 with⟨E,H⟩|⟨a,c,E,_⟩
  ·have J:cs=[]:=Lp (by rw[h.1,H]);subst J H;exact QL _ _ _ _
  rw[E]at G;cases G;cases I
 rcases h.2.2 with⟨E,H⟩|⟨a,c,E,H,J⟩
 ·rw[E]at G;injection G with e1;subst e1;cases I
 refine Qh<|Qc<|Qe<|XG λb5 w1 O S T=>Qa<|Qe<|Za (base:=w.heap.size) (T.own (n:=0) (sz:=2) U oa S) U (show ev _ _=_ from E) h.1 (J.I O) V oa (ou T.lt) λv2 w2 Y ha hc=>Qb<|Qk ⟨[v2],La,O.O ha S,?_⟩;simpa[tup]using Y
theorem QjL {v:O2}(h:Zn L w.heap v n 2 cs)(V:∀u∈cs,u.oneCell'=true):
  Q6 prog 87 [v] w λr w'=>O5 [] w w'/\w'.ownsRow w.heap.size 116 2 r n cs:=by
 have hb:=h.le;refine Zq func87 ?_;refine Qc<|Qb ?_;obtain⟨ao,cap,G⟩:=h.shape;refine Qd<|Qm<|x (XB (show ev _ _=_ from G) U)<|xe<|QX rfl (λI=>?_) (λI=>?_)
 ·refine Qc<|Qb<|Qk ⟨[nS],La,O5.Z _ _,?_⟩;rcases h.2.2 with⟨E,H⟩|⟨a,c,E,_⟩
  ·have J:cs=[]:=Lp (by rw[h.1,H]);subst J H;exact QL _ _ _ _
  rw[E]at G;cases G;cases I
 rcases h.2.2 with⟨E,H⟩|⟨a,c,E,H,J⟩
 ·rw[E]at G;injection G with e1;subst e1;cases I
 refine Qh<|Qc<|Qe<|XG λb5 w1 O S T=>Qa<|Qe<|Za (base:=w.heap.size) (T.own (n:=0) (sz:=2) U oa S) U (show ev _ _=_ from E) h.1 (J.I O) V oa (ou T.lt) λv2 w2 Y ha hc=>Qb<|Qk ⟨[v2],La,O.O ha S,?_⟩;simpa[tup]using Y
theorem QjO {v:O2}(h:Zn L w.heap v n 3 cs)(V:∀u∈cs,u.oneCell'=true):
  Q6 prog 88 [v] w λr w'=>O5 [] w w'/\w'.ownsRow w.heap.size 121 3 r n cs:=by
 have hb:=h.le;refine Zq func88 ?_;refine Qc<|Qb ?_;obtain⟨ao,cap,G⟩:=h.shape;refine Qd<|Qm<|x (XB (show ev _ _=_ from G) U)<|xe<|QX rfl (λI=>?_) (λI=>?_)
 ·refine Qc<|Qb<|Qk ⟨[nS],La,O5.Z _ _,?_⟩;rcases h.2.2 with⟨E,H⟩|⟨a,c,E,_⟩
  ·have J:cs=[]:=Lp (by rw[h.1,H]);subst J H;exact QL _ _ _ _
  rw[E]at G;cases G;cases I
 rcases h.2.2 with⟨E,H⟩|⟨a,c,E,H,J⟩
 ·rw[E]at G;injection G with e1;subst e1;cases I
 refine Qh<|Qc<|Qe<|XG λb5 w1 O S T=>Qa<|Qe<|Za (base:=w.heap.size) (T.own (n:=0) (sz:=3) U oa S) U (show ev _ _=_ from E) h.1 (J.I O) V oa (ou T.lt) λv2 w2 Y ha hc=>Qb<|Qk ⟨[v2],La,O.O ha S,?_⟩;simpa[tup]using Y
theorem QjK {v:O2}(h:Zn L w.heap v n 4 cs)(V:∀u∈cs,u.oneCell'=true):
  Q6 prog 106 [v] w λr w'=>O5 [] w w'/\w'.ownsRow w.heap.size 241 4 r n cs:=by
 have hb:=h.le;refine Zq func106 ?_;refine Qc<|Qb ?_;obtain⟨ao,cap,G⟩:=h.shape;refine Qd<|Qm<|x (XB (show ev _ _=_ from G) U)<|xe<|QX rfl (λI=>?_) (λI=>?_)
 ·refine Qc<|Qb<|Qk ⟨[nS],La,O5.Z _ _,?_⟩;rcases h.2.2 with⟨E,H⟩|⟨a,c,E,_⟩
  ·have J:cs=[]:=Lp (by rw[h.1,H]);subst J H;exact QL _ _ _ _
  rw[E]at G;cases G;cases I
 rcases h.2.2 with⟨E,H⟩|⟨a,c,E,H,J⟩
 ·rw[E]at G;injection G with e1;subst e1;cases I
 refine Qh<|Qc<|Qe<|XG λb5 w1 O S T=>Qa<|Qe<|Za (base:=w.heap.size) (T.own (n:=0) (sz:=4) U oa S) U (show ev _ _=_ from E) h.1 (J.I O) V oa (ou T.lt) λv2 w2 Y ha hc=>Qb<|Qk ⟨[v2],La,O.O ha S,?_⟩;simpa[tup]using Y
theorem yI {v:O2}(h:Zn L w.heap v n 2 cs)(V:∀u∈cs,u.oneCell'=true):
  Q6 prog 101 [v] w λr w'=>O5 [] w w'/\w'.ownsRow w.heap.size 75 2 r n cs:=by
 have hb:=h.le;refine Zq func101 ?_;refine Qc<|Qb ?_;obtain⟨ao,cap,G⟩:=h.shape;refine Qd<|Qm<|x (XB (show ev _ _=_ from G) U)<|xe<|QX rfl (λI=>?_) (λI=>?_)
 ·refine Qc<|Qb<|Qk ⟨[nS],La,O5.Z _ _,?_⟩;rcases h.2.2 with⟨E,H⟩|⟨a,c,E,_⟩
  ·have J:cs=[]:=Lp (by rw[h.1,H]);subst J H;exact QL _ _ _ _
  rw[E]at G;cases G;cases I
 rcases h.2.2 with⟨E,H⟩|⟨a,c,E,H,J⟩
 ·rw[E]at G;injection G with e1;subst e1;cases I
 refine Qh<|Qc<|Qe<|XG λb5 w1 O S T=>Qa<|Qe<|Za (base:=w.heap.size) (T.own (n:=0) (sz:=2) U oa S) U (show ev _ _=_ from E) h.1 (J.I O) V oa (ou T.lt) λv2 w2 Y ha hc=>Qb<|Qk ⟨[v2],La,O.O ha S,?_⟩;simpa[tup]using Y
abbrev z9:LV:=[oF oG 0,.string .empty,nS,oF oG 0,nS,nS,nS,nS,oF oG 0]
theorem Qen (l:List (ByteArray×Int)):∀u∈l.flatMap ZJ,u.oneCell'=true:=by
 intro u G;obtain⟨p,_,E⟩:=Mb.1 G;simp only[ZJ,oL,oJ,or_false]at E;rcases E with rfl|rfl <;> rfl
theorem Kp {q:DV}(h0:X7 L w.heap q):
  Q6 prog 77 [.agg (Qv q).toArray] w λr w'=>O5 [] w w'/\∃q':DV,r=.agg (Qv q').toArray/\q'.it=q.it/\∀L:LN,(∀b∈L,b<w.heap.size)->X7 L w'.heap q':=by
 have h:=h0.up (L':=[]) oe;have hB:=h.a.al.le;have hC:=h.a.mr.le;have hE:=h.a.ed.le;have hF:=h.ls.arr.le;have hG:=h.ts.arr.le;refine Zq func77 ?_;refine Qc<|Qe<|QS (us:=Qv q) U λb1 w1 hH hs ht=>Qe<|Qo (us:=z9) U λb2 w2 hu gc hz=>xe ?_;have hI:=hH.D hu;have gg:=ht.lt;have gh:=hz.lt;refine Qc<|Q2 U<|x (Zj (us:=[q.p.va,oF oG q.p.a.st,q.p.vm,q.p.ve]) (ht.I hu) U U U)<|Qe<|Qo (us:=KJ) U λb3 w3 hJ hK hM=>Qe<|Qj (us:=[q.p.va,oF oG q.p.a.st,q.p.vm,q.p.ve]) hM U U U U ⟨h.a.al.one,U,h.a.mr.one,h.a.ed.one,Z⟩ λH hN hf=>xe ?_;have hg:O5 [] w2 H:=hJ.O hN hK;have h1:=hI.D hg;have h4:=h.I h1;have hO:=ht.I (hu.D hg);have hP:=hz.I hg;have gi:=hg.size;have h2:O5 [] H { H with drawn:=H.drawn+1 }:=O5.C _ _
 refine Qd<|ZD [] [oD 0,oD 1,oD 3,oD 4,oD 5,oD 6,oD 8,oD 9,oE 2,oE 7,oE 10,oD 11,oD 12,oE 13]<|p (QR U)<|pq (λ_ G=>Qq (hf.I G) U U)<|p (QR U)<|pq (λ_ G=>Qq (hf.I G) U U) <|
  p (QR rfl)<|pq (λ_ G=>Qq (hf.I G) U U)<|p (QR U)<|pq (λ_ G=>Qq (hf.I G) U U) <|
  pk<|xg<|(Z0 (h4.a.al.I h2)).mono ?_
 rintro ra w5 ⟨hQ,hh⟩;have hi:O5 [] H w5:=h2.D hQ;refine⟨hi,?_⟩;refine pk<|xg<|(Z0 (h4.a.mr.I hi)).mono ?_;rintro rm w6 ⟨h3,hj⟩;have hk:=hi.D h3;refine⟨hk,?_⟩;refine pk<|xg<|(KQ (h4.a.ed.I hk)).mono ?_;rintro re w7 ⟨hv,J⟩;have O:=hk.D hv;refine⟨O,?_⟩;refine p (λ_=>Qz ⟨xM hh,U,xM hj,xM J,Z⟩)<|p (QR U)<|pkl (hl:=by kernel_rfl)<|YB (us:=[ra,oF oG q.p.a.st,rm,re]) (cs':=[oF oG q.kd,.string q.nm,ra,oF oG q.p.a.st,rm,re,q.vl,q.vt,oF oG q.bd]) (hO.I O) U U U oe ⟨Qt hh,rfl,Qt hj,Qt J,Z⟩ rfl λI hn hw=>pe ?_;have gj:=O.size;have h5:O5 [] w I:=(h1.D O).O hn hs;have hy:b2∉[b1]:=om
 have hR:=(hP.I O).J hn hy;have h8:=h.I h5;have gk:=hn.size;have h6:O5 [] I { I with drawn:=I.drawn+1 }:=O5.C _ _
 refine Qd<|ZD [] [oD 0,oD 1,oD 3,oD 4,oE 2,oD 6,oE 5,oE 7,oD 8,oE 9]<|p (QR U)<|pq (λ_ G=>Qq (hw.I G) U U)<|p (QR U)<|pq (λ_ G=>Qq (hw.I G) U U) <|
  pk<|xg<|(QjN (h8.ls.arr.I h6) (Qen q.ls)).mono ?_
 rintro rl w9 ⟨hS,ho⟩;have hp:O5 [] I w9:=h6.D hS;refine⟨hp,?_⟩;refine p (QR U)<|pk<|xg<|(QjM (h8.ts.arr.I hp) (Qen q.ts)).mono ?_;rintro rt h7 ⟨h9,hr⟩;have S:=hp.D h9;refine⟨S,?_⟩;refine pkl (hl:=by kernel_rfl)<|QB (j:=6) (u:=rl) (hw.I S) U U oe (Qt ho) λgl T hT=>p (QR rfl)<|pkl (hl:=by kernel_rfl)<|QB (j:=7) (u:=rt) hT rfl rfl oe (Qt hr) λhU V hV=>pe ?_;have hq:Zr [oF oG q.kd,.string q.nm,ra,oF oG q.p.a.st,rm,re,rl,rt,oF oG q.bd]:=⟨U,U,Qt hh,U,Qt hj,Qt J,Qt ho,Qt hr,U,Z⟩;have hW:=((hR.I S).J T hy).J V hy;refine Qc<|Q5 hV U U<|Qe<|Qj (us:=[oF oG q.kd,.string q.nm,ra,oF oG q.p.a.st,rm,re,rl,rt,oF oG q.bd]) hW U U U U hq λgm hA hX=>xe ?_;refine Qk ⟨[.agg (Qv ⟨q.kd,q.nm,⟨ra,rm,re,q.p.a⟩,rl,q.ls,rt,q.ts,q.bd⟩).toArray],⟨⟨_,U,Qn U (hX.at (L:=[]) oe).cells⟩,Z⟩,(((h5.D S).O T hs).O V hs).O hA oa,_,rfl,rfl,λL hL=>?_⟩;have Y:∀b∈b1::b2::L,b<H.heap.size:=λb E=>by
  simp only[oL]at E;rcases E with rfl|rfl|E
  ·omega
  ·omega
  have:=hL b E;omega
 have e1:({ H with drawn:=H.drawn+1 }:O1).heap.size=H.heap.size:=rfl
 have e2:({ I with drawn:=I.drawn+1 }:O1).heap.size=I.heap.size:=rfl
 have gn:=hi.size;have go:=hk.size;have gp:=hp.size;have ha:QQ (b1::b2::L) w7.heap ra q.p.a.al:=((Qu.ints hh hB (λb E=>ou (Y b E))).I h3).I hv;have hm:QQ (b1::b2::L) w7.heap rm q.p.a.mr:=(Qu.ints hj hC (λb E=>ou (Y b E))).I hv;have he:zg (b1::b2::L) w7.heap re q.p.a.ed:=QJ J hE (λb E hbL=>ov (Qi J b E).1 (Y b hbL));have hY:ZH (b1::b2::L) w7.heap ra rm re q.p.a:=⟨ha,hm,he⟩;have hZ:=(((hY.st (hn.mono oe)).I S).st (T.mono oe)).st (V.mono oe);have ga:Zn (b1::b2::L) h7.heap rl q.ls.length 2 (q.ls.flatMap ZJ):=(QJ ho hF (λb E hbL=>ov (Qi ho b E).1 (Y b hbL)):Zn (b1::b2::L) w9.heap rl _ 2 _).I h9;have gb:Zn (b1::b2::L) h7.heap rt q.ts.length 2 (q.ts.flatMap ZJ):=QJ hr hG (λb E hbL=>ov (Qi hr b E).1 (Y b hbL));have hD:X7 (b1::b2::L) hU.heap ⟨q.kd,q.nm,⟨ra,rm,re,q.p.a⟩,rl,q.ls,rt,q.ts,q.bd⟩:=⟨h.nm,hZ,⟨(ga.st (T.mono oe)).st (V.mono oe),h.ls.nm⟩,⟨(gb.st (T.mono oe)).st (V.mono oe),h.ts.nm⟩⟩;exact(hD.st (hA.mono oe)).up (λb E=>.inl (by simp[E]))
section
variable {pS:String}
theorem zU {base e:Nat}{bys:Nat}[h:Sl P t e sz bys z]{v:O2}(H:w.ownsRow base e sz v n cs)
  {a:Addr} {m c:Nat}  (hl:news.length=m*sz) (V:∀j u,news[j]?=some u->w.cell? (a.add j)=some u) (h1:∀u∈news,u.oneCell'=true)
  (hb:n+m<=1073741824) (hs:bys<=131072) (he:base<=w.heap.size):
  ∃v' w',(Builtin.append_ #[t,t] ty #[v,.slice (some a) m c]).run P w=.ok v' w'/\w'.ownsRow base e sz v' (n+m) (cs++news)/\O5 (ob v) w w'/\(∀b∈ob v',b∈ob v\/w.heap.size<=b):=by
 obtain⟨i,hi,hz,O,ha⟩:=Sl.info h;have hc:(n+m)*bys<=140737488355328:=LJ (Nat.mul_le_mul hb hs) oa;have hf:n+m<=maxLen:=by simp only[maxLen];omega
 by_cases hg:∃g cap cur,v=.slice (some ⟨g,0,none⟩) n cap/\w.heap[g]?=some (.cells cur e (0,0))/\n+m<=cap
 ·obtain⟨v',w',I,ho,ht,_⟩:=run_append_own (P:=P) w base t ty e i z sz bys h.u hi hz O ha h.zs h.pos v n cs H a m c news hl V h1 hf hc he;refine⟨v',w',I,ho,by rw[yc];exact O5.of_grown ht,?_⟩;obtain⟨g,cap,cur,rfl,hh,S⟩:=hg;rcases H.2 with⟨h2,_⟩|⟨g2,cap2,hj,h2,h3,h4,h5,h6,h7,h8⟩
  ·cases h2
  cases h2
  have hu:n*i.size+news.length<=hj.size:=by rw[hl,h7,O,<-Ms];exact LY _ S
  have hv:=run_append_room (P:=P) w t ty e i h.u hi g n cap hj h4 a m c news (by rw[O];exact hl) V h1 S hu;rw[hv]at I;cases I
  intro b G;exact .inl G
 have new:∀(old:Nat),old<n+m->∀J,J=(Obj.cells (cs.toArray++news.toArray++Builtin.zeroCells z.cells (grownCap w (n+m) old e - (n+m))) e) ->
   (w.drew.alloc J).ownsRow base e sz (.slice (some ⟨w.heap.size,0,none⟩) (n+m) (grownCap w (n+m) old e)) (n+m) (cs++news):=by
  intro old ho J hw;subst hw;have hge:=grownCap_ge w (n+m) old e;have hp:grownCap w (n+m) old e<=maxLen:=grownCap_le_maxLen w (n+m) old e hf;have hq:(cs++news).length=(n+m)*sz:=by rw[Lk,H.1,hl,Ms]
  refine⟨hq,.inr ⟨w.heap.size,_,_,U,he,Kg w.drew _,hge,hp,?_,?_⟩⟩
  ·simp only[Array.size_append,Od,size_zeroCells,h.zs,H.1,hl,<-Oo];congr 1;omega
  simp only[Array.toList_append,o0];rw[<-LB,<-hq];exact List.take_left
 have stp:∀J,O5 (ob v) w (w.drew.alloc J):=λJ=>⟨U,U,U,by rw[VF];exact NQ _,λk hk _=>qB w.drew J k hk⟩;have fin:∀(b:Nat),b∈ob (.slice (some ⟨w.heap.size,0,none⟩) (n+m) 0)->b∈ob v\/w.heap.size<=b:=λb G=>by simp[ob]at G;omega
 rcases H.2 with⟨rfl,rfl⟩|⟨g,cap,cur,rfl,hA,hh,hB,hp,hC,hD⟩
 ·have hx:cs=[]:=Lp (oz H.1);subst hx;by_cases hm:m=0
  ·subst hm;have Y:news=[]:=Lp (oz hl);subst Y;refine⟨nS,w,?_,QL _ _ _ _,O5.Z _ _,λb G=>by simp[ob]at G⟩;simp[Builtin.append_,run_underlying h.u,sizeOf,typeInfo,hi,Builtin.lenOf,Builtin.firstCells,loadCells,loadCellsFrom]
  have I:=run_append_nil (P:=P) w t ty e i z h.u hi hz a m c news (by rw[O];exact hl) V oa oa (by rw[ha];have hy:=hc;simp only[oY]at hy;omega);have Y:=new 0 oa _ U;simp only[oY,Ok,Array.empty_append]at Y ⊢;exact⟨_,_,I,Y,stp _,λb G=>fin b G⟩
 have S:cap<n+m:=by
  rcases OH cap (n+m)with h0|hge
  ·exact h0
  exact OW ⟨g,cap,cur,U,hh,hge⟩ hg
 have h9:∀j u,cs[j]?=some u->w.cell? ((⟨g,0,none⟩:Addr).add j)=some u:=H.cells (g:=g) U;have I:=run_append_grow (P:=P) w t ty e i z h.u hi hz ⟨g,0,none⟩ n cap cs (by rw[O];exact H.1) h9 a m c news (by rw[O];exact hl) V S oa (growslice_fits S (by rw[ha];exact hc));exact⟨_,_,I,new cap S _ U,stp _,λb G=>fin b G⟩
theorem KH {e bys:Nat}[h:Sl P t e sz bys z]{s:O3}{base:Nat}{v:O2}(G:w.ownsRow base e sz v n cs)(H:ev f s=v)
  {a:Addr} {m c:Nat}  (I:ev f y=.slice (some a) m c) (hl:news.length=m*sz)  (J:At L w.heap a news) (O:∀u∈news,u.oneCell'=true)
  (S:n+m<=1073741824) (V:base<=w.heap.size)
  (hK:∀v' w',w'.ownsRow base e sz v' (n+m) (cs++news)->O5 (ob v) w w'->(∀b∈ob v',b∈ob v\/w.heap.size<=b)->K (QW f d v') w') (Y:bys<=131072:=by decide):
  XO P ⟨d,.call ⟨.builtin .append,#[s,y],#[t,t]⟩,ty,pS,af,gd⟩ f w K:=by
 obtain⟨v',w',hr,h2,h3,h4⟩:=zU (P:=P) (t:=t) (ty:=ty) G hl J.cells O S Y V (c:=c);have ha:(execOp (ev f) ⟨d,.call ⟨.builtin .append,#[s,y],#[t,t]⟩,ty,pS,af,gd⟩).run P w=.ok (.value v') w':=by
  simp[execOp,resolve,invoke,builtin,H,I,hr]
 exact xv ha (hK v' w' h2 h3 h4)
end
class Mm {α:Type}(E:LN->Array Obj->α->Prop):Prop where
 st:∀{L:LN} {w w':O1} {q:α},E L w.heap q->O5 L w w'->E L w'.heap q
 up:∀{L L':LN} {H:xC} {q:α},E L H q->(∀b∈L',b∈L\/H.size<=b)->E L' H q
section
variable {E:LN->Array Obj->α->Prop}[Mm E]{q:α}
theorem Mm.mono (h:E L H q)(G:∀b∈L',b∈L):E L' H q:=Mm.up h λb I=>.inl (G b I)
theorem Mm.J (h:E L w.heap q)(H:O5 X w w')(I:∀b∈X,b∈L\/w.heap.size<=b):E L w'.heap q :=
 Mm.mono (Mm.st (Mm.up (L':=X++L) h (λb G=>(Lc.1 G).elim (I b) .inl)) (H.mono λ_ G=>Lc.2 (.inl G))) λ_ G=>Lc.2 (.inr G)
theorem Mm.I (h:E L w.heap q)(G:O5 [] w w'):E L w'.heap q:=Mm.st h G.any
end
structure KX {α:Type}(g:α->LV)(sz:Nat)(E:LN->Array Obj->α->Prop)(L:LN)(H:xC)(v:O2)(qs:List α):Prop where
 arr:Zn L H v qs.length sz (qs.flatMap g)
 each:∀q∈qs,E L H q
section
variable {g:α->LV}{E:LN->Array Obj->α->Prop}
theorem KX.st [Mm E]{L:LN}{w w':O1}{v:O2}{qs:List α}(h:KX g sz E L w.heap v qs)(G:O5 L w w'):KX g sz E L w'.heap v qs:=⟨h.arr.st G,λq H=>Mm.st (h.each q H) G⟩
theorem KX.up [Mm E]{L L':LN}{H:xC}{v:O2}{qs:List α}(h:KX g sz E L H v qs)(G:∀b∈L',b∈L\/H.size<=b):KX g sz E L' H v qs:=⟨h.arr.up G,λq I=>Mm.up (h.each q I) G⟩
theorem KX.I [Mm E]{v:O2}{qs:List α}(h:KX g sz E L w.heap v qs)(G:O5 [] w w'):KX g sz E L w'.heap v qs:=h.st G.any
structure Yn {α:Type}(g:α->LV)(sz T:Nat)(E:LN->Array Obj->α->Prop)(base:Nat)(w:O1)(v:O2)(l:List α):Prop where
 own:w.ownsRow base T sz v l.length (l.flatMap g)
 each:∀q∈l,∀L:LN,(∀b∈L,b<base\/b∈ob v)->E L w.heap q
variable {bs:Nat}{v:O2}{l:List α}
theorem Yn.nil:Yn g sz T E bs w (nS) []:=⟨QL _ _ _ _,λq G=>by cases G⟩
theorem Yn.low [Mm E](h:Yn g sz T E bs w v l)(H:O5 X w w')(I:∀b∈X,b<bs):Yn g sz T E bs w' v l :=
 ⟨Qg h.own H (λb G J=>ov (Qi h.own b G).1 (I b J)),λq O L S =>
  Mm.mono (Mm.st (L:=X++L) (h.each q O _ λb G=>(Lc.1 G).elim (λG=>.inl (I b G)) (S b)) (H.mono λb G=>Lc.2 (.inl G))) λb G=>Lc.2 (.inr G)⟩
theorem Yn.I [Mm E](h:Yn g sz T E bs w v l)(G:O5 [] w w'):Yn g sz T E bs w' v l:=h.low G (λ_ H=>by cases H)
theorem Yn.base {base':Nat}(h:Yn g sz T E bs w v l)(G:base'<=bs):Yn g sz T E base' w v l :=
 ⟨Zv h.own G,λq H L I=>h.each q H L λb J=>(I b J).imp (λh=>oa) id⟩
theorem Yn.app [Mm E]{H:O2}{I:O1}{q:α}(h:Yn g sz T E bs w v l)(O:∀L:LN,(∀b∈L,b<bs\/b∈ob v)->E L w.heap q)
  (S:I.ownsRow bs T sz H (l.length+1) (l.flatMap g++g q)) (V:O5 (ob v) w I) (Y:∀b∈ob H,b∈ob v\/w.heap.size<=b):Yn g sz T E bs I H (l++[q]):=by
 have mv:∀d:α,(∀L:LN,(∀b∈L,b<bs\/b∈ob v)->E L w.heap d)->∀L:LN,(∀b∈L,b<bs\/b∈ob H)->E L I.heap d:=λd hd L hL=>by
  have h1:E (ob v++L) w.heap d:=Mm.up (hd (ob v++L.filter λb=>decide (b<bs)) λb G=>(Lc.1 G).elim .inr λG=>.inl (OY (L9.1 G).2)) λb G=>by
   rcases Lc.1 G with G|G
   ·exact .inl (Lc.2 (.inl G))
   rcases hL b G with J|J
   ·exact .inl (Lc.2 (.inr (L9.2 ⟨G,OX J⟩)))
   exact(Y b J).imp (λh3=>Lc.2 (.inl h3)) id
  exact Mm.mono (Mm.st h1 (V.mono λb G=>Lc.2 (.inl G))) λb G=>Lc.2 (.inr G)
 refine⟨?_,λd hd=>?_⟩
 ·rw[Lk,LA];simpa using S
 rcases Lc.1 hd with hd|hd
 ·exact mv d (h.each d hd)
 simp only[oI]at hd;subst hd;exact mv d O
theorem Yn.lst (h:Yn g sz T E bs w v l)(I:l.length<=1099511627776)(H:∀b∈L,b<bs):KX g sz E L w.heap v l :=
 ⟨QJ h.own I (λb G hbL=>ov (Qi h.own b G).1 (H b hbL)),λq J=>h.each q J L λb G=>.inl (H b G)⟩
end
instance:Mm X7:=⟨X7.st,X7.up⟩
theorem VC {q:DV}(h:X7 L H q):∀u∈Qv q,u.oneCell'=true:=by
 intro u E;simp only[Qv,oL,oJ,or_false]at E;rcases E with rfl|rfl|rfl|rfl|rfl|rfl|rfl|rfl|rfl
 ·rfl
 ·rfl
 ·exact h.a.al.one
 ·rfl
 ·exact h.a.mr.one
 ·exact h.a.ed.one
 ·exact h.ls.arr.one
 ·exact h.ts.arr.one
 rfl
abbrev Ju (base:Nat)(w:O1)(v:O2)(l:List DV):Prop:=Yn Qv 9 63 X7 base w v l
theorem Ju.dits {base:Nat}{v:O2}{l:List DV}(h:Ju base w v l)(E:l.length<=1099511627776)(G:∀b∈L,b<base):Kx L w.heap v l:=⟨(Yn.lst h E G).arr,(Yn.lst h E G).each⟩
theorem J5 {v:O2}{es:List DV}(h0:Kx L w.heap v es)(h3:es.length<=100000):
  Q6 prog 96 [v] w λr w'=>O5 [] w w'/\∃l:List DV,Ju w.heap.size w' r l/\l.map DV.it=es.map DV.it:=by
 have h:=h0.up (L':=[]) oe;refine Zq func96 ?_;refine Qc<|Qb<|Qc<|Qb<|Qd<|Qm<|QK h.arr U<|Qa<|xe<|Qf<|QD (α:=Nat×O2×List DV) [(3,3),(5,5),(8,17)] (λz=>[(3,z.2.1),(8,oF oG z.1)]) (λz w'=>z.1<=es.length/\O5 [] w w'/\Ju w.heap.size w' z.2.1 z.2.2/\z.2.2.map DV.it=(es.take z.1).map DV.it) (λz=>es.length - z.1) ol (0,nS,[]) oA
  ⟨Ln _,O5.Z _ _,Yn.nil,U⟩ ?_
 rintro⟨k,vo,l⟩ g w1 ⟨hk,J,hR,G⟩;simp only[]at hk hR G;have h4:l.length=k:=by have:=OV oP G;rw[Lh,Lh,Ly]at this;omega
 refine Qc<|QZ U U<|xe<|Qd<|QG U (λS=>?_) (λS=>?_)
 ·refine Qy ?_;have hh:es.length<=k:=by have hi:¬(k:Int)<(es.length:Int):=S;omega
  rw[Lt hh]at G;refine Qm<|Qb<|Qk ⟨[vo],La,J,l,hR,G⟩
 have E:k<es.length:=by have hi:(k:Int)<(es.length:Int):=S;omega
 have Y:es.take (k+1)=es.take k++[es[k]'E]:=Lm E;have ha:=Ll E;have h1:=h.I J;refine Qh<|Qd<|Qf<|Qc<|O8 (g:=Qv) (i:=k) ZW h1.arr U U E λh5 hc=>?_;refine Zk (es[k]'E) λq hq=>?_;rw[hq]at hc Y ha;have he:=h1.each q ha;refine x (Qx hc U U)<|Qe<|Qo (us:=z9) U λb5 w2 hj hl hn=>Qe<|Qj (us:=Qv q) hn U U U U he.ones λw3 ho hp=>xe ?_;have H:O5 [] w1 w3:=hj.O ho hl;have h6:=H.size;have h7:=J.size;refine Qw<|Qa<|Q5 hp U U<|QM<|(Kp (he.I H)).mono ?_;rintro r4 w4 ⟨T,I,rfl,hr,hf⟩;have h8:=T.size;have hs:=(hR.I H).I T;have ht:=Zc (hR.I H).own;refine Qe<|QC (us:=[Qv I]) U U og (show 1*9<=1000000 by decide) oA λhu w5 O hA hv=>?_;have hB:=O.size;have hw:At [] w5.heap ⟨hu,0,none⟩ (Qv I):=by have:=hv.at (L:=[]) oe;simpa using this
 have hR5:=hs.I O;refine Qe<|KH (m:=1) (news:=Qv I) hR5.own U U U hw (VC (hf [] oe)) oa oa λv6 w6 hy hg hz=>?_;refine Qb ?_;have h2:Ju w.heap.size w6 v6 (l++[I]):=hR5.app (λL hL=>(hf L (λb V=>by
  rcases hL b V with h|h
  ·omega
  exact ht b h)).I O) hy hg hz
 refine Qw<|QP U U<|Qa<|xe<|⟨(k+1,v6,l++[I]),by show es.length - (k+1)<es.length - k;omega,oA,E,((((J.D H).D T).D O).then hg λb V=>.inr (Qi hR.own b V).1),h2,?_⟩;simp only[];rw[Y,Ls,Ls,G,LK,LK,hr]
theorem Qcz {n:Nat}{u:LI}:∀{l:List Xt}{s:List ByteArray},JP n u s l=0->(l.map (·.nm)).Nodup/\∀x∈l,x.nm∉s
 | [],_,_=>⟨.nil,λx hx=>by cases hx⟩
 | y::l,s,h=>by
  rw[Ub]at h;by_cases E:Yo n u s y≠0
  ·rw[OU E]at h;exact OW h E
  rw[OT E]at h;have G:Yo n u s y=0:=Lo.1 E;have J:y.nm∉s:=λH=>by
   unfold Yo at G;split at G
   ·exact OW G og
   exact OW G og
  obtain⟨O,I⟩:=Qcz h;refine⟨Nz.2 ⟨λH=>?_,O⟩,λx hx=>?_⟩
  ·obtain⟨x,hx,e⟩:=LC.1 H;exact I x hx (by rw[e];simp)
  rcases Li.1 hx with rfl|hx
  ·exact J
  exact λH=>I x hx (Lc.2 (.inl H))
theorem Qfl {s:List ByteArray}{n:ByteArray}(h:Kd s n=0):n∉s:=λE=>by
 unfold Kd at h;split at h
 ·exact OW h og
 exact OW h og
theorem Qac {sz:LI}:∀{l:List UV}{s:List ByteArray},Yq sz s l=0->(l.map (·.nm)).Nodup/\∀x∈l,x.nm∉s
 | [],_,_=>⟨.nil,λx hx=>by cases hx⟩
 | y::l,s,h=>by
  rw[Yq]at h;by_cases E:Kd s y.nm≠0
  ·rw[OU E]at h;exact OW h E
  rw[OT E]at h;by_cases G:Jd sz y.ls≠0
  ·rw[OU G]at h;exact OW h G
  rw[OT G]at h;have J:=Qfl (Lo.1 E);obtain⟨O,I⟩:=Qac h;refine⟨Nz.2 ⟨λH=>?_,O⟩,λx hx=>?_⟩
  ·obtain⟨x,hx,e⟩:=LC.1 H;exact I x hx (by rw[e];simp)
  rcases Li.1 hx with rfl|hx
  ·exact J
  exact λH=>I x hx (Lc.2 (.inl H))
theorem Qad {sz:LI}:∀{l:List xL}{s:List ByteArray},Y6 sz s l=0->(l.map (·.nm)).Nodup/\∀x∈l,x.nm∉s
 | [],_,_=>⟨.nil,λx hx=>by cases hx⟩
 | y::l,s,h=>by
  rw[Y6]at h;by_cases E:Kd s y.nm≠0
  ·rw[OU E]at h;exact OW h E
  rw[OT E]at h;by_cases G:Xx sz y≠0
  ·rw[OU G]at h;exact OW h G
  rw[OT G]at h;have J:=Qfl (Lo.1 E);obtain⟨O,I⟩:=Qad h;refine⟨Nz.2 ⟨λH=>?_,O⟩,λx hx=>?_⟩
  ·obtain⟨x,hx,e⟩:=LC.1 H;exact I x hx (by rw[e];simp)
  rcases Li.1 hx with rfl|hx
  ·exact J
  exact λH=>I x hx (Lc.2 (.inl H))
theorem zr {c:ZB}{k:Int}{f:Nat->ByteArray}(E:∀(j:Nat) (co:LI),Yg c ⟨k,(j:Int),co⟩=(k,f j)):∀(l:LN) (i:Nat),(VM k i l).map (Yg c)=(oR i l.length).map λj=>(k,f j)
 | [],_=>rfl
 | b::l,i=>by
  rw[VM,LK,zr E l (i+1),E,LS,M8,LK]
theorem zY (L:List α)(f:α->ByteArray)(d:α)(k:Int):((oR 0 L.length).map λj=>(k,f (L.getD j d)))=L.map λx=>(k,f x):=by
 apply Mt
 ·simp
 intro i H E;have G:i<L.length:=by simpa using E
 simp[oQ,G]
theorem Qly (c:ZB):(O9 c).map (Yg c)=c.rq.map (λx=>((1:Int),x.nm))++(c.ex.map (λx=>((2:Int),x.nm))++c.cs.map λx=>((3:Int),x.nm)):=by
 unfold O9;rw[Ls,Ls];rw[zr (f:=λj=>(c.rq.getD j ⟨.empty,Vn⟩).nm) (λj co=>rfl),zr (f:=λj=>(c.ex.getD j ⟨.empty,[]⟩).nm) (λj co=>rfl),zr (f:=λj=>(c.cs.getD j ⟨.empty,[],0⟩).nm) (λj co=>rfl)];have e1:(srR c).length=c.rq.length:=Lh _;have e2:(srX c).length=c.ex.length:=Lh _;have E:(srC c).length=c.cs.length:=Lh _;rw[e1,e2,E,zY c.rq (·.nm),zY c.ex (·.nm),zY c.cs (·.nm)]
theorem qb {k:Int}{f:α->ByteArray}{l:List α}(h:(l.map f).Nodup):(l.map λx=>(k,f x)).Nodup:=by
 have e:(l.map λx=>(k,f x))=(l.map f).map λn=>(k,n):=by rw[Mu];rfl
 rw[e];exact(MO.2 (h.imp λE e=>E (OV Prod.snd e)))
theorem Qb4 (h:Zl c=0):((O9 c).map (Yg c)).Nodup:=by
 unfold Zl at h;split at h
 ·rename_i E;exact OW h E
 split at h
 ·cases h
 split at h
 ·cases h
 split at h
 ·rename_i E;exact OW h E
 split at h
 ·rename_i E;exact OW h E
 rename_i H;have H:=Qcz (Lo.1 H);unfold Yw at h;split at h
 ·cases h
 split at h
 ·cases h
 split at h
 ·cases h
 split at h
 ·rename_i E;exact OW h E
 rename_i hx;have hx:=Qac (Lo.1 hx);have J:=Qad h;rw[Qly];refine MC.2 ⟨qb H.1,MC.2 ⟨qb hx.1,qb J.1,λa I b G e=>?_⟩,λa I b G e=>?_⟩
 ·obtain⟨_,_,rfl⟩:=LC.1 I;obtain⟨_,_,rfl⟩:=LC.1 G;exact OW (OV Prod.fst e) (show(2:Int)≠3 by decide)
 obtain⟨_,_,rfl⟩:=LC.1 I;rcases Lc.1 G with G|G
 ·obtain⟨_,_,rfl⟩:=LC.1 G;exact OW (OV Prod.fst e) (show(1:Int)≠2 by decide)
 obtain⟨_,_,rfl⟩:=LC.1 G;exact OW (OV Prod.fst e) (show(1:Int)≠3 by decide)
theorem Qo5 (c:ZB)(bf:List xK)(v:Int)(m:UU):(KS c bf v m).2.1.ky=Yg c m:=by
 unfold KS;split
 ·rfl
 split
 ·rename_i p E;split
  ·have:=List.find?_some E;simpa using this
  rfl
 rfl
end Go.Lg
