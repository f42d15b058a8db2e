/- Merged out of 29 texts. -/
import Derived.Test.YteekilnpgonojaaGreatDoorNeb
import Derived.Shelf.SlSortCmp.NoneTotal
import Derived.Ground.SlsfProg
import Derived.Tactics
import Derived.Sort.Grow
import Derived.Deep.Draws
import Derived.Sort.Statements
import Derived.Shelf.Lay
import Derived.Tactics2
import Derived.Laws.IdiomStrings
set_option maxHeartbeats 40000000
set_option maxRecDepth 100000
set_option linter.all false
open Go Go.Lg
open Go.Value renaming int->oF
open Go.IntKind renaming i64->oG
open _root_.List renaming mem_singleton->oI,not_mem_nil->oJ,mem_cons->oL,length_append->oM,replicate->oN,length_singleton->oO,length->oP,getD->oQ,all_cons->oS,range->oT,map_cons->oX,append_assoc->o0,cons_append->Ob,flatMap_cons->Oe,nil_append->Ok,all_eq_true->Om,append_nil->Ox,length_nil->OG,flatMap_nil->OM,map_set->OQ
open _root_.Bool renaming and_eq_true->oK,not_eq_true'->Og,false_eq_true->OE
open _root_.Array renaming replicate->oU,getElem?_eq_getElem->Oj,getElem?_mapIdx->Ow
open _root_.Nat renaming zero_add->oY,add_zero->OC,sub_zero->OI,zero_le->OR
open _root_.Int renaming toNat_natCast->Ot
open _root_.Option renaming map_some->Oy,isSome_none->OD
open Go renaming World->O1,Value->O2,Operand->O3,Program->O4
open Go.Proofs Go.Proofs.Tryz
variable {w w' W':O1}{L L' X ds ns av:LN}{n t i sz b T j E g N id o ty cap b1 B kt lo hi b2 G bp M gf gp:Nat}{cs us news capt:LV}{H:xC}{a:Q9}{α:Type}{y:O3}{z va ve vm vt v' vl vs vx vb vk:O2}{l u al ul out rs:LI}{c:ZB}{f f1:Fr}{P:O4}{fn:Func}{aa:List Q9}{lf:Lf}{s:Int}{es:List Ed}{d:xF}{af:xD}{gd:xt}{K:xz}{k':IntKind}{qs:List IV}{at_:Array Nat}{co:List Xt}{ops:xE}{rest:xu}{qx:List XV}{ks:List KV}{Φ:O2→O1→Prop}{Dc:xw}
namespace Go.Lg
theorem QqZ {pS:String}{C:xA}{pl:xu}
  {e bys:Nat}  {x G I:O3}  {v:O2}    {k:IntKind}  [h:Sl P t e sz bys z]
  (J:QV ops E=⟨d,.slice t x none (some G) (some I),ty,pS,af,gd⟩) (O:Zn L H v n sz cs) (hx:ev f x=v) (S:ev f G=.int k hi) (T:ev f I=.int k' hi) (V:hi<=n)
  (hK:∀v',Zn L H v' hi sz (cs.take (hi*sz))->XP P ops C K pl (QW f d v') w)
  (Y:Yb ops f (QV ops E)=true:=by rfl):XP P ops C K ((E,true)::pl) f w:=by
 obtain⟨v',h3,h4⟩:=QhQ (P:=P) (d:=d) (ty:=ty) (pS:=pS) (af:=af) (gd:=gd) (t:=t) O hx S T V;exact Lg.p (λw'=>by rw[J];exact h4 w') (by rw[J];exact hK v' h3) Y
structure Qkw (c:ZB):Prop where
 ev:c.ev.length<=32
 c0:c.co.length≠0
 c8:c.co.length<=8
 cr:c.co.length+c.rq.length<=12
 co:∀x∈c.co,ZE x.a
 rq:∀x∈c.rq,ZE x.a
 ce:∀x∈c.co,∀e∈x.a.al,e<(c.ev.length:Int)
 re:∀x∈c.rq,∀e∈x.a.al,e<(c.ev.length:Int)
 cd:Yw (szs c.co) c.ex c.cs=0
 e0:Ke c.ev=0
theorem QcB {s:List ByteArray}{x:Xt}(h:Yo n u s x=0):∀e∈x.a.al,e<(n:Int):=by
 unfold Yo at h;split at h
 ·cases h
 split at h
 ·cases h
 split at h
 ·rename_i E G;exact OW h G
 split at h
 ·cases h
 split at h
 ·cases h
 split at h
 ·cases h
 rename_i E;intro e H;refine Lo.1 λI=>E ?_;rw[Nr];exact⟨e,H,OX oa⟩
theorem QcE {n:Nat}{al:LI}:∀{l:List Xt}{s:List ByteArray}{u:LI},(Yu n al s u l).1=0->∀x∈l,ZE x.a/\∀e∈x.a.al,e<(n:Int)
 | [],_,_,_,x,hx=>by cases hx
 | y::l,s,u,h,x,hx=>by
  rw[Ud]at h;by_cases E:Yo n al s y≠0
  ·rw[OU E]at h;exact OW h E
  rw[OT E]at h;have G:Yo n al s y=0:=Lo.1 E;rcases Li.1 hx with rfl|hx
  ·exact⟨yJ G,QcB G⟩
  exact QcE h x hx
theorem Qcy {n:Nat}{u:LI}:∀{l:List Xt}{s:List ByteArray},JP n u s l=0->∀x∈l,ZE x.a/\∀e∈x.a.al,e<(n:Int)
 | [],_,_,x,hx=>by cases hx
 | y::l,s,h,x,hx=>by
  rw[Ub]at h;by_cases E:Yo n u s y≠0
  ·rw[OU E]at h;exact OW h E
  rw[OT E]at h;have G:Yo n u s y=0:=Lo.1 E;rcases Li.1 hx with rfl|hx
  ·exact⟨yJ G,QcB G⟩
  exact Qcy h x hx
theorem Z5 (h:Zl c=0):Qkw c:=by
 unfold Zl at h;by_cases E:Ke c.ev≠0
 ·rw[OU E]at h;exact OW h E
 rw[OT E]at h;by_cases I:c.co.length=0
 ·rw[OU I]at h;cases h
 rw[OT I]at h;by_cases J:8<c.co.length\/12<c.co.length+c.rq.length
 ·rw[OU J]at h;cases h
 rw[OT J]at h;by_cases G:(Yu c.ev.length (K1 c.ev.length) [] [] c.co).1≠0
 ·rw[OU G]at h;exact OW h G
 rw[OT G]at h;by_cases H:JP c.ev.length (Yu c.ev.length (K1 c.ev.length) [] [] c.co).2.2 (Yu c.ev.length (K1 c.ev.length) [] [] c.co).2.1 c.rq≠0
 ·rw[OU H]at h;exact OW h H
 rw[OT H]at h;have a4:=QcE (Lo.1 G);have O:=Qcy (Lo.1 H);have S:c.ev.length<=32:=by
  refine Lo.1 λT=>?_;apply E;unfold Ke;rw[OU oa];decide
 exact⟨S,I,oa,oa,λx hx=>(a4 x hx).1,λx hx=>(O x hx).1,λx hx=>(a4 x hx).2,λx hx=>(O x hx).2,h,Lo.1 E⟩
theorem YS.e {c:Int}(h:YS N H aa va vt c):c=Qbz aa:=by
 unfold YS at h;unfold Qbz;by_cases E:UT aa≠0
 ·rw[OU E]at h ⊢;exact h.1
 rw[OT E]at h ⊢;cases G:xp aa with
 | none=>rw[G]at h;exact h.1
 | some z=>rw[G]at h;exact h.1
theorem YS.bad {c:Int}(h:YS N H aa va vt c)(I:c≠0):va=zA/\vt=Zz:=by
 unfold YS at h;by_cases E:UT aa≠0
 ·rw[OU E]at h;exact h.2
 rw[OT E]at h;cases G:xp aa with
 | none=>rw[G]at h;exact h.2
 | some z=>rw[G]at h;exact OW h.1 I
theorem YS.good {c:Int}(h:YS N H aa va vt c)(G:c=0):Jv N H va (syA aa)/\Qd1 N H vt (syQ aa)/\xp aa=some (syA aa,syQ aa)/\UT aa=0:=by
 unfold YS at h;unfold syA syQ;by_cases E:UT aa≠0
 ·rw[OU E]at h;exact OW (h.1.symm.D G) E
 rw[OT E]at h;cases I:xp aa with
 | none=>rw[I]at h;rw[h.1]at G;cases G
 | some z=>rw[I]at h;exact⟨h.2.1,h.2.2,U,Lo.1 E⟩
theorem YS.st1 {c:Int}(h:YS N w.heap aa va vt c)(G:b<N)(H:O5 [b] w w'):YS N w'.heap aa va vt c:=by
 unfold YS at *;split
 ·rename_i E;rw[OU E]at h;exact h
 rename_i E;rw[OT E]at h;cases I:xp aa with
 | none=>rw[I]at h;exact h
 | some z=>rw[I]at h;exact⟨h.1,KA h.2.1 G H,Qkf h.2.2 G H⟩
theorem YS.mono {N M:Nat}{H:xC}{aa:List Q9}{va vt:O2}{c:Int}(h:YS N H aa va vt c)(hM:M<=N):YS M H aa va vt c:=by
 unfold YS at *;split
 ·rename_i E;rw[OU E]at h;exact h
 rename_i E;rw[OT E]at h;cases G:xp aa with
 | none=>rw[G]at h;exact h
 | some z=>rw[G]at h;exact⟨h.1,h.2.1.mono hM,h.2.2.mono hM⟩
theorem Qk5 (c:ZB):Y0 c=if Zl c≠0 then Zl c else if Qbz (O7 c.co)≠0 then Qbz (O7 c.co)else Qbz (O7 c.co++O7 c.rq):=by
 unfold Y0;split
 ·rfl
 have e:Qbz (O7 c.co)=if UT (O7 c.co)≠0 then UT (O7 c.co)else match xp (O7 c.co)with|none=>3|some _=>0:=rfl
 by_cases E:UT (O7 c.co)≠0
 ·rw[OU E]at e;rw[OU E,e,OU E]
 rw[OT E]at e;rw[OT E];cases G:xp (O7 c.co)with
 | none=>rw[G]at e;simp only[]at e;rw[e];rfl
 | some z=>rw[G]at e;simp only[]at e;rw[e];rfl
theorem Qfu (c:CL):(c.co.map (·.p)).map (·.a)=O7 c.V.co:=by unfold O7;show _=(c.co.map IV.it).map _;rw[Mu,Mu];rfl
theorem QmJ (c:CL):(c.rq.map (·.p)).map (·.a)=O7 c.V.rq:=by unfold O7;show _=(c.rq.map IV.it).map _;rw[Mu,Mu];rfl
theorem Qez {ps:List AV}(h:∀p∈ps,ZE p.a):∀p∈ps,p.a.st<=4096:=λp E=>(h p E).st1
def Qao (N:Nat)(H:xC)(c:ZB)(va vt:O2)(e:Int):Prop:=if Zl c≠0 then e=Zl c/\va=zA/\vt=Zz else YS N H (O7 c.co) va vt e
theorem Qkl {c:CL}(h:ZK L w.heap c)(hh:Kb w 4096):
  Q6 prog 185 [c.val] w λr w'=>O5 [] w w'/\∃va vt e,r=.tuple #[va,vt,oF oG e]/\Qao w.heap.size w'.heap c.V va vt e:=by
 refine Zq func185 ?_;refine Qc<|Qe<|QS (us:=c.cells) U λb1 w1 Y hv hi=>Qe<|Qo (us:=[nS,oF oG 0,nS,nS]) U λb2 w2 ha hw J=>x Ql<|Qb ?_;have hb:=Y.D ha;have hy:=Y.size;have hc:=hi.I ha;refine Qd<|Qc<|Q5 hc U U<|QM<|(X2 (h.I hb)).mono ?_;rintro r3 w3 ⟨rfl,E⟩;refine Qb ?_;have O:=hb.D E;have hz:=J.lt;refine Qm<|ZA U U<|xe<|QY rfl (λH=>?_) (λH=>?_)
 ·refine Qc<|x (Qz Z)<|Qa<|Qe<|Qj (us:=[nS,oF oG 0,nS,nS]) (J.I E) U U U U oC λw4 hj hk=>x Ql<|Qb<|Qk ⟨[zA,Zz,oF oG (Zl c.V)],⟨⟨_,U,Qn U (hk.at (L:=[]) oe).cells⟩,rfl,rfl,Z⟩,O.O hj oa,zA,Zz,_,rfl,by unfold Qao;rw[OU H];exact⟨U,U,U⟩⟩
 have hl:=Z5 (Lo.1 H);refine Qh<|Qc ?_;have h3:=h.I O;refine Qs rfl (hc.I E) U U<|QM<|(Qdz h3.co).mono ?_;rintro r5 w5 ⟨S,hm⟩;have I:=O.D S;have hn:∀p∈c.co.map (·.p),ZE p.a:=λp T=>by
  obtain⟨q,V,rfl⟩:=LC.1 T;exact hl.co q.it (LO V)
 have h0:=h.co.arr.le;have ho:Kz [] w5.heap r5 (c.co.map (·.p)):=QiR hm (by rw[Lh];omega) oe (λp T=>by
  obtain⟨q,V,rfl⟩:=LC.1 T;exact(((h.co.each q V).up (L':=[]) oe).I I))
 refine QM<|(QcT (km:=4096) ho (hh.I I) og (Qez hn)).mono ?_;rintro r6 w6 ⟨hf,va,vt,e,rfl,hR⟩;rw[Qfu]at hR;have hr:=I.D hf;have hs:=I.size;have ht:∃us,va=.agg us.toArray/\us.length=4/\Zr us:=by
  by_cases he:e=0
  ·exact JR (hR.good he).1
  exact⟨[nS,oF oG 0,nS,nS],(hR.bad he).1,U,U,U,U,U,Z⟩
 refine Exists.elim ht λus G=>?_;refine Q7 rfl U<|Q7 U U<|Q7 U U<|Qe<|Qj (us:=us) ((J.I E).I (S.D hf)) U G.1 G.2.1 U G.2.2 λw7 hg hu =>
  x Ql<|Qb<|Qk ⟨[.agg us.toArray,vt,oF oG e],⟨⟨_,U,Qn G.2.1 (hu.at (L:=[]) oe).cells⟩,rfl,rfl,Z⟩,hr.O hg oa,va,vt,e,by rw[G.1];rfl,?_⟩
 unfold Qao;rw[OT H];exact(hR.st1 (ov S.size E.size) hg).mono hs
theorem Qbf {v:O2}{m:Int}(h:QQ L w.heap v l)(O:Kb w m)(hb:∀n∈l,0<=n/\n<m)(hl:l.length<=1000000):
  Q6 prog 126 [v] w λr w'=>r=.string ⟨(JS l).toArray⟩/\O5 [] w w':=by
 refine Zq func126 ?_;refine Qc<|Qb<|Qc<|Qe<|Qo (us:=[.pointer none,nS]) U λH w1 ha S hc=>xe ?_;refine Qd<|Qm<|QK h U<|Qa<|xe<|Qf<|QD (α:=Nat×O2) [(5,5),(8,16)] (λz=>[(8,oF oG z.1)]) (λz w'=>z.1<=l.length/\O5 [] w w'/\(z.2=.pointer none\/z.2=me H)/\Bl z.2 H (JS (l.take z.1)) w'/\(JS (l.take z.1)).length<=8*z.1) (λz=>l.length - z.1) ol (0,.pointer none) La
  ⟨Ln _,ha,.inl U,⟨_,hc,QL _ _ _ _⟩,Lu _⟩ ?_
 rintro⟨k,p⟩ g w2 ⟨hk,E,I,G,he⟩;simp only[]at hk I G he;refine Qc<|QZ U U<|xe<|Qd<|QG U (λh9=>?_) (λh9=>?_)
 ·refine Qy<|Qc ?_;rw[Lt oa]at G;refine ZP<|(ju E S I G).mono ?_;rintro r3 w3 ⟨rfl,hf⟩;refine Qb<|Qk ⟨[.string ⟨(JS l).toArray⟩],La,U,hf⟩
 have J:k<l.length:=oa
 have hm:=hb l[k] (Ll J);obtain⟨q,hq⟩:∃q:Nat,l[k]=q:=⟨l[k].toNat,oa⟩;have hg:l[k].toNat=q:=oa
 have hn:=qv 7 q (ou O.le);have T:JS (l.take (k+1))=JS (l.take k)++(Lib.decDigits q++[32]):=by
  rw[Lm J];unfold JS;rw[LA,List.flatMap_singleton,hg]
 refine Qh<|Qd<|Qf<|Qc<|xii (h.I E) U U J λho hh=>x (QA hh U)<|Qb<|Qw<|Qa<|Qe<|xf ?_;refine(show Q6 _ _ [oF oG l[k]] _ _ by rw[hq];exact(QeT q oa w2 (O.I E))).mono ?_;rintro r4 w4 ⟨rfl,V⟩;have hi:(⟨(Lib.decDigits q).toArray⟩:ByteArray).size+(⟨#[32]⟩:ByteArray).size<=1000000000:=by show(Lib.decDigits q).toArray.size+1<=_;simp;omega
 refine x (YL U U hi)<|ZP<|(K6 (E.D V) S I (G.I V) ((⟨(Lib.decDigits q).toArray⟩:ByteArray)++(⟨#[32]⟩:ByteArray)) (by rw[ByteArray.size_append];show _+((Lib.decDigits q).toArray.size+1)<=_;simp;omega)).mono ?_;rintro r5 w5 ⟨hj,Y⟩;refine xe<|Qw<|QP U U<|Qa<|xe<|⟨(k+1,me H),oh,La,oh,hj,.inr U,?_,?_⟩
 ·simp only[];rw[T];have e:((⟨(Lib.decDigits q).toArray⟩++⟨#[32]⟩:ByteArray)).data.toList=Lib.decDigits q++[32]:=by rw[ByteArray.data_append];simp
  rw[e]at Y;exact Y
 simp only[];rw[T];simp;omega
structure Sty where
 c:CL
 p:AV
 vq:O2
 qs:List TV
 s:AV
 vt:O2
 ts:List TV
 vs:O2
 vx:O2
 vk:O2
 qx:List XV
 ks:List KV
 bm:Nat
 mm:List (ByteArray×O2)
abbrev Sty.cells (q:Sty):LV:=[q.c.ve,q.c.vc,q.c.vr,q.c.vx,q.c.vk,q.p.va,oF oG q.p.a.st,q.p.vm,q.p.ve,q.vq,q.s.va,oF oG q.s.a.st,q.s.vm,q.s.ve,q.vt,q.vs,q.vx,q.vk,.map (some q.bm)]
structure JW (L:LN)(b:Nat)(H:xC)(q:Sty):Prop where
 B:Zb H b 266 q.cells
 bL:b∉L
 c:ZK L H q.c
 p:ZH L H q.p.va q.p.vm q.p.ve q.p.a
 s:ZH L H q.s.va q.s.vm q.s.ve q.s.a
 qs:JV L H q.vq q.qs
 ts:JV L H q.vt q.ts
 k1:QQ L H q.vs (szs q.c.V.co)
 k2:yY L H q.vx q.qx
 k3:yT L H q.vk q.ks
 mL:q.bm∉L
 m:Yk JL H q.bm q.mm
theorem JW.I {L:LN}{b:Nat}{w w':O1}{q:Sty}(h:JW L b w.heap q)(E:O5 [] w w'):JW L b w'.heap q:=⟨h.B.I E,h.bL,h.c.I E,h.p.I E,h.s.I E,h.qs.I E,h.ts.I E,h.k1.I E,h.k2.I E,h.k3.I E,h.mL,h.m.I E⟩
theorem JW.st {L:LN}{b:Nat}{w w':O1}{q:Sty}(h:JW L b w.heap q)(E:O5 L w w'):JW L b w'.heap q:=⟨h.B.J E h.bL,h.bL,h.c.st E,h.p.st E,h.s.st E,h.qs.st E,h.ts.st E,h.k1.st E,h.k2.st E,h.k3.st E,h.mL,h.m.J E h.mL⟩
theorem JW.up {L L':LN}{b:Nat}{H:xC}{q:Sty}(h:JW L b H q)(E:∀b∈L',b∈L\/H.size<=b):JW L' b H q :=
 ⟨h.B,λI=>by rcases E _ I with G|G;exact h.bL G;have:=h.B.lt;omega,h.c.up E,h.p.up E,h.s.up E,h.qs.up E,h.ts.up E,h.k1.up E,h.k2.up E,h.k3.up E,λI=>by rcases E _ I with G|G;exact h.mL G;have:=h.m.lt;omega,h.m⟩
structure Qrj (q:Sty):Prop where
 ok:Zl q.c.V=0
 p:xp (O7 q.c.V.co)=some (q.p.a,q.qs.map (·.2))
 s:xp (O7 q.c.V.co++O7 q.c.V.rq)=some (q.s.a,q.ts.map (·.2))
 ex:q.qx.map (·.x)=q.c.V.ex
 cs:q.ks.map (·.k)=q.c.V.cs
 m:qH q.c.co.length q.mm (q.qs.map (·.2))
theorem YW {l:List Xt}(h:∀x∈l,ZE x.a):∀a∈O7 l,ZE a:=λa E=>by
 obtain⟨x,hx,rfl⟩:=LC.1 E;exact h x hx
def stp (a:Q9)(s v:Int):Int×Bool×Int:=if cks a s≠0 then(0,false,cks a s)else if v∉a.al then(0,false,9)else if 0<=xj a.ed s v then(xj a.ed s v,true,0)else(0,false,0)
theorem Qka (h:ZH L w.heap va vm ve a)(s v:Int):
  Q6 prog 260 [.agg #[va,oF oG a.st,vm,ve],oF oG s,oF oG v] w λr w'=>r=.tuple #[oF oG (stp a s v).1,.bool (stp a s v).2.1,oF oG (stp a s v).2.2]/\O5 [] w w':=by
 have E:stp a s v=(if cks a s≠0 then(0,false,cks a s)else if v∉a.al then(0,false,9)else if 0<=xj a.ed s v then(xj a.ed s v,true,0)else(0,false,0)):=rfl
 refine Zk (stp a s v) λR hR=>?_;rw[hR]at E ⊢;refine Zq func260 ?_;refine Qc<|Qe<|QS (us:=[va,oF oG a.st,vm,ve]) U λb3 w1 Y he J=>x Ql<|x Ql<|Qb<|Qd<|Qc<|Q5 J U U<|Qa<|QM<|(Kf (h.I Y) s).mono ?_;rintro r2 w2 ⟨rfl,O⟩;refine Qb ?_;have H:=Y.D O;refine Qm<|ZA U U<|xe<|QY rfl (λI=>?_) (λI=>?_)
 ·rw[OU I]at E;subst E;refine Qm<|x Ql<|x Ql<|Qb<|Qk ⟨[_,_,_],oB,U,H⟩
 rw[OT I]at E;refine Qh<|Qd<|Qc<|Qs U (J.I O) U U<|Qa<|QM<|(Yj (h.al.I H) v).mono ?_;rintro r3 w3 ⟨rfl,rfl⟩;refine x (zZ U)<|xe<|QY rfl (λS=>?_) (λS=>?_)
 ·rw[OU S]at E;subst E;refine Qc<|x Ql<|x Ql<|Qb<|Qk ⟨[_,_,_],oB,U,H⟩
 rw[OT S]at E;refine Qh ?_;have G:cks a s=0:=Lo.1 I;have ha:Jl a=0:=by
  unfold cks at G;refine Lo.1 λT=>?_;rw[OU T]at G;exact T G
 have hsr:0<=s/\s<a.st:=by
  unfold cks at G;rw[OT (by rw[ha];decide)]at G;refine Lo.1 λT=>?_;rw[OU oa]at G;cases G
 refine Qd<|Qc<|Q5 (J.I O) U U<|Qa<|Qa<|QM<|(QcN (h.ed.I H) ((Z1 a).1 ha) s v hsr.1 hsr.2).mono ?_;rintro r4 w4 ⟨rfl,hb⟩;refine Qb<|Qm<|x (Ys U U)<|xe<|QY rfl (λV=>?_) (λV=>?_)
 ·rw[OU V]at E;subst E;refine Qm<|x Ql<|x Ql<|Qb<|Qk ⟨[_,_,_],oB,U,H.D hb⟩
 rw[OT V]at E;subst E;refine Qh<|Qc<|x Ql<|x Ql<|Qb<|Qk ⟨[_,_,_],oB,U,H.D hb⟩
theorem Qih (es:List Ed)(s v:Int):xj es s v=(xo es s v).getD (-1):=by
 induction es with
 | nil=>rfl
 | cons e es ih =>
  rw[xj,xo];by_cases h:e.1=s/\e.2.1=v
  ·rw[OU h,OU h];rfl
  rw[OT h,OT h];exact ih
theorem Qnz (h:ZE a){v:Int}(I:0<=s)(J:s<a.st)(E:v∈a.al):(stp a s v).2.1=(xo a.ed s v).isSome:=by
 have G:cks a s=0:=by unfold cks;rw[OT (by rw[(Z1 a).2 h];decide),OT oa]
 unfold stp;rw[OT (by rw[G];decide),OT (oz E),Qih];cases H:xo a.ed s v with
 | none=>rfl
 | some t =>
  have:=(h.ed _ (Qck H)).2.2.2.1;rw[Option.getD_some,OU (oz this)];rfl
theorem QbE {q:Sty}{t:LI}(E:JW L b w.heap q)(G:QQ L' w.heap vt t)(H:q.c.co.length<=t.length):
  Q6 prog 125 [.pointer (some ⟨b,0,none⟩),vt] w λr w'=>O5 [] w w'/\∃v1 v2,r=.tuple #[v1,v2]/\QQ L' w'.heap v1 (t.take q.c.co.length)/\QQ L' w'.heap v2 (t.drop q.c.co.length):=by
 refine Zq func125 ?_;refine Qc<|x Ql<|Qb<|Qm<|Yl U<|Q2 U<|Qs U E.B U U<|QK E.c.co.arr U<|Qb<|Qd<|ZD [] (Xb 0 9 [])<|p QE<|p QE<|p QE<|QqZ (hi:=q.c.co.length) U G U U U H λv1 I=>p QE<|p QE<|QnQ (lo:=q.c.co.length) U G U U H λv2 J =>
  p ZN<|p ZN<|pe ?_
 refine Qk ⟨[_,_],oA,O5.C _ _,v1,v2,U,?_,?_⟩
 ·rw[Nat.mul_one,<-NO]at I;have e:(t.take q.c.co.length).length=q.c.co.length:=by rw[Ly];omega
  unfold QQ;rw[e];exact I
 exact QQ.drop J
theorem QhP {v:Int}{y:Xt}{l:List Xt}{ss:LI}:rfr v i (y::l) (s::ss)=if v∈y.a.al/\(xo y.a.ed s v).isSome=false then(i:Int)else rfr v (i+1) l ss:=rfl
theorem Qdi {q:Sty}{vr:O2}{v:Int}(O:JW L b w.heap q)(hr:QQ L' w.heap vr rs)(ho:∀x∈q.c.rq,ZE x.p.a)(hv:Vt (O7 q.c.V.rq) rs):
  Q6 prog 195 [.pointer (some ⟨b,0,none⟩),vr,oF oG v] w λr w'=>r=oF oG (rfr v 0 q.c.V.rq rs)/\O5 [] w w':=by
 have h4:=O.c.rq.arr.le;have h5:rs.length=q.c.rq.length:=by rw[hv.1];unfold O7;show((q.c.rq.map IV.it).map _).length=_;simp
 refine Zk (rfr v 0 q.c.V.rq rs) λR hR=>?_;rw[hR];refine Zq func195 ?_;refine Qc<|Qb<|Qd<|Qm<|Yl U<|Q2 U<|Qs U O.B U U<|QK O.c.rq.arr U<|Qa<|xe<|Qf<|QD (α:=Nat) [(6,11),(18,44)] (λz=>[(18,oF oG z)]) (λz w'=>z<=q.c.rq.length/\O5 [] w w'/\rfr v z ((q.c.rq.drop z).map (·.it)) (rs.drop z)=R) (λz=>q.c.rq.length - z) ol 0 La
  ⟨Ln _,O5.Z _ _,hR⟩ ?_
 rintro k g w1 ⟨hk,I,E⟩;refine Qc<|QZ U U<|xe<|Qd<|QG U (λY=>?_) (λY=>?_)
 ·refine Qy ?_;have hp:q.c.rq.length<=k:=by have hq:¬(k:Int)<(q.c.rq.length:Int):=Y;omega
  rw[Lq hp]at E;have hs:R=-1:=E.symm;refine Qc<|Qb<|Qk ⟨[_],La,by rw[hs];rfl,I⟩
 have G:k<q.c.rq.length:=by have hq:(k:Int)<(q.c.rq.length:Int):=Y;omega
 have H:k<rs.length:=oa
 have ha:=Ll G;rw[J3 G,Zg H,QhP]at E;have J:∀hz:k<(O7 q.c.V.rq).length,0<=rs[k]'H/\rs[k]'H<((O7 q.c.V.rq)[k]'hz).st:=λhz=>hv.2 k H hz;have hg:k<(O7 q.c.V.rq).length:=by unfold O7;show k<((q.c.rq.map IV.it).map _).length;simpa using G
 have J:=J hg;have ht:(O7 q.c.V.rq)[k]'hg=(q.c.rq[k]'G).p.a:=by unfold O7;show((q.c.rq.map IV.it).map _)[k]'_=_;simp[IV.it]
 rw[ht,ZG H]at J;rw[ZG H]at E;refine Qh<|Qd<|Qf<|Qm<|O8 Yp (O.c.rq.arr.I I) U U G λh6 hh=>?_;refine Zk (q.c.rq[k]'G) λy hy=>?_;rw[hy]at hh ha E J;have S:=(O.c.rq.each y ha).I I;have hi:=ho y ha;refine x (Qx hh U U)<|Qe<|Qo (us:=[.string .empty,nS,oF oG 0,nS,nS]) U λb8 w2 hu hw V=>x Ql <|
  Qe<|Qj (us:=QO y) V U U U U ⟨U,S.al.one,U,S.mr.one,S.ed.one,Z⟩ λw3 h0 V=>xe ?_
 have T:O5 [] w1 w3:=hu.O h0 hw;refine Qd<|Qc<|Q2 U<|Qs U V U U<|Qa<|QM<|(Kh (S.al.I T) hi.ali v).mono ?_;rintro r4 w4 ⟨rfl,rfl⟩;refine x (zZ U)<|xe<|QY rfl (λhb=>?_) (λhb=>?_)
 ·rw[OT (λe=>hb e.1)]at E;refine Qy<|Qw<|QP U U<|Qa<|xe ?_;exact⟨k+1,oa,La,G,I.D T,E⟩
 have hj:v∈y.p.a.al:=Lo.1 hb;have hl:=Qnz hi J.1 J.2 hj;refine Qh ?_;have h1:=(hr.I I).I T;refine Qd<|ZD [] (Xb 0 15 [7])<|p (QR U)<|pq (λ_ hc=>Zj (us:=ZV y.p) (V.J hc oe) rfl rfl rfl)<|p QE<|p QE<|pic (i:=k) rfl h1 rfl rfl H λh7 h2 =>
  pq (λ_ hc=>QA (h2.I hc) U)<|p QE<|pk<|xg<|(Qka ((S.I T).I (O5.C _ _)) (O6 rs k) v).mono ?_
 rintro r5 w5 ⟨rfl,h3⟩;have hm:=(O5.C [] w4).D h3;refine⟨hm,?_⟩;refine p QE<|p (λ_=>Zt U U)<|p (λ_=>Zt U U)<|p (λ_=>Zt U U)<|p ZN <|
  p ZN<|p ZN<|pe ?_
 have hn:=(I.D T).D hm;refine Qm<|x (Zx U)<|xe<|QX rfl (λhe=>?_) (λhe=>?_)
 ·have hf:(xo y.p.a.ed (O6 rs k) v).isSome=false:=by rw[<-hl];simpa using he
  rw[OU ⟨hj,hf⟩]at E;refine Qm<|Qb<|Qk ⟨[_],La,by rw[<-E];rfl,hn⟩
 have hf:¬(xo y.p.a.ed (O6 rs k) v).isSome=false:=by rw[<-hl];simpa using he
 rw[OT (λe=>hf e.2)]at E;refine Qh<|Qw<|QP U U<|Qa<|xe ?_;exact⟨k+1,oa,La,G,hn,E⟩
open Go.RowKit
def XN (L:LN)(W W':O1):Prop:=∀(k:Nat) (o:Obj),k∉L->W.heap[k]?=some o->o.isCells=true->W'.heap[k]?=some o
theorem XN.refl (L:LN)(W:O1):XN L W W:=λ_ _ _ h _=>h
theorem XN.D {A B C:O1}(h:XN L A B)(k:XN L B C):XN L A C:=λi o E H G=>k i o E (h i o E H G) G
theorem XN.J {W:O1}(h:O5 L W W'):XN L W W':=λk _ G E _=>(h.block k (LG.1 E).1 G).D E
theorem At.cst {W:O1}{a:Addr}(h:At L W.heap a us)(I:XN L W W')(J:W.heap.size<=W'.heap.size):At L W'.heap a us:=by
 refine⟨h.out,λu G=>LW (h.lt u G) J,λj u G=>?_⟩;have E:=h.cell j u G;unfold cel at E ⊢;rw[YE]at E ⊢;cases H:W.heap[a.block]? with
 | none=>rw[H]at E;cases E
 | some o =>
  rw[H]at E;cases o with
  | cells c t m=>rw[I a.block _ (h.out u (Mr G)) H rfl];exact E
  | _=>cases E
theorem Zn.cst {L:LN}{W W':O1}{v:O2}{n sz:Nat}{cs:LV}(h:Zn L W.heap v n sz cs)(E:XN L W W')(G:W.heap.size<=W'.heap.size):Zn L W'.heap v n sz cs :=
 ⟨h.1,h.2.1,h.2.2.imp id λ⟨a,cap,H,I,J⟩=>⟨a,cap,H,I,J.cst E G⟩⟩
structure LwC (B:Nat)(L:LN)(W W':O1):Prop where
 lw:Lw B L W W'
 cst:XN L W W'
theorem LwC.D {B:Nat}{L:LN}{E w w':O1}(h:LwC B L E w)(k:LwC B L w w'):LwC B L E w':=⟨h.lw.D k.lw,h.cst.D k.cst⟩
def rdC {α:Type}(B:Nat)(L:LN)(I:List α->O1->Prop)(X:Exit->List α->O1->Prop)(xs:List α)(W:O1):Exit->LN->Fr->O1->Prop
 | .normal,_,_,W'=>KT B L W W'/\XN L W W'/\I xs W'
 | .ret,_,_,W'=>KT B L W W'/\X .ret xs W'
 | .exit i,_,_,W'=>KT B L W W'/\X (.exit i) xs W'
 | _,_,_,_=>False
theorem QcU {m:Nat}{Q:Exit->LN->Fr->O1->Prop}{g:O3}{ps:LN}{assign body:Code}(L:LN)(h1:1<=m)
    [hF:Fu P gf fn]  (hg:ev f g=.func (.func gf) #[] capt.toArray) {encs:α->LV} {S Sp:List α->Prop}  (hp:∀p∈ps,p<n) (hm:∀x,(encs x).length=ps.length)
  (hn:SeqStopsK (fen none) (m - 1) P gf capt.toArray (λx=>(encs x).toArray) (LwC w.heap.size L) S Sp N w)
  (I:List α->O1->Prop) (hI:∀s,Yy w.heap.size (I s)) (X:Exit->List α->O1->Prop) (hX:∀e s,Yy w.heap.size (X e s)) (h0:I [] w) (A:Fr->α->Fr->O1->Prop) (hA:∀x E,Yy w.heap.size (A f x E))
  (he:∀l pre x W,I pre W->WG (some l) (m - 1 - 1) P n assign (Qc6 (λhb E W'=>hb=[]/\KT w.heap.size L W W'/\XN L W W'/\I pre W'/\A f x E W') (λ_ _ _ _=>False)) [] (Qc3 f ps (encs x)) W)
  (hf:∀l pre x E W,I pre W->A f x E W->pre.length<N->WG (some l) (m - 1 - 1) P n body (rdC w.heap.size L I X (pre++[x]) W) [] E W)
  (hq:∀D xs W,w.heap.size<=D->S xs->I xs W->W.heap[D]?=some (.deferred (some []))->Q .normal (D::ds) f W)
  (hh:∀D e pre W,w.heap.size<=D->Sp pre->X e pre W->W.heap[D]?=some (.deferred (some []))->(e=.ret\/∃i,e=.exit i)->Q e (D::ds) f W):
  WG none m P n (.rangeFunc g ps.toArray assign body) Q ds f w:=by
 unfold WG at he hf ⊢;intro a J;have eg:∀args w,(callFunc gf args).run P w=.ok (.enter gf args) w:=by
  intro args w;have h1:¬fn.name = "runtime.NumGoroutine" := by simpa using hF.nm
  have O:¬fn.body=none:=by have:=hF.b;intro e;rw[e]at this;cases this
  simp[callFunc,hF.f,h1,O]
 have keep:∀{W W':O1},KT w.heap.size L W W'->KeepsFrom w.heap.size W W':=λh=>⟨h.lw.size,λk o _ T ho=>h.other k o T ho⟩;refine wpIn_rangeFunc_ownH (F:=fen none) U h1 (gf:=gf) (lb:=capt.toArray) (by rw[J.eval];exact hg) Z eg hn (λh k=>h.D k)
  (λW l o o' hl ho hs _=>⟨⟨U,U,U,oe,λk T _=>World.putObj_heap_other oa⟩,λk o2 _ T hc=>by
   have ht:k≠l:=λe=>by subst e;rw[ho]at T;cases T;rw[hs]at hc;cases hc
   rw[World.putObj_heap_other ht];exact T⟩) (Below.refl _ _) (λx=>by simp[hm x]) I
  (λc pre W=>match c with| .ret=>X .ret pre W| .exit i=>X (.exit i) pre W|_=>False) (Yy.own hI) (λc=>Yy.own λs=>?_) h0
  (λx V W=>∃E,Xd n [] V E/\A f x E W) (λx V=>Yy.own λ_=>Yy.ex λE=>Yy.and (Yy.pure _) (hA x E)) ?_ ?_ ?_ ?_
 ·cases c <;> first|exact hX _ s|exact Yy.pure _
 ·intro l pre x W K hi hK;have hr:Xd n [] { tmps:=(ps.toArray.zip (encs x).toArray).foldl (λt (p,v)=>t.setIfInBounds p v) a.tmps,defers:=[] } (Qc3 f ps (encs x)):=by
   have O:Xd n [] { a with defers:=[] } f:=⟨J.size,U,J.get⟩
   have H:=U3 ps (encs x) _ _ O hp;have e:(ps.toArray.zip (encs x).toArray).foldl (λt (p,v)=>t.setIfInBounds p v) a.tmps=(ps.zip (encs x)).foldl (λt (x:Nat×O2)=>t.setIfInBounds x.1 x.2) a.tmps:=oe
   rw[e];exact H
  refine wpIn_mono (he l pre x W hi _ hr) ?_;rintro e V W' ⟨hb,E,O,_,H⟩;cases e with
  | normal=>obtain⟨rfl,h4,hu,G,h6⟩:=H;exact hK V W' (keep h4) ⟨h4.lw,hu⟩ G ⟨E,O,h6⟩
  | exit id=>exact H.elim
  | goto l=>exact H.elim
  | ret=>exact H.elim
  | panic ch=>exact H.elim
  | outgrown=>exact H.elim
 ·rintro l pre x V W _ _ hi ⟨E,O,H⟩ hv;refine wpIn_mono (hf l pre x E W hi H hv V O) ?_;rintro e hw W' ⟨hb,hy,h4,_,G⟩;cases e with
  | normal=>exact⟨keep G.1,⟨G.1.lw,G.2.1⟩,G.2.2⟩
  | exit id=>exact⟨keep G.1,G.2⟩
  | goto l=>exact G.elim
  | ret=>exact⟨keep G.1,G.2⟩
  | panic ch=>exact G.elim
  | outgrown=>exact G.elim
 ·intro D xs W hD Y hi hd;exact⟨D::ds,f,⟨J.size,by rw[show coll (D::ds)={ target:=.collected D,args:=#[] }::coll ds from rfl,J.defers],J.get⟩,λ_ _=>rfl,hq D xs W hD Y hi hd⟩
 intro D c pre W hD Y hx hd;have hj:Xd n (D::ds) { a with defers:={ target:=.collected D,args:=#[] }::a.defers } f:=⟨J.size,by rw[show coll (D::ds)={ target:=.collected D,args:=#[] }::coll ds from rfl,J.defers],J.get⟩
 cases c with
 | ret=>exact wpIn_ret ⟨_,f,hj,λ_ _=>U,hh D .ret pre W hD Y hx hd (.inl U)⟩
 | exit i=>exact wpIn_exit ⟨_,f,hj,λ_ _=>U,hh D (.exit i) pre W hD Y hx hd (.inr ⟨i,U⟩)⟩
 | _=>exact hx.elim
theorem xy2 {m:Nat}{rest:xE}{pS:String}{x z:O3}{l:Nat}{R:Ending->O1->Prop}
  (hx:ev f x=.func (.yield l) #[] #[]) (E:YieldAt (fen none) (m - 1) P l #[ev f y,ev f z] w R) (hK:∀e w',R e w'->∃v,e=.returned v/\JU P m ops K rest (QW f d v) w')
  (G:Yb ops f ⟨d,.call ⟨.value x,#[y,z],at_⟩,ty,pS,af,gd⟩=true:=by rfl):
  JU P m ops K (⟨d,.call ⟨.value x,#[y,z],at_⟩,ty,pS,af,gd⟩::rest) f w:=by
 obtain⟨fn,tmps,assign,body,H,I⟩:=E;have J:(execOp (ev f) ⟨d,.call ⟨.value x,#[y,z],at_⟩,ty,pS,af,gd⟩).run P w=.ok (.round l fn tmps assign body) w:=by
  simp[execOp,resolve,hx,Deferred.ofValue,invoke,H]
 unfold JU;rw[G];simp only[XOY,J,upY,cond_true];exact I.mono λe w' h=>by obtain⟨v,rfl,O⟩:=hK e w' h;exact O
def wrf (rq:List Xt)(rs:LI):LI->List (Int×Int)
 | []=>[]
 | v::l=>if 0<=rfr v 0 rq rs then(v,rfr v 0 rq rs)::wrf rq rs l else wrf rq rs l
theorem Qbr (rq:List Xt)(rs:LI)(v:Int):∀l,wrf rq rs (l++[v])=wrf rq rs l++if 0<=rfr v 0 rq rs then[(v,rfr v 0 rq rs)]else[]
 | []=>by simp only[Ok,wrf]
 | a::l=>by
  simp only[Ob,wrf,Qbr rq rs v l];by_cases h:0<=rfr a 0 rq rs
  ·rw[OU h,OU h];rfl
  rw[OT h,OT h]
theorem VW (rq:List Xt)(rs:LI)(b:LI):∀a,wrf rq rs (a++b)=wrf rq rs a++wrf rq rs b
 | []=>rfl
 | x::a=>by
  simp only[Ob,wrf,VW rq rs b a];by_cases h:0<=rfr x 0 rq rs
  ·rw[OU h,OU h];rfl
  rw[OT h,OT h]
theorem QkR (rq:List Xt)(rs:LI)(l:LI)(k:Nat):(wrf rq rs (l.take k)).length<=(wrf rq rs l).length:=by
 have h:=VW rq rs (l.drop k) (l.take k);rw[MI]at h;rw[h,Lk];omega
theorem Qhd {rq:List Xt}{k:Nat}(h:k<l.length):wrf rq rs (l.take (k+1))=wrf rq rs (l.take k)++if 0<=rfr (O6 l k) 0 rq rs then[(O6 l k,rfr (O6 l k) 0 rq rs)]else[]:=by
 rw[Lm h,Qbr,ZG h]
theorem zh {rq:List Xt}{rs:LI}{x:Int×Int}:∀{l:LI},x∈wrf rq rs l↔x.1∈l/\0<=x.2/\x.2=rfr x.1 0 rq rs
 | []=>by simp[wrf]
 | v::l=>by
  rw[wrf];have ih:=zh (rq:=rq) (rs:=rs) (x:=x) (l:=l);by_cases h:0<=rfr v 0 rq rs
  ·rw[OU h,Li,ih,Li];constructor
   ·rintro(rfl|⟨E,G⟩)
    ·exact⟨.inl U,h,U⟩
    exact⟨.inr E,G⟩
   rintro⟨E|E,G,H⟩
   ·exact .inl (by rw[<-E];exact Prod.ext_iff.2 ⟨U,H⟩)
   exact .inr ⟨E,G,H⟩
  rw[OT h,ih,Li];constructor
  ·rintro⟨E,G⟩;exact⟨.inr E,G⟩
  rintro⟨E|E,G,H⟩
  ·exact OW (by rw[<-E,<-H];exact G) h
  exact⟨E,G,H⟩
theorem qJ {st:Int}{vr:O2}(J:vr.cells=#[vr]):
  Q6 prog 128 [.pointer (some ⟨b,0,none⟩),oF oG st,vr] w λr w'=>O5 [] w w'/\∃b1 b2 E,r=.func (.func 193) #[] #[.pointer (some ⟨b1,0,none⟩),.pointer (some ⟨b2,0,none⟩),.pointer (some ⟨E,0,none⟩)] /\
   w.heap.size<=b1/\w.heap.size<=b2/\w.heap.size<=E/\Zb w'.heap b1 261 [.pointer (some ⟨b,0,none⟩)]/\Zb w'.heap b2 3 [oF oG st]/\Zb w'.heap E 56 [vr]:=by
 refine Zq func128 ?_;refine Qc<|Qe<|QS (us:=[.pointer (some ⟨b,0,none⟩)]) U λE w1 I O S=>Qe<|QS (us:=[oF oG st]) U λT w2 G hb V=>Qe<|QS (us:=[vr]) J λY w3 H hc ha=>x Ql <|
  xe ?_
 have he:=I.size;have hf:=G.size;refine Qc<|x Zy<|Qb<|Qk ⟨[_],La,(I.D G).D H,E,T,Y,U,O,oa,oa,(S.I G).I H,V.I H,ha⟩
theorem Uq {O m:Nat}{q:Sty}{vr:O2}{es:LI}{st:Int}{fl:xx}(hs:Zb w.heap b1 261 [.pointer (some ⟨b,0,none⟩)])(h5:Zb w.heap b2 3 [oF oG st])(h6:Zb w.heap O 56 [vr])
  (h7:b1∉L) (h8:O∉L) (hA:∀x∈L,x<w.heap.size) (hS:JW L b w.heap q) (hr:QQ L w.heap vr rs) (hB:∀x∈q.c.rq,ZE x.p.a) (hv:Vt (O7 q.c.V.rq) rs) (G:cks q.p.a st=0) (ht:enb q.p.a st=es) (hg:wrf q.c.V.rq rs es=fl):
  SeqStopsK (fen none) m prog 193 #[.pointer (some ⟨b1,0,none⟩),.pointer (some ⟨b2,0,none⟩),.pointer (some ⟨O,0,none⟩)] (λx:{ x:Int×Int // x∈fl }=>[oF oG x.1.1,oF oG x.1.2].toArray) (LwC w.heap.size L)
   (λys=>ys.map (·.1)=fl) (λpre=>pre.map (·.1) <+: fl) fl.length w:=by
 intro l J Jx W hC hJ hD hY h0;have ha:O5 [] w W:=O5.of_below hC;have ab:∀{ys:List { x:Int×Int // x∈fl }} {W1 W2:O1},J ys W1->O5 [] W1 W2->J ys W2:=λ{ys W1 W2} hj hb=>hJ ys W1 W2 none hj ⟨hb.os,hb.tape,hb.output,hb.size,λk hk _=>hb.block k hk oe⟩ (λr e=>by cases e);have hE:es.length<=1099511627776:=by
  have E:=hS.p.ed.le;have h2:=Vd q.p.a.ed st;rw[<-ht];unfold enb;rw[Lh];omega
 have hF:=QkR q.c.V.rq rs es;rw[hg]at hF;have key:Q6 prog 193 [.func (.yield l) #[] #[],.pointer (some ⟨b1,0,none⟩),.pointer (some ⟨b2,0,none⟩),.pointer (some ⟨O,0,none⟩)] W (λ_ W'=>(∃ys,ys.map (·.1)=fl/\J ys W')\/(∃pre,pre.map (·.1) <+: fl/\Jx pre W')):=by
  refine Q6.of_G m func193 U ntmps193 results193 oe ?_;have hG:=hs.I ha;have hH:=h5.I ha;have hu:=hS.I ha;refine Zh<|yV (O5 [] W) [oD 0,oD 1,oD 2,oD 3,oD 4,oE 5,oD 6,oD 7,oD 8,oD 9,oD 10] mixed ol ol od (O5.C _ _) ?_;refine pq (λ_ G=>Qq (hG.I G) U U)<|p (Xh U)<|p (QR U)<|pq (λ_ G=>Zj (us:=ZV q.p) (hu.B.I G) U U U)<|pq (λ_ G=>Qq (hH.I G) U U)<|pk<|xg<|(Qeb (hu.p.I (O5.C _ _)) st).mono ?_;rintro r1 w1 ⟨hI,ve,rfl,_,hh⟩;have hh:=hh G;have ho:=(O5.C [] W).D hI;refine⟨ho,?_⟩;refine p QE<|p (λ_=>Zt U U)<|p (λ_=>Zt U U)<|p ZN<|p ZN<|pe ?_;have hN:=ha.size;have hO:({ W with drawn:=W.drawn+1 }:O1).heap.size=W.heap.size:=rfl
  rw[ht]at hh;have hw:QQ L w1.heap ve es:=Qu.ints hh hE (λx hx=>ou (hA x hx));refine Zh<|QN ol ol<|Qa<|QK hw U<|Qa<|xe<|Z9<|qI (α:=Nat×List { x:Int×Int // x∈fl }) [(8,9),(21,38)] (λz=>[(21,oF oG z.1)]) (λz ds W'=>ds=[]/\z.1<=es.length/\O5 L w W'/\QQ L W'.heap ve es/\z.2.map (·.1)=wrf q.c.V.rq rs (es.take z.1)/\J z.2 W') (λz=>es.length - z.1) ol (0,[]) La
   ⟨U,Ln _,(ha.D ho).any,hw,U,ab h0 ho⟩ ?_
  rintro⟨k,ys⟩ g ds w2 ⟨rfl,hk,S,hi,T,hl⟩;simp only[]at hk hi T hl;refine Zh<|QN ol ol<|QZ U U<|xe<|Zh<|Qaq U (λhp=>?_) (λhp=>?_)
  ·refine Vv ?_;have hK:es.length<=k:=by have hm:¬(k:Int)<(es.length:Int):=hp;omega
   rw[Lt hK,hg]at T;exact⟨λ_ h=>(by cases h),MM,[],λW' H=>⟨Z,.inl ⟨ys,T,ab hl H⟩⟩⟩
  refine YN ?_;have V:k<es.length:=by have hm:(k:Int)<(es.length:Int):=hp;omega
  have I:=Qhd (rq:=q.c.V.rq) (rs:=rs) V;have hy:O6 es k∈es:=by rw[<-ZG V];exact Ll V
  refine Zk (O6 es k) λv hz=>?_;rw[hz]at I hy;refine Zk (rfr v 0 q.c.V.rq rs) λj hj=>?_;rw[hj]at I;refine Zh<|Z9<|Zh<|QN ol ol<|xic (i:=k) hi U U V λhP hm=>?_;rw[hz]at hm;refine x (QA hm U)<|Qb<|Zh<|QN ol ol<|Y7 (hs.J S h7) U U<|Y7 (h6.J S h8) U U<|Qa<|QM<|(Qdi (v:=v) (hS.st S) (hr.st S) hB hv).mono ?_;rintro r3 w3 ⟨h3,Y⟩;rw[hj]at h3;subst h3;refine Qb<|Zh<|VK ol ?_;refine JU.pre3 ?_;refine Qa<|xb (Ys U U) (λhq=>?_) (λhq=>?_)
  ·have hn:0<=j:=hq;have hf:(v,j)∈fl:=by rw[<-hg];exact zh.2 ⟨hy,hn,hj.symm⟩
   rw[OU hn]at I;have h4:(ys++[(⟨(v,j),hf⟩:{ x:Int×Int // x∈fl })]).map (·.1) <+: fl:=by
    rw[Ls,T,show[(⟨(v,j),hf⟩:{ x:Int×Int // x∈fl })].map (·.1)=[(v,j)] from rfl,<-I,<-hg];have h9:=VW q.c.V.rq rs (es.drop (k+1)) (es.take (k+1));rw[MI]at h9;exact⟨_,h9.symm⟩
   have hL:ys.length<fl.length:=by have E:=h4.length_le;rw[Lh,Lk,LD]at E;omega
   refine Qa<|xe<|JU.pre3 ?_;refine Qa<|Qa<|Qa<|xe<|xy2 (l:=l) U (hY ys ⟨(v,j),hf⟩ w3 (ab hl Y) hL) λen W3 hM=>Or.elim hM (λE=>⟨.bool true,E.1,?_⟩) (λE=>⟨.bool false,E.1,?_⟩)
   ·refine JU.of_XL<|x (Zx U)<|QH U<|xe<|VL U<|YN ?_;refine QN ol ol<|QP U U<|Qa<|xe ?_;exact⟨(k+1,ys++[⟨(v,j),hf⟩]),oh,La,U,V,(S.D Y).lw E.2.2.lw,(hi.I Y).cst E.2.2.cst E.2.2.lw.size,by simp only[];rw[I,Ls,T];rfl,E.2.1⟩
   refine JU.of_XL<|x (Zx U)<|QH U<|xe<|Qbj U ?_;refine Vu ⟨λ_ h=>(by cases h),MM,[],λW' H=>⟨Z,.inr ⟨ys++[⟨(v,j),hf⟩],h4,?_⟩⟩⟩;exact hD _ W3 W' none E.2 ⟨H.os,H.tape,H.output,H.size,λk hk _=>H.block k hk oe⟩ (λr e=>by cases e)
  have hn:¬0<=j:=hq;rw[OT hn,LQ]at I;refine Qa<|xe<|JU.of_XL<|Qr<|Qr<|Qr<|Qr<|Qr<|QH U<|xe<|VL U<|YN ?_;refine QN ol ol<|QP U U<|Qa<|xe ?_;exact⟨(k+1,ys),oh,La,U,V,S.D Y,hi.I Y,by simp only[];rw[I,T],ab hl Y⟩
 refine(callsIn_wide (n:=m)).2 ?_;have ea:(#[.func (.yield l) #[] #[]]++[.pointer (some ⟨b1,0,none⟩),.pointer (some ⟨b2,0,none⟩),.pointer (some ⟨O,0,none⟩)].toArray:Array O2)=#[.func (.yield l) #[] #[],.pointer (some ⟨b1,0,none⟩),.pointer (some ⟨b2,0,none⟩),.pointer (some ⟨O,0,none⟩)]:=oe
 rw[ea];unfold Q6 at key;refine Calls.mono key λe w' he=>?_;cases e with
 | returned v=>exact⟨⟨v,U⟩,he⟩
 | panicked c=>exact he.elim
 | outgrown=>exact he.elim
section
variable {pS:String}
theorem YB [h1:Ag P t sz]{x:O3}{cs':LV}(E:Zb w.heap b T cs)(hx:ev f x=.pointer (some ⟨b,o,none⟩))(H:ev f y=.agg us.toArray)(hl:us.length=sz)(O:o+sz<=cs.length)(I:Zr us)(J:cs.take o++us++cs.drop (o+sz)=cs')
  (hK:∀w',O5 [b] w w'->Zb w'.heap b T cs'->K (QW f d undef) w'):XO P ⟨d,.store t x y,ty,pS,af,gd⟩ f w K:=by
 have G:=run_storeCells_at P b o T us 0 cs.toArray w E (by simp;omega) I.all;subst hl;simp only[OC,J]at G;refine xk (w':=w.setRow b cs'.toArray) ?_ (hK _ (O5.setRow _ _ _) (XX E));simp[execOp,hx,H,Instr.storeAt,Instr.sureAddr,storeVar,UZ (sz:=us.length),Value.cells,G]
end
instance:Bw prog 266 [nS,nS,nS,nS,nS,nS,oF oG 0,nS,nS,nS,nS,oF oG 0,nS,nS,nS,nS,nS,nS,.map none] [(0,5),(5,4),(9,1),(10,4),(14,1),(15,3),(18,1)]:=⟨od,og⟩
theorem YS.shape {v:O2}{c:Int}(h:YS N H aa v vt c):∃(a:Q9) (va vm ve:O2) (qs:List TV),v=.agg #[va,oF oG a.st,vm,ve]/\Zr [va,oF oG a.st,vm,ve]/\vt.oneCell'=true /\
  (c=0->xp aa=some (a,qs.map (·.2))/\UT aa=0/\∀L:LN,(∀b∈L,b<N)->ZH L H va vm ve a/\JV L H vt qs):=by
 by_cases G:c=0
 ·obtain⟨⟨va,vm,ve,I,E⟩,⟨qs,T,O⟩,V,Y⟩:=h.good G;have J:=E [] oe;exact⟨syA aa,va,vm,ve,qs,I,⟨J.al.one,U,J.mr.one,J.ed.one,Z⟩,(O [] oe).arr.one,λ_=>⟨by rw[T];exact V,Y,λL S=>⟨E L S,O L S⟩⟩⟩
 obtain⟨I,E⟩:=h.bad G;exact⟨⟨[],0,[],[]⟩,Zz,Zz,Zz,[],I,oC,by rw[E];rfl,λe=>OW e G⟩
def plE (c:ZB):Int:=if Zl c≠0 then Zl c else Qbz (O7 c.co)
theorem Qao.shape {N:Nat}{H:xC}{c:ZB}{v vt:O2}{e:Int}(h:Qao N H c v vt e):e=plE c/\∃(a:Q9) (va vm ve:O2) (qs:List TV),v=.agg #[va,oF oG a.st,vm,ve]/\Zr [va,oF oG a.st,vm,ve]/\vt.oneCell'=true /\
  (e=0->Zl c=0/\xp (O7 c.co)=some (a,qs.map (·.2))/\UT (O7 c.co)=0/\∀L:LN,(∀b∈L,b<N)->ZH L H va vm ve a/\JV L H vt qs):=by
 unfold Qao at h;unfold plE;by_cases E:Zl c≠0
 ·rw[OU E]at h ⊢;obtain⟨G,I,J⟩:=h;exact⟨G,⟨[],0,[],[]⟩,Zz,Zz,Zz,[],I,oC,by rw[J];rfl,λe=>OW (G.symm.D e) E⟩
 rw[OT E]at h ⊢;obtain⟨a,va,vm,ve,qs,G,I,J,O⟩:=h.shape;exact⟨h.e,a,va,vm,ve,qs,G,I,J,λe=>⟨Lo.1 E,O e⟩⟩
theorem Qk4 (c:ZB):Y0 c=if plE c≠0 then plE c else Qbz (O7 c.co++O7 c.rq):=by
 rw[Qk5];unfold plE;by_cases h:Zl c≠0
 ·rw[OU h,OU h,OU h]
 rw[OT h,OT h]
theorem QmI {ps:List AV}(h:∀p∈ps,ZH L H p.va p.vm p.ve p.a):∀u∈ps.flatMap ZV,u.oneCell'=true:=by
 intro u I;obtain⟨p,J,G⟩:=Mb.1 I;have E:=h p J;simp only[oL,oJ,or_false]at G;rcases G with rfl|rfl|rfl|rfl
 ·exact E.al.one
 ·rfl
 ·exact E.mr.one
 exact E.ed.one
theorem QoA {F:LN->Array Obj->Prop}(st:∀{L:LN}{w w':O1},F L w.heap->O5 L w w'->F L w'.heap)(up:∀{L L':LN}{H:xC},F L H->(∀b∈L',b∈L\/H.size<=b)->F L' H)
  (h:∀L:LN,(∀x∈L,x<N)->F L w.heap) (E:b<N) (G:O5 [b] w w'):∀L:LN,(∀x∈L,x<N)->F L w'.heap:=λL I =>
 up (st (h (b::L) (λx hx=>by
  rcases Li.1 hx with rfl|hx
  ·exact E
  exact I x hx)) (G.mono (λx hx=>by simp only[oI]at hx;subst hx;exact Lr))) (λx hx=>.inl (Lj _ hx))
theorem qH.nil (n:Nat):qH n [] []:=λu _ _=>by simp[xd]
theorem QcJ {c:CL}(h0:ZK L w.heap c)(h4:Kb w 4096):
  Q6 prog 124 [c.val] w λr w'=>O5 [] w w'/\∃vp,r=.tuple #[vp,oF oG (Y0 c.V)]/\(Y0 c.V≠0->vp=.pointer none) /\
   (Y0 c.V=0->∃b q,vp=.pointer (some ⟨b,0,none⟩)/\q.c=c/\Qrj q/\JW [] b w'.heap q/\∀L:LN,(∀x∈L,x<w.heap.size)->ZH L w'.heap q.s.va q.s.vm q.s.ve q.s.a/\(ZK L w.heap c->JW L b w'.heap q)):=by
 have h:=h0.up (L':=[]) oe;have hE:=Qk4 c.V;refine Zk (Y0 c.V) λE hEq=>?_;rw[hEq]at hE ⊢;refine Zq func124 ?_;refine Qc<|Qe<|QS (us:=c.cells) U λb1 w1 gu mg h6=>x Ql<|Qb ?_;have mh:=h6.lt;refine Qc<|Q5 h6 U U<|x (Zf [(0,c.cells)] ⟨U,U,Z⟩)<|Qe<|QS (us:=[c.ve,c.vc,c.vr,c.vx,c.vk,nS,oF oG 0,nS,nS,nS,nS,oF oG 0,nS,nS,nS,nS,nS,nS,.map none]) U λG w2 hO mj I=>Qb ?_;have h7:=gu.D hO;have gv:=I.lt;have hQ:=h6.I hO;have h2:=h.I h7;have hge:w.heap.size<=G:=oa
 have mo:b1≠G:=oa
 refine Qc<|Qb<|Qd<|Qm<|Qa<|Q5 hQ U U<|QM<|(Qkl h2 (h4.I h7)).mono ?_;rintro r3 w3 ⟨hh,v3,vq,e3,rfl,hP⟩;obtain⟨h8,pa,pva,pvm,pve,qs,rfl,gw,gx,gy⟩:=hP.shape;have gz:=h7.D hh;refine Qa<|Q7 U U<|Q7 U U<|Q7 U U<|Yl U<|Q2 U<|Qe<|YB (us:=[pva,oF oG pa.st,pvm,pve]) (I.I hh) U U U oe gw rfl λw4 g0 I =>
  Yl rfl<|Q2 U<|Qe<|QB (j:=9) (u:=vq) I U U oe gx λw5 g2 I=>Qb ?_
 have hi:O5 [G] w3 w5:=g0.Q g2;have hj:O5 [] w w5:=gz.O hi hge;refine Qm<|ZA U U<|xe<|QY rfl (λhn=>?_) (λhn=>?_)
 ·have g3:plE c.V≠0:=by rw[<-h8];exact hn
  rw[OU g3,<-h8]at hE;subst hE;refine Qm<|x Ql<|Qb<|Qk ⟨[_,_],oA,hj,.pointer none,U,λ_=>U,λe=>OW e hn⟩
 have hS:e3=0:=Lo.1 hn;rw[OT (by rw[<-h8,hS];decide)]at hE;obtain⟨hT,hA,mq,g4⟩:=gy hS;have he:=Z5 hT;refine Qh ?_;have hB:=(hQ.I hh).J hi (by simp;omega);have h5:=h.I hj;have ms:=h.co.arr.le;have mt:=h.rq.arr.le;have mu:c.co.length<=8:=by have:=he.c8;have e:c.V.co.length=c.co.length:=Lh ..;omega
 have mv:c.co.length+c.rq.length<=12:=by have:=he.cr;have e:c.V.co.length=c.co.length:=Lh ..;have e':c.V.rq.length=c.rq.length:=Lh ..;omega
 refine Qd<|Qd<|ZD [] [oD 0,oD 1,oD 2,oD 3,oD 5,oD 6,oE 4,oE 7,oE 8,oE 9,oD 10,oD 11,oD 12,oD 13,oD 14,oD 15,oE 16,oD 17,oD 18,oE 19,oD 20]<|p QE<|p QE<|p (QR U)<|pq (λ_ hc=>Qq (hB.J hc oe) rfl rfl)<|p (QR rfl) <|
  pq (λ_ hc=>Qq (hB.J hc oe) rfl rfl)<|pk<|xg<|(Qdz (h5.co.I (O5.C _ _))).mono ?_
 rintro r6 w6 ⟨hU,hV⟩;have hC:=(O5.C [] w5).D hU;refine⟨hC,?_⟩;refine pk<|xg<|(Qdz (h5.rq.I hC)).mono ?_;rintro r7 w7 ⟨hD,g5⟩;have hW:=hC.D hD;refine⟨hW,?_⟩;have mw:=hU.size;have my:=hD.size;have mz:({ w5 with drawn:=w5.drawn+1 }:O1).heap.size=w5.heap.size:=rfl
 have g6:Zn [] w7.heap r7 (c.rq.map (·.p)).length 4 ((c.rq.map (·.p)).flatMap ZV):=QJ g5 (by rw[Lh];omega) oe;have g7:=Qi hV;refine pk<|QaL (Qp hV hD) U g6 U (QmI λp S=>by
   obtain⟨q,T,rfl⟩:=LC.1 S;exact(h.rq.each q T)) (by rw[Lh,Lh];omega) oa λv8 w8 hX g8 m2=>?_
 have ho:O5 [] w5 w8:=hW.then g8 (λb hb=>.inr (ou (g7 b hb).1));refine⟨ho,?_⟩;have hF:=hj.D ho;have m3:=ho.size;have g9:Kz [] w8.heap v8 (c.co.map (·.p)++c.rq.map (·.p)):=by
  rw[<-Lk,<-LA]at hX;exact QiR hX (by rw[Lk,Lh,Lh];omega) oe (λp S=>by
   rcases Lc.1 S with S|S
   ·obtain⟨q,T,rfl⟩:=LC.1 S;exact(h.co.each q T).I hF
   obtain⟨q,T,rfl⟩:=LC.1 S;exact(h.rq.each q T).I hF)
 have ka:∀p∈c.co.map (·.p)++c.rq.map (·.p),ZE p.a:=λp S=>by
   rcases Lc.1 S with S|S
   ·obtain⟨q,T,rfl⟩:=LC.1 S;exact he.co q.it (LO T)
   obtain⟨q,T,rfl⟩:=LC.1 S;exact he.rq q.it (LO T)
 refine pk<|xg<|(QcT (km:=4096) g9 (h4.I hF) og (Qez ka)).mono ?_;rintro r9 w9 ⟨kb,v9,vt,e9,rfl,hR⟩;rw[Ls,Qfu,QmJ]at hR;have hY:=hR.e;obtain⟨sa,sva,svm,sve,ts,rfl,hR1,hR2,hR3⟩:=hR.shape;have hG:=ho.D kb;refine⟨hG,?_⟩;refine p QE<|p (λ_=>Zt U U)<|p (λ_=>Zt U U)<|p (λ_=>Zt U U)<|p (Xh U) <|
  p (QR rfl)<|pkl (hl:=by kernel_rfl)<|YB (us:=[sva,oF oG sa.st,svm,sve]) (I.I hG) U U U oe hR1 rfl λm4 kc I=>p (Xh rfl)<|p (QR rfl) <|
  pkl (hl:=by kernel_rfl)<|QB (j:=14) (u:=vt) I U U oe hR2 λhr ke I=>p ZN<|pe ?_
 have hZ:O5 [G] w9 hr:=kc.Q ke;have ht:O5 [G] w5 hr:=hG.any.Q hZ;have hu:O5 [] w hr:=hj.O ht hge;refine Qm<|ZA U U<|xe<|QY rfl (λhH=>?_) (λhH=>?_)
 ·rw[<-hY]at hE;subst hE;refine Qm<|x Ql<|Qb<|Qk ⟨[_,_],oA,hu,.pointer none,U,λ_=>U,λe=>OW e hH⟩
 have ga:e9=0:=Lo.1 hH;have gb:E=0:=by rw[hE,<-hY,ga]
 obtain⟨kf,m5,kg⟩:=hR3 ga;refine Qh ?_;have kh:=hB.J ht (by simp;omega);refine Qm<|Qa<|Q5 kh U U<|QM<|(Qai (h.I hu)).mono ?_;rintro m6 V ⟨hg,vs,vx,vk,qx,ks,rfl,ki,kj,gc⟩;have hI:=gc [] oe;refine Qe<|YC JL λbm kk gg m7 kn=>Yl U<|Q2 U<|Qe<|YB (us:=[vs,vx,vk]) ((I.I hg).I gg) U U U oe ⟨hI.1.one,hI.2.1.arr.one,hI.2.2.arr.one,Z⟩ rfl λm8 gh I =>
  Yl rfl<|Q2 U<|Qe<|QB (j:=18) (u:=.map (some bm)) I U U oe rfl λhJ gi I=>xe ?_
 have m9:=hu.size;have pc:=hg.size;have pd:=ht.size;have pf:=hi.size;have pg:=hh.size;have ph:G<V.heap.size:=oa
 have ko:bm≠G:=oa
 have gj:O5 [G] V hJ:=(gg.any.Q gh).Q gi;have kq:O5 [G] kk hJ:=gh.Q gi;have kr:Yk JL hJ.heap bm []:=kn.J kq (oz ko);have kt:O5 [G] w3 V:=(hi.Q ht).D hg;have ku:O5 [G] w9 V:=hZ.D hg;have kv:=hu.D hg;have fP:∀{w':O1},O5 [G] V w'->∀L:LN,(∀x∈L,x<w2.heap.size)->ZH L w'.heap pva pvm pve pa/\JV L w'.heap vq qs:=λJ =>
  QoA (F:=λL H=>ZH L H pva pvm pve pa/\JV L H vq qs) (λh J=>⟨h.1.st J,h.2.st J⟩) (λh O=>⟨h.1.up O,h.2.up O⟩) g4 gv (kt.Q J)
 have fS:∀{w':O1},O5 [G] V w'->∀L:LN,(∀x∈L,x<w8.heap.size)->ZH L w'.heap sva svm sve sa/\JV L w'.heap vt ts:=λJ =>
  QoA (F:=λL H=>ZH L H sva svm sve sa/\JV L H vt ts) (λh J=>⟨h.1.st J,h.2.st J⟩) (λh O=>⟨h.1.up O,h.2.up O⟩) kg oa (ku.Q J)
 have fC:∀{w':O1},O5 [G] V w'->∀L:LN,(∀x∈L,x<hr.heap.size)->QQ L w'.heap vs (szs c.V.co)/\yY L w'.heap vx qx/\yT L w'.heap vk ks:=λJ =>
  QoA (F:=λL H=>QQ L H vs (szs c.V.co)/\yY L H vx qx/\yT L H vk ks) (λh J=>⟨h.1.st J,h.2.1.st J,h.2.2.st J⟩) (λh O=>⟨h.1.up O,h.2.1.up O,h.2.2.up O⟩) gc oa J
 have gk:=(zi (YW he.co) hA).1;have kw:=(Jw (YW he.co) hA).1.nd;simp only[]at gk;have kx:(O7 c.V.co).length=c.co.length:=by unfold O7;show((c.co.map IV.it).map _).length=_;simp
 have gl:=(fP gj [] oe).2;have pj:=gl.arr.le;refine Qd<|Qm<|Yl U<|Qs U I U U<|QK gl.arr U<|Qa<|xe<|Qf<|QD (α:=Nat×List (ByteArray×O2)) [(6,7),(61,73)] (λz=>[(61,oF oG z.1)]) (λz w'=>z.1<=qs.length/\O5 [G] V w'/\Zb w'.heap G 266 [c.ve,c.vc,c.vr,c.vx,c.vk,pva,oF oG pa.st,pvm,pve,vq,sva,oF oG sa.st,svm,sve,vt,vs,vx,vk,.map (some bm)]/\Yk JL w'.heap bm z.2/\qH c.co.length z.2 ((qs.take z.1).map (·.2))) (λz=>qs.length - z.1) ol (0,[]) La
  ⟨Ln _,gj,I,kr,qH.nil _⟩ ?_
 rintro⟨k,mm⟩ g gm ⟨hk,Y,hv,hw,hy⟩;simp only[]at hk hw hy;have hz:O5 [] w gm:=kv.O Y hge;refine Qc<|QZ U U<|xe<|Qd<|QG U (λhK=>?_) (λhK=>?_)
 ·refine Qy ?_;have kz:qs.length<=k:=by have k0:¬(k:Int)<(qs.length:Int):=hK;omega
  rw[Lt kz]at hy;refine Qm<|x Ql<|Qb ?_;have aP:=fP Y [] oe;have aS:=fS Y [] oe;have aC:=fC Y [] oe;refine Qk ⟨[_,_],oA,hz,.pointer (some ⟨G,0,none⟩),by rw[gb];rfl,λe=>OW gb e,λ_=>⟨G,⟨c,⟨pva,pvm,pve,pa⟩,vq,qs,⟨sva,svm,sve,sa⟩,vt,ts,vs,vx,vk,qx,ks,bm,mm⟩,U,U,⟨hT,hA,kf,ki,kj,hy⟩,⟨hv,oe,h.I hz,aP.1,aS.1,aP.2,aS.2,aC.1,aC.2.1,aC.2.2,oe,hw⟩,λL O=>?_⟩⟩;have bP:=fP Y L (λb hb=>ou (O b hb));have bS:=fS Y L (λb hb=>ou (O b hb));have bC:=fC Y L (λb hb=>ou (O b hb));exact⟨bS.1,λk4=>⟨hv,λhm=>ou (O _ hm),k4.I hz,bP.1,bS.1,bP.2,bS.2,bC.1,bC.2.1,bC.2.2,λhm=>by have h9:bm<w.heap.size:=O bm hm;omega,hw⟩⟩
 have hf:k<qs.length:=by have k0:(k:Int)<(qs.length:Int):=hK;omega
 have gn:=(fP Y [] oe).2;have hM:=Ll hf;have hN:(qs.take (k+1)).map (·.2)=(qs.take k).map (·.2)++[(qs[k]'hf).2]:=by rw[Lm hf,Ls];rfl
 have go:(qs[k]'hf).2∉(qs.take k).map (·.2):=by
  have h1:((qs.take (k+1)).map (·.2)).Nodup:=by
   rw[NO];exact kw.sublist (List.take_sublist _ _)
  rw[hN]at h1;intro hm;exact(MC.1 h1).2.2 _ hm _ (Lb.2 U) U
 have k5:((qs.take k).map (·.2)).length=k:=by rw[Lh,Ly];omega
 refine Qh<|Qd<|Qf<|Qm<|O8 (g:=YK) V0 gn.arr U U hf λpm gp=>?_;refine Zk (qs[k]'hf) λq T=>?_;rw[T]at gp hM hN go;have k6:=gn.each q hM;have gq:=gk q.2 (LO hM);have gr:=gq.bd (m:=4096) (λa ha=>(YW he.co a ha).st1);have pn:q.2.length=c.co.length:=by rw[gq.1,kx]
 refine x (QA gp U)<|x Ql<|Qb<|ZD [] [oD 0,oD 1,oD 2,oD 3,oD 4,oD 6,oE 5,oE 7]<|p QE<|p (Xh U)<|p (QR U)<|pq (λ_ hc=>Qq (hv.J hc oe) rfl rfl) <|
  p QE<|p QE<|pk<|xg<|(Qbf (k6.I (O5.C _ _)) ((h4.I hz).I (O5.C _ _)) gr oa).mono ?_
 rintro po pp ⟨rfl,k7⟩;have h3:=(O5.C [] gm).D k7;refine⟨h3,?_⟩;refine pkl (hl:=by kernel_rfl)<|XD (k:=KY q.2) (hw.I h3) U U λk8 gs k9=>pe ?_;have ma:O5 [G] V k8:=(Y.D h3).O gs oa;have mf:=(hv.I h3).J gs (by simp;omega);have gt:=hy.add go (λx hx=>(gr x hx).1);rw[k5]at gt;refine Qw<|QP U U<|Qa<|xe ?_;exact⟨(k+1,xh mm (KY q.2) (oF oG (k:Int))),oh,La,hf,ma,mf,k9,by simp only[];rw[hN];exact gt⟩
theorem zo {W:O1}{base e:Nat}{v:O2}(h:W.ownsRow base e sz v n cs)(E:XN [] W W'):W'.ownsRow base e sz v n cs :=
 ⟨h.1,h.2.imp id λ⟨g,cap,cur,G,H,I,J⟩=>⟨g,cap,cur,G,H,E g _ oe I rfl,J⟩⟩
theorem XN.mono {W:O1}(h:XN L W W')(E:∀b∈L,b∈L'):XN L' W W':=λk o G=>h k o (λH=>G (E k H))
theorem XN.nonc {W:O1}(I:O5 X W W')(J:∀r∈X,∃o:Obj,W.heap[r]?=some o/\o.isCells=false):XN [] W W':=λk o _ E O =>
 (I.block k (LG.1 E).1 (λhx=>by
  obtain⟨S,G,H⟩:=J k hx;rw[E]at G;cases G;rw[O]at H;cases H)).D E
theorem Yy.cst {I:xA}(h:∀W W',I W->XN [] W W'->W.heap.size<=W'.heap.size->I W'):Yy B I:=λW W' _ hi E G=>h W W' hi (XN.nonc E (λr H=>(G r H).2)) E.size
theorem YG.cst {base:Nat}{av:LN}{W W':O1}{v:O2}{n sz:Nat}{cs:LV}(h:YG base av W.heap v n sz cs)(E:Lg.XN [] W W')(G:W.heap.size<=W'.heap.size):YG base av W'.heap v n sz cs:=λL H=>(h L H).cst (E.mono oe) G
abbrev ZX (r:Rsn):LV:=[oF oG r.st,oF oG r.kd,oF oG r.ix,oF oG r.ev]
theorem QhJ (r:Rsn):(ZX r).length=4:=rfl
structure Kw (base:Nat)(w:O1)(v1 v2 v3 v4:O2)(cos rqs:List TV)(pls:LI)(fbs:List Rsn):Prop where
 o1:w.ownsRow base 56 1 v1 cos.length (cos.flatMap YK)
 o2:w.ownsRow base 56 1 v2 rqs.length (rqs.flatMap YK)
 o3:Qu 3 base w v3 pls
 o4:w.ownsRow base 185 4 v4 fbs.length (fbs.flatMap ZX)
 d12:Dj v1 v2
 d13:Dj v1 v3
 d14:Dj v1 v4
 d23:Dj v2 v3
 d24:Dj v2 v4
 d34:Dj v3 v4
 e1:∀p∈cos,YG base (ob v1++(ob v2++(ob v3++ob v4))) w.heap p.1 p.2.length 1 (p.2.map (.int .i64))
 e2:∀p∈rqs,YG base (ob v1++(ob v2++(ob v3++ob v4))) w.heap p.1 p.2.length 1 (p.2.map (.int .i64))
theorem qt {v:O2}:Dj (nS) v:=λb E=>by simp[ob]at E
theorem Kw.nil (base:Nat)(w:O1):Kw base w (nS) (nS) (nS) (nS) [] [] [] []:=
 ⟨QL _ _ _ _,QL _ _ _ _,QL _ _ _ _,QL _ _ _ _,qt,qt,qt,qt,qt,qt,λp E=>(by cases E),λp E=>(by cases E)⟩
variable {base:Nat}{w7 w8:O1}{v1 v2 v3 v4:O2}{cos rqs:List TV}{pls:LI}{fbs:List Rsn}
theorem Kw.I (h:Kw base w v1 v2 v3 v4 cos rqs pls fbs)(E:O5 [] w w7):Kw base w7 v1 v2 v3 v4 cos rqs pls fbs :=
 ⟨Qp h.o1 E,Qp h.o2 E,Qp h.o3 E,Qp h.o4 E,h.d12,h.d13,h.d14,h.d23,h.d24,h.d34,λp G=>(h.e1 p G).I E,λp G=>(h.e2 p G).I E⟩
theorem Kw.low {X:LN}(h:Kw base w v1 v2 v3 v4 cos rqs pls fbs)(E:O5 X w w7)(G:∀b∈X,b<base):Kw base w7 v1 v2 v3 v4 cos rqs pls fbs:=by
 have k:∀{e sz n:Nat} {v:O2} {cs:LV},w.ownsRow base e sz v n cs->w7.ownsRow base e sz v n cs:=λo=>Qg o E (λb I J=>ov (Qi o b I).1 (G b J));exact⟨k h.o1,k h.o2,k h.o3,k h.o4,h.d12,h.d13,h.d14,h.d23,h.d24,h.d34,λp H=>(h.e1 p H).low E G,λp H=>(h.e2 p H).low E G⟩
theorem Kw.cst (h:Kw base w v1 v2 v3 v4 cos rqs pls fbs)(E:Lg.XN [] w w7)(H:w.heap.size<=w7.heap.size):Kw base w7 v1 v2 v3 v4 cos rqs pls fbs :=
 ⟨zo h.o1 E,zo h.o2 E,zo h.o3 E,zo h.o4 E,h.d12,h.d13,h.d14,h.d23,h.d24,h.d34,λp G=>(h.e1 p G).cst E H,λp G=>(h.e2 p G).cst E H⟩
theorem qu {a b E:O2}(h:Dj a b)(I:∀x∈ob E,x∈ob a\/n<=x)(J:∀x∈ob b,x<n):Dj E b:=λx hx G=>by
 rcases I x hx with H|H
 ·exact h x H G
 have:=J x G;omega
theorem VD {a b E:O2}(h:Dj a b)(H:∀x∈ob E,x∈ob b\/n<=x)(I:∀x∈ob a,x<n):Dj a E:=λx hx J=>by
 rcases H x J with G|G
 ·exact h x hx G
 have:=I x hx;omega
theorem Kw.lt (h:Kw base w v1 v2 v3 v4 cos rqs pls fbs):(∀x∈ob v1,x<w.heap.size)/\(∀x∈ob v2,x<w.heap.size)/\(∀x∈ob v3,x<w.heap.size)/\∀x∈ob v4,x<w.heap.size:=⟨Zc h.o1,Zc h.o2,Zc h.o3,Zc h.o4⟩
theorem Qb2 {a b c d:LN}{x:Nat}(h:x∈a++(b++(c++d))):x∈a\/x∈b\/x∈c\/x∈d:=by simpa using h
theorem yt {a b c d:LN}{x:Nat}(h:x∈a\/x∈b\/x∈c\/x∈d):x∈a++(b++(c++d)):=by simpa using h
theorem Kw.a1 {e:Nat}{q:TV}(h:Kw base w v1 v2 v3 v4 cos rqs pls fbs)(V:O5 [] w w7)(Y:w7.ownsRow N e 1 q.1 q.2.length (q.2.map (.int .i64)))(ha:q.2.length<=1099511627776)(hN:w.heap.size<=N)(G:base<=w.heap.size)(ho:w8.ownsRow base 56 1 v' (cos.length+1) (cos.flatMap YK++YK q))
  (O:O5 (ob v1) w7 w8) (S:∀b∈ob v',b∈ob v1\/w7.heap.size<=b):Kw base w8 v' v2 v3 v4 (cos++[q]) rqs pls fbs:=by
 have l:=h.lt;have hz:=V.size;have I:=h.I V;have av:∀b∈ob v'++(ob v2++(ob v3++ob v4)),b∈ob v1++(ob v2++(ob v3++ob v4))\/w7.heap.size<=b:=by
  intro b G;rcases Qb2 G with E|E|E|E
  ·rcases S b E with T|T
   ·exact .inl (yt (.inl T))
   exact .inr T
  ·exact .inl (yt (.inr (.inl E)))
  ·exact .inl (yt (.inr (.inr (.inl E))))
  exact .inl (yt (.inr (.inr (.inr E))))
 have st:O5 (ob v1++(ob v2++(ob v3++ob v4))) w7 w8:=O.mono (λb G=>yt (.inl G));have g:∀{v:O2} {n sz:Nat} {cs:LV},YG base (ob v1++(ob v2++(ob v3++ob v4))) w7.heap v n sz cs->YG base (ob v'++(ob v2++(ob v3++ob v4))) w8.heap v n sz cs:=λa=>a.app st av;refine⟨by rw[Lk,LA];simpa using ho,Qg I.o2 O (λb G J=>h.d12 b J G),Qg I.o3 O (λb G J=>h.d13 b J G),Qg I.o4 O (λb G J=>h.d14 b J G),qu h.d12 S (λx hx=>ou (l.2.1 x hx)),qu h.d13 S (λx hx=>ou (l.2.2.1 x hx)),qu h.d14 S (λx hx=>ou (l.2.2.2 x hx)),h.d23,h.d24,h.d34,?_,?_⟩
 ·exact λp H=>by
   rcases Lc.1 H with H|H
   ·exact g (I.e1 p H)
   simp only[oI]at H;subst H;exact g (YG.of_own Y ha oa (λb G=>by
   rcases Qb2 G with E|E|E|E
   ·have:=l.1 b E;omega
   ·have:=l.2.1 b E;omega
   ·have:=l.2.2.1 b E;omega
   have:=l.2.2.2 b E;omega))
 exact λp H=>g (I.e2 p H)
theorem Kw.a2 {e:Nat}{q:TV}(h:Kw base w v1 v2 v3 v4 cos rqs pls fbs)(V:O5 [] w w7)(Y:w7.ownsRow N e 1 q.1 q.2.length (q.2.map (.int .i64)))(ha:q.2.length<=1099511627776)(hN:w.heap.size<=N)(G:base<=w.heap.size)(ho:w8.ownsRow base 56 1 v' (rqs.length+1) (rqs.flatMap YK++YK q))
  (O:O5 (ob v2) w7 w8) (S:∀b∈ob v',b∈ob v2\/w7.heap.size<=b):Kw base w8 v1 v' v3 v4 cos (rqs++[q]) pls fbs:=by
 have l:=h.lt;have hz:=V.size;have I:=h.I V;have av:∀b∈ob v1++(ob v'++(ob v3++ob v4)),b∈ob v1++(ob v2++(ob v3++ob v4))\/w7.heap.size<=b:=by
  intro b G;rcases Qb2 G with E|E|E|E
  ·exact .inl (yt (.inl E))
  ·rcases S b E with T|T
   ·exact .inl (yt (.inr (.inl T)))
   exact .inr T
  ·exact .inl (yt (.inr (.inr (.inl E))))
  exact .inl (yt (.inr (.inr (.inr E))))
 have st:O5 (ob v1++(ob v2++(ob v3++ob v4))) w7 w8:=O.mono (λb G=>yt (.inr (.inl G)));have g:∀{v:O2} {n sz:Nat} {cs:LV},YG base (ob v1++(ob v2++(ob v3++ob v4))) w7.heap v n sz cs->YG base (ob v1++(ob v'++(ob v3++ob v4))) w8.heap v n sz cs:=λa=>a.app st av;refine⟨Qg I.o1 O (λb G J=>h.d12 b G J),by rw[Lk,LA];simpa using ho,Qg I.o3 O (λb G J=>h.d23 b J G),Qg I.o4 O (λb G J=>h.d24 b J G),VD h.d12 S (λx hx=>ou (l.1 x hx)),h.d13,h.d14,qu h.d23 S (λx hx=>ou (l.2.2.1 x hx)),qu h.d24 S (λx hx=>ou (l.2.2.2 x hx)),h.d34,?_,?_⟩
 ·exact λp H=>g (I.e1 p H)
 exact λp H=>by
  rcases Lc.1 H with H|H
  ·exact g (I.e2 p H)
  simp only[oI]at H;subst H;exact g (YG.of_own Y ha oa (λb G=>by
  rcases Qb2 G with E|E|E|E
  ·have:=l.1 b E;omega
  ·have:=l.2.1 b E;omega
  ·have:=l.2.2.1 b E;omega
  have:=l.2.2.2 b E;omega))
theorem Kw.a3 {q:Int}(h:Kw base w v1 v2 v3 v4 cos rqs pls fbs)(V:O5 [] w w7)(Y:w8.ownsRow base 3 1 v' (pls.length+1) (pls.map (.int .i64)++[oF oG q]))
  (J:O5 (ob v3) w7 w8) (O:∀b∈ob v',b∈ob v3\/w7.heap.size<=b):Kw base w8 v1 v2 v' v4 cos rqs (pls++[q]) fbs:=by
 have l:=h.lt;have hz:=V.size;have H:=h.I V;have av:∀b∈ob v1++(ob v2++(ob v'++ob v4)),b∈ob v1++(ob v2++(ob v3++ob v4))\/w7.heap.size<=b:=by
  intro b E;rcases Qb2 E with G|G|G|G
  ·exact .inl (yt (.inl G))
  ·exact .inl (yt (.inr (.inl G)))
  ·rcases O b G with S|S
   ·exact .inl (yt (.inr (.inr (.inl S))))
   exact .inr S
  exact .inl (yt (.inr (.inr (.inr G))))
 have st:O5 (ob v1++(ob v2++(ob v3++ob v4))) w7 w8:=J.mono (λb E=>yt (.inr (.inr (.inl E))));have g:∀{v:O2} {n sz:Nat} {cs:LV},YG base (ob v1++(ob v2++(ob v3++ob v4))) w7.heap v n sz cs->YG base (ob v1++(ob v2++(ob v'++ob v4))) w8.heap v n sz cs:=λa=>a.app st av;refine⟨Qg H.o1 J (λb E I=>h.d13 b E I),Qg H.o2 J (λb E I=>h.d23 b E I),Qu.snoc Y,Qg H.o4 J (λb E I=>h.d34 b I E),h.d12,VD h.d13 O (λx hx=>ou (l.1 x hx)),h.d14,VD h.d23 O (λx hx=>ou (l.2.1 x hx)),h.d24,qu h.d34 O (λx hx=>ou (l.2.2.2 x hx)),?_,?_⟩
 ·exact λp T=>g (H.e1 p T)
 exact λp T=>g (H.e2 p T)
theorem Kw.a4 {q:Rsn}(h:Kw base w v1 v2 v3 v4 cos rqs pls fbs)(V:O5 [] w w7)(Y:w8.ownsRow base 185 4 v' (fbs.length+1) (fbs.flatMap ZX++ZX q))
  (J:O5 (ob v4) w7 w8) (O:∀b∈ob v',b∈ob v4\/w7.heap.size<=b):Kw base w8 v1 v2 v3 v' cos rqs pls (fbs++[q]):=by
 have l:=h.lt;have hz:=V.size;have H:=h.I V;have av:∀b∈ob v1++(ob v2++(ob v3++ob v')),b∈ob v1++(ob v2++(ob v3++ob v4))\/w7.heap.size<=b:=by
  intro b E;rcases Qb2 E with G|G|G|G
  ·exact .inl (yt (.inl G))
  ·exact .inl (yt (.inr (.inl G)))
  ·exact .inl (yt (.inr (.inr (.inl G))))
  rcases O b G with S|S
  ·exact .inl (yt (.inr (.inr (.inr S))))
  exact .inr S
 have st:O5 (ob v1++(ob v2++(ob v3++ob v4))) w7 w8:=J.mono (λb E=>yt (.inr (.inr (.inr E))));have g:∀{v:O2} {n sz:Nat} {cs:LV},YG base (ob v1++(ob v2++(ob v3++ob v4))) w7.heap v n sz cs->YG base (ob v1++(ob v2++(ob v3++ob v'))) w8.heap v n sz cs:=λa=>a.app st av;refine⟨Qg H.o1 J (λb E I=>h.d14 b E I),Qg H.o2 J (λb E I=>h.d24 b E I),Qg H.o3 J (λb E I=>h.d34 b E I),by rw[Lk,LA];simpa using Y,h.d12,h.d13,VD h.d14 O (λx hx=>ou (l.1 x hx)),h.d23,VD h.d24 O (λx hx=>ou (l.2.1 x hx)),VD h.d34 O (λx hx=>ou (l.2.2.1 x hx)),?_,?_⟩
 ·exact λp T=>g (H.e1 p T)
 exact λp T=>g (H.e2 p T)
theorem jw (c:ZB)(pl:Q9)(ps:List (LI)):∀(l:List (LI)) (i:Nat) (s:Spc),(l.zipIdx i).foldl (QnB c pl ps) s =
  ⟨s.a,s.co++l.map (·.take c.co.length),s.rq++l.map (·.drop c.co.length),s.pl++l.map (λt=>plx ps (t.take c.co.length)),s.fb++(l.zipIdx i).filterMap (λp=>rsn c pl (plx ps (p.1.take c.co.length)) p.2 p.1)⟩
 | [],i,s=>oe
 | t::l,i,s=>by
  rw[NG,LZ,jw c pl ps l (i+1)];unfold QnB;simp only[oX,o0,Ob,Ok,List.filterMap_cons];cases rsn c pl (plx ps (t.take c.co.length)) i t with
  | none=>rfl
  | some r=>simp
theorem zW {c:ZB}{rs:LI}:∀{l:LI},(∀x∈wrf c.rq rs l,(c.ev.getD x.1.toNat ⟨.empty,false,false,false,0⟩).co=true)->rfd c rs l=none
 | [],_=>rfl
 | v::l,h=>by
  rw[wrf]at h;rw[rfd];by_cases E:0<=rfr v 0 c.rq rs
  ·rw[OU E]at h;have G:=h _ Lr;simp only[]at G;rw[OT (λe=>by rw[G]at e;cases e.2)];exact zW λx hx=>h x (Lj _ hx)
  rw[OT E]at h;rw[OT (λe=>E e.1)];exact zW h
theorem zV {c:ZB}{rs:LI}{x:Int×Int}{t:xx}:∀{l:LI}{p:xx},wrf c.rq rs l=p++x::t->(∀y∈p,(c.ev.getD y.1.toNat ⟨.empty,false,false,false,0⟩).co=true)->(c.ev.getD x.1.toNat ⟨.empty,false,false,false,0⟩).co=false->rfd c rs l=some (x.2,x.1)
 | [],p,h,_,_=>by simp[wrf]at h
 | v::l,p,h,G,hx=>by
  rw[wrf]at h;rw[rfd];by_cases E:0<=rfr v 0 c.rq rs
  ·rw[OU E]at h;cases p with
   | nil =>
    simp only[Ok,List.cons.injEq]at h;obtain⟨H,_⟩:=h;subst H;rw[OU ⟨E,hx⟩]
   | cons y p =>
    simp only[Ob,List.cons.injEq]at h;obtain⟨H,J⟩:=h;have I:=G y Lr;subst H;rw[OT (λe=>by simp only[]at I;rw[I]at e;cases e.2)];exact zV J (λy O=>G y (Lj _ O)) hx
  rw[OT E]at h;rw[OT (λe=>E e.1)];exact zV h G hx
theorem Qhg (c:ZB)(t:LI):vio c t=if(Uk c.ex c.cs t).2.2=true then some ((Uk c.ex c.cs t).1,(Uk c.ex c.cs t).2.1)else none:=by
 unfold vio Uk;by_cases E:0<=fix (VY t) 0 c.ex
 ·rw[OU E,OU E];rfl
 rw[OT E,OT E];by_cases G:0<=fix (UY t) 0 c.cs
 ·rw[OU G,OU G];rfl
 rw[OT G,OT G];rfl
def Qrl (N:Nat)(H:xC)(v:O2)(s:Spc):Prop:=∃va vm ve v1 v2 v3 v4 cos rqs,v=.agg #[va,oF oG s.a.st,vm,ve,v1,v2,v3,v4]/\cos.map (·.2)=s.co/\rqs.map (·.2)=s.rq /\
 ∀L:LN,(∀b∈L,b<N)->ZH L H va vm ve s.a/\JV L H v1 cos/\JV L H v2 rqs/\QQ L H v3 s.pl/\Zn L H v4 s.fb.length 4 (s.fb.flatMap ZX)
open Go.RowKit
def V5 (all:Array Oper)(i:Nat)(rest:xu):xu->Array Bool->Bool
 | [],ls=>Region.ready .any all ls == [i] && Xe all rest (ls.setIfInBounds i true)
 | (j,true)::l,ls=>(Region.ready .any all ls).contains j && Region.free .any all ls j && V5 all i rest l (ls.setIfInBounds j true)
 | (j,false)::l,ls=>!(Region.ready .any all ls).isEmpty && (Region.ready .any all ls).all (λk=>k == j || k == i) && Xe all ((j,false)::(l++rest)) (ls.setIfInBounds i true) && V5 all i rest l (ls.setIfInBounds j true)
def ZS (all:xE)(d:Nat)(l:xu):Bool:=l.all λp=>!((QV all p.1).looksAt all.toArray).contains d && !((QV all p.1).dst == some d)
def QdE (all:xE)(pre l:xu)(i:Nat)(rest:xu):Bool :=
 Region.noSelect all.toArray && (pre.length+(l.length+1+rest.length) == all.length) && KE all.toArray pre (oU all.length false) && V5 all.toArray i rest l (Z8 pre (oU all.length false))
  && (QV all i).guard.isNone && (match (QV all i).dst with|some d=>ZS all d l|none=>false)
def XF (P:O4)(all:xE)(C:xA)(K:xz):xu->LN->Fr->O1->Prop
 | [],_,f,w=>K f w
 | (j,true)::l,own,f,w=>Yb all f (QV all j)=true/\∃v,(∀w',(U4 (QV all j)=true->C w')->(execOp (ev f) (QV all j)).run P w'=.ok (.value v) w')/\XF P all C K l own (QW f (QV all j).dst v) w
 | (j,false)::l,own,f,w=>Yb all f (QV all j)=true/\∀w1,O5 [] w w1->C w1->XO P (QV all j) f w1 λE w'=>C w'/\∃own',O5 own w1 w'/\(∀b∈own',b∈own\/(w1.heap.size<=b/\b<w'.heap.size))/\XF P all C K l own' E w'
section
variable {all:xE}{C:xA}{KF:xz}
theorem XF.I (hK:∀f w w',KF f w->O5 [] w w'->KF f w'):∀{l:xu}{own:LN}{f:Fr}{w w':O1},XF P all C KF l own f w->O5 [] w w'->XF P all C KF l own f w'
 | [],_,_,_,_,h,E=>hK _ _ _ h E
 | (_,true)::_,_,_,_,_,h,E=>by
  obtain⟨G,v,H,hx⟩:=h;exact⟨G,v,H,XF.I hK hx E⟩
 | (_,false)::_,_,_,_,_,h,E=>⟨h.1,λI J O=>h.2 I (E.D J) O⟩
attribute [local semireducible] XO in
theorem Qbh {o:Oper}(H:∀cs b,o.op≠.select cs b){d:Nat}{v:O2}{K':xz}(I:d∉o.looksAt all.toArray)(J:o.dst≠some d)(hK:∀u w',K (QW f o.dst u) w'->K' (QW (QW f o.dst u) (some d) v) w')
  (h:XO P o f w K):XO P o (QW f (some d) v) w K':=by
 have G:∀u,QW (QW f (some d) v) o.dst u=QW (QW f o.dst u) (some d) v:=λu=>Kj f v u (λe E=>by cases E;exact J);unfold XO at *;rw[Xw (all:=all) H f (some d) v (λe E=>by cases E;exact I)];generalize (execOp (ev f) o).run P w=r at *;cases r with
 | ok nx w' =>
  cases nx <;> simp only[upF]at h ⊢
  case value u=>rw[G];exact hK u w' h
  case skip=>rw[G];exact hK _ w' h
  case enter g args =>
   refine Calls.mono h λe O E=>?_;cases e with
   | returned u=>simp only at E ⊢;rw[G];exact hK u O E
   | panicked c=>exact E.elim
   | outgrown=>exact E.elim
 | halt x w'=>exact h.elim
theorem JK {D:xw}{f0:Fr}{dst:xF}{v:O2}(hd:inD D dst=true)(h:∀t,Xi D t=false->f t=f0 t):∀t,Xi D t=false->QW f dst v t=f0 t:=λt E =>
 (Y9 (λe=>by rw[e]at hd;simp only[inD]at hd;rw[hd]at E;cases E) v).D (h t E)
def Z2 (all:xE)(D:xw)(l:xu):Bool:=l.all λp=>inD D (QV all p.1).dst
structure Fl (P:O4)(all:xE)(C:xA)(K KF:xz)(i d:Nat)(rest:xu)(Φ:O2->O1->Prop)(Dc:xw)(f1:Fr):Prop where
 stab:∀v (own:LN) w w',Φ v w->O5 own w w'->(∀b∈ow v,b∉own)->Φ v w'
 spec:∀f w,(∀t,Xi Dc t=false->f t=f1 t)->C w->XO P (QV all i) f w λf' w'=>O5 [] w w'/\C w'/\Φ (f' d) w'/\∀b∈ow (f' d),w.heap.size<=b/\b<w'.heap.size
 fin:∀f w,KF f w->∀v,C w->Φ v w->XP P all C K rest (QW f (some d) v) w
 mono:∀f w w',KF f w->O5 [] w w'->KF f w'
attribute [local semireducible] XP in
theorem yO {i d:Nat}{rest:xu}{Φ:O2->O1->Prop}{Dc:xw}{f1:Fr}(H:Fl P all C K KF i d rest Φ Dc f1)(O:Region.noSelect all.toArray=true){v:O2}:∀(l:xu) (own:LN) (f:Fr) (w:O1),ZS all d l=true->XF P all C KF l own f w->C w->Φ v w ->
  (∀b∈ow v,b∉own/\b<w.heap.size)->XP P all C K (l++rest) (QW f (some d) v) w
 | [],own,f,w,_,h,I,J,_=>H.fin f w h v I J
 | (j,q)::l,own,f,w,hfr,h,I,J,E=>by
  simp only[ZS,oS,oK,Og,List.contains_eq_mem,decide_eq_false_iff_not,beq_eq_false_iff_ne,ne_eq]at hfr;obtain⟨⟨S,T⟩,hfr⟩:=hfr;have V:ZS all d l=true:=by simpa[ZS]using hfr
  have ha:∀cs b,(QV all j).op≠.select cs b:=by
   intro cs b;cases Y:all[j]? with
   | none =>
    have:QV all j=default:=by
     clear h S T hfr V;have key:∀(l:xE) (j:Nat),l[j]?=none->QV l j=default:=by
      intro l;induction l with
      | nil=>intro j _;rfl
      | cons a l ih=>intro j hj;cases j with|zero=>simp at hj|succ j=>exact ih j (oz hj)
     exact key all j Y
    rw[this];intro e;cases e
   | some o=>rw[Zm Y];exact Region.noSelect_spec O j o cs b (oz Y)
  have hd:∀e,some d=some e->e∉(QV all j).looksAt all.toArray:=λe he=>by cases he;exact S
  cases q with
  | true =>
   obtain⟨hg,u,hu,hx⟩:=h;simp only[Ob,XP];rw[Jc (QV all j) f (some d) v hd,hg,cond_true,cond_true];refine⟨u,λw' hc=>?_,?_⟩
   ·rw[Xw (all:=all) ha f (some d) v hd];exact hu w' hc
   rw[Kj f v u (λe he=>by cases he;exact T)];exact yO H O l own _ w V hx I J E
  | false =>
   simp only[Ob,XP];rw[Jc (QV all j) f (some d) v hd,h.1,cond_true,cond_false];refine Qbh (all:=all) ha S T (λu w' hx=>?_) (h.2 w (O5.Z _ _) I);obtain⟨hf,own',hh,hi,hx⟩:=hx;refine⟨.inr (.inr hf),yO H O l own' _ w' V hx hf (H.stab v own w w' J hh (λb G=>(E b G).1)) (λb G=>⟨λhm=>?_,LW (E b G).2 hh.size⟩)⟩;rcases hi b hm with h3|h3
   ·exact(E b G).1 h3
   exact Nq _ (LW (E b G).2 h3.1)
theorem Qkc {i d:Nat}{rest:xu}{Φ:O2->O1->Prop}{Dc:xw}{f1:Fr}(J:Fl P all C K KF i d rest Φ Dc f1)(V:Region.noSelect all.toArray=true)(Y:(QV all i).guard=none)(hd:(QV all i).dst=some d):∀(l:xu) (ls:Array Bool) (own:LN) (f:Fr) (w:O1),ls.size=all.length->ZS all d l=true->Z2 all Dc l=true->(∀t,Xi Dc t=false->f t=f1 t) ->
  XF P all C KF l own f w->C w->(∀b∈own,b<w.heap.size)->V5 all.toArray i rest l ls=true->XA P all C K (l.length+1+rest.length) ls f w
 | [],ls,own,f,w,ha,hfr,O,hk1,h,S,hc,E=>by
  simp only[V5,oK,beq_iff_eq]at E;obtain⟨T,E⟩:=E;rw[show([]:xu).length+1+rest.length=rest.length+1 by simp;omega];refine XK (λh0=>(by rw[h0]at T;cases T)) ?_;rw[T];intro k hk o H;have hh:k=i:=by simpa using hk
  subst hh;have he:=Zm H;have hx:=J.spec f w hk1 S;rw[he]at Y hd hx;rw[JM Y,cond_true];refine hx.mono λv w' hx=>?_;rw[hd]at hx ⊢;obtain⟨h1,G,I,h4⟩:=hx;simp only[QW,YO]at I h4;refine⟨.inr (.inr G),ZQ V rest _ _ _ (oz ha) (.inl G) E (J.fin f w' (J.mono f w w' h h1) v G I)⟩
 | (j,true)::l,ls,own,f,w,ha,hfr,O,hk1,h,S,hc,E=>by
  simp only[V5,oK]at E;obtain⟨⟨T,hf⟩,hi⟩:=E;have hq:j∈Region.ready .any all.toArray ls:=by simpa using T
  have e:(oP ((j,true)::l))+1+rest.length=(l.length+1+rest.length)+1:=by simp;omega
  rw[e];have hl:ZS all d l=true:=by simp only[ZS,oS,oK]at hfr;exact hfr.2
  simp only[Z2,oS,oK]at O;have hn:Z2 all Dc l=true:=O.2;cases H:all[j]? with
  | none =>
   exfalso;obtain⟨_,o,hz,_⟩:=mem_ready.1 hq;simp[H]at hz
  | some o =>
   obtain⟨ht,v,hv,hx⟩:=h;rw[Zm H]at ht hv hx;have h5:∀(j:Nat) (o:Oper) cs b,all[j]?=some o->o.op≠.select cs b:=λj o cs b hj=>Region.noSelect_spec V j o cs b (oz hj);have h6:=λk ok hk=>Region.free_spec (ops:=all.toArray) (md:=.any) (i:=j) (oi:=o) (listed:=ls) (oz H) hf k ok (oz hk);exact Xj (v:=v) (D:=λw=>U4 o=true->C w) H (λ_ h=>h) h5 _ ls f w (λ_=>S) h6 hq (.inl ⟨ht,hv⟩) (Qkc J V Y hd l _ own _ w (oz ha) hl hn (by have:=JK (v:=v) O.1 hk1;rw[Zm H]at this;exact this) hx S hc hi)
 | (j,false)::l,ls,own,f,w,ha,hfr,O,hk1,h,S,hc,E=>by
  simp only[V5,oK,Om,Bool.or_eq_true,beq_iff_eq,Og]at E;obtain⟨⟨⟨hu,T⟩,h7⟩,hi⟩:=E;have e:(oP ((j,false)::l))+1+rest.length=(l.length+1+rest.length)+1:=by simp;omega
  rw[e];have hl:ZS all d l=true:=by simp only[ZS,oS,oK]at hfr;exact hfr.2
  simp only[Z2,oS,oK]at O;have hn:Z2 all Dc l=true:=O.2;refine XK (λh0=>(by rw[h0]at hu;cases hu)) ?_;intro k hk o H;have he:=Zm H;have hw:(ls.setIfInBounds k true).size=all.length:=by simpa using ha
  by_cases hh:k=i
  ·subst hh;have hx:=J.spec f w hk1 S;rw[he]at Y hd hx;rw[JM Y,cond_true];refine hx.mono λv w' hx=>?_;rw[hd]at hx ⊢;obtain⟨h1,G,I,h4⟩:=hx;simp only[QW,YO]at I h4;refine⟨.inr (.inr G),?_⟩;have hx:=yO J V ((j,false)::l) own f w' hfr (XF.I J.mono h h1) G I (λb hb=>⟨λhm=>Nq _ (LW (hc b hm) (h4 b hb).1),(h4 b hb).2⟩);have:=ZQ V ((j,false)::(l++rest)) _ _ _ hw (.inl G) h7 hx;rw[show((j,false)::(l++rest)).length=l.length+1+rest.length by simp;omega]at this;exact this
  have h8:k=j:=(T k hk).resolve_right hh;subst h8;have h1:=h.1;have G:=h.2 w (O5.Z _ _) S;rw[he]at h1 G;rw[h1,cond_true];refine G.mono λv w' hx=>?_;obtain⟨hy,own',h9,hA,hx⟩:=hx;refine⟨.inr (.inr hy),Qkc J V Y hd l _ own' _ w' hw hl hn (by have:=JK (v:=v) O.1 hk1;rw[he]at this;exact this) hx hy (λb hb=>?_) hi⟩;rcases hA b hb with I|I
  ·exact LW (hc b I) h9.size
  exact I.2
theorem QmV {ro:xF}{m:Nat}{Q:Exit->LN->Fr->O1->Prop}(C:xA)(pre l:xu)(i d:Nat)(rest:xu)(own:LN)(KF:xz)(Φ:O2->O1->Prop)(Dc:xw)(T:P.follows .mixedOrders=true)(V:XS n all=true)(Y:QbX all=true)
  (H:QdE all pre l i rest=true) (hb:Z2 all Dc l=true) (hd:(QV all i).dst=some d) (I:C { w with drawn:=w.drawn+1 }) (hc:∀b∈own,b<w.heap.size)
  (h:XP P all C (λf1 _=>Fl P all C (λf w=>Q .normal ds f w) KF i d rest Φ Dc f1/\XF P all C KF l own f1 { w with drawn:=w.drawn+1 }) pre f { w with drawn:=w.drawn+1 }):WG ro m P n (.region id all.toArray true) Q ds f w:=by
 unfold WG;intro a ha;simp only[QdE,oK,beq_iff_eq,Option.isNone_iff_eq_none]at H;obtain⟨⟨⟨⟨⟨J,hl⟩,G⟩,he⟩,hg⟩,hfr⟩:=H;rw[hd]at hfr;refine wpIn_region_any T ?_;have O:=YI (K:=λf w=>Q .normal ds f w) (m:=l.length+1+rest.length) J pre (oU all.length false) f _ I G
  (λf1 S=>Qkc S.1 J hg hd l (Z8 pre (oU all.length false)) own f1 _ (by rw[YM];simp) hfr hb (λ_ _=>rfl) S.2 I hc he) h
 rw[hl]at O;have h2:=zC (ro:=ro) (m:=m) (n:=n) (ds:=ds) (Q:=λe a' w'=>∃ds' E,Xd n ds' a' E/\(∀t,Ye all t=false->E t=f t)/\Q e ds' E w') (Xq V) (V2 Y) f
  (λa E w hr hk G=>⟨ds,E,hr,hk,G⟩) _ _ a f _ ha (λ_ _=>U) O
 simpa[Jf]using h2
theorem XP.keeps_mono {K':xz}:∀(l:xu) (f:Fr) (w:O1),XP P all C K l f w->(∀f w,K f w->K' f w)->XP P all C K' l f w
 | [],f,w,h,E=>by simp only[XP]at h ⊢;exact E _ _ h
 | (j,q)::l,f,w,h,E=>by
  simp only[XP]at h ⊢;cases G:Yb all f (QV all j)with
  | false=>rw[G]at h;exact XP.keeps_mono l _ _ h E
  | true =>
   rw[G]at h;cases q with
   | true=>obtain⟨v,H,hx⟩:=h;exact⟨v,H,XP.keeps_mono l _ _ hx E⟩
   | false=>exact XO.mono (λv w' hx=>⟨hx.1,XP.keeps_mono l _ _ hx.2 E⟩) h
theorem XP.keeps {D:xw}{f0:Fr}:∀(l:xu) (f:Fr) (w:O1),Z2 all D l=true->(∀t,Xi D t=false->f t=f0 t)->XP P all C K l f w->XP P all C (λH w'=>(∀t,Xi D t=false->H t=f0 t)/\K H w') l f w
 | [],f,w,_,E,h=>by simp only[XP]at h ⊢;exact⟨E,h⟩
 | (j,q)::l,f,w,hd,E,h=>by
  simp only[Z2,oS,oK]at hd;have G:Z2 all D l=true:=hd.2;simp only[XP]at h ⊢;cases I:Yb all f (QV all j)with
  | false=>rw[I]at h;exact XP.keeps l _ _ G (JK hd.1 E) h
  | true =>
   rw[I]at h;cases q with
   | true=>obtain⟨v,J,hx⟩:=h;exact⟨v,J,XP.keeps l _ _ G (JK hd.1 E) hx⟩
   | false=>exact XO.mono (λv w' hx=>⟨hx.1,XP.keeps l _ _ G (JK hd.1 E) hx.2⟩) h
theorem XF.keeps {D:xw}{f0:Fr}:∀(l:xu) (own:LN) (f:Fr) (w:O1),Z2 all D l=true->(∀t,Xi D t=false->f t=f0 t)->XF P all C K l own f w->XF P all C (λG w'=>(∀t,Xi D t=false->G t=f0 t)/\K G w') l own f w
 | [],own,f,w,_,E,h=>⟨E,h⟩
 | (j,true)::l,own,f,w,hd,E,h=>by
  simp only[Z2,oS,oK]at hd;obtain⟨H,v,I,hx⟩:=h;exact⟨H,v,I,XF.keeps l own _ _ hd.2 (JK hd.1 E) hx⟩
 | (j,false)::l,own,f,w,hd,E,h=>by
  simp only[Z2,oS,oK]at hd;refine⟨h.1,λJ O S=>XO.mono (λv w' hx=>?_) (h.2 J O S)⟩;obtain⟨T,own',V,Y,hx⟩:=hx;exact⟨T,own',V,Y,XF.keeps l own' _ _ hd.2 (JK hd.1 E) hx⟩
theorem Qkt {ro:xF}{m:Nat}{Q:Exit->LN->Fr->O1->Prop}(C:xA)(pre l:xu)(i d:Nat)(rest:xu)(own:LN)(D Dc:xw)(S:α->List (Nat×O2))(I:α->O1->Prop)(Φ:O2->O1->Prop)(T:P.follows .mixedOrders=true)(V:XS n all=true)(Y:QbX all=true)
  (hp:QdE all pre l i rest=true) (H:(Z2 all D pre && Z2 all D l && Z2 all Dc l)=true) (hd:(QV all i).dst=some d) (hC:C { w with drawn:=w.drawn+1 }) (ha:∀b∈own,b<w.heap.size)
  (stab:∀v (own:LN) w w',Φ v w->O5 own w w'->(∀b∈ow v,b∉own)->Φ v w') (mono:∀z w w',I z w->O5 [] w w'->I z w')
  (fin:∀z g w v,I z w->C w->Φ v w->XP P all C (λf w=>Q .normal ds f w) rest (QW (qR (S z) (mix D f g)) (some d) v) w)
  (h:XP P all C (λf1 _=>(∀g w,C w->XO P (QV all i) (mix Dc f1 g) w λE w'=>O5 [] w w'/\C w'/\Φ (E d) w'/\∀b∈ow (E d),w.heap.size<=b/\b<w'.heap.size)/\XF P all C (λE w'=>∃z,Xy E (S z)/\I z w') l own f1 { w with drawn:=w.drawn+1 }) pre f { w with drawn:=w.drawn+1 }):WG ro m P n (.region id all.toArray true) Q ds f w:=by
 rw[Lx,Lx]at H;refine QmV C pre l i d rest own (λE w'=>(∀t,Xi D t=false->E t=f t)/\∃z,Xy E (S z)/\I z w') Φ Dc T V Y hp H.2 hd hC ha ?_;refine XP.keeps_mono _ _ _ (XP.keeps pre f _ H.1.1 (λ_ _=>U) h) (λf1 w1 hx=>⟨⟨stab,?_,?_,?_⟩,XF.keeps l own _ _ H.1.2 hx.1 hx.2.2⟩)
 ·intro E w' G J;have:=hx.2.1 E w' J;rw[Jg G]at this;exact this
 ·rintro E w' ⟨G,z,O,hi⟩ v J hv;have:=fin z E w' v hi J hv;rw[Jg G,Y8 O]at this;exact this
 rintro E w' hc ⟨G,z,O,hi⟩ hb;exact⟨G,z,O,mono z _ _ hi hb⟩
theorem fp {l:xu}{own:LN}{v:O2}(E:∀w',(execOp (ev f) (QV all j)).run P w'=.ok (.value v) w')(h:XF P all C K l own (QW f (QV all j).dst v) w)
  (G:Yb all f (QV all j)=true:=by rfl):XF P all C K ((j,true)::l) own f w:=⟨G,v,λw' _=>E w',h⟩
theorem fk {l:xu}{own:LN}(h:∀w1,O5 [] w w1->C w1->XO P (QV all j) f w1 λE w'=>C w'/\∃own',O5 own w1 w'/\(∀b∈own',b∈own\/(w1.heap.size<=b/\b<w'.heap.size))/\XF P all C K l own' E w')
  (G:Yb all f (QV all j)=true:=by rfl):XF P all C K ((j,false)::l) own f w:=⟨G,h⟩
theorem fe {own:LN}(h:K f w):XF P all C K [] own f w:=h
end
attribute [irreducible] XF
instance:Bw prog 177 [nS,oF oG 0,nS,nS,nS,nS,nS,nS] [(0,4),(4,1),(5,1),(6,1),(7,1)]:=⟨od,og⟩
def spF (c:ZB)(pl:Q9)(ps:List (LI))(l:List (LI)):List Rsn:=l.zipIdx.filterMap (λp=>rsn c pl (plx ps (p.1.take c.co.length)) p.2 p.1)
theorem QhB {pl:Q9}{ps:List (LI)}{l:List (LI)}{k:Nat}(h:k<l.length):spF c pl ps (l.take (k+1))=spF c pl ps (l.take k)++(rsn c pl (plx ps ((l[k]'h).take c.co.length)) k (l[k]'h)).toList:=by
 unfold spF;rw[Lm h,List.zipIdx_append,List.filterMap_append];have e:0+(l.take k).length=k:=by rw[Ly];omega
 rw[e];simp only[List.zipIdx_cons,List.zipIdx_nil,List.filterMap_cons,List.filterMap_nil];cases rsn c pl (plx ps ((l[k]'h).take c.co.length)) k (l[k]'h) <;> rfl
theorem Qem (c:ZB)(pl:Q9)(ps:List (LI))(l:List (LI)):(spF c pl ps l).length<=l.length:=by
 unfold spF;refine LJ (List.length_filterMap_le _ _) ?_;rw[List.length_zipIdx];exact Lu _
theorem Qdc {pl sa:Q9}{ps ts:List (LI)}(E:xp (O7 c.co)=some (pl,ps))(G:xp (O7 c.co++O7 c.rq)=some (sa,ts)):
  spc c=⟨sa,ts.map (·.take c.co.length),ts.map (·.drop c.co.length),ts.map (λt=>plx ps (t.take c.co.length)),spF c pl ps ts⟩:=by
 unfold spc syA syQ;rw[E,G];simp only[];rw[jw];simp[spF]
theorem QjS {s:List ByteArray}{x:Xt}(h:Yo n u s x=0):x.a.st≠0:=by
 unfold Yo at h;split at h
 ·cases h
 split at h
 ·cases h
 split at h
 ·rename_i G E;exact OW h E
 split at h
 ·cases h
 split at h
 ·cases h
 assumption
theorem QcD {n:Nat}{al:LI}:∀{l:List Xt}{s:List ByteArray}{u:LI},(Yu n al s u l).1=0->∀x∈l,x.a.st≠0
 | [],_,_,_,x,hx=>by cases hx
 | y::l,s,u,h,x,hx=>by
  rw[Ud]at h;by_cases E:Yo n al s y≠0
  ·rw[OU E]at h;exact OW h E
  rw[OT E]at h;have G:Yo n al s y=0:=Lo.1 E;rcases Li.1 hx with rfl|hx
  ·exact QjS G
  exact QcD h x hx
theorem QjT (h:Zl c=0):∀x∈c.co,x.a.st≠0:=by
 unfold Zl at h;by_cases E:Ke c.ev≠0
 ·rw[OU E]at h;exact OW h E
 rw[OT E]at h;by_cases H:c.co.length=0
 ·rw[OU H]at h;cases h
 rw[OT H]at h;by_cases I:8<c.co.length\/12<c.co.length+c.rq.length
 ·rw[OU I]at h;cases h
 rw[OT I]at h;by_cases G:(Yu c.ev.length (K1 c.ev.length) [] [] c.co).1≠0
 ·rw[OU G]at h;exact OW h G
 exact QcD (Lo.1 G)
theorem QbS (h:Zl c=0){A:Q9}{Q:List (LI)}(O:xp (O7 c.co)=some (A,Q)):ZE A/\A.st=(Q.length:Int)/\0<Q.length/\∀e∈A.al,0<=e/\e<(c.ev.length:Int):=by
 have G:=Z5 h;have H:=YW G.co;have hsp:=Jw H O;refine⟨hsp.1.okay H,hsp.1.st,?_,λe J=>?_⟩
 ·refine Nat.pos_of_ne_zero λS=>?_;obtain⟨a,I,E⟩:=hsp.2.1 S;obtain⟨x,hx,rfl⟩:=LC.1 I;exact QjT h x hx E
 rw[hsp.1.al]at J;obtain⟨a,I,E⟩:=(Qe4 H e).1 J;obtain⟨x,hx,rfl⟩:=LC.1 I;exact⟨((G.co x hx).al e E).1,G.ce x hx e E⟩
theorem Qh3 {Q:List (LI)}(h:0<Q.length)(t:LI):0<=plx Q t/\plx Q t<(Q.length:Int):=by
 unfold plx;split
 ·rename_i E;have:=MH E;omega
 omega
theorem Vt.take {a b:List Q9}{t:LI}(h:Vt (a++b) t):Vt a (t.take a.length):=by
 have hl:=h.1;rw[Lk]at hl;refine⟨by rw[Ly];omega,λi G E=>?_⟩;have:=h.2 i oa (by rw[Lk];omega);rw[MG E]at this;rw[Ng];exact this
theorem Vt.drop {a b:List Q9}{t:LI}(h:Vt (a++b) t):Vt b (t.drop a.length):=by
 have hl:=h.1;rw[Lk]at hl;refine⟨by rw[LT];omega,λi E G=>?_⟩;have:=h.2 (a.length+i) oa (by rw[Lk];omega);rw[M6 oa]at this;rw[List.getElem_drop];simpa using this
theorem Vt.tpOk {l:List Xt}{t:LI}(h:Vt (O7 l) t):QmQ (szs l) t:=by
 have hl:=h.1;unfold O7 at hl;rw[Lh]at hl;refine⟨by unfold szs;rw[Lh];exact hl,λi hi=>?_⟩;have E:=h.2 i hi (by unfold O7;rw[Lh];omega);have G:i<(szs l).length:=by unfold szs;rw[Lh];omega
 rw[<-ZG hi,<-ZG G];unfold O7 szs at *;simpa using E
theorem Kw.add {base:Nat}{W H I J:O1}{v1 v2 v3 E c0 c1 c2 c3:O2}{cos rqs:List TV}{pls:LI}{fbs:List Rsn}{q:Rsn}(hB:Zb W.heap G T [c0,c1,c2,c3,v1,v2,v3,E])(O:Kw base W v1 v2 v3 E cos rqs pls fbs)(ha:G<base)(S:O5 [] W H)
  (ho:I.ownsRow base 185 4 v' (fbs.length+1) (fbs.flatMap ZX++ZX q)) (V:O5 (ob E) H I) (hn:∀b∈ob v',b∈ob E\/H.heap.size<=b) (Y:O5 [G] I J):
  O5 (G::ob E) W J/\Kw base J v1 v2 v3 v' cos rqs pls (fbs++[q])/\(∀x∈G::ob E,∃o:Obj,W.heap[x]?=some o/\o.isCells=true):=by
 refine⟨((S.any).Q (V.mono λx hx=>Lj _ hx)).Q (Y.mono λx hx=>?_),(O.a4 S ho V hn).low Y (λx hx=>?_),λx hx=>?_⟩
 ·simp only[oI]at hx;subst hx;exact Lr
 ·simp only[oI]at hx;subst hx;exact ha
 rcases Li.1 hx with rfl|hx
 ·exact hB.cells
 exact Go.Lg.QU O.o4 x hx
theorem yR {c:CL}(h0:ZK L w.heap c)(my:Kb w 4096):
  Q6 prog 65 [c.val] w λr w'=>O5 [] w w'/\∃v,r=.tuple #[v,oF oG (Y0 c.V)]/\(∃us,v=.agg us.toArray/\us.length=8/\Zr us)/\(Y0 c.V=0->Qrl w.heap.size w'.heap v (spc c.V)):=by
 have h:=h0.up (L':=[]) oe;refine Zk (Y0 c.V) λE hE=>?_;refine Q6.of_G 20 func65 U ntmps65 results65 oe ?_;refine Zh<|QN ol ol<|Qe<|QS (us:=c.cells) U λb1 w1 hI hb1 mz=>Qe<|Qo (us:=[nS,oF oG 0,nS,nS,nS,nS,nS,nS]) U λb2 w2 hF hb2 gy=>Qb ?_;have kh:=hI.D hF;have m2:=mz.lt;have ki:=gy.lt;have m3:=mz.I hF;refine Zh<|QN ol ol<|Q5 m3 U U<|ZP<|(QcJ (h.I kh) (my.I kh)).mono ?_;rintro r3 w3 ⟨h6,vp,rfl,z2,m4⟩;rw[hE]at z2 m4 ⊢;have m5:=kh.D h6;refine Qa<|Q7 U U<|Q7 U U<|x Ql<|Qb<|Zh<|Zh<|QN ol ol<|Qa<|ZA U U<|xe<|QmU U (λkj=>?_) (λkj=>?_)
 ·refine Zh<|QN ol ol<|x (Zf [] Z)<|Qa<|Qe<|Qj (us:=[nS,oF oG 0,nS,nS,nS,nS,nS,nS]) (gy.I h6) U U U U ⟨U,U,U,U,U,U,U,U,Z⟩ λw4 hN z3=>Qb<|Vu ⟨λ_ h=>(by cases h),MM,[.agg #[nS,oF oG 0,nS,nS,nS,nS,nS,nS],oF oG E],λW' hO=>⟨⟨⟨_,rfl,Qn rfl ((z3.I hO).at (L:=[]) oe).cells⟩,rfl,Z⟩,(m5.O hN oa).D hO,_,rfl,⟨_,rfl,rfl,rfl,rfl,rfl,rfl,rfl,rfl,rfl,rfl,Z⟩,λe=>OW e kj⟩⟩
 have m6:E=0:=Lo.1 kj;obtain⟨b,q,rfl,rfl,hQ,hq,z4⟩:=m4 m6;refine YN<|Zh<|QN ol ol<|Qa<|Yl U<|Q2 U<|x (Zj (us:=ZV q.s) hq.B U U U)<|x (Zf [(0,ZV q.s)] ⟨U,U,Z⟩)<|Qe<|Qo (us:=[nS,oF oG 0,nS,nS,nS,nS,nS,nS]) U λH w5 hY kk h7 =>
  Qe<|Qj (us:=[q.s.va,oF oG q.s.a.st,q.s.vm,q.s.ve,nS,nS,nS,nS]) h7 U U U U ⟨hq.s.al.one,U,hq.s.mr.one,hq.s.ed.one,U,U,U,U,Z⟩ λJ gz h7=>xe ?_
 have m7:O5 [] w3 J:=hY.O gz kk;have kn:=h7.lt;have m8:=hq.I m7;have hz3:=h6.size;refine Zh<|Zh<|QN ol ol<|Qa<|Yl U<|Qs U m8.B U U<|QK m8.ts.arr U<|Qa<|xe ?_;have m9:=(zi (λa ha=>by
  rcases Lc.1 ha with ha|ha
  ·exact YW (Z5 hQ.ok).co a ha
  exact YW (Z5 hQ.ok).rq a ha) hQ.s)
 have ko:=m9.1;have pa:=m9.2;simp only[]at ko pa;have hZ:=Z5 hQ.ok;have hckc:=hZ.c8;have ga:q.c.V.co.length=q.c.co.length:=Lh ..;have z5:q.c.V.rq.length=q.c.rq.length:=Lh ..;have hcr:=hZ.cr;have hal:(O7 q.c.V.co++O7 q.c.V.rq).length=q.c.co.length+q.c.rq.length:=by rw[Lk];unfold O7;rw[Lh,Lh,ga,z5]
 refine Zk (q.ts.map (·.2)) λT hT=>?_;rw[hT]at ko pa;have hTn:q.ts.length=T.length:=by rw[<-hT,Lh]
 refine Z9<|qI (α:=Nat×(O2×O2×O2×O2)×List TV×List TV×LI) [(7,17),(37,99),(100,118)] (λz=>[(37,oF oG z.1)]) (λz ds W'=>z.1<=q.ts.length/\O5 [H] J W'/\UW J.heap.size W'.heap.size ds W'/\Zb W'.heap H 177 [q.s.va,oF oG q.s.a.st,q.s.vm,q.s.ve,z.2.1.1,z.2.1.2.1,z.2.1.2.2.1,z.2.1.2.2.2] /\
  Kw J.heap.size W' z.2.1.1 z.2.1.2.1 z.2.1.2.2.1 z.2.1.2.2.2 z.2.2.1 z.2.2.2.1 z.2.2.2.2 (spF q.c.V q.p.a (q.qs.map (·.2)) (T.take z.1))/\z.2.2.1.map (·.2)=(T.take z.1).map (·.take q.c.co.length)/\z.2.2.2.1.map (·.2)=(T.take z.1).map (·.drop q.c.co.length)/\z.2.2.2.2=(T.take z.1).map (λt=>plx (q.qs.map (·.2)) (t.take q.c.co.length)))
  (λz=>q.ts.length - z.1) ol (0,(nS,nS,nS,nS),[],[],[]) La
  ⟨Ln _,O5.Z _ _,⟨MM,λD hD=>by cases hD⟩,h7,Kw.nil _ _,rfl,rfl,rfl⟩ ?_
 rintro⟨k,⟨v1,v2,v3,O⟩,cos,rqs,pls⟩ g ds w7 ⟨hk,kq,pc,kr,S,gj,gk,gl⟩;simp only[]at hk kr S gj gk gl;have gm:O5 [] w3 w7:=m7.O kq kk;have pd:=m5.D gm;have hz7:=kq.size;have g0:(T.take k).length=k:=by rw[Ly];omega
 have hcosl:cos.length=k:=by have:=OV oP gj;rw[Lh,Lh,g0]at this;exact this
 have hrqsl:rqs.length=k:=by have:=OV oP gk;rw[Lh,Lh,g0]at this;exact this
 have hplsl:pls.length=k:=by rw[gl,Lh,g0]
 have pf:=Qem q.c.V q.p.a (q.qs.map (·.2)) (T.take k);rw[g0]at pf;refine Zk (spF q.c.V q.p.a (q.qs.map (·.2)) (T.take k)) λfbs g2=>?_;rw[g2]at S pf;refine Zk (ob v1++(ob v2++(ob v3++ob O))) λav gn=>?_;have gb:∀x∈av,J.heap.size<=x/\x<w7.heap.size:=λx hx=>by
  rw[<-gn]at hx;rcases Qb2 hx with G|G|G|G
  ·exact Qi S.o1 x G
  ·exact Qi S.o2 x G
  ·exact Qi S.o3 x G
  exact Qi S.o4 x G
 have g3:H∉av:=λI=>ou (gb H I).1
 have kt:∀x∈av,x∈H::av:=λx hx=>Lj _ hx;have g4:JW (H::av) b w7.heap q:=(hq.up (λx hx=>.inr (by
  rcases Li.1 hx with rfl|hx
  ·exact kk
  have:=(gb x hx).1;omega))).I gm
 refine Zh<|QN ol ol<|QZ U U<|xe<|Zh<|Qaq U (λpg=>?_) (λpg=>?_)
 ·refine Vv ?_;rw[Lt oa]at gj gk gl g2;have hsp:=Qdc hQ.p hQ.s;rw[hT,ga,<-gj,<-gk,<-gl,g2]at hsp;have ph:=h6.D gm;refine Zh<|QN ol ol<|Q5 kr U U<|Qe<|Qj (us:=[q.s.va,oF oG q.s.a.st,q.s.vm,q.s.ve,v1,v2,v3,O]) (gy.I ph) U U U U ⟨hq.s.al.one,U,hq.s.mr.one,hq.s.ed.one,Qt S.o1,Qt S.o2,Qt S.o3,Qt S.o4,Z⟩ λw8 g5 hB8=>Qb ?_;have hb2w:b2<J.heap.size:=oa
  have go:UW J.heap.size w7.heap.size ds w8:=pc.blk g5 (gy.I ph);have hb2d:b2∉ds:=λI=>ou (go.2 b2 I).1
  have hS8:=S.low g5 (λx hx=>by simp only[oI]at hx;subst hx;exact hb2w);refine Vu ⟨λD hD=>(go.2 D hD).2.2,go.1,[.agg #[q.s.va,oF oG q.s.a.st,q.s.vm,q.s.ve,v1,v2,v3,O],oF oG E],λW' hO=>?_⟩;have g6:Lg.XN [] w8 W':=Lg.XN.nonc hO (λD hD=>⟨_,(go.2 D hD).2.2,U⟩);have gc:=hO.size;have h8:=hS8.cst g6 gc;refine⟨⟨⟨_,U,Qn U ((hB8.J hO hb2d).at (L:=[]) oe).cells⟩,OV (Value.int .i64) m6.symm,Z⟩,(pd.O g5 oa).then hO (λD hD=>.inr (ou (go.2 D hD).1)),_,U,⟨_,U,U,hq.s.al.one,U,hq.s.mr.one,hq.s.ed.one,Qt S.o1,Qt S.o2,Qt S.o3,Qt S.o4,Z⟩,λ_=>?_⟩;have hl9:pls.length<=1099511627776:=oa
  have hl8:fbs.length<=1099511627776:=oa
  rw[hsp];refine⟨q.s.va,q.s.vm,q.s.ve,v1,v2,v3,O,cos,rqs,U,U,U,λL hL=>⟨?_,⟨QJ h8.o1 oa (λx hx I=>?_),λp hp=>h8.e1 p hp L (λx hx=>?_)⟩,⟨QJ h8.o2 oa (λx hx I=>?_),λp hp=>h8.e2 p hp L (λx hx=>?_)⟩,QJ h8.o3 hl9 (λx hx I=>?_),QJ h8.o4 hl8 (λx hx I=>?_)⟩⟩
  ·have G:=((z4 (b2::L) (λx hx=>by
    rcases Li.1 hx with rfl|hx
    ·exact ki
    have:=hL x hx;omega)).1.I gm).st (g5.mono (λx hx=>by simp only[oI]at hx;subst hx;exact Lr))
   have h2:=G.up (L':=L) (λx hx=>.inl (Lj _ hx));exact⟨h2.al.cst (g6.mono oe) gc,h2.mr.cst (g6.mono oe) gc,h2.ed.cst (g6.mono oe) gc⟩
  ·have:=(Qi h8.o1 x hx).1;have:=hL x I;omega
  ·exact .inl (ou (hL x hx))
  ·have:=(Qi h8.o2 x hx).1;have:=hL x I;omega
  ·exact .inl (ou (hL x hx))
  ·have:=(Qi h8.o3 x hx).1;have:=hL x I;omega
  have:=(Qi h8.o4 x hx).1;have:=hL x I;omega
 have gp:k<q.ts.length:=by have h39:(k:Int)<(q.ts.length:Int):=pg;omega
 have gq:k<T.length:=oa
 have pj:=Ll gp;have hTe:T[k]'gq=(q.ts[k]'gp).2:=by subst hT;simp
 have hr:=QhB (c:=q.c.V) (pl:=q.p.a) (ps:=q.qs.map (·.2)) gq;have gr:T.take (k+1)=T.take k++[T[k]'gq]:=Lm gq;have gg:=ko _ (Ll gq);rw[g2]at hr;rw[hTe]at hr gr gg;refine YN<|QfC (α:=(O2×O2×O2×O2)×List TV×List TV×LI) [(7,17),(38,117)] (λz=>[(37,oF oG k)]) (λz hR W'=>O5 [H] J W'/\UW J.heap.size W'.heap.size hR W'/\Zb W'.heap H 177 [q.s.va,oF oG q.s.a.st,q.s.vm,q.s.ve,z.1.1,z.1.2.1,z.1.2.2.1,z.1.2.2.2] /\
  Kw J.heap.size W' z.1.1 z.1.2.1 z.1.2.2.1 z.1.2.2.2 z.2.1 z.2.2.1 z.2.2.2 (spF q.c.V q.p.a (q.qs.map (·.2)) (T.take (k+1)))/\z.2.1.map (·.2)=(T.take (k+1)).map (·.take q.c.co.length)/\z.2.2.1.map (·.2)=(T.take (k+1)).map (·.drop q.c.co.length)/\z.2.2.2=(T.take (k+1)).map (λt=>plx (q.qs.map (·.2)) (t.take q.c.co.length))) ol ?_ ?_
 rotate_left
 ·rintro⟨⟨u1,u2,u3,u4⟩,cos',rqs',pls'⟩ g hR W ⟨hsW,hDW,hBW,hSW,G,h2,h3⟩;refine QN ol ol<|QP U U<|Qa<|xe ?_;exact⟨(k+1,(u1,u2,u3,u4),cos',rqs',pls'),oh,La,gp,hsW,hDW,hBW,hSW,G,h2,h3⟩
 refine Z9<|Zh<|QN ol ol<|Qa<|O8 (g:=YK) V0 g4.ts.arr U U gp λa40 pm=>?_;refine Zk (q.ts[k]'gp) λt ht=>?_;rw[ht]at pm pj hr gr gg;have htI:=g4.ts.each t pj;have htl:t.2.length=q.c.co.length+q.c.rq.length:=by rw[gg.1,hal]
 refine x (QA pm U)<|Qe<|Qo (us:=[oF oG 0]) U λb7 w9 hs9 hb7 hB9=>Qe<|QB (j:=0) (u:=oF oG k) hB9 U U og U λw10 hs10 hB10 =>
  Qb ?_
 have ku:O5 [] w7 w10:=hs9.O hs10 hb7;refine Zh<|QN ol ol<|Qa<|Qa<|ZP<|(QbE (g4.I ku) (htI.I ku) oa).mono ?_;rintro r11 pn ⟨po,v9,pp,rfl,hJ,hw⟩;refine Qa<|Q7 U U<|Q7 U U<|x Ql<|Qb ?_;have kv:=ku.D po;have kw:=g4.I kv;refine Zk (t.2.take q.c.co.length) λtc hU=>?_;refine Zk (t.2.drop q.c.co.length) λtr gs=>?_;rw[ga]at hr;rw[hU]at hJ hr;rw[gs]at hw;have htcl:tc.length=q.c.co.length:=by rw[<-hU,Ly];omega
 have htrl:tr.length=q.c.rq.length:=by rw[<-gs,LT];omega
 have hbdt:=gg.bd (m:=4096) (λa ha=>by
  rcases Lc.1 ha with ha|ha
  ·exact(YW hZ.co a ha).st1
  exact(YW hZ.rq a ha).st1)
 have pu:∀x∈tc,0<=x/\x<4096:=λx hx=>hbdt x (LX (by rw[hU];exact hx));refine Zh<|yV (O5 [] pn) [oD 0,oD 1,oD 2,oD 3,oD 4,oE 5,oD 6,oD 7] mixed ol ol od (O5.C _ _) ?_;refine p QE<|p (Xh U)<|p (QR U)<|pq (λ_ hc=>Qq (kw.B.I hc) U U)<|p QE<|pk<|xf<|(Qbf (hJ.I (O5.C _ _)) ((my.I (pd.D kv)).I (O5.C _ _)) pu oa).mono ?_;rintro r12 hf ⟨rfl,hs12⟩;have gh:=(O5.C [] pn).D hs12;refine⟨gh,?_⟩;have pw:(match xd q.mm (KY tc)with|some u=>u|none=>oF oG 0)=oF oG (plx (q.qs.map (·.2)) tc):=by
  rw[hQ.m tc htcl (λx hx=>(pu x hx).1)];unfold plx;by_cases I:tc∈q.qs.map (·.2)
  ·rw[OU I,OU I]
  rw[OT I,OT I]
 refine Zk (plx (q.qs.map (·.2)) tc) λpi kx=>?_;rw[kx]at pw hr;refine pq (λ_ hc=>(Jz (k:=KY tc) (kw.m.I hc) U U).D (OV (λv=>Result.ok (Next.value v) _) pw))<|p ZN<|pe ?_;have gi:=kv.D gh;have hJ:=hJ.I gh;have hw:=hw.I gh;have h7:=kr.I gi;have gt:=S.I gi;have hS12d:=gt.I (O5.C [] hf);have hz712:=gi.size;have hzd:({ hf with drawn:=hf.drawn+1 }:O1).heap.size=hf.heap.size:=rfl
 have hC0:O5 av hf { hf with drawn:=hf.drawn+1 }:=O5.C _ _
 have fin:∀{hg hh ho hi hj:O2} {wx wy:O1},O5 av hf wx->Kw J.heap.size wx hg hh ho O (cos++[(hi,tc)]) (rqs++[(hj,tr)]) (pls++[pi]) fbs->O5 [H] wx wy->Zb wy.heap H 177 [q.s.va,oF oG q.s.a.st,q.s.vm,q.s.ve,hg,hh,ho,O] ->
   O5 (H::av) hf wy/\Zb wy.heap H 177 [q.s.va,oF oG q.s.a.st,q.s.vm,q.s.ve,hg,hh,ho,O]/\Kw J.heap.size wy hg hh ho O (cos++[(hi,tc)]) (rqs++[(hj,tr)]) (pls++[pi]) fbs:=λhC hP hs hB =>
  ⟨(hC.mono kt).Q (hs.mono (λx hx=>by simp only[oI]at hx;subst hx;exact Lr)),hB,hP.low hs (λx hx=>by simp only[oI]at hx;subst hx;exact kn)⟩
 have hkl:k<=4096:=oa
 have htr16:tr.length<=16:=oa
 have htc40:tc.length<=1099511627776:=oa
 have htr40:tr.length<=1099511627776:=oa
 have m2:cos.length+1<=1099511627776:=oa
 have ki:rqs.length+1<=1099511627776:=oa
 have hl3:pls.length+1<=1099511627776:=oa
 have gu:J.heap.size<=hf.heap.size:=oa
 refine QfC (α:=O2×O2×O2×O2×O2) [(55,74)] (λ_=>[]) (λz hR w'=>hR=ds/\O5 (H::av) hf w'/\Zb w'.heap H 177 [q.s.va,oF oG q.s.a.st,q.s.vm,q.s.ve,z.1,z.2.1,z.2.2.1,O]/\Kw J.heap.size w' z.1 z.2.1 z.2.2.1 O (cos++[(z.2.2.2.1,tc)]) (rqs++[(z.2.2.2.2,tr)]) (pls++[pi]) fbs) ol ?_ ?_
 ·refine Qkt (α:=O2×O2×O2×O2) (O5 av hf) [oD 0,oD 1,oD 2,oD 6,oD 7,oD 8,oD 12,oD 13,oD 14] [oE 3,oE 4,oE 5,oD 17,oE 9,oE 10,oE 11] 15 70
   [oE 16,oE 18,oD 19,oE 20,oD 21,oE 22] av [(55,74)] [(58,60),(64,66),(72,72)] (λz=>[(60,z.1),(66,z.2.1),(68,v3),(72,.pointer (some ⟨H,4,none⟩))]) (λz w'=>O5 av hf w'/\Kw J.heap.size w' z.1 z.2.1 v3 O (cos++[(z.2.2.1,tc)]) (rqs++[(z.2.2.2,tr)]) pls fbs)
   (λv w'=>∃b,v=.slice (some ⟨b,0,none⟩) 1 1/\Zb w'.heap b 3 [oF oG pi]) mixed ol ol od ol U hC0 (λx hx=>LW (gb x hx).2 hz712) ?_ ?_ ?_ ?_
  ·rintro v own w w' ⟨b,rfl,hB⟩ hs hn;exact⟨b,U,hB.J hs (hn b ot)⟩
  ·rintro z w w' ⟨G,h2⟩ hs;exact⟨G.D hs,h2.I hs⟩
  ·rintro⟨hg,hh,hi,hj⟩ g wz v ⟨pz,hP⟩ _ ⟨b15,rfl,g7⟩;simp only[]at hP;have hcz:=pz.size;refine pk<|Za (news:=[oF oG pi]) (L:=[]) hP.o3 U U U (g7.at oe) (by simp[Value.oneCell']) hl3 (LJ gu hcz) λho y1 g8 hI hn1=>?_;have Q1:=Kw.a3 (q:=pi) hP (O5.Z [] _) g8 hI hn1;have kz:O5 av hf y1:=pz.Q (hI.mono (λb hb=>by rw[<-gn];exact yt (.inr (.inr (.inl hb)))));refine⟨kz,?_⟩;refine pkl (hl:=by kernel_rfl)<|QB (j:=4) (u:=hg) (h7.J kz g3) U U oe (Qt Q1.o1) λy2 hF k0=>p (QR rfl) <|
    pkl (hl:=by kernel_rfl)<|QB (j:=5) (u:=hh) k0 U U oe (Qt Q1.o2) λy3 h6 hB3'=>p (QR rfl) <|
    pkl (hl:=by kernel_rfl)<|QB (j:=6) (u:=ho) hB3' U U oe (Qt Q1.o3) λy4 hN hB4'=>pe ?_
   exact⟨(hg,hh,ho,hi,hj),Z,U,fin kz Q1 ((hF.Q h6).Q hN) hB4'⟩
  refine p (QR U)<|pq (λ_ hc=>Qq (h7.J hc g3) U U)<|p QE<|p (QR U)<|pq (λ_ hc=>Qq (h7.J hc g3) U U)<|p QE <|
   p (QR rfl)<|pq (λ_ hc=>Qq (h7.J hc g3) U U)<|p QE<|pe ⟨λg wf hCf=>QC (us:=[[oF oG pi]]) U U og oe ⟨rfl,rfl,Z⟩ λb wf' p0 hbf p7=>⟨p0,hCf.D p0,⟨b,rfl,p7⟩,λx hx=>?_⟩,?_⟩
  ·have hxe:x=b:=by
    have hx':x∈[b]:=hx;simpa using hx'
   subst hxe;exact⟨hbf,p7.lt⟩
  have p8:∀{X:LN},(∀x∈X,x∈ob v1\/x∈ob v2)->∀x∈X,x∈av:=λhX x hx=>by rw[<-gn];exact yt ((hX x hx).imp id .inl)
  refine fk λx1 p1 c1=>xf<|(Z0 (hJ.J c1 kt)).mono ?_;rintro hi y1 ⟨hI,g8⟩;have P1:=hS12d.I p1;have pb1:=LJ gu c1.size;refine⟨c1.D hI,av,hI.any,λb hb=>.inl hb,?_⟩;refine fk λx2 p2 c2=>QC (us:=[[hi]]) U U og oe ⟨xM g8,rfl,Z⟩ λb2' y2 hF hb2' k0=>⟨c2.D hF,av,hF.any,λb hb=>.inl hb,?_⟩;refine fk λx3 p3 c3=>?_;have p9:=((hI.D p2).D hF).D p3;have qc:=Qp g8 ((p2.D hF).D p3);refine Za (news:=[hi]) (L:=[]) (Qp P1.o1 p9) U U U ((k0.I p3).at oe) (λu hu=>by rw[oI]at hu;subst hu;exact Qt qc) m2 (LJ gu c3.size) λhg y3 ho4 h6 hn3=>?_;have P2:=Kw.a1 (q:=(hi,tc)) P1 p9 qc htc40 (Lu _) pb1 ho4 h6 hn3;have qf:O5 av x3 y3:=h6.mono (p8 λx hx=>.inl hx);refine⟨c3.Q qf,av,qf,λb hb=>.inl hb,?_⟩;refine fp (QR U) ?_;refine fk λx4 p4 c4=>xf<|(Z0 (hw.J c4 kt)).mono ?_;rintro hj y4 ⟨hN,ql⟩;have P3:=P2.I p4;have pb3:=LJ gu c4.size;refine⟨c4.D hN,av,hN.any,λb hb=>.inl hb,?_⟩;refine fk λx5 p5 c5=>QC (us:=[[hj]]) U U og oe ⟨xM ql,rfl,Z⟩ λb5' y5 hY hb5' hB5'=>⟨c5.D hY,av,hY.any,λb hb=>.inl hb,?_⟩;refine fk λx6 p6 c6=>?_;have qo:=((hN.D p5).D hY).D p6;have qr:=Qp ql ((p5.D hY).D p6);refine Za (news:=[hj]) (L:=[]) (Qp P3.o2 qo) U U U ((hB5'.I p6).at oe) (λu hu=>by rw[oI]at hu;subst hu;exact Qt qr) ki (LJ gu c6.size) λhh y6 ho7 gz hn6=>?_;have P4:=Kw.a2 (q:=(hj,tr)) P3 qo qr htr40 (Lu _) pb3 ho7 gz hn6;have k4:O5 av x6 y6:=gz.mono (p8 λx hx=>.inr hx);refine⟨c6.Q k4,av,k4,λb hb=>.inl hb,?_⟩;exact fe ⟨(hg,hh,hi,hj),oC,c6.Q k4,P4⟩
 rintro⟨hg,hh,ho,hi,hj⟩ g hR k5 ⟨rfl,hK,q0,q1⟩;simp only[]at q0 q1;have hz13:=hK.size;have q2:=(kw.I gh).st hK;have hJ:=hJ.st hK;have hw:=hw.st hK;have g9:JW [] b k5.heap q:=q2.up oe;have hcell:∀x∈H::av,∃o:Obj,hf.heap[x]?=some o/\o.isCells=true:=λx hx=>by
  rcases Li.1 hx with rfl|hx
  ·exact h7.cells
  rw[<-gn]at hx;rcases Qb2 hx with G|G|G|G
  ·exact Go.Lg.QU gt.o1 x G
  ·exact Go.Lg.QU gt.o2 x G
  ·exact Go.Lg.QU gt.o3 x G
  exact Go.Lg.QU gt.o4 x G
 have hD13:UW J.heap.size w7.heap.size hR k5:=((pc.up (Lu _)).I gi).J hK hcell;have hb7n:b7∉H::av:=λI=>by
  rcases Li.1 I with G|G
  ·omega
  have:=(gb _ G).2;omega
 have hb1n:b1∉H::av:=λI=>by
  rcases Li.1 I with G|G
  ·omega
  have:=(gb _ G).1;omega
 have ka:=((hB10.I po).I gh).J hK hb7n;have k6:=((m3.I (h6.D gm)).I gi).J hK hb1n;have hs613:O5 [H] J k5:=(kq.D gi).then hK (λx hx=>by
  rcases Li.1 hx with G|G
  ·subst G;exact .inl Lr
  exact .inr (gb x G).1)
 have k7:(cos++[(hi,tc)]).map (·.2)=(T.take (k+1)).map (·.take q.c.co.length):=by rw[gr,Ls,Ls,gj,Na,Na,hU]
 have k8:(rqs++[(hj,tr)]).map (·.2)=(T.take (k+1)).map (·.drop q.c.co.length):=by rw[gr,Ls,Ls,gk,Na,Na,gs]
 have k9:pls++[pi]=(T.take (k+1)).map (λt=>plx (q.qs.map (·.2)) (t.take q.c.co.length)):=by rw[gr,Ls,gl,Na,hU,kx]
 have hVc:Vt (O7 q.c.V.co) tc:=by
  have G:=gg.take;rw[show(O7 q.c.V.co).length=q.c.co.length by unfold O7;rw[Lh];exact ga,hU]at G;exact G
 have hVr:Vt (O7 q.c.V.rq) tr:=by
  have G:=gg.drop;rw[show(O7 q.c.V.co).length=q.c.co.length by unfold O7;rw[Lh];exact ga,gs]at G;exact G
 have gv:=QbS hQ.ok hQ.p;have hpr:=Qh3 gv.2.2.1 tc;rw[kx,<-gv.2.1]at hpr;have hckp:cks q.p.a pi=0:=by
  unfold cks;rw[OT (by rw[(Z1 q.p.a).2 gv.1];decide),OT oa]
 have hvo:=qP g9.k1 g9.k2 g9.k3 (hJ.up (L':=[]) oe) (by rw[hQ.ex,hQ.cs];exact hZ.cd) hVc.tpOk;have h4:rsn q.c.V q.p.a pi k t.2=(match vio q.c.V tc with|some (kd,j)=>some ⟨k,kd,j,-1⟩|none=>match rfd q.c.V tr (Qgq q.p.a pi)with|some (j,v)=>some ⟨k,3,j,v⟩|none=>none):=by unfold rsn;rw[ga,hU,gs];rfl
 rw[Qhg]at h4;rw[hQ.ex,hQ.cs]at hvo;refine Zk (Uk q.c.V.ex q.c.V.cs tc) λV hV=>?_;rw[hV]at hvo h4;refine Zh<|Zh<|QN ol ol<|Qa<|Yl U<|Q2 U<|x (Zj (us:=[q.vs,q.vx,q.vk]) g9.B U U U)<|Qa<|ZP<|hvo.mono ?_;rintro r14 ma ⟨hA,rfl⟩;refine Qa<|Q7 U U<|Q7 U U<|Q7 U U<|Q7 U U<|x Ql<|x Ql<|x Ql<|Qb ?_;have kb:=q0.I hA;have hM:=q1.I hA;have q3:=hD13.I hA;have q4:=hs613.D hA;have hz14:=hA.size;have q5:fbs.length+1<=1099511627776:=oa
 have hb014:J.heap.size<=ma.heap.size:=oa
 have hz714:w7.heap.size<=ma.heap.size:=oa
 refine Zh<|QN ol ol<|Qa<|xe<|Ug rfl (λmf=>?_) (λmf=>?_)
 ·rw[OU mf]at h4;simp only[]at h4;rw[h4]at hr;refine Zh<|QN ol ol<|Qs U kb U U<|Y7 (ka.I hA) U U<|Qa<|Qa<|x (Qz ⟨U,U,U,U,Z⟩) <|
   Qe<|QC (us:=[ZX ⟨k,V.1,V.2.1,-1⟩]) U U og oe ⟨rfl,rfl,Z⟩ λb93 y1 hG hb93 mg=>?_
  have j1:=hG.size;refine Qe<|Za (m:=1) (news:=ZX ⟨k,V.1,V.2.1,-1⟩) (L:=[]) (Qp hM.o4 hG) U U U (mg.at oe) (by simp[Value.oneCell']) q5 (LJ hb014 j1) λu4 y2 gw gx mh=>?_;have mj:H∉ob O:=λI=>ou (Qi hM.o4 _ I).1
  refine Q2 U<|Qe<|QB (j:=7) (u:=u4) ((kb.I hG).J gx mj) U U oe (Qt gw) λy3 mo mq=>xe ?_;have h5:=Kw.add (q:=⟨k,V.1,V.2.1,-1⟩) kb hM kn hG gw gx mh mo;refine Vv<|⟨((hg,hh,ho,u4),cos++[(hi,tc)],rqs++[(hj,tr)],pls++[pi]),La,q4.then h5.1 (λx hx=>?_),((q3.J h5.1 h5.2.2).up (LJ hz714 h5.1.size)),mq,?_,k7,k8,k9⟩
  ·rcases Li.1 hx with G|G
   ·subst G;exact .inl Lr
   exact .inr (Qi hM.o4 x G).1
  simp only[];rw[hr];exact h5.2.1
 rw[OT (by rw[mf];decide)]at h4;simp only[]at h4;refine YN ?_;have hA14:=q2.I hA;have hw:=hw.I hA;refine Zh<|QN ol ol<|Qa<|Qa<|Qa<|ZP<|(qJ (b:=b) (st:=pi) (vr:=pp) hw.cells).mono ?_;rintro r15 kc ⟨hH,c1,c2,c3,rfl,hc1,hc2,hc3,hR1,hR2,hR3⟩;refine xe ?_;have hz15:=hH.size;have g7:=kb.I hH;have j2:=hM.I hH;have j3:=q3.I hH;have za:=q4.D hH;have hA15:=hA14.I hH;have ka:=ka.I (hA.D hH);have k6:=k6.I (hA.D hH);have hw:=hw.I hH;refine Zk (wrf q.c.V.rq tr (enb q.p.a pi)) λfl ke=>?_;have zb:∀x∈H::ob O,x∈H::av:=λx hx=>by
  rcases Li.1 hx with rfl|hx
  ·exact Lr
  exact Lj _ (by rw[<-gn];exact yt (.inr (.inr (.inr hx))))
 have ms:∀x∈H::ob O,x<ma.heap.size:=λx hx=>by
  rcases Li.1 hx with rfl|hx
  ·omega
  exact(Qi hM.o4 x hx).2
 have zv:JW (H::ob O) b kc.heap q:=hA15.up (λx hx=>.inl (zb x hx));have hIr15:QQ (H::ob O) kc.heap pp tr:=hw.up (λx hx=>.inl (zb x hx));have hEv:∀p∈fl,0<=p.1/\p.1<(q.c.ev.length:Int):=λp hp=>by
  rw[<-ke]at hp;have G:=(zh.1 hp).1;unfold enb at G;obtain⟨e,he,h2⟩:=LC.1 G;have h3:=gv.2.2.2 _ (gv.1.ed e (ZU he).1).2.2.1;rw[h2]at h3;exact h3
 refine Z9<|QcU (α:={ x:Int×Int // x∈fl }) (H::ob O) oa (capt:=[.pointer (some ⟨c1,0,none⟩),.pointer (some ⟨c2,0,none⟩),.pointer (some ⟨c3,0,none⟩)]) U (encs:=λx=>[oF oG x.1.1,oF oG x.1.2]) og (λ_=>U)
  (Uq hR1 hR2 hR3 (λI=>ou (ms _ I)) (λI=>ou (ms _ I)) (λx hx=>ou (ms _ hx)) zv hIr15 (λx hx=>hZ.rq x.it (LO hx)) hVr hckp U ke)
  (λpre W=>(∀y∈pre,(q.c.V.ev.getD y.1.1.toNat ⟨.empty,false,false,false,0⟩).co=true)/\O5 [] kc W) (λpre=>(Yy.pure _).and (Yy.J (Lu _)))
  (λe pre W=>e=.exit 2/\(∃p y,pre=p++[y]/\(∀y∈p,(q.c.V.ev.getD y.1.1.toNat ⟨.empty,false,false,false,0⟩).co=true)/\(q.c.V.ev.getD y.1.1.toNat ⟨.empty,false,false,false,0⟩).co=false /\
   ∃u4,O5 (H::ob O) kc W/\Zb W.heap H 177 [q.s.va,oF oG q.s.a.st,q.s.vm,q.s.ve,hg,hh,ho,u4]/\Kw J.heap.size W hg hh ho u4 (cos++[(hi,tc)]) (rqs++[(hj,tr)]) (pls++[pi]) (fbs++[⟨k,3,y.1.2,y.1.1⟩])/\UW J.heap.size w7.heap.size hR W))
  (λe pre=>(Yy.pure _).and (Yy.ex λp=>Yy.ex λy=>(Yy.pure _).and ((Yy.pure _).and ((Yy.pure _).and (Yy.ex λu4=>(Yy.J (Lu _)).and (Yy.blk.and ((Yy.cst λW W' h hc hz=>h.cst hc hz).and (UW.stb oa))))))))
  ⟨λy hy=>(by cases hy),O5.Z _ _⟩
  (λf x f' W=>f'=upd (upd (upd (upd f 100 (oF oG x.1.1)) 101 (oF oG x.1.2)) 16 (oF oG x.1.1)) 17 (oF oG x.1.2)) (λx f'=>Yy.pure _) ?_ ?_ ?_ ?_
 ·rintro l pre ⟨⟨e,i⟩,he⟩ W Y;refine Zh<|QN ol ol<|Qb<|QN ol ol<|Qb<|⟨U,KT.refl _ _ _,Lg.XN.refl _ _,Y,U⟩
 ·rintro l pre ⟨⟨e,i⟩,he⟩ f' W ⟨kf,Y⟩ rfl _;have hee:=hEv _ he;simp only[]at hee;have hen:e=(e.toNat:Int):=oa
  have kg:e.toNat<q.c.ev.length:=oa
  have hAW:=zv.I Y;refine Z9<|Zh<|QN ol ol<|Qs U (k6.I Y) U U<|Qa<|O8 (g:=Zo) (i:=e.toNat) UF hAW.c.ev.arr U (OV (Value.int .i64) hen) kg λa105 z0=>?_;have hge:q.c.V.ev.getD e.toNat ⟨.empty,false,false,false,0⟩=q.c.ev[e.toNat]'kg:=by
   show q.c.ev.getD e.toNat _=_;simp[oQ,kg]
  refine Zk (q.c.ev[e.toNat]'kg) λv hv=>?_;rw[hv]at z0 hge;refine x (Zp U)<|x (QA (z0.fld 1 (.bool v.co) U) U)<|x (Zx U)<|xe<|Ug U (λmt=>?_) (λmt=>?_)
  ·have mu:v.co=false:=by simpa using mt
   have hS:=j2.I Y;have hB:=g7.I Y;have gc:=Y.size;refine Zh<|QN ol ol<|Qs U hB U U<|Y7 (ka.I Y) U U<|Qa<|Qa<|x (Qz ⟨U,U,U,U,Z⟩) <|
    Qe<|QC (us:=[ZX ⟨k,3,i,e⟩]) U U og oe ⟨rfl,rfl,Z⟩ λb93 y1 hG hb93 mg=>?_
   have j1:=hG.size;refine Qe<|Za (m:=1) (news:=ZX ⟨k,3,i,e⟩) (L:=[]) (Qp hS.o4 hG) U U U (mg.at oe) (by simp[Value.oneCell']) q5 oa λu4 y2 gw gx mh=>?_;have mj:H∉ob O:=λI=>ou (Qi hM.o4 _ I).1
   refine Q2 U<|Qe<|QB (j:=7) (u:=u4) ((hB.I hG).J gx mj) U U oe (Qt gw) λy3 mo mq=>xe ?_;have h5:=Kw.add (q:=⟨k,3,i,e⟩) hB hS kn hG gw gx mh mo;refine Vv ?_;exact⟨KT.J h5.1 gc (λx hx=>⟨.inl hx,h5.2.2 x hx⟩),U,pre,_,U,kf,by simp only[];rw[hge];exact mu,u4,Y.any.Q h5.1,mq,h5.2.1,(j3.I Y).J h5.1 h5.2.2⟩
  have mu:v.co=true:=by simpa using mt
  refine YN<|⟨KT.refl _ _ _,Lg.XN.refl _ _,λy hy=>?_,Y⟩;rcases Lc.1 hy with G|G
  ·exact kf y G
  simp only[oI]at G;subst G;simp only[];rw[hge];exact mu
 ·rintro D xs W hD hxs ⟨kf,Y⟩ mv;have mw:rfd q.c.V tr (Qgq q.p.a pi)=none:=zW λx hx=>by
   rw[show wrf q.c.V.rq tr (Qgq q.p.a pi)=fl from ke,<-hxs]at hx;obtain⟨y,hy,rfl⟩:=LC.1 hx;exact kf y hy
  rw[mw]at h4;rw[h4]at hr;refine⟨((hg,hh,ho,O),cos++[(hi,tc)],rqs++[(hj,tr)],pls++[pi]),La,za.D Y,(j3.I Y).cons oa oa mv,g7.I Y,?_,k7,k8,k9⟩;simp only[];rw[hr];have h9:=j2.I Y;simpa using h9
 rintro D e pre W hD hSp ⟨rfl,p,y,rfl,hp,hy,u4,hst,hBu,hSu,hDu⟩ mv _;have mw:rfd q.c.V tr (Qgq q.p.a pi)=some (y.1.2,y.1.1):=by
  obtain⟨rs,z1⟩:=hSp;rw[Ls]at z1;refine zV (x:=y.1) (t:=rs) (p:=p.map (·.1)) ?_ (λz hz=>?_) hy
  ·exact(show wrf q.c.V.rq tr (Qgq q.p.a pi)=fl from ke).D (z1.symm.D oe)
  obtain⟨z',hz',rfl⟩:=LC.1 hz;exact hp z' hz'
 rw[mw]at h4;simp only[]at h4;rw[h4]at hr;refine⟨((hg,hh,ho,u4),cos++[(hi,tc)],rqs++[(hj,tr)],pls++[pi]),La,za.then hst (λx hx=>?_),hDu.cons oa oa mv,hBu,?_,k7,k8,k9⟩
 ·rcases Li.1 hx with G|G
  ·subst G;exact .inl Lr
  exact .inr (Qi hM.o4 x G).1
 simp only[];rw[hr];exact hSu
theorem At.from {a:Addr}(h:At L H a us)(j:Nat):At L H (a.add j) (us.drop j):=
 ⟨λu E=>by rw[YE];exact h.out u (L6 E),λu E=>by rw[YE];exact h.lt u (L6 E),λi v G=>by
  rw[Addr.add_add];exact h.cell (j+i) v (by rw[<-ME];exact G)⟩
def lwB (l:LI)(n:Int):Nat:=(l.filter λx=>decide (x<n)).length
theorem Qn6 {n:Int}(_:YY l)(hi:i<=l.length)(H:∀m (E:m<l.length),m<i->l[m]<n)(I:∀m (E:m<l.length),i<=m->n<=l[m]):lwB l n=i:=by
 unfold lwB;have e1:(l.take i).filter (λx=>decide (x<n))=l.take i:=NE.2 λx hx=>by
  obtain⟨m,E,rfl⟩:=LM hx;rw[Ng];have G:m<i/\m<l.length:=by rw[Ly]at E;omega
  exact OX (H m G.2 G.1)
 have e2:(l.drop i).filter (λx=>decide (x<n))=[]:=Nn.2 λx hx=>by
  obtain⟨m,E,rfl⟩:=LM hx;rw[List.getElem_drop];have G:i+m<l.length:=by rw[LT]at E;omega
  have:=I (i+m) G oa;simp;omega
 have J:l.filter (λx=>decide (x<n))=l.take i:=by
  conv=>lhs;rw[<-MI i l]
  rw[L5,e1,e2,LQ]
 rw[J,Ly];omega
theorem QeJ:∀{l:LI}{n:Int},YY l->n∈l->lwB l n=l.idxOf n
 | [],_,_,h=>by cases h
 | a::l,n,hi,h=>by
  have E:=L3.1 hi;unfold lwB;by_cases e:a=n
  ·subst e;have e2:l.filter (λx=>decide (x<a))=[]:=Nn.2 λx hx=>by have:=E.1 x hx;simp;omega
   rw[Mf,OT oe,e2];simp
  have H:n∈l:=by
   rcases Li.1 h with G|G
   ·exact OW G.symm e
   exact G
  have ih:=QeJ E.2 H;unfold lwB at ih;have I:=E.1 n H;rw[Mf,OU (OX I),LS,ih,List.idxOf_cons];have:(a == n)=false:=by simpa using e
  rw[this];rfl
theorem QcM {v:O2}(h:QQ L w.heap v l)(hi:YY l)(n:Int):
  Q6 prog 104 [v,oF oG n] w λr w'=>w'=w/\r=.tuple #[oF oG (lwB l n),.bool (decide (n∈l))]:=by
 have hu:=h.le;refine Zq func104 ?_;refine Qc<|x Ql<|Qb<|Qm<|QK h U<|Qb<|Qm<|x Ql<|Qb<|Qd<|Qf<|QD (α:=Nat×Nat) [(7,9),(13,30)] (λz=>[(7,oF oG z.1),(8,oF oG z.2)])
  (λz w'=>w'=w/\z.1<=z.2/\z.2<=l.length/\(∀m (E:m<l.length),m<z.1->l[m]<n)/\(∀m (E:m<l.length),z.2<=m->n<=l[m])) (λz=>z.2 - z.1) ol (0,l.length) oA
  ⟨U,Ln _,Lu _,λm _ O=>OW O (Ni m),λm h1 O=>OW h1 (by simp only[]at O;omega)⟩ ?_
 rintro⟨i,j⟩ g w1 ⟨rfl,hc,V,G,H⟩;simp only[]at hc V G H;refine Qd<|Qm<|Qa<|QZ U U<|xe<|QG rfl (λhe=>?_) (λhe=>?_)
 ·have e:i=j:=oa
  subst e;refine Qy<|Q3 (α:=Bool) [(4,5),(31,53)] (λz=>[(4,oF oG i),(5,.bool z)]) (λz w'=>w'=w1/\z=decide (n∈l)) ol ?_ ?_
  ·refine Qw<|Qa<|Qa<|Qa<|xb (YQ U U) (λhf=>?_) (λhf=>?_)
   ·have I:i<l.length:=oa
    refine Qa<|Qa<|Qa<|xii h U U I λhv hg=>x (QA hg U)<|Qa<|xb (Q0 U U) (λS=>?_) (λS=>?_)
    ·refine Qa<|Qr<|Qr<|Qr<|Qr<|Qr<|Qr<|Qr<|Qr<|Qr<|QH U<|QH U<|x Ql<|Qb ?_;have:n∈l:=by rw[<-S];exact Ll I
     exact⟨true,oA,U,by simp[this]⟩
    refine Qa<|Qa<|Qa<|xii h U U I λhw hk=>x (QA hk U)<|QM<|(Qb8 _).mono ?_;rintro r3 w3 ⟨rfl,rfl⟩;refine Qa<|Qr<|Qr<|QH U<|QH U<|QH U<|x Ql<|Qb<|⟨false,oA,U,?_⟩;have:n∉l:=by
     intro E;obtain⟨m,J,Y⟩:=LM E;by_cases hl:m<i
     ·have:=G m J hl;omega
     by_cases hn:m=i
     ·subst hn;exact S Y
     have:=YY.get hi J (show i<m by omega);have:=H i I (Lu _);omega
    simp[this]
   refine Qa<|Qr<|Qr<|Qr<|Qr<|Qr<|Qr<|Qr<|Qr<|Qr<|Qr<|Qr<|Qr<|Qr<|Qr<|Qr<|Qr<|xs U <|
    QH rfl<|x Ql<|Qb<|⟨false,oA,U,?_⟩
   have:n∉l:=by
    intro E;obtain⟨m,J,Y⟩:=LM E;have:=G m J oa;omega
   simp[this]
  rintro z g w7 ⟨rfl,rfl⟩;exact Qk ⟨[oF oG i,.bool (decide (n∈l))],oA,U,by rw[Qn6 hi (show i<=l.length by omega) G H];rfl⟩
 refine Qh<|Qf<|Qm<|Qa<|QP U U<|x (Z3 U (by exact⟨oa,oa⟩))<|x (jD (n:=1) U U og)<|x (Z3 U (by exact⟨oa,oa⟩))<|Qb ?_;have hh:(((i:Int)+(j:Int)) / 2 ^ 1)=(((i+j) / 2:Nat):Int):=oa
 rw[hh];generalize hq:(i+j) / 2=q;have ho:i<=q:=oa
 have hp:q<j:=oa
 have ha:q<l.length:=oa
 refine Qm<|Qa<|xii h U U ha λhy hr=>x (QA hr U)<|Qa<|QM<|(QeN _ _).mono ?_;rintro r8 w8 ⟨rfl,rfl⟩;refine xe<|QG rfl (λhb=>?_) (λhb=>?_)
 ·refine Qw<|Qa<|Qb<|⟨(i,q),oh,oA,U,ho,oa,G,λm E hs=>?_⟩;by_cases e:q=m
  ·subst e;omega
  have:=YY.get hi E (show q<m by simp only[]at hs;omega);omega
 refine Qw<|Qa<|QP U U<|Qb<|⟨(q+1,j),oh,oA,U,hp,V,λm E ht=>?_,H⟩;by_cases e:m=q
 ·subst e;exact hb
 have:=YY.get hi ha (show m<q by simp only[]at ht;omega);omega
theorem KQ {v:O2}{l:List Ed}(h:Zn L w.heap v l.length 3 (l.flatMap QF)):
  Q6 prog 142 [v] w λr w'=>O5 [] w w'/\w'.ownsRow w.heap.size 167 3 r l.length (l.flatMap QF):=by
 have hc:=h.le;refine Zq func142 ?_;refine Qc<|Qb ?_;obtain⟨ao,cap,G⟩:=h.shape;refine Qd<|Qm<|x (XB (show ev _ _=_ from G) U)<|xe<|QX rfl (λH=>?_) (λH=>?_)
 ·refine Qc<|Qb<|Qk ⟨[nS],La,O5.Z _ _,?_⟩;rcases h.2.2 with⟨E,I⟩|⟨a,c,E,_⟩
  ·have:l=[]:=Lp I;subst this;exact QL _ _ _ _
  rw[E]at G;cases G;cases H
 rcases h.2.2 with⟨E,I⟩|⟨a,c,E,I,Y⟩
 ·rw[E]at G;injection G with e1;subst e1;cases H
 refine Qh<|Qc ?_;have ho:∀u∈l.flatMap QF,u.oneCell'=true:=by
  intro u hu;obtain⟨p,_,J⟩:=Mb.1 hu;simp only[QF,oL,oJ,or_false]at J;rcases J with rfl|rfl|rfl <;> rfl
 refine Qe<|XG λb5 w1 O S V=>Qa<|Qe<|Za (base:=w.heap.size) (V.own (n:=0) (sz:=3) U oa S) U (show ev _ _=_ from E) h.1 (Y.I O) ho oa (ou V.lt) λv2 w2 ha hb he=>Qb<|Qk ⟨[v2],La,O.O hb S,?_⟩;simpa[tup]using ha
theorem V9 {v:O2}{l:List J9}(h:Zn L w.heap v l.length 5 (l.flatMap Zo)):
  Q6 prog 86 [v] w λr w'=>O5 [] w w'/\w'.ownsRow w.heap.size 183 5 r l.length (l.flatMap Zo):=by
 have hc:=h.le;refine Zq func86 ?_;refine Qc<|Qb ?_;obtain⟨ao,cap,G⟩:=h.shape;refine Qd<|Qm<|x (XB (show ev _ _=_ from G) U)<|xe<|QX rfl (λH=>?_) (λH=>?_)
 ·refine Qc<|Qb<|Qk ⟨[nS],La,O5.Z _ _,?_⟩;rcases h.2.2 with⟨E,I⟩|⟨a,c,E,_⟩
  ·have:l=[]:=Lp I;subst this;exact QL _ _ _ _
  rw[E]at G;cases G;cases H
 rcases h.2.2 with⟨E,I⟩|⟨a,c,E,I,Y⟩
 ·rw[E]at G;injection G with e1;subst e1;cases H
 refine Qh<|Qc ?_;have ho:∀u∈l.flatMap Zo,u.oneCell'=true:=by
  intro u hu;obtain⟨p,_,J⟩:=Mb.1 hu;simp only[Zo,oL,oJ,or_false]at J;rcases J with rfl|rfl|rfl|rfl|rfl <;> rfl
 refine Qe<|XG λb5 w1 O S V=>Qa<|Qe<|Za (base:=w.heap.size) (V.own (n:=0) (sz:=5) U oa S) U (show ev _ _=_ from E) h.1 (Y.I O) ho oa (ou V.lt) λv2 w2 ha hb he=>Qb<|Qk ⟨[v2],La,O.O hb S,?_⟩;simpa[tup]using ha
structure VP {α:Type}(g:α->LV)(sz T:Nat)(ps:α->List (O2×Nat×Nat×LV))(base:Nat)(w:O1)(v:O2)(l:List α):Prop where
 own:w.ownsRow base T sz v l.length (l.flatMap g)
 each:∀q∈l,∀t∈ps q,YG base (ob v) w.heap t.1 t.2.1 t.2.2.1 t.2.2.2
section
variable {g:α->LV}{ps:α->List (O2×Nat×Nat×LV)}{base:Nat}{v:O2}{l:List α}
theorem VP.nil:VP g sz T ps base w (nS) []:=⟨QL _ _ _ _,λq E=>by cases E⟩
theorem VP.I (h:VP g sz T ps base w v l)(E:O5 [] w w'):VP g sz T ps base w' v l:=⟨Qp h.own E,λq G t H=>(h.each q G t H).I E⟩
theorem VP.low {X:LN}(h:VP g sz T ps base w v l)(E:O5 X w w')(G:∀b∈X,b<base):VP g sz T ps base w' v l :=
 ⟨Qg h.own E (λb H I=>ov (Qi h.own b H).1 (G b I)),λq J t O=>(h.each q J t O).low E G⟩
theorem VP.app {E G:O1}{H:O2}{q:α}(h:VP g sz T ps base w v l)(V:O5 [] w E)
  (Y:∀t∈ps q,∃N e,E.ownsRow N e t.2.2.1 t.1 t.2.1 t.2.2.2/\t.2.1<=1099511627776/\w.heap.size<=N) (I:base<=w.heap.size)
  (ho:G.ownsRow base T sz H (l.length+1) (l.flatMap g++g q)) (J:O5 (ob v) E G) (O:∀b∈ob H,b∈ob v\/E.heap.size<=b):VP g sz T ps base G H (l++[q]):=by
 have ha:=Zc h.own;refine⟨?_,λd hd t S=>?_⟩
 ·rw[Lk,LA];simpa using ho
 rcases Lc.1 hd with hd|hd
 ·exact((h.each d hd t S).I V).app J O
 simp only[oI]at hd;subst hd;obtain⟨N,e,h1,h2,h3⟩:=Y t S;exact(YG.of_own h1 h2 oa (λb I=>ou (ha b I))).app J O
end
abbrev Qge (q:IV):List (O2×Nat×Nat×LV):=[(q.p.va,q.p.a.al.length,1,q.p.a.al.map (.int .i64)),(q.p.vm,q.p.a.mr.length,1,q.p.a.mr.map (.int .i64)),(q.p.ve,q.p.a.ed.length,3,q.p.a.ed.flatMap QF)]
abbrev IvP (base:Nat)(w:O1)(v:O2)(l:List IV):Prop:=VP QO 5 71 Qge base w v l
def Qrn (N:Nat)(H:xC)(v:O2)(l:List Xt):Prop:=∃qs:List IV,qs.map IV.it=l/\∀L:LN,(∀b∈L,b<N)->XM L H v qs
theorem IvP.itms {base:Nat}{v:O2}{l:List IV}(h:IvP base w v l)(I:l.length<=1099511627776)(J:∀q∈l,Jp q.nm)(G:∀b∈L,b<base):XM L w.heap v l :=
 ⟨QJ h.own I (λb E hbL=>ov (Qi h.own b E).1 (G b hbL)),λq H=>⟨h.each q H (q.p.va,q.p.a.al.length,1,q.p.a.al.map (.int .i64)) oe L (λb E=>.inl (G b E)),h.each q H (q.p.vm,q.p.a.mr.length,1,q.p.a.mr.map (.int .i64)) oe L (λb E=>.inl (G b E)),h.each q H (q.p.ve,q.p.a.ed.length,3,q.p.a.ed.flatMap QF) oe L (λb E=>.inl (G b E))⟩,J⟩
instance:Bw prog 71 [.string .empty,nS,oF oG 0,nS,nS] [(0,1),(1,4)]:=⟨od,og⟩
theorem yM {v vi:O2}{ix:LI}(h0:XM L w.heap v qs)(hC:QQ L w.heap vi ix)(hb:∀i∈ix,0<=i/\i<(qs.length:Int)):
  Q6 prog 229 [v,vi] w λr w'=>O5 [] w w'/\Qrn w.heap.size w'.heap r (chs (qs.map IV.it) ix)/\r.oneCell'=true:=by
 have h:XM [] w.heap v qs:=h0.up oe;have hi:QQ [] w.heap vi ix:=hC.up oe;have hS:=hi.le;refine Zq func229 ?_;refine Qc<|Qb<|Qc<|Qb<|Qd<|Qm<|QK hi U<|Qa<|xe<|Qf<|QD (α:=Nat×O2×List IV) [(5,5),(7,8),(11,41)] (λz=>[(5,z.2.1),(11,oF oG z.1)]) (λz w'=>z.1<=ix.length/\O5 [] w w'/\IvP w.heap.size w' z.2.1 z.2.2/\z.2.2.map IV.it=chs (qs.map IV.it) (ix.take z.1)/\∀q∈z.2.2,Jp q.nm) (λz=>ix.length - z.1) ol (0,nS,[]) oA
  ⟨Ln _,O5.Z _ _,VP.nil,U,λq hq=>by cases hq⟩ ?_
 rintro⟨k,vo,qo⟩ g w1 ⟨hk,I,hR1,he,ho⟩;simp only[]at hk hR1 he ho;have hT:qo.length=k:=by have:=OV oP he;unfold chs at this;rw[Lh,Lh,Ly]at this;omega
 refine Qc<|QZ U U<|xe<|Qd<|QG U (λhp=>?_) (λhp=>?_)
 ·refine Qy ?_;have hD:ix.length<=k:=by have hg:¬(k:Int)<(ix.length:Int):=hp;omega
  rw[Lt hD]at he;refine Qm<|Qb<|Qk ⟨[_],La,I,⟨qo,he,λL hL=>hR1.itms oa ho hL⟩,Qt hR1.own⟩
 refine Qh ?_;have J:k<ix.length:=by have hg:(k:Int)<(ix.length:Int):=hp;omega
 have hE:=hb _ (Ll J);have h5:ix.take (k+1)=ix.take k++[ix[k]'J]:=Lm J;refine Zk (ix[k]'J) λi h6=>?_;rw[h6]at hE h5;have h7:i=(i.toNat:Int):=oa
 have O:i.toNat<qs.length:=oa
 have h8:chs (qs.map IV.it) (ix.take (k+1))=chs (qs.map IV.it) (ix.take k)++[(qs[i.toNat]'O).it]:=by
  rw[h5];unfold chs;rw[Ls];simp[oQ,O]
 have h1:=h.I I;have hr:=Ll O;refine Zk (qs[i.toNat]'O) λq hq=>?_;rw[hq]at h8 hr;have H:=h1.each q hr;have hF:=h1.nm q hr;refine Qd<|Qf<|Qc<|xii (i:=k) (hi.I I) U U J λhU hg=>?_;rw[h6]at hg;refine x (QA hg U)<|Qb<|Qm<|Qa<|O8 (g:=QO) (i:=i.toNat) Yp h1.arr U (OV (Value.int .i64) h7) O λhV hA=>?_;rw[hq]at hA;refine x (Zp U)<|x (Qx (us:=[q.p.va,oF oG q.p.a.st,q.p.vm,q.p.ve]) (hA.from 1) U U)<|Qe<|Qo (us:=[nS,oF oG 0,nS,nS]) U λb8 w2 hG hH S =>
  Qe<|Qj (us:=[q.p.va,oF oG q.p.a.st,q.p.vm,q.p.ve]) S U U U U ⟨H.al.one,U,H.mr.one,H.ed.one,Z⟩ λG hI S=>xe ?_
 have hh:O5 [] w1 G:=hG.O hI hH;have V:O5 [] G { G with drawn:=G.drawn+1 }:=O5.C _ _
 have hW:=hh.size;have hX:=I.size;have hs:=Qi hR1.own;have h3:XM (ob vo) G.heap v qs:=(h.up (L':=ob vo) (λb hb=>.inr (hs b hb).1)).I (I.D hh);have hj:b8∉ob vo:=λhm=>ou (hs b8 hm).2
 have hv:=H.I hh;refine ZD (ob vo) [oD 0,oD 1,oD 2,oD 3,oD 4,oD 5,oD 6,oD 7,oD 9,oD 10,oD 11,oD 12,oD 14,oD 15,oE 8,oE 13,oE 16,oD 17,oD 18,oE 19,oE 20,oD 21]<|p QE<|p QE<|p QE<|Go.Lg.pig (g:=QO) (i:=i.toNat) U Yp h3.arr U (OV (Value.int .i64) h7) O λhY hB=>?_;rw[hq]at hB;refine p (λ_=>Zp U)<|pq (λ_ E=>QA ((hB.fld 0 (.string q.nm) U).st E) U)<|p (QR U)<|pq (λ_ E=>Qq (S.J E hj) U U)<|p (QR U) <|
  pq (λ_ E=>Qq (S.J E hj) U U)<|p (QR U)<|pq (λ_ E=>Qq (S.J E hj) U U) <|
  p (QR rfl)<|pq (λ_ E=>Qq (S.J E hj) U U)<|pk<|xg<|(Z0 (hv.al.I V)).mono ?_
 rintro r4 w4 ⟨Y,hw⟩;refine⟨(V.D Y).any,?_⟩;refine pk<|xg<|(Z0 ((hv.mr.I V).I Y)).mono ?_;rintro r5 w5 ⟨hf,hy⟩;refine⟨((V.D Y).D hf).any,?_⟩;refine pk<|xg<|(KQ (((hv.ed.I V).I Y).I hf)).mono ?_;rintro r6 w6 ⟨hz,h2⟩;have hl:=((V.D Y).D hf).D hz;refine⟨hl.any,?_⟩;refine p (λ_=>Qz ⟨xM hw,U,xM hy,xM h2,Z⟩)<|p (λ_=>Zf [(0,[.string q.nm]),(1,[r4,oF oG q.p.a.st,r5,r6])] ⟨U,U,U,U,Z⟩)<|pk<|QC (us:=[QO ⟨q.nm,⟨r4,r5,r6,q.p.a⟩⟩]) U U og oe ⟨rfl,rfl,Z⟩ λhZ w7 ha ga hJ=>⟨(hl.D ha).any,?_⟩;have hn:=(hh.D hl).D ha;have gb:=hn.size;have gc:({ G with drawn:=G.drawn+1 }:O1).heap.size=G.heap.size:=rfl
 have gg:=Y.size;have gh:=hf.size;refine pk<|Za (m:=1) (news:=QO ⟨q.nm,⟨r4,r5,r6,q.p.a⟩⟩) (L:=[]) (Qp hR1.own hn) U U U (hJ.at oe) (λu hu=>by
   simp only[oL,oJ,or_false]at hu;rcases hu with rfl|rfl|rfl|rfl|rfl
   ·rfl
   ·exact Qt hw
   ·rfl
   ·exact Qt hy
   exact Qt h2) oa oa λv8 w8 hK h4 hM=>⟨(hl.D ha).any.Q h4,?_⟩
 refine p ZN<|pe ?_;have hN:=H.al.le;have hO:=H.mr.le;have hP:=H.ed.le;have hQ:IvP w.heap.size w8 v8 (qo++[⟨q.nm,⟨r4,r5,r6,q.p.a⟩⟩]):=hR1.app hn (λt ht=>by
  simp only[oL,oJ,or_false]at ht;rcases ht with rfl|rfl|rfl
  ·exact⟨_,_,Qp (Qp (Qp hw hf) hz) ha,hN,oa⟩
  ·exact⟨_,_,Qp (Qp hy hz) ha,hO,oa⟩
  exact⟨_,_,Qp h2 ha,hP,oa⟩) oa hK h4 hM
 refine Qw<|QP U U<|Qa<|xe<|⟨(k+1,v8,_),oh,oA,J,(I.D hn).then h4 (λb hb=>.inr (hs b hb).1),hQ,?_,λq' hR=>?_⟩
 ·simp only[];rw[h8,Ls,he];rfl
 rcases Lc.1 hR with h9|h9
 ·exact ho q' h9
 simp only[oI]at h9;subst h9;exact hF
theorem jB {bm:Nat}{H v1 v2 v3:O2}{co:LI}{mi:Bool}(I:Zb w.heap bp 309 [H,v1,v2,v3])(E:Zb w.heap bm 4 [.bool mi])(J:QQ L w.heap H co)(hi:YY co)(n:Int):
  Q6 prog 230 [oF oG n,.pointer (some ⟨bp,0,none⟩),.pointer (some ⟨bm,0,none⟩)] w λr w'=>O5 [bm] w w'/\r=oF oG (lwB co n)/\Zb w'.heap bm 4 [.bool (mi || !decide (n∈co))]:=by
 refine Zq func230 ?_;refine Qc<|Qb<|Qc<|Qs U I U U<|Qa<|QM<|(QcM J hi n).mono ?_;rintro r1 O ⟨rfl,rfl⟩;refine Qa<|Q7 U U<|Q7 U U<|x Ql<|Qb<|Q3 (α:=Bool) [(14,18)] (λz=>[]) (λz w'=>O5 [bm] O w'/\Zb w'.heap bm 4 [.bool (mi || !decide (n∈co))]) ol ?_ ?_
 ·refine Qw<|xB (Qq E U U) (λG=>?_) (λG=>?_)
  ·refine Qa<|Qr<|Qr<|QH U<|Qe<|QB (j:=0) (u:=.bool true) E U U oe rfl λw2 S V=>xe ?_;exact⟨true,Z,S,by rw[G];exact V⟩
  refine Qa<|Qa<|x (Zx U)<|QH U<|Qe<|QB (j:=0) (u:=.bool (!decide (n∈co))) E U U oe rfl λw3 Y ha=>xe ?_;exact⟨true,Z,Y,by rw[G];exact ha⟩
 rintro z g w4 ⟨hb,hc⟩;refine Qm<|Qb<|Qk ⟨[_],La,hb,U,hc⟩
theorem YG.of_lt {base:Nat}{v:O2}(h:∀L:LN,(∀b∈L,b<N)->Zn L H v n sz cs)(I:base<=N)(E:∀b∈av,b<N):YG base av H v n sz cs:=λL G =>
 h L (λb hbL=>(G b hbL).elim (λh=>oa) (E b))
theorem KI (L:LN)(H:xC):QQ L H (nS) []:=Zn.nil L H 1
open Go.RowKit
def yP (P:O4)(all:xE)(C:xA)(K:LN->Fr->O1->Prop):xu->LN->Fr->O1->Prop
 | [],own,f,w=>K own f w
 | (j,true)::l,own,f,w=>Yb all f (QV all j)=true/\∃v,(∀w',(U4 (QV all j)=true->C w')->(execOp (ev f) (QV all j)).run P w'=.ok (.value v) w')/\yP P all C K l own (QW f (QV all j).dst v) w
 | (j,false)::l,own,f,w=>Yb all f (QV all j)=true/\∀w1,O5 [] w w1->C w1->XO P (QV all j) f w1 λE w'=>C w'/\∃own',O5 own w1 w'/\(∀b∈own',b∈own\/(w1.heap.size<=b/\b<w'.heap.size))/\yP P all C K l own' E w'
section
variable {all:xE}{C:xA}{KF:LN->Fr->O1->Prop}
theorem yP.I (hK:∀own f w w',KF own f w->O5 [] w w'->KF own f w'):∀{l:xu}{own:LN}{f:Fr}{w w':O1},yP P all C KF l own f w->O5 [] w w'->yP P all C KF l own f w'
 | [],_,_,_,_,h,E=>hK _ _ _ _ h E
 | (_,true)::_,_,_,_,_,h,E=>by
  obtain⟨G,v,H,hx⟩:=h;exact⟨G,v,H,yP.I hK hx E⟩
 | (_,false)::_,_,_,_,_,h,E=>⟨h.1,λI J O=>h.2 I (E.D J) O⟩
structure Fl2 (P:O4)(all:xE)(C:xA)(K:xz)(KF:LN->Fr->O1->Prop)(i d:Nat)(rest:xu)(Φ:O2->O1->Prop)(Dc:xw)(f1:Fr):Prop where
 stab:∀v (own:LN) w w',Φ v w->O5 own w w'->(∀b∈ow v,b∉own)->Φ v w'
 spec:∀f w,(∀t,Xi Dc t=false->f t=f1 t)->C w->XO P (QV all i) f w λf' w'=>O5 [] w w'/\C w'/\Φ (f' d) w'/\∀b∈ow (f' d),w.heap.size<=b/\b<w'.heap.size
 fin:∀own f w,KF own f w->∀v,C w->Φ v w->(∀b∈ow v,b∉own/\b<w.heap.size)->XP P all C K rest (QW f (some d) v) w
 mono:∀own f w w',KF own f w->O5 [] w w'->KF own f w'
attribute [local semireducible] XP in
theorem qC {i d:Nat}{rest:xu}{Φ:O2->O1->Prop}{Dc:xw}{f1:Fr}(H:Fl2 P all C K KF i d rest Φ Dc f1)(O:Region.noSelect all.toArray=true){v:O2}:∀(l:xu) (own:LN) (f:Fr) (w:O1),ZS all d l=true->yP P all C KF l own f w->C w->Φ v w ->
  (∀b∈ow v,b∉own/\b<w.heap.size)->XP P all C K (l++rest) (QW f (some d) v) w
 | [],own,f,w,_,h,I,J,E=>H.fin own f w h v I J E
 | (j,q)::l,own,f,w,hfr,h,I,J,E=>by
  simp only[ZS,oS,oK,Og,List.contains_eq_mem,decide_eq_false_iff_not,beq_eq_false_iff_ne,ne_eq]at hfr;obtain⟨⟨S,T⟩,hfr⟩:=hfr;have V:ZS all d l=true:=by simpa[ZS]using hfr
  have ha:∀cs b,(QV all j).op≠.select cs b:=by
   intro cs b;cases Y:all[j]? with
   | none =>
    have:QV all j=default:=by
     clear h S T hfr V;have key:∀(l:xE) (j:Nat),l[j]?=none->QV l j=default:=by
      intro l;induction l with
      | nil=>intro j _;rfl
      | cons a l ih=>intro j hj;cases j with|zero=>simp at hj|succ j=>exact ih j (oz hj)
     exact key all j Y
    rw[this];intro e;cases e
   | some o=>rw[Zm Y];exact Region.noSelect_spec O j o cs b (oz Y)
  have hd:∀e,some d=some e->e∉(QV all j).looksAt all.toArray:=λe he=>by cases he;exact S
  cases q with
  | true =>
   obtain⟨hg,u,hu,hx⟩:=h;simp only[Ob,XP];rw[Jc (QV all j) f (some d) v hd,hg,cond_true,cond_true];refine⟨u,λw' hc=>?_,?_⟩
   ·rw[Xw (all:=all) ha f (some d) v hd];exact hu w' hc
   rw[Kj f v u (λe he=>by cases he;exact T)];exact qC H O l own _ w V hx I J E
  | false =>
   simp only[Ob,XP];rw[Jc (QV all j) f (some d) v hd,h.1,cond_true,cond_false];refine Qbh (all:=all) ha S T (λu w' hx=>?_) (h.2 w (O5.Z _ _) I);obtain⟨hf,own',hh,hi,hx⟩:=hx;refine⟨.inr (.inr hf),qC H O l own' _ w' V hx hf (H.stab v own w w' J hh (λb G=>(E b G).1)) (λb G=>⟨λhm=>?_,LW (E b G).2 hh.size⟩)⟩;rcases hi b hm with h3|h3
   ·exact(E b G).1 h3
   exact Nq _ (LW (E b G).2 h3.1)
theorem QdZ {i d:Nat}{rest:xu}{Φ:O2->O1->Prop}{Dc:xw}{f1:Fr}(J:Fl2 P all C K KF i d rest Φ Dc f1)(hs:Region.noSelect all.toArray=true)(hg:(QV all i).guard=none)(hd:(QV all i).dst=some d):∀(l:xu) (ls:Array Bool) (own:LN) (f:Fr) (w:O1),ls.size=all.length->ZS all d l=true->Z2 all Dc l=true->(∀t,Xi Dc t=false->f t=f1 t) ->
  yP P all C KF l own f w->C w->(∀b∈own,b<w.heap.size)->V5 all.toArray i rest l ls=true->XA P all C K (l.length+1+rest.length) ls f w
 | [],ls,own,f,w,hc,hfr,O,hk1,h,S,ha,E=>by
  simp only[V5,oK,beq_iff_eq]at E;obtain⟨T,E⟩:=E;rw[show([]:xu).length+1+rest.length=rest.length+1 by simp;omega];refine XK (λh0=>(by rw[h0]at T;cases T)) ?_;rw[T];intro k hk o H;have hh:k=i:=by simpa using hk
  subst hh;have he:=Zm H;have hx:=J.spec f w hk1 S;rw[he]at hg hd hx;rw[JM hg,cond_true];refine hx.mono λv w' hx=>?_;rw[hd]at hx ⊢;obtain⟨h1,G,I,V⟩:=hx;simp only[QW,YO]at I V;refine⟨.inr (.inr G),ZQ hs rest _ _ _ (oz hc) (.inl G) E (J.fin own f w' (J.mono own f w w' h h1) v G I (λb Y=>⟨λhm=>Nq _ (LW (ha b hm) (V b Y).1),(V b Y).2⟩))⟩
 | (j,true)::l,ls,own,f,w,hc,hfr,O,hk1,h,S,ha,E=>by
  simp only[V5,oK]at E;obtain⟨⟨T,hf⟩,hi⟩:=E;have hq:j∈Region.ready .any all.toArray ls:=by simpa using T
  have e:(oP ((j,true)::l))+1+rest.length=(l.length+1+rest.length)+1:=by simp;omega
  rw[e];have hl:ZS all d l=true:=by simp only[ZS,oS,oK]at hfr;exact hfr.2
  simp only[Z2,oS,oK]at O;have hn:Z2 all Dc l=true:=O.2;cases H:all[j]? with
  | none =>
   exfalso;obtain⟨_,o,hz,_⟩:=mem_ready.1 hq;simp[H]at hz
  | some o =>
   obtain⟨ht,v,hv,hx⟩:=h;rw[Zm H]at ht hv hx;have h5:∀(j:Nat) (o:Oper) cs b,all[j]?=some o->o.op≠.select cs b:=λj o cs b hj=>Region.noSelect_spec hs j o cs b (oz hj);have h6:=λk ok hk=>Region.free_spec (ops:=all.toArray) (md:=.any) (i:=j) (oi:=o) (listed:=ls) (oz H) hf k ok (oz hk);exact Xj (v:=v) (D:=λw=>U4 o=true->C w) H (λ_ h=>h) h5 _ ls f w (λ_=>S) h6 hq (.inl ⟨ht,hv⟩) (QdZ J hs hg hd l _ own _ w (oz hc) hl hn (by have:=JK (v:=v) O.1 hk1;rw[Zm H]at this;exact this) hx S ha hi)
 | (j,false)::l,ls,own,f,w,hc,hfr,O,hk1,h,S,ha,E=>by
  simp only[V5,oK,Om,Bool.or_eq_true,beq_iff_eq,Og]at E;obtain⟨⟨⟨hu,T⟩,h7⟩,hi⟩:=E;have e:(oP ((j,false)::l))+1+rest.length=(l.length+1+rest.length)+1:=by simp;omega
  rw[e];have hl:ZS all d l=true:=by simp only[ZS,oS,oK]at hfr;exact hfr.2
  simp only[Z2,oS,oK]at O;have hn:Z2 all Dc l=true:=O.2;refine XK (λh0=>(by rw[h0]at hu;cases hu)) ?_;intro k hk o H;have he:=Zm H;have hw:(ls.setIfInBounds k true).size=all.length:=by simpa using hc
  by_cases hh:k=i
  ·subst hh;have hx:=J.spec f w hk1 S;rw[he]at hg hd hx;rw[JM hg,cond_true];refine hx.mono λv w' hx=>?_;rw[hd]at hx ⊢;obtain⟨h1,G,I,V⟩:=hx;simp only[QW,YO]at I V;refine⟨.inr (.inr G),?_⟩;have hx:=qC J hs ((j,false)::l) own f w' hfr (yP.I J.mono h h1) G I (λb Y=>⟨λhm=>Nq _ (LW (ha b hm) (V b Y).1),(V b Y).2⟩);have:=ZQ hs ((j,false)::(l++rest)) _ _ _ hw (.inl G) h7 hx;rw[show((j,false)::(l++rest)).length=l.length+1+rest.length by simp;omega]at this;exact this
  have h8:k=j:=(T k hk).resolve_right hh;subst h8;have h1:=h.1;have G:=h.2 w (O5.Z _ _) S;rw[he]at h1 G;rw[h1,cond_true];refine G.mono λv w' hx=>?_;obtain⟨hy,own',h9,hA,hx⟩:=hx;refine⟨.inr (.inr hy),QdZ J hs hg hd l _ own' _ w' hw hl hn (by have:=JK (v:=v) O.1 hk1;rw[he]at this;exact this) hx hy (λb Y=>?_) hi⟩;rcases hA b Y with I|I
  ·exact LW (ha b I) h9.size
  exact I.2
theorem yP.keeps {D:xw}{f0:Fr}:∀(l:xu) (own:LN) (f:Fr) (w:O1),Z2 all D l=true->(∀t,Xi D t=false->f t=f0 t)->yP P all C KF l own f w->yP P all C (λo G w'=>(∀t,Xi D t=false->G t=f0 t)/\KF o G w') l own f w
 | [],own,f,w,_,E,h=>⟨E,h⟩
 | (j,true)::l,own,f,w,hd,E,h=>by
  simp only[Z2,oS,oK]at hd;obtain⟨H,v,I,hx⟩:=h;exact⟨H,v,I,yP.keeps l own _ _ hd.2 (JK hd.1 E) hx⟩
 | (j,false)::l,own,f,w,hd,E,h=>by
  simp only[Z2,oS,oK]at hd;refine⟨h.1,λJ O S=>XO.mono (λv w' hx=>?_) (h.2 J O S)⟩;obtain⟨T,own',V,Y,hx⟩:=hx;exact⟨T,own',V,Y,yP.keeps l own' _ _ hd.2 (JK hd.1 E) hx⟩
theorem f2p {l:xu}{own:LN}{v:O2}(E:∀w',(execOp (ev f) (QV all j)).run P w'=.ok (.value v) w')(h:yP P all C KF l own (QW f (QV all j).dst v) w)
  (G:Yb all f (QV all j)=true:=by rfl):yP P all C KF ((j,true)::l) own f w:=⟨G,v,λw' _=>E w',h⟩
theorem f2k {l:xu}{own:LN}(h:∀w1,O5 [] w w1->C w1->XO P (QV all j) f w1 λE w'=>C w'/\∃own',O5 own w1 w'/\(∀b∈own',b∈own\/(w1.heap.size<=b/\b<w'.heap.size))/\yP P all C KF l own' E w')
  (G:Yb all f (QV all j)=true:=by rfl):yP P all C KF ((j,false)::l) own f w:=⟨G,h⟩
theorem f2e {own:LN}(h:KF own f w):yP P all C KF [] own f w:=h
theorem VG {Q:Exit->Fr->O1->Prop}(C:xA)(pre l:xu)(i d:Nat)(rest:xu)(own:LN)(D Dc:xw)(S:α->List (Nat×O2))(I:α->LN->O1->Prop)(Φ:O2->O1->Prop)(hm:P.follows .mixedOrders=true)(hn:XS n all=true)
  (T:QdE all pre l i rest=true) (J:(Z2 all D pre && Z2 all D l && Z2 all Dc l)=true) (hd:(QV all i).dst=some d) (V:C { w with drawn:=w.drawn+1 }) (ha:∀b∈own,b<w.heap.size)
  (stab:∀v (own:LN) w w',Φ v w->O5 own w w'->(∀b∈ow v,b∉own)->Φ v w') (mono:∀z own w w',I z own w->O5 [] w w'->I z own w')
  (fin:∀z g own w v,I z own w->C w->Φ v w->(∀b∈ow v,b∉own/\b<w.heap.size)->XP P all C (λf w=>Q .normal f w) rest (QW (qR (S z) (mix D f g)) (some d) v) w)
  (h:XP P all C (λf1 _=>(∀g w,C w->XO P (QV all i) (mix Dc f1 g) w λE w'=>O5 [] w w'/\C w'/\Φ (E d) w'/\∀b∈ow (E d),w.heap.size<=b/\b<w'.heap.size)/\yP P all C (λo E w'=>∃z,Xy E (S z)/\I z o w') l own f1 { w with drawn:=w.drawn+1 }) pre f { w with drawn:=w.drawn+1 }):W P n (.region id all.toArray true) Q f w:=by
 rw[Lx,Lx]at J;simp only[QdE,oK,beq_iff_eq,Option.isNone_iff_eq_none]at T;obtain⟨⟨⟨⟨⟨G,hl⟩,hq⟩,hc⟩,hg⟩,hfr⟩:=T;rw[hd]at hfr;refine JQ C hm hn ?_;have Y:=YI (K:=λf w=>Q .normal f w) (m:=l.length+1+rest.length) G pre (oU all.length false) f _ V hq
  (B:=λf1 _=>Fl2 P all C (λf w=>Q .normal f w) (λo E w'=>(∀t,Xi D t=false->E t=f t)/\∃z,Xy E (S z)/\I z o w') i d rest Φ Dc f1/\yP P all C (λo E w'=>(∀t,Xi D t=false->E t=f t)/\∃z,Xy E (S z)/\I z o w') l own f1 { w with drawn:=w.drawn+1 })
  (λf1 hB=>QdZ hB.1 G hg hd l (Z8 pre (oU all.length false)) own f1 _ (by rw[YM];simp) hfr J.2 (λ_ _=>rfl) hB.2 V ha hc)
  (XP.keeps_mono _ _ _ (XP.keeps pre f _ J.1.1 (λ_ _=>U) h) (λf1 w1 hx=>⟨⟨stab,?_,?_,?_⟩,yP.keeps l own _ _ J.1.2 hx.1 hx.2.2⟩))
 ·rw[hl]at Y;exact Y
 ·intro E w' H O;have:=hx.2.1 E w' O;rw[Jg H]at this;exact this
 ·rintro o E w' ⟨H,z,G,hi⟩ v O hv hb;have:=fin z E o w' v hi O hv hb;rw[Jg H,Y8 G]at this;exact this
 rintro o E w' hf ⟨H,z,G,hi⟩ he;exact⟨H,z,G,mono z o _ _ hi he⟩
end
attribute [irreducible] yP
abbrev Z6:LV:=[nS,nS,nS,nS,nS]
abbrev KJ:LV:=[nS,oF oG 0,nS,nS]
theorem Xu {a:Array UInt8}(h:a.size<=100):(⟨a⟩:ByteArray).size<=9223372036854775807:=by
 show a.size<=_;omega
def U2 (N M:Nat):LN:=(oT M).filter λb=>decide (N<=b)
theorem ZC :b∈U2 N M↔N<=b/\b<M:=by
 unfold U2;rw[L9,Nc,decide_eq_true_iff];exact And.comm
def VT (co:LI)(ls:xx):xx:=ls.map λl=>((lwB co l.1:Int),l.2)
theorem QeS {co:LI}(hi:YY co){ls:xx}(h:mis co ls=false):VT co ls=ixP co ls:=by
 unfold VT ixP;refine Nl λl hl=>?_;unfold mis at h;have E:=NA.1 h l hl;have G:l.1∈co:=by simpa using E
 rw[QeJ hi G]
abbrev exG (c:ZB)(i:Int):UV:=c.ex.getD i.toNat ⟨.empty,[]⟩
abbrev csG (c:ZB)(i:Int):xL:=c.cs.getD i.toNat ⟨.empty,[],0⟩
def exB (c:ZB)(co ix:LI):List UV:=ix.map λi=>⟨(exG c i).nm,VT co (exG c i).ls⟩
def csB (c:ZB)(co ix:LI):List xL:=ix.map λi=>⟨(csG c i).nm,VT co (csG c i).ts,(csG c i).bd⟩
def exM (c:ZB)(co ix:LI):Bool:=ix.any λi=>mis co (exG c i).ls
def csM (c:ZB)(co ix:LI):Bool:=ix.any λi=>mis co (csG c i).ts
theorem Qk9 (c:ZB)(p:Prt):QpA c p=(exM c p.co p.ex || csM c p.co p.cs):=rfl
theorem Ql6 {p:Prt}(hi:YY p.co)(h:exM c p.co p.ex=false):exB c p.co p.ex=Qk8 c p:=by
 unfold exB Qk8;refine Nl λi E=>?_;rw[QeS hi (by have:=NA.1 h i E;simpa using this)]
theorem Qms {p:Prt}(hi:YY p.co)(h:csM c p.co p.cs=false):csB c p.co p.cs=Qla c p:=by
 unfold csB Qla;refine Nl λi E=>?_;rw[QeS hi (by have:=NA.1 h i E;simpa using this)]
def ck4:List (O2×LI×Int)->Int
 | []=>0
 | (_,s,n)::l=>if Kr n none s≠0 then Kr n none s else ck4 l
abbrev skC (x:O2×LI×Int):LV:=[x.1,oF oG x.2.2]
theorem QnD (x:O2×LI×Int):(skC x).length=2:=rfl
theorem QcF:∀{l:List (O2×LI×Int)},ck4 l=0->∀x∈l,Kr x.2.2 none x.2.1=0
 | [],_,x,hx=>by cases hx
 | (v,s,n)::l,h,x,hx=>by
  rw[ck4]at h;by_cases E:Kr n none s≠0
  ·rw[OU E]at h;exact OW h E
  rw[OT E]at h;rcases Li.1 hx with rfl|hx
  ·exact Lo.1 E
  exact QcF h x hx
theorem Yz.app2 {g:α->LV}{p:α->O2×Nat×Nat×LV}{base e:Nat}{E G:O1}{v H:O2}{l:List α}{q:α}(h:Yz g sz T p base E v l)
  (O:E.ownsRow N e (p q).2.2.1 (p q).1 (p q).2.1 (p q).2.2.2) (S:(p q).2.1<=1099511627776) (V:base<=N) (Y:∀b∈ob v,b<N)
  (ho:G.ownsRow base T sz H (l.length+1) (l.flatMap g++g q)) (I:O5 (ob v) E G) (J:∀b∈ob H,b∈ob v\/E.heap.size<=b):Yz g sz T p base G H (l++[q]):=by
 refine⟨?_,λd hd=>?_⟩
 ·rw[Lk,LA];simpa using ho
 rcases Lc.1 hd with hd|hd
 ·exact(h.each d hd).app I J
 simp only[oI]at hd;subst hd;exact(YG.of_own O S V Y).app I J
instance:Bw prog 44 [nS,nS,nS,nS,nS] [(0,1),(1,1),(2,1),(3,1),(4,1)]:=⟨od,og⟩
theorem jH {v:O2}(h:v.oneCell'=true):v.cells=#[v]:=by
 cases v <;> first|rfl|cases h
theorem QiP {v:O2}(h:∀L:LN,(∀b∈L,b<N)->XM L w'.heap v qs)(hM:w'.heap.size=M)(G:∀b∈L,b∉U2 N M):XM L w'.heap v qs:=by
 refine(h (L.filter λb=>decide (b<N)) (λb E=>by have:=(L9.1 E).2;exact OY this)).up (λb E=>?_);by_cases H:b<N
 ·exact .inl (L9.2 ⟨E,OX H⟩)
 refine .inr ?_;have:=G b E;rw[ZC]at this;omega
structure EiA (L:LN)(H:xC)(z:O2×O2×O2)(ev:List J9)(qc qr:List IV):Prop where
 ev:VQ L H z.1 ev
 co:XM L H z.2.1 qc
 rq:XM L H z.2.2 qr
theorem EiA.I {L:LN}{w w':O1}{z:O2×O2×O2}{ev:List J9}{qc qr:List IV}(h:EiA L w.heap z ev qc qr)(E:O5 [] w w'):EiA L w'.heap z ev qc qr:=⟨h.ev.I E,h.co.I E,h.rq.I E⟩
theorem EiA.st {L:LN}{w w':O1}{z:O2×O2×O2}{ev:List J9}{qc qr:List IV}(h:EiA L w.heap z ev qc qr)(E:O5 L w w'):EiA L w'.heap z ev qc qr:=⟨h.ev.st E,h.co.st E,h.rq.st E⟩
theorem EiA.up {L L':LN}{H:xC}{z:O2×O2×O2}{ev:List J9}{qc qr:List IV}(h:EiA L H z ev qc qr)(E:∀b∈L',b∈L\/H.size<=b):EiA L' H z ev qc qr:=⟨h.ev.up E,h.co.up E,h.rq.up E⟩
theorem QdU {c:CL}{v0 v1 v2 v3:O2}{p:Prt}(V:ZK L w.heap c)(hc0:QQ L w.heap v0 p.co)(hr0:QQ L w.heap v1 p.rq)(hx0:QQ L w.heap v2 p.ex)(hk0:QQ L w.heap v3 p.cs):
  Q6 prog 162 [c.val,.agg #[v0,v1,v2,v3]] w λr w'=>O5 [] w w'/\∃us,r=.tuple #[.agg us.toArray,oF oG (QaB c.V p)]/\us.length=5/\Zr us/\(QaB c.V p≠0->us=Z6)/\(QaB c.V p=0->Qed w.heap.size w'.heap (.agg us.toArray) (QfM c.V p)):=by
 have h:=V.up (L':=[]) oe;have I:=hc0.up (L':=[]) oe;have hr:=hr0.up (L':=[]) oe;have hx:=hx0.up (L':=[]) oe;have hk:=hk0.up (L':=[]) oe;have Y:QaB c.V p=if Zl c.V≠0 then Zl c.V else if ck4 [(v0,p.co,(c.co.length:Int)),(v1,p.rq,(c.rq.length:Int)),(v2,p.ex,(c.ex.length:Int)),(v3,p.cs,(c.cs.length:Int))]≠0 then ck4 [(v0,p.co,(c.co.length:Int)),(v1,p.rq,(c.rq.length:Int)),(v2,p.ex,(c.ex.length:Int)),(v3,p.cs,(c.cs.length:Int))]
   else if(exM c.V p.co p.ex || csM c.V p.co p.cs)=true then 13 else Zl (QfM c.V p):=by
  have e1:c.V.co.length=c.co.length:=Lh ..;have e2:c.V.rq.length=c.rq.length:=Lh ..;have e3:c.V.ex.length=c.ex.length:=Lh ..;have e4:c.V.cs.length=c.cs.length:=Lh ..;unfold QaB;rw[e1,e2,e3,e4,Qk9];simp only[ck4];by_cases q0:Zl c.V≠0
  ·rw[OU q0,OU q0]
  rw[OT q0,OT q0];by_cases q1:Kr (c.co.length:Int) none p.co≠0
  ·simp only[OU q1]
  simp only[OT q1];by_cases q2:Kr (c.rq.length:Int) none p.rq≠0
  ·simp only[OU q2]
  simp only[OT q2];by_cases q3:Kr (c.ex.length:Int) none p.ex≠0
  ·simp only[OU q3]
  simp only[OT q3];by_cases q4:Kr (c.cs.length:Int) none p.cs≠0
  ·simp only[OU q4]
  simp only[OT q4];simp
 refine Zk (QaB c.V p) λE hE=>?_;rw[hE]at Y ⊢;refine Zk [(v0,p.co,(c.co.length:Int)),(v1,p.rq,(c.rq.length:Int)),(v2,p.ex,(c.ex.length:Int)),(v3,p.cs,(c.cs.length:Int))] λS go=>?_;rw[go]at Y;have hl4n:S.length=4:=by rw[<-go];rfl
 have hl4i:∀x∈S,QQ [] w.heap x.1 x.2.1:=by
  rw[<-go];intro x O;simp only[oL,oJ,or_false]at O;rcases O with rfl|rfl|rfl|rfl
  ·exact I
  ·exact hr
  ·exact hx
  exact hk
 have hl4z:ck4 S=0->Kr (c.co.length:Int) none p.co=0/\Kr (c.rq.length:Int) none p.rq=0/\Kr (c.ex.length:Int) none p.ex=0/\Kr (c.cs.length:Int) none p.cs=0:=by
  intro V;have h1:=QcF V;rw[<-go]at h1;exact⟨h1 (v0,p.co,_) oe,h1 (v1,p.rq,_) oe,h1 (v2,p.ex,_) oe,h1 (v3,p.cs,_) oe⟩
 have hxl:=hx.le;have hkl:=hk.le;refine Zq func162 ?_;refine Qc<|Qe<|QS (us:=c.cells) U λb2 w1 hs1 hb2 m4=>Qe<|QS (us:=[v0,v1,v2,v3]) U λb3 w2 m5 hb3 hB3=>Qe<|Qo (us:=Z6) U λb4 w3 kj hb4 hB4=>Qb ?_;have hl2:=m4.lt;have hl3:=hB3.lt;have hl4':=hB4.lt;have hs03:=(hs1.D m5).D kj;refine Qd<|Qc<|Q5 ((m4.I m5).I kj) U U<|ZP<|(X2 (h.I hs03)).mono ?_;rintro r4 w4 ⟨rfl,gp⟩;refine Qb ?_;have m6:=hs03.D gp;have hz4:=gp.size;have gq:=((m4.I m5).I kj).I gp;have gr:=(hB3.I kj).I gp;have m7:=hB4.I gp;refine Qm<|ZA U U<|xe<|QY rfl (λkk=>?_) (λkk=>?_)
 ·rw[OU kk]at Y;subst Y;refine Qc<|x (Qz Z)<|Qa<|Qe<|Qj (us:=Z6) m7 U U U U ⟨U,U,U,U,U,Z⟩ λw5 hs5 hB45=>Qb<|Qk ⟨[.agg Z6.toArray,oF oG (Zl c.V)],⟨⟨_,U,Qn U (hB45.at (L:=[]) oe).cells⟩,rfl,Z⟩,m6.O hs5 oa,Z6,rfl,rfl,⟨rfl,rfl,rfl,rfl,rfl,Z⟩,λ_=>rfl,λV=>OW V kk⟩
 rw[OT kk]at Y;refine Qh ?_;have h4:=h.I m6;refine Qd<|Qc<|Qs U gr U U<|Qs U gq U U<|QK h4.co.arr U<|x (Qz ⟨I.cells,U,Z⟩) <|
  Qs rfl gr U U<|Qs U gq U U<|QK h4.rq.arr U<|x (Qz ⟨hr.cells,U,Z⟩) <|
  Qs rfl gr U U<|Qs U gq U U<|QK h4.ex.arr U<|x (Qz ⟨hx.cells,U,Z⟩) <|
  Qs rfl gr U U<|Qs U gq U U<|QK h4.cs.arr U<|x (Qz ⟨hk.cells,U,Z⟩) <|
  Qe<|QC (us:=[skC (v0,p.co,(c.co.length:Int)),skC (v1,p.rq,(c.rq.length:Int)),skC (v2,p.ex,(c.ex.length:Int)),skC (v3,p.cs,(c.cs.length:Int))]) U U og oe ⟨rfl,rfl,rfl,rfl,rfl,rfl,rfl,rfl,Z⟩ λb54 w6 hY hb54 hB54=>?_
 have hA54:Zn [] w6.heap (.slice (some ⟨b54,0,none⟩) 4 4) S.length 2 (S.flatMap skC):=by
  have:=hB54.arr (L:=[]) oe (n:=4) (cap:=4) (sz:=2) ol oa (Lu _);rw[hl4n,<-go];exact this
 refine QK hA54 U<|Qa<|xe ?_;have hs06:=m6.D hY;have hz6:=hY.size;refine Qf<|QD (α:=Nat) [(5,5),(8,9),(56,69)] (λz=>[(56,oF oG z)]) (λz w'=>z<=S.length/\O5 [] w6 w'/\ck4 (S.drop z)=ck4 S) (λz=>S.length - z) ol 0 La ⟨Ln _,O5.Z _ _,U⟩ ?_;rintro k g w7 ⟨hkl4,hD,hF⟩;have gs:=hs06.D hD;have hz7:=hD.size;refine Qc<|QZ U U<|xe<|Qd<|QG U (λm8=>?_) (λm8=>?_)
 ·refine Qy ?_;have hke:S.length<=k:=by have hw:¬(k:Int)<(S.length:Int):=m8;omega
  rw[Lq hke]at hF;have hck0:ck4 S=0:=hF.symm;rw[OT (λV=>V hck0)]at Y;obtain⟨zco,zrq,zex,zcs⟩:=hl4z hck0;have gt:=(XI _ _ _).1 zco;have hrq:=(XI _ _ _).1 zrq;have hexz:=(XI _ _ _).1 zex;have hcsz:=(XI _ _ _).1 zcs;have h7:=h.I gs;have kn:Zb w7.heap b2 44 c.cells:=(gq.I hY).I hD;have m9:Zb w7.heap b3 309 [v0,v1,v2,v3]:=(gr.I hY).I hD;have hB47:Zb w7.heap b4 44 Z6:=(m7.I hY).I hD;have hsd:O5 [] w7 { w7 with drawn:=w7.drawn+1 }:=O5.C _ _
  refine Q3 (α:=Nat×(O2×O2×O2)×List IV×List IV) [(70,83),(10,10)] (λz=>[(10,.pointer (some ⟨z.1,0,none⟩))]) (λz w'=>O5 [] w7 w'/\w7.heap.size<=z.1/\Zb w'.heap z.1 44 [z.2.1.1,z.2.1.2.1,z.2.1.2.2,nS,nS] /\
   z.2.2.1.map IV.it=chs c.V.co p.co/\z.2.2.2.map IV.it=chs c.V.rq p.rq/\Zr [z.2.1.1,z.2.1.2.1,z.2.1.2.2]/\∀L:LN,(∀b∈L,b<w7.heap.size\/b=z.1)->EiA L w'.heap z.2.1 c.ev z.2.2.1 z.2.2.2) ol ?_ ?_
  ·refine VG (α:=(O2×O2×O2)×List IV×List IV) (O5 [] w7) [oD 0,oD 1,oD 3,oD 4,oD 5,oD 6,oD 8,oD 9,oD 10,oD 11] [oE 2,oE 7,oE 12,oD 13] 14 10 [oE 15] []
    [(70,83)] [(72,72),(77,77),(82,83)] (λz=>[(83,.agg #[z.1.1,z.1.2.1,z.1.2.2,nS,nS])])
    (λz own w'=>(∀b∈own,w7.heap.size<=b)/\z.2.1.map IV.it=chs c.V.co p.co/\z.2.2.map IV.it=chs c.V.rq p.rq/\Zr [z.1.1,z.1.2.1,z.1.2.2]/\∀L:LN,(∀b∈L,b∉own)->EiA L w'.heap z.1 c.ev z.2.1 z.2.2)
    (λv w'=>∃b,v=.pointer (some ⟨b,0,none⟩)/\w7.heap.size<=b/\Zb w'.heap b 44 Z6) mixed ol od ol U hsd oe ?_ ?_ ?_ ?_
   ·rintro v own wa wb ⟨b,rfl,G,hB⟩ hs hn;exact⟨b,U,G,hB.J hs (hn b ot)⟩
   ·rintro z own wa wb ⟨h1,h2,h3,h4,h5⟩ hs;exact⟨h1,h2,h3,h4,λL hL=>(h5 L hL).I hs⟩
   ·rintro⟨zv,qc,qr⟩ g own wz v ⟨i1,i2,i3,i4,i5⟩ hCz ⟨J,rfl,ko,hB10⟩ hbo;simp only[]at i2 i3 i4 i5;have hb10o:=(hbo J ot).1;refine pkl (hl:=by kernel_rfl)<|Qj (us:=[zv.1,zv.2.1,zv.2.2,nS,nS]) hB10 U U U U ⟨i4.1,i4.2.1,i4.2.2.1,U,U,Z⟩ λw8 hZ hB108=>pe ?_;refine⟨(J,zv,qc,qr),La,hCz.O hZ ko,ko,hB108,i2,i3,i4,λL hL=>?_⟩;have h1:=i5 (J::L) (λb G=>by
     rcases Li.1 G with rfl|G
     ·exact hb10o
     rcases hL b G with h2|h2
     ·exact λh3=>ou (i1 b h3)
     subst h2;exact hb10o)
    exact(h1.st (hZ.mono oe)).up (λb G=>.inl (by simp[G]))
   refine Go.Lg.p (QR U)<|pq (λ_ I=>Qq (kn.I I) U U)<|Go.Lg.p (QR U)<|pq (λ_ I=>Qq (kn.I I) U U) <|
    Go.Lg.p (QR U)<|pq (λ_ I=>Qq (m9.I I) U U)<|Go.Lg.p (QR U)<|pq (λ_ I=>Qq (kn.I I) U U) <|
    Go.Lg.p (QR U)<|pq (λ_ I=>Qq (m9.I I) U U)<|pe ⟨λg wf hCf=>Qo (us:=Z6) U λb wf' hsf hbf hBf=>⟨hsf,hCf.D hsf,⟨b,U,LJ hCf.size hbf,hBf⟩,λx hx=>?_⟩,?_⟩
   ·have hxe:x=b:=by
     have hx':x∈[b]:=hx;simpa using hx'
    subst hxe;exact⟨hbf,hBf.lt⟩
   refine f2k λx1 p1 c1=>xf<|(V9 (h7.ev.I c1).arr).mono ?_;rintro pa y1 ⟨hs1',ga⟩;refine⟨c1.D hs1',U2 x1.heap.size y1.heap.size,hs1'.any,λb G=>.inr (ZC.1 G),?_⟩;refine f2k λx2 p2 c2=>xf<|(yM (h7.co.I c2) (I.I (gs.D c2)) (λi hi=>gt.1 i hi)).mono ?_;rintro r77 y2 ⟨pc,⟨qc,kq,hqcI⟩,kr⟩;refine⟨c2.D pc,U2 x1.heap.size y1.heap.size++U2 x2.heap.size y2.heap.size,pc.any,λb G=>(Lc.1 G).imp id λG=>ZC.1 G,?_⟩;refine f2k λx3 p3 c3=>xf<|(yM (h7.rq.I c3) (hr.I (gs.D c3)) (λi hi=>hrq.1 i hi)).mono ?_;rintro r82 y3 ⟨kt,⟨qr,ku,hqrI⟩,kv⟩;refine⟨c3.D kt,(U2 x1.heap.size y1.heap.size++U2 x2.heap.size y2.heap.size)++U2 x3.heap.size y3.heap.size,kt.any,λb G=>(Lc.1 G).imp id λG=>ZC.1 G,?_⟩;refine f2p (λ_=>Zf [(0,[pa]),(1,[r77]),(2,[r82])] ⟨xM ga,U,jH kr,U,jH kv,U,Z⟩)<|f2e ?_;refine⟨((pa,r77,r82),qc,qr),La,λb G=>?_,kq,ku,⟨Qt ga,kr,kv,Z⟩,λL hL=>?_⟩
   ·have e1:=c1.size;have e2:=c2.size;have e3:=c3.size;rcases Lc.1 G with G|G
    ·rcases Lc.1 G with G|G
     ·have:=ZC.1 G;omega
     have:=ZC.1 G;omega
    have:=ZC.1 G;omega
   have hL1:∀b∈L,b∉U2 x1.heap.size y1.heap.size:=λb G O=>hL b G (by simp[O]);have hL2:∀b∈L,b∉U2 x2.heap.size y2.heap.size:=λb G O=>hL b G (by simp[O]);have hL3:∀b∈L,b∉U2 x3.heap.size y3.heap.size:=λb G O=>hL b G (by simp[O]);have hev1:VQ L y1.heap pa c.ev:=⟨QJ ga h.ev.arr.le (λb G O=>hL1 b O (ZC.2 (Qi ga b G))),h.ev.nm⟩;exact⟨(((hev1.I p2).I pc).I p3).I kt,((QiP hqcI U hL2).I p3).I kt,QiP hqrI U hL3⟩
  rintro⟨J,zv,qc,qr⟩ g wc ⟨hsc,ko,pd,kq,ku,kw,hEi⟩;simp only[]at ko pd kq ku kw hEi;have hl10:=pd.lt;refine Qc<|Qe<|Qo (us:=[.bool false]) U λH w8 hZ hb11 hB11=>Qe<|QB (j:=0) (u:=.bool false) hB11 U U oe rfl λw9 pf kz=>xe ?_;have k0:O5 [] wc w9:=hZ.O pf hb11;have hG:=hsc.D k0;have gu:=gs.D hG;have hz9:=k0.size;have hl11:=kz.lt;have hB109:=pd.I k0;have hB29:=kn.I hG;have hB39:=m9.I hG;have hB49:=hB47.I hG;have hn10:J≠H:=oa
  have hup:∀b∈[J,H],w.heap.size<=b:=λb G=>by simp only[oL,oJ,or_false]at G;omega
  have k4:∀b∈[J,H],b<w9.heap.size:=λb G=>by simp only[oL,oJ,or_false]at G;omega
  have hn2:b2∉[J,H]:=λG=>by simp only[oL,oJ,or_false]at G;omega
  have hn3:b3∉[J,H]:=λG=>by simp only[oL,oJ,or_false]at G;omega
  have hn4:b4∉[J,H]:=λG=>by simp only[oL,oJ,or_false]at G;omega
  have k5:∀b∈[J],b∈[J,H]:=λb G=>by simp only[oI]at G;simp[G]
  have k6:∀b∈[H],b∈[J,H]:=λb G=>by simp only[oI]at G;simp[G]
  have ga:=kw.1;have kr:=kw.2.1;have kv:=kw.2.2.1;refine Qc<|x (Zy (l:=[]) (l':=[_,_]))<|Qb<|Qd<|Qc<|Qs U hB39 U U<|QK (hx.I gu) U<|Qa<|xe<|Qf<|QD (α:=Nat×Bool×O2×List XV) [(14,15),(17,17),(88,129)] (λz=>[(88,oF oG z.1)]) (λz w'=>z.1<=p.ex.length/\O5 [J,H] w9 w'/\Zb w'.heap J 44 [zv.1,zv.2.1,zv.2.2,z.2.2.1,nS]/\Zb w'.heap H 4 [.bool z.2.1] /\
   XvN w9.heap.size w' z.2.2.1 z.2.2.2/\z.2.2.2.map (·.x)=exB c.V p.co (p.ex.take z.1)/\z.2.1=exM c.V p.co (p.ex.take z.1)/\∀q∈z.2.2.2,Jp q.nm) (λz=>p.ex.length - z.1) ol (0,false,nS,[]) La
   ⟨Ln _,O5.Z _ _,hB109,kz,Yz.nil,U,U,λq T=>by cases T⟩ ?_
  rintro⟨k,mi,vx,qx⟩ g he ⟨hk10,hM,pg,gv,k7,gw,k8,ph⟩;simp only[]at hk10 pg gv k7 gw k8 ph;have gx:O5 [] w he:=gu.then hM (λb G=>.inr (hup b G));have pj:=h.I gx;have pm:=hB29.J hM hn2;have pn:=hB39.J hM hn3;have po:=hB49.J hM hn4;have hz10:=hM.size;have hqxl:qx.length=k:=by have:=OV oP gw;unfold exB at this;rw[Lh,Lh,Ly]at this;omega
  refine Qc<|QZ U U<|xe<|Qd<|QG U (λhN=>?_) (λhN=>?_)
  ·refine Qy ?_;have pp:p.ex.length<=k:=by have hw:¬(k:Int)<(p.ex.length:Int):=hN;omega
   rw[Lt pp]at gw k8;have hlt10:∀b∈[J,H],b<he.heap.size:=λb G=>ou (k4 b G)
   refine Qd<|Qc<|Qs U pn U U<|QK (hk.I gx) U<|Qa<|xe<|Qf<|QD (α:=Nat×Bool×O2×List KV) [(19,20),(22,22),(133,180)] (λz=>[(133,oF oG z.1)]) (λz w'=>z.1<=p.cs.length/\O5 [J,H] he w'/\Zb w'.heap J 44 [zv.1,zv.2.1,zv.2.2,vx,z.2.2.1]/\Zb w'.heap H 4 [.bool z.2.1] /\
    KvN he.heap.size w' z.2.2.1 z.2.2.2/\z.2.2.2.map (·.k)=csB c.V p.co (p.cs.take z.1)/\z.2.1=(mi || csM c.V p.co (p.cs.take z.1))/\∀q∈z.2.2.2,Jp q.nm) (λz=>p.cs.length - z.1) ol (0,mi,nS,[]) La
    ⟨Ln _,O5.Z _ _,pg,gv,Yz.nil,U,by simp[csM],λq T=>by cases T⟩ ?_
   rintro⟨k,mk,vk,kx⟩ g hv ⟨hkk10,hH,kB1010,kB1110,kX10,gy,k9,pu⟩;simp only[]at hkk10 kB1010 kB1110 kX10 gy k9 pu;have gz:O5 [] w hv:=gx.then hH (λb G=>.inr (hup b G));have ma:=h.I gz;have kB210:=pm.J hH hn2;have kB310:=pn.J hH hn3;have kB410:=po.J hH hn4;have kz10:=hH.size;have hkxl:kx.length=k:=by have:=OV oP gy;unfold csB at this;rw[Lh,Lh,Ly]at this;omega
   refine Qc<|QZ U U<|xe<|Qd<|QG U (λhN=>?_) (λhN=>?_)
   ·refine Qy ?_;have pp:p.cs.length<=k:=by have hw:¬(k:Int)<(p.cs.length:Int):=hN;omega
    rw[Lt pp]at gy k9;have hmm:mk=(exM c.V p.co p.ex || csM c.V p.co p.cs):=by rw[k9,k8]
    rw[<-hmm]at Y;have kXu:XvN w9.heap.size hv vx qx:=Yz.low k7 hH k4;refine Qd<|Qc<|Y7 kB1110 U U<|xe<|QX U (λmf=>?_) (λmf=>?_)
    ·rw[OU mf]at Y;subst Y;refine Qc<|x (Qz Z)<|Qe<|Qj (us:=Z6) kB410 U U U U ⟨U,U,U,U,U,Z⟩ λu11 mg kB411=>Qb<|Qk ⟨[.agg Z6.toArray,oF oG 13],⟨⟨_,U,Qn U (kB411.at (L:=[]) oe).cells⟩,rfl,Z⟩,gz.O mg oa,Z6,rfl,rfl,⟨rfl,rfl,rfl,rfl,rfl,Z⟩,λ_=>rfl,λV=>OW V og⟩
    rw[OT (by rw[mf];simp)]at Y;refine Qh ?_;have hmf:(exM c.V p.co p.ex || csM c.V p.co p.cs)=false:=by rw[<-hmm];exact mf
    have hmf2:=MP.1 hmf;have hE1:qx.map (·.x)=Qk8 c.V p:=gw.D (Ql6 gt.2.1 hmf2.1);have hE2:kx.map (·.k)=Qla c.V p:=gy.D (Qms gt.2.1 hmf2.2);have hcel:(CL.mk zv.1 zv.2.1 zv.2.2 vx vk c.ev qc qr qx kx).V=QfM c.V p:=by
     show ZB.mk c.ev (qc.map IV.it) (qr.map IV.it) (qx.map (·.x)) (kx.map (·.k))=ZB.mk c.V.ev _ _ _ _;rw[kq,ku,hE1,hE2];rfl
    have hCu:∀L:LN,(∀b∈L,b<w.heap.size)->ZK (b4::L) hv.heap (CL.mk zv.1 zv.2.1 zv.2.2 vx vk c.ev qc qr qx kx):=by
     intro L hL;have e1:=hEi (b4::J::L) (λb G=>by
      rcases Li.1 G with rfl|G
      ·exact .inl oa
      rcases Li.1 G with rfl|G
      ·exact .inr U
      have:=hL b G;exact .inl oa)
     have e2:EiA (H::b4::J::L) wc.heap zv c.ev qc qr:=e1.up (λb G=>by
      rcases Li.1 G with rfl|G
      ·exact .inr hb11
      exact .inl G)
     have hm2:∀b∈[J,H],b∈H::b4::J::L:=λb G=>by
      simp only[oL,oJ,or_false]at G;rcases G with rfl|rfl <;> simp
     have e3:=((e2.I k0).st (hM.mono hm2)).st (hH.mono hm2);have e4:EiA (b4::L) hv.heap zv c.ev qc qr:=e3.up (λb G=>by
      rcases Li.1 G with rfl|G
      ·exact .inl oe
      exact .inl (by simp[G]))
     have hqx40:qx.length<=1099511627776:=oa
     have hkx40:kx.length<=1099511627776:=oa
     have pw:∀b∈b4::L,b<w9.heap.size:=λb G=>by
      rcases Li.1 G with rfl|G
      ·omega
      have:=hL b G;omega
     have hLt10:∀b∈b4::L,b<he.heap.size:=λb G=>ou (pw b G)
     exact⟨e4.ev,e4.co,e4.rq,⟨Yz.arr kXu hqx40 pw,λq T=>kXu.each q T _ (λb G=>.inl (pw b G)),ph⟩,⟨Yz.arr kX10 hkx40 hLt10,λq T=>kX10.each q T _ (λb G=>.inl (hLt10 b G)),pu⟩⟩
    rw[<-hcel]at Y;subst Y;refine Qd<|Qc<|Q5 kB1010 U U<|ZP<|(X2 (hCu [] oe)).mono ?_;rintro r12 hO ⟨rfl,gb⟩;refine Qb ?_;have g0:=gz.D gb;have kB412:=kB410.I gb;refine Qm<|ZA U U<|xe<|QY U (λmh=>?_) (λmh=>?_)
    ·refine Qc<|x (Qz Z)<|Qa<|Qe<|Qj (us:=Z6) kB412 U U U U ⟨U,U,U,U,U,Z⟩ λhI mo kB413=>Qb<|Qk ⟨[.agg Z6.toArray,oF oG (Zl (CL.mk zv.1 zv.2.1 zv.2.2 vx vk c.ev qc qr qx kx).V)],⟨⟨_,U,Qn U (kB413.at (L:=[]) oe).cells⟩,rfl,Z⟩,g0.O mo oa,Z6,rfl,rfl,⟨rfl,rfl,rfl,rfl,rfl,Z⟩,λ_=>rfl,λV=>OW V mh⟩
    refine Qh ?_;have hone5:Zr [zv.1,zv.2.1,zv.2.2,vx,vk]:=⟨ga,kr,kv,Qt kXu.own,Qt kX10.own,Z⟩;refine Qc<|Q5 (kB1010.I gb) U U<|Qe<|Qj (us:=[zv.1,zv.2.1,zv.2.2,vx,vk]) kB412 U U U U hone5 λhI mo kB413=>Qb<|Qk ⟨[.agg #[zv.1,zv.2.1,zv.2.2,vx,vk],oF oG 0],⟨⟨_,U,Qn U (kB413.at (L:=[]) oe).cells⟩,rfl,Z⟩,g0.O mo oa,[zv.1,zv.2.1,zv.2.2,vx,vk],?_,rfl,hone5,λV=>OW V mh,λ_=>⟨(CL.mk zv.1 zv.2.1 zv.2.2 vx vk c.ev qc qr qx kx),rfl,hcel,λL hL=>?_⟩⟩
    ·have V:Zl (CL.mk zv.1 zv.2.1 zv.2.2 vx vk c.ev qc qr qx kx).V=0:=Lo.1 mh;rw[V];rfl
    exact((((hCu L hL).I gb).st (mo.mono oe))).up (λb G=>.inl (by simp[G]))
   refine Qh ?_;have hf:k<p.cs.length:=by have hw:(k:Int)<(p.cs.length:Int):=hN;omega
   have hP:p.cs.take (k+1)=p.cs.take k++[p.cs[k]'hf]:=Lm hf;have pz:=hcsz.1 _ (Ll hf);refine Zk (p.cs[k]'hf) λi g2=>?_;rw[g2]at hP pz;have gc:i=(i.toNat:Int):=oa
   have ha:i.toNat<c.cs.length:=oa
   have hy:=Ll ha;have hQ:csG c.V i=(c.cs[i.toNat]'ha).k:=by
    show(c.cs.map (·.k)).getD i.toNat ⟨.empty,[],0⟩=_;simp[oQ,ha]
   refine Zk (c.cs[i.toNat]'ha) λq T=>?_;rw[T]at hy hQ;have g3:=ma.cs.each q hy;have p0:=ma.cs.nm q hy;have hql:=g3.le;have hcsB:csB c.V p.co (p.cs.take (k+1))=csB c.V p.co (p.cs.take k)++[⟨q.nm,VT p.co q.ts,q.bd⟩]:=by
    rw[hP];unfold csB;rw[Ls,Na,hQ];rfl
   have hcsM:csM c.V p.co (p.cs.take (k+1))=(csM c.V p.co (p.cs.take k) || mis p.co q.ts):=by
    rw[hP];unfold csM;rw[List.any_append,List.any_cons,List.any_nil,Bool.or_false,hQ];rfl
   refine Qd<|Qf<|Qc<|xii (i:=k) (hk.I gz) U U hf λa90 g4=>?_;rw[g2]at g4;refine x (QA g4 U)<|Qb<|Qd<|ZD [] (Xb 0 15 [13,14])<|Go.Lg.p (QR U)<|pq (λ_ I=>Qq (kB210.I I) U U)<|Go.Lg.p QE<|Go.Lg.pig (g:=Zd) (i:=i.toNat) U Xp ma.cs.arr U (OV (Value.int .i64) gc) ha λa140 h140=>?_;rw[T]at h140;refine Go.Lg.p (λ_=>Zp U)<|pq (λ_ I=>QA ((h140.fld 0 (.string q.nm) U).st I) U)<|Go.Lg.p (QR U)<|pq (λ_ I=>Qq (kB210.I I) U U)<|Go.Lg.p QE<|Go.Lg.pig (g:=Zd) (i:=i.toNat) U Xp ma.cs.arr U (OV (Value.int .i64) gc) ha λa146 h146=>?_;rw[T]at h146;refine Go.Lg.p (λ_=>Zp U)<|pq (λ_ I=>QA ((h146.fld 2 (oF oG q.bd) U).st I) U)<|Go.Lg.p (λ_=>Qz ⟨U,U,Z⟩)<|pk<|Qo (us:=[.string .empty,nS,oF oG 0]) U λhg u11 mg hz kB15=>⟨(O5.C [] hv).D mg,?_⟩;refine pkl (hl:=by kernel_rfl)<|Qj (us:=[.string q.nm,nS,oF oG q.bd]) kB15 U U U U oB λhO gb kB15=>pe ?_;have hz:hv.heap.size<=hg:=hz;have hJ:O5 [] hv hO:=((O5.C [] hv).D mg).O gb hz;have g0:=gz.D hJ;have k12:=h.I g0;have kB212:=kB210.I hJ;have kz12:=hJ.size;have hl15:=kB15.lt;have p4:=g3.I hJ;refine Qd<|Qc<|Qs U kB212 U U<|Qa<|O8 (g:=Zd) (i:=i.toNat) Xp k12.cs.arr U (OV (Value.int .i64) gc) ha λa102 g5=>?_;rw[T]at g5;refine x (Zp U)<|x (QA (g5.fld 1 q.v U) U)<|QK p4 U<|Qa<|xe ?_;have p5:∀b∈[hg,H],w.heap.size<=b:=λb G=>by simp only[oL,oJ,or_false]at G;omega
   have p6:b3∉[hg,H]:=λG=>by simp only[oL,oJ,or_false]at G;omega
   have hn1510:J∉[hg,H]:=λG=>by simp only[oL,oJ,or_false]at G;omega
   refine Qf<|QD (α:=Nat×Bool×O2) [(22,22),(157,173)] (λz=>[(157,oF oG z.1)]) (λz w'=>z.1<=q.ts.length/\O5 [hg,H] hO w'/\Zb w'.heap hg 121 [.string q.nm,z.2.2,oF oG q.bd]/\Zb w'.heap H 4 [.bool z.2.1] /\
    w'.ownsRow hO.heap.size 123 2 z.2.2 z.1 ((VT p.co (q.ts.take z.1)).flatMap QI)/\z.2.1=(mk || mis p.co (q.ts.take z.1))) (λz=>q.ts.length - z.1) ol (0,mk,nS) La
    ⟨Ln _,O5.Z _ _,kB15,kB1110.I hJ,QL _ _ _ _,by simp[mis]⟩ ?_
   rintro⟨j,mj,vl⟩ g hI ⟨hj,gg,kB1513,kB1113,kO13,h6⟩;simp only[]at hj kB1513 kB1113 kO13 h6;have ks013:O5 [] w hI:=g0.then gg (λb G=>.inr (p5 b G));have kz13:=gg.size;have h8:=Qi kO13;refine Qc<|QZ U U<|xe<|Qd<|QG U (λhR=>?_) (λhR=>?_)
   ·refine Qy ?_;have g6:j=q.ts.length:=by have hw:¬(j:Int)<(q.ts.length:Int):=hR;omega
    rw[g6,M1]at kO13;rw[g6,M1]at h6;have mq:O5 [H] hv hI:=(hJ.any (L:=[H])).then gg (λb G=>by
     simp only[oL,oJ,or_false]at G;rcases G with rfl|rfl
     ·exact .inr hz
     exact .inl oe)
    have kB1013:=kB1010.J mq (oz hn10);have kX13:KvN he.heap.size hI vk kx:=Yz.low kX10 mq (λb G=>hlt10 b (k6 b G));have kXge:=Qi kX10.own;have p7:(VT p.co q.ts).length=q.ts.length:=Lh ..;refine Qw<|Qs U kB1013 U U<|Q5 kB1513 U U<|Qe<|QC (us:=[Zd ⟨q.nm,vl,VT p.co q.ts,q.bd⟩]) U U og oe ⟨rfl,rfl,Z⟩ λb126 u14 h9 hb126 kB126 =>
     Qe<|Za (news:=Zd ⟨q.nm,vl,VT p.co q.ts,q.bd⟩) (L:=[]) (Qp kX13.own h9) U U U (kB126.at oe) (QeP (q:=⟨q.nm,vl,VT p.co q.ts,q.bd⟩) (Qt kO13)) oa (ou h9.size) λhS ho g7 gh p8=>?_
    have kX15:KvN he.heap.size ho hS (kx++[⟨q.nm,vl,VT p.co q.ts,q.bd⟩]):=Yz.app2 (N:=hO.heap.size) (kX13.I h9) (by show u14.ownsRow _ _ 2 vl (VT p.co q.ts).length _;rw[p7];exact Qp kO13 h9) (by show(VT p.co q.ts).length<=_;omega) oa (λb G=>ou (kXge b G)) g7 gh p8;have p9:J∉ob vk:=λO=>ou (kXge J O).1
    have qf:H∉ob vk:=λO=>ou (kXge H O).1
    have ks915:O5 [J,H] he ho:=((hH.Q (mq.mono k6)).D h9).then gh (λb G=>.inr (kXge b G).1);have kB1015:=(kB1013.I h9).J gh p9;have kB1115:=(kB1113.I h9).J gh qf;refine Q2 U<|Qe<|QB (j:=4) (u:=hS) kB1015 U U oe (Qt g7) λu16 g8 kB1016=>xe ?_;refine Qw<|QP U U<|Qa<|xe<|⟨(k+1,mj,hS,kx++[⟨q.nm,vl,VT p.co q.ts,q.bd⟩]),oh,La,hf,ks915.Q (g8.mono k5),kB1016,kB1115.J g8 om,Yz.low kX15 g8 (λb G=>hlt10 b (k5 b G)),?_,?_,?_⟩
    ·simp only[];rw[hcsB,Ls,gy];rfl
    ·simp only[];rw[hcsM,h6,k9,Bool.or_assoc]
    intro q' ql;rcases Lc.1 ql with hA|hA
    ·exact pu q' hA
    simp only[oI]at hA;subst hA;exact p0
   refine Qh ?_;have hp:j<q.ts.length:=by have hw:(j:Int)<(q.ts.length:Int):=hR;omega
   have hT:q.ts.take (j+1)=q.ts.take j++[q.ts[j]'hp]:=Lm hp;have mq:O5 [H] hv hI:=(hJ.any (L:=[H])).then gg (λb G=>by
    simp only[oL,oJ,or_false]at G;rcases G with rfl|rfl
    ·exact .inr hz
    exact .inl oe)
   have qo:jj [] hI.heap q.v q.ts:=(h.I ks013).cs.each q hy;refine Qd<|Qf<|Qc<|O8 (g:=QI) YA qo U U hp λa108 g9=>?_;refine Zk (q.ts[j]'hp) λlc q5=>?_;rw[q5]at g9 hT;have j1:VT p.co (q.ts.take (j+1))=VT p.co (q.ts.take j)++[((lwB p.co lc.1:Int),lc.2)]:=by
    rw[hT];unfold VT;rw[Ls];rfl
   have j2:mis p.co (q.ts.take (j+1))=(mis p.co (q.ts.take j) || !decide (lc.1∈p.co)):=by
    rw[hT];unfold mis;rw[List.any_append];simp
   refine x (Qx g9 U U)<|Qe<|Qo (us:=[oF oG 0,oF oG 0]) U λb22 u14 h9 j3 kB17=>Qe<|Qj (us:=QI lc) kB17 U U U U oA λho gh kB17=>xe ?_;have hU:O5 [] hI ho:=h9.O gh j3;have ks015:=ks013.D hU;have kz15:=hU.size;have kB1515:=kB1513.I hU;have kB1115:=kB1113.I hU;have kB315:Zb ho.heap b3 309 [v0,v1,v2,v3]:=(((kB310.I hJ).J gg p6)).I hU;have ka:hg∉H::ob vl:=λG=>by
    rcases Li.1 G with rfl|G
    ·omega
    have:=(h8 hg G).1;omega
   have kb:b22∉H::ob vl:=λG=>by
    rcases Li.1 G with rfl|G
    ·omega
    have:=(h8 b22 G).2;omega
   have kc:H∉ob vl:=λG=>ou (h8 H G).1
   have za:hg∉ob vl:=λG=>ka (Lj _ G);refine ZD (H::ob vl) [oD 0,oD 1,oD 2,oD 3,oD 4,oD 6,oD 7,oE 5,oD 8,oE 9,oE 10,oD 11,oE 12] ?_;have ms:O5 [] ho { ho with drawn:=ho.drawn+1 }:=O5.C _ _
   have hzd:({ ho with drawn:=ho.drawn+1 }:O1).heap.size=ho.heap.size:=rfl
   refine Go.Lg.p (QR U)<|pq (λ_ I=>Qq (kB1515.J I ka) U U)<|Go.Lg.p QE<|Go.Lg.p (QR U)<|pq (λ_ I=>Qq (kB17.J I kb) U U) <|
    Go.Lg.p (QR U)<|pq (λ_ I=>Qq (kB17.J I kb) U U)<|pk<|xc (first:=[]) (capt:=[.pointer (some ⟨b3,0,none⟩),.pointer (some ⟨H,0,none⟩)]) U<|(jB (kB315.I ms) (kB1115.I ms) (I.I (ks015.D ms)) gt.2.1 lc.1).mono ?_
   rintro r16 u16 ⟨g8,rfl,kB1116⟩;have zb:=ms.any.Q g8;have hV:∀b∈[H],b∈H::ob vl:=λb G=>by simp only[oI]at G;simp[G]
   refine⟨zb.mono hV,?_⟩;refine Go.Lg.p (λ_=>Qz ⟨U,U,Z⟩)<|pk<|QC (us:=[QI ((lwB p.co lc.1:Int),lc.2)]) U U og oe ⟨rfl,rfl,Z⟩ λb119 u17 z0 hb119 gv=>⟨(zb.D z0).mono hV,?_⟩;have ke:=zb.D z0;have kO17:u17.ownsRow hO.heap.size 123 2 vl j ((VT p.co (q.ts.take j)).flatMap QI):=Qg (Qp kO13 hU) ke (λb G O=>by simp only[oI]at O;subst O;exact kc G);have kz17:=ke.size;refine pk<|Za (news:=QI ((lwB p.co lc.1:Int),lc.2)) (L:=[]) kO17 U U U (gv.at oe) (λu hu=>by
    simp only[oL,oJ,or_false]at hu;rcases hu with rfl|rfl <;> rfl) oa oa λkf u18 hW mt hn18=>⟨(ke.mono hV).Q (mt.mono (λb G=>Lj _ G)),?_⟩
   have kB1518:=((kB1515.J ke om)).J mt za;have kB1118:=(kB1116.I z0).J mt kc;refine Go.Lg.p (QR U)<|pkl (hl:=by kernel_rfl)<|QB (j:=1) (u:=kf) kB1518 U U oe (Qt hW) λu19 z1 kB1519=>pe ?_;refine Qw<|QP U U<|Qa<|xe ?_;have z2:∀b∈[H],b∈[hg,H]:=λb G=>by simp only[oI]at G;simp[G]
   have z3:∀b∈[hg],b∈[hg,H]:=λb G=>by simp only[oI]at G;simp[G]
   have ks1218:O5 [hg,H] hO u18:=((gg.D hU).Q (ke.mono z2)).then mt (λb G=>.inr (h8 b G).1);refine⟨(j+1,mj || !decide (lc.1∈p.co),kf),oh,La,hp,ks1218.Q (z1.mono z3),kB1519,kB1118.J z1 om,?_,?_⟩
   ·simp only[];rw[j1,LA];have:=Qg hW z1 (λb G=>by
     simp only[oI];have:=(Qi hW b G).1;omega)
    simpa using this
   simp only[];rw[j2,h6,Bool.or_assoc]
  refine Qh ?_;have hf:k<p.ex.length:=by have hw:(k:Int)<(p.ex.length:Int):=hN;omega
  have hP:p.ex.take (k+1)=p.ex.take k++[p.ex[k]'hf]:=Lm hf;have pz:=hexz.1 _ (Ll hf);refine Zk (p.ex[k]'hf) λi g2=>?_;rw[g2]at hP pz;have gc:i=(i.toNat:Int):=oa
  have ha:i.toNat<c.ex.length:=oa
  have hy:=Ll ha;have hQ:exG c.V i=(c.ex[i.toNat]'ha).x:=by
   show(c.ex.map (·.x)).getD i.toNat ⟨.empty,[]⟩=_;simp[oQ,ha]
  refine Zk (c.ex[i.toNat]'ha) λq T=>?_;rw[T]at hy hQ;have g3:=pj.ex.each q hy;have p0:=pj.ex.nm q hy;have hql:=g3.le;have hexB:exB c.V p.co (p.ex.take (k+1))=exB c.V p.co (p.ex.take k)++[⟨q.nm,VT p.co q.ls⟩]:=by
   rw[hP];unfold exB;rw[Ls,Na,hQ];rfl
  have hexM:exM c.V p.co (p.ex.take (k+1))=(exM c.V p.co (p.ex.take k) || mis p.co q.ls):=by
   rw[hP];unfold exM;rw[List.any_append,List.any_cons,List.any_nil,Bool.or_false,hQ];rfl
  refine Qd<|Qf<|Qc<|xii (i:=k) (hx.I gx) U U hf λa90 g4=>?_;rw[g2]at g4;refine x (QA g4 U)<|Qb<|Qc<|Qs U pm U U<|Qa<|O8 (g:=Q8) (i:=i.toNat) Xz pj.ex.arr U (OV (Value.int .i64) gc) ha λa95 h95=>?_;rw[T]at h95;refine x (Zp U)<|x (QA (h95.fld 0 (.string q.nm) U) U)<|x (Qz ⟨U,Z⟩)<|Qe<|Qo (us:=[.string .empty,nS]) U λhh w11 z4 hz mu =>
   Qe<|Qj (us:=[.string q.nm,nS]) mu U U U U oA λgi hs12 mu=>xe ?_
  have hK:O5 [] he gi:=z4.O hs12 hz;have hs012:=gx.D hK;have h12:=h.I hs012;have hB212:=pm.I hK;have hz12:=hK.size;have hl15:=mu.lt;have p4:=g3.I hK;refine Qd<|Qc<|Qs U hB212 U U<|Qa<|O8 (g:=Q8) (i:=i.toNat) Xz h12.ex.arr U (OV (Value.int .i64) gc) ha λa102 g5=>?_;rw[T]at g5;refine x (Zp U)<|x (QA (g5.fld 1 q.v U) U)<|QK p4 U<|Qa<|xe ?_;have p5:∀b∈[hh,H],w.heap.size<=b:=λb G=>by simp only[oL,oJ,or_false]at G;omega
  have p6:b3∉[hh,H]:=λG=>by simp only[oL,oJ,or_false]at G;omega
  have hn1510:J∉[hh,H]:=λG=>by simp only[oL,oJ,or_false]at G;omega
  refine Qf<|QD (α:=Nat×Bool×O2) [(17,17),(106,122)] (λz=>[(106,oF oG z.1)]) (λz w'=>z.1<=q.ls.length/\O5 [hh,H] gi w'/\Zb w'.heap hh 116 [.string q.nm,z.2.2]/\Zb w'.heap H 4 [.bool z.2.1] /\
   w'.ownsRow gi.heap.size 118 2 z.2.2 z.1 ((VT p.co (q.ls.take z.1)).flatMap QI)/\z.2.1=(mi || mis p.co (q.ls.take z.1))) (λz=>q.ls.length - z.1) ol (0,mi,nS) La
   ⟨Ln _,O5.Z _ _,mu,gv.I hK,QL _ _ _ _,by simp[mis]⟩ ?_
  rintro⟨j,mj,vl⟩ g gj ⟨hj,gk,z5,hB1113,gl,h6⟩;simp only[]at hj z5 hB1113 gl h6;have hs013:O5 [] w gj:=hs012.then gk (λb G=>.inr (p5 b G));have hz13:=gk.size;have h8:=Qi gl;refine Qc<|QZ U U<|xe<|Qd<|QG U (λhR=>?_) (λhR=>?_)
  ·refine Qy ?_;have g6:j=q.ls.length:=by have hw:¬(j:Int)<(q.ls.length:Int):=hR;omega
   rw[g6,M1]at gl;rw[g6,M1]at h6;have mv:O5 [H] he gj:=(hK.any (L:=[H])).then gk (λb G=>by
    simp only[oL,oJ,or_false]at G;rcases G with rfl|rfl
    ·exact .inr hz
    exact .inl oe)
   have hB1013:=pg.J mv (oz hn10);have hX13:XvN w9.heap.size gj vx qx:=Yz.low k7 mv (λb G=>k4 b (k6 b G));have mw:=Qi k7.own;have p7:(VT p.co q.ls).length=q.ls.length:=Lh ..;refine Qw<|Qs U hB1013 U U<|Q5 z5 U U<|Qe<|QC (us:=[Q8 ⟨q.nm,vl,VT p.co q.ls⟩]) U U og oe ⟨rfl,rfl,Z⟩ λb126 w14 hC hb126 hB126 =>
    Qe<|Za (news:=Q8 ⟨q.nm,vl,VT p.co q.ls⟩) (L:=[]) (Qp hX13.own hC) U U U (hB126.at oe) (Qas (q:=⟨q.nm,vl,VT p.co q.ls⟩) (Qt gl)) oa (ou hC.size) λhS ht g7 gm p8=>?_
   have hX15:XvN w9.heap.size ht hS (qx++[⟨q.nm,vl,VT p.co q.ls⟩]):=Yz.app2 (N:=gi.heap.size) (hX13.I hC) (by show w14.ownsRow _ _ 2 vl (VT p.co q.ls).length _;rw[p7];exact Qp gl hC) (by show(VT p.co q.ls).length<=_;omega) oa (λb G=>ou (mw b G)) g7 gm p8;have p9:J∉ob vx:=λO=>ou (mw J O).1
   have qf:H∉ob vx:=λO=>ou (mw H O).1
   have hs915:O5 [J,H] w9 ht:=((hM.Q (mv.mono k6)).D hC).then gm (λb G=>.inr (mw b G).1);have hB1015:=(hB1013.I hC).J gm p9;have hB1115:=(hB1113.I hC).J gm qf;refine Q2 U<|Qe<|QB (j:=3) (u:=hS) hB1015 U U oe (Qt g7) λw16 kg hB1016=>xe ?_;refine Qw<|QP U U<|Qa<|xe<|⟨(k+1,mj,hS,qx++[⟨q.nm,vl,VT p.co q.ls⟩]),oh,La,hf,hs915.Q (kg.mono k5),hB1016,hB1115.J kg om,Yz.low hX15 kg (λb G=>k4 b (k5 b G)),?_,?_,?_⟩
   ·simp only[];rw[hexB,Ls,gw];rfl
   ·simp only[];rw[hexM,h6,k8]
   intro q' ql;rcases Lc.1 ql with hA|hA
   ·exact ph q' hA
   simp only[oI]at hA;subst hA;exact p0
  refine Qh ?_;have hp:j<q.ls.length:=by have hw:(j:Int)<(q.ls.length:Int):=hR;omega
  have hT:q.ls.take (j+1)=q.ls.take j++[q.ls[j]'hp]:=Lm hp;have mv:O5 [H] he gj:=(hK.any (L:=[H])).then gk (λb G=>by
   simp only[oL,oJ,or_false]at G;rcases G with rfl|rfl
   ·exact .inr hz
   exact .inl oe)
  have qo:jj [] gj.heap q.v q.ls:=(h.I hs013).ex.each q hy;refine Qd<|Qf<|Qc<|O8 (g:=QI) YA qo U U hp λa108 g9=>?_;refine Zk (q.ls[j]'hp) λlc q5=>?_;rw[q5]at g9 hT;have j1:VT p.co (q.ls.take (j+1))=VT p.co (q.ls.take j)++[((lwB p.co lc.1:Int),lc.2)]:=by
   rw[hT];unfold VT;rw[Ls];rfl
  have j2:mis p.co (q.ls.take (j+1))=(mis p.co (q.ls.take j) || !decide (lc.1∈p.co)):=by
   rw[hT];unfold mis;rw[List.any_append];simp
  refine x (Qx g9 U U)<|Qe<|Qo (us:=[oF oG 0,oF oG 0]) U λb17 w14 hC j3 my=>Qe<|Qj (us:=QI lc) my U U U U oA λht gm my=>xe ?_;have hX:O5 [] gj ht:=hC.O gm j3;have hs015:=hs013.D hX;have hz15:=hX.size;have hB1515:=z5.I hX;have hB1115:=hB1113.I hX;have hB315:Zb ht.heap b3 309 [v0,v1,v2,v3]:=(((pn.I hK).J gk p6)).I hX;have ka:hh∉H::ob vl:=λG=>by
   rcases Li.1 G with rfl|G
   ·omega
   have:=(h8 hh G).1;omega
  have kb:b17∉H::ob vl:=λG=>by
   rcases Li.1 G with rfl|G
   ·omega
   have:=(h8 b17 G).2;omega
  have kc:H∉ob vl:=λG=>ou (h8 H G).1
  have za:hh∉ob vl:=λG=>ka (Lj _ G);refine ZD (H::ob vl) [oD 0,oD 1,oD 2,oD 3,oD 4,oD 6,oD 7,oE 5,oD 8,oE 9,oE 10,oD 11,oE 12] ?_;have mz:O5 [] ht { ht with drawn:=ht.drawn+1 }:=O5.C _ _
  have hzd:({ ht with drawn:=ht.drawn+1 }:O1).heap.size=ht.heap.size:=rfl
  refine Go.Lg.p (QR U)<|pq (λ_ I=>Qq (hB1515.J I ka) U U)<|Go.Lg.p QE<|Go.Lg.p (QR U)<|pq (λ_ I=>Qq (my.J I kb) U U) <|
   Go.Lg.p (QR U)<|pq (λ_ I=>Qq (my.J I kb) U U)<|pk<|xc (first:=[]) (capt:=[.pointer (some ⟨b3,0,none⟩),.pointer (some ⟨H,0,none⟩)]) U<|(jB (hB315.I mz) (hB1115.I mz) (I.I (hs015.D mz)) gt.2.1 lc.1).mono ?_
  rintro r16 w16 ⟨kg,rfl,hB1116⟩;have hs1516:=mz.any.Q kg;have hV:∀b∈[H],b∈H::ob vl:=λb G=>by simp only[oI]at G;simp[G]
  refine⟨hs1516.mono hV,?_⟩;refine Go.Lg.p (λ_=>Qz ⟨U,U,Z⟩)<|pk<|QC (us:=[QI ((lwB p.co lc.1:Int),lc.2)]) U U og oe ⟨rfl,rfl,Z⟩ λb119 w17 hs17 hb119 kz=>⟨(hs1516.D hs17).mono hV,?_⟩;have kh:=hs1516.D hs17;have hO17:w17.ownsRow gi.heap.size 118 2 vl j ((VT p.co (q.ls.take j)).flatMap QI):=Qg (Qp gl hX) kh (λb G O=>by simp only[oI]at O;subst O;exact kc G);have hz17:=kh.size;refine pk<|Za (news:=QI ((lwB p.co lc.1:Int),lc.2)) (L:=[]) hO17 U U U (kz.at oe) (λu hu=>by
   simp only[oL,oJ,or_false]at hu;rcases hu with rfl|rfl <;> rfl) oa oa λkf w18 hW m2 hn18=>⟨(kh.mono hV).Q (m2.mono (λb G=>Lj _ G)),?_⟩
  have hB1518:=((hB1515.J kh om)).J m2 za;have hB1118:=(hB1116.I hs17).J m2 kc;refine Go.Lg.p (QR U)<|pkl (hl:=by kernel_rfl)<|QB (j:=1) (u:=kf) hB1518 U U oe (Qt hW) λw19 hs19 hB1519=>pe ?_;refine Qw<|QP U U<|Qa<|xe ?_;have z2:∀b∈[H],b∈[hh,H]:=λb G=>by simp only[oI]at G;simp[G]
  have z3:∀b∈[hh],b∈[hh,H]:=λb G=>by simp only[oI]at G;simp[G]
  have hs1218:O5 [hh,H] gi w18:=((gk.D hX).Q (kh.mono z2)).then m2 (λb G=>.inr (h8 b G).1);refine⟨(j+1,mj || !decide (lc.1∈p.co),kf),oh,La,hp,hs1218.Q (hs19.mono z3),hB1519,hB1118.J hs19 om,?_,?_⟩
  ·simp only[];rw[j1,LA];have:=Qg hW hs19 (λb G=>by
    simp only[oI];have:=(Qi hW b G).1;omega)
   simpa using this
  simp only[];rw[j2,h6,Bool.or_assoc]
 refine Qh ?_;have gn:k<S.length:=by have hw:(k:Int)<(S.length:Int):=m8;omega
 have hmem:=Ll gn;have hdr:S.drop k=S[k]'gn::S.drop (k+1):=LE gn;refine Qd<|Qf<|Qc<|O8 (g:=skC) QnD (hA54.I hD) U U gn λa58 h58=>?_;refine Zk (S[k]'gn) λq T=>?_;rw[T]at h58 hmem hdr;have hqi:=hl4i q hmem;rw[hdr,show q=(q.1,q.2.1,q.2.2) from rfl,ck4]at hF;refine x (Qx h58 U U)<|Qe<|Qo (us:=[nS,oF oG 0]) U λb8 w8 hZ hb8 m3=>Qe<|Qj (us:=skC q) m3 U U U U ⟨hqi.one,U,Z⟩ λw9 pf m3=>xe ?_;have hG:O5 [] w7 w9:=hZ.O pf hb8;have gu:=gs.D hG;refine Qc<|Qs U m3 U U<|Qs U m3 U U<|ZP<|(QcY (hqi.I gu) q.2.2).mono ?_;rintro r10 he ⟨rfl,rfl⟩;refine Qb<|Qm<|ZA U U<|xe<|QY rfl (λki=>?_) (λki=>?_)
 ·rw[OU ki]at hF;have hne:ck4 S≠0:=by rw[<-hF];exact ki
  rw[OU hne,<-hF]at Y;subst Y;have po:Zb he.heap b4 44 Z6:=((m7.I hY).I hD).I hG;refine Qc<|x (Qz Z)<|Qa<|Qe<|Qj (us:=Z6) po U U U U ⟨U,U,U,U,U,Z⟩ λw11 z4 hB411=>Qb<|Qk ⟨[.agg Z6.toArray,oF oG (Kr q.2.2 none q.2.1)],⟨⟨_,U,Qn U (hB411.at (L:=[]) oe).cells⟩,rfl,Z⟩,gu.O z4 oa,Z6,rfl,rfl,⟨rfl,rfl,rfl,rfl,rfl,Z⟩,λ_=>rfl,λV=>OW V ki⟩
 rw[OT ki]at hF;refine Qh<|Qw<|QP U U<|Qa<|xe ?_;exact⟨k+1,oa,La,gn,hD.D hG,hF⟩
theorem Qeo (n:Nat):(1:Int)*(2:Int) ^ n=((1 <<< n:Nat):Int):=by
 rw[Nat.shiftLeft_eq,NP,Int.one_mul,Int.natCast_pow];rfl
theorem K8 (h:n<16):1 <<< n<65536:=by
 rw[Nat.shiftLeft_eq,NP];exact Nat.pow_lt_pow_right og h
theorem Qdn {k:Nat}(E:b<65536)(G:k<16):orB b k<65536:=Qex E (K8 G)
theorem Qot (h:n<16):inK .u16 ((1:Int)*(2:Int) ^ n):=by
 rw[Qeo];have E:=K8 h;generalize 1 <<< n=m at E;exact⟨oa,oa⟩
theorem QhK {x:Xt}:∀(l:List Xt) (k b:Nat),b<65536->k+l.length<=16->rqB x k b l<65536
 | [],_,_,E,_=>E
 | y::l,k,b,E,G=>by
  rw[rqB];refine QhK l _ _ ?_ (by simp at G;omega);by_cases h:(y.a.al.any λe=>decide (e∈x.a.al))=true
  ·rw[OU h];exact Qdn E (by simp at G;omega)
  rw[OT h];exact E
theorem QbR (ls:xx)(l:Int×Int):prB (ls++[l])=orB (prB ls) l.1.toNat:=by
 unfold prB;rw[MD];rfl
theorem QaJ:∀(ls:xx),(∀l∈ls,0<=l.1/\l.1<16)->prB ls<65536:=by
 intro ls;unfold prB;have key:∀(ls:xx) (b:Nat),b<65536->(∀l∈ls,0<=l.1/\l.1<16)->ls.foldl (λb l=>orB b l.1.toNat) b<65536:=by
  intro ls;induction ls with
  | nil=>intro b E _;exact E
  | cons l ls ih =>
   intro b E h;exact ih _ (Qdn E (ou (h l Lr))) (λl' hl=>h l' (Lj _ hl))
 exact key ls 0 og
theorem QeM (m:Nat)(S:m<65536)(w:O1):Q6 prog 122 [.int .u16 m] w λr w'=>O5 [] w w'/\Qu 3 w.heap.size w' r (setK m 8):=by
 refine Zq func122 ?_;refine Qc<|Qb<|Qc<|Qb<|Qd<|Qm<|xe<|Qf<|QD (α:=Nat×O2) [(3,17)] (λz=>[(3,z.2),(5,oF oG z.1)]) (λz w'=>z.1<=8/\O5 [] w w'/\Qu 3 w.heap.size w' z.2 (setK m z.1)) (λz=>8 - z.1) ol (0,nS) oA
  ⟨Ln _,O5.Z _ _,QL _ _ _ _⟩ ?_
 rintro⟨k,v⟩ g w1 ⟨T,G,E⟩;simp only[]at T E;have hh:=JG m k;have hi:=G.size;refine Qc<|QZ U U<|xe<|Qd<|QG U (λV=>?_) (λV=>?_)
 ·refine Qy<|Qm<|Qb ?_;have Y:k=8:=oa
  rw[Y]at E;exact Qk ⟨[v],La,G,E⟩
 have J:k<8:=oa
 have ha:m / 2 ^ k<65536:=Nat.lt_of_le_of_lt (Nat.div_le_self _ _) S;have H:=U0 m k;refine Qh<|Qd<|Qf<|Qm<|Qb<|Qm<|Qa<|x (jD (n:=k) U U (by show k<=16;omega))<|x (Qlj (a:=m / 2 ^ k) (b:=1) (OV (Value.int .u16) (QaA m k)) U ha og)<|x (Q0 U U)<|xe<|QG rfl (λO=>?_) (λO=>?_)
 ·rw[OT (λe=>O (by rw[e];rfl))]at H;refine Qh<|Qw<|QP U U<|Qa<|xe ?_;exact⟨(k+1,v),oh,oA,J,G,by simp only[];rw[H];exact E⟩
 rw[OU oa]at H;refine Qw<|Qa<|Qa<|Qe<|QC (us:=[[oF oG k]]) U U og oe ⟨rfl,rfl,Z⟩ λhj w2 I hl hc=>?_;have he:=Qp E I;have hn:=I.size;refine Qe<|Za (news:=[oF oG k]) (L:=[]) he U U U (hc.at oe) (by simp[Value.oneCell']) oa oa λv3 w3 hf hg ho =>
  Qb ?_
 have hge:=Qi E;refine Qw<|QP U U<|Qa<|xe<|⟨(k+1,v3),oh,oA,J,(G.D I).then hg (λb hb=>.inr (hge b hb).1),?_⟩;simp only[];rw[H];exact Qu.snoc hf
theorem Qhz {c:CL}(J:Zb w.heap b1 44 c.cells)(O:Zb w.heap b2 3 [oF oG i])(E:ZK [] w.heap c){q:IV}(hi:c.rq[i]?=some q)(e:Int):
  Q6 prog 224 [oF oG e,.pointer (some ⟨b1,0,none⟩),.pointer (some ⟨b2,0,none⟩)] w λr w'=>r=.bool (decide (e∈q.p.a.al))/\O5 [] w w':=by
 obtain⟨G,H⟩:=Me.1 hi;have S:=E.rq.each q (H ▸ Ll G);refine Zq func224 ?_;refine Qc<|Qb<|Qc<|Qs U J U U<|Y7 O U U<|O8 (g:=QO) (i:=i) Yp E.rq.arr U U G λT I=>?_;rw[H]at I;refine x (Zp U)<|x (Zp U)<|x (QA ((I.fld 1 q.p.va U)) U)<|Qa<|QM<|(Yj S.al e).mono ?_;rintro V Y ⟨rfl,rfl⟩;refine Qb<|Qk ⟨[_],La,U,O5.Z _ _⟩
theorem Qk0 {c:CL}(hg:Zb w.heap b1 44 c.cells)(T:ZK [] w.heap c)(h8:c.co.length<=8){q:IV}(hi:c.rq[i]?=some q):
  Q6 prog 223 [oF oG i,.pointer (some ⟨b1,0,none⟩)] w λr w'=>r=.int .u16 (rqB q.it 0 0 c.V.co)/\O5 [] w w':=by
 refine Zq func223 ?_;refine Qc<|Qe<|QS (us:=[oF oG i]) U λb2 w1 V hw hn=>Qb<|Qc<|Qb<|Qd<|Qc<|Qs U (hg.I V) U U<|QK (T.I V).co.arr U<|Qa<|xe<|Qf<|QD (α:=Nat×Nat) [(4,6),(10,24)] (λz=>[(4,.int .u16 z.2),(10,oF oG z.1)]) (λz w'=>z.1<=c.co.length/\O5 [] w1 w'/\z.2<65536/\rqB q.it z.1 z.2 ((c.co.drop z.1).map (·.it))=rqB q.it 0 0 c.V.co) (λz=>c.co.length - z.1) ol (0,0) oA
  ⟨Ln _,O5.Z _ _,og,U⟩ ?_
 rintro⟨k,b⟩ g w2 ⟨hk,J,O,E⟩;simp only[]at hk O E;have Y:=V.D J;have h2:=T.I Y;refine Qc<|QZ U U<|xe<|Qd<|QG U (λha=>?_) (λha=>?_)
 ·refine Qy ?_;have ho:c.co.length<=k:=by have hp:¬(k:Int)<(c.co.length:Int):=ha;omega
  rw[Lq ho]at E;have hq:b=rqB q.it 0 0 c.V.co:=E;refine Qm<|Qb<|Qk ⟨[.int .u16 b],La,by rw[hq];rfl,Y⟩
 have G:k<c.co.length:=by have hp:(k:Int)<(c.co.length:Int):=ha;omega
 have hh:=Ll G;rw[J3 G,rqB]at E;refine Qh<|Qd<|Qf<|Qm<|O8 (g:=QO) (i:=k) Yp h2.co.arr U U G λhz hj=>?_;refine Zk (c.co[k]'G) λy hy=>?_;rw[hy]at hj hh E;have S:=h2.co.each y hh;refine x (Qx hj U U)<|Qe<|Qo (us:=[.string .empty,nS,oF oG 0,nS,nS]) U λb6 w3 hs ht he=>x Ql <|
  Qe<|Qj (us:=QO y) he U U U U ⟨U,S.al.one,U,S.mr.one,S.ed.one,Z⟩ λw4 hu he=>xe ?_
 have I:O5 [] w2 w4:=hs.O hu ht;have hl:=Y.D I;refine Qc<|Q2 U<|Qs U he U U<|x (Zy (l:=[]) (l':=[_,_]))<|ZP<|(Qfg (q:=λe=>decide (e∈q.p.a.al)) (cap:=[.pointer (some ⟨b1,0,none⟩),.pointer (some ⟨b2,0,none⟩)]) (S.al.I I)
  (λe w5 H=>Qhz ((hg.I hl).I H) ((hn.I (J.D I)).I H) ((T.I hl).I H) hi e)).mono ?_
 rintro r5 w5 ⟨rfl,H⟩;refine xe<|QX rfl (λhf=>?_) (λhf=>?_)
 ·rw[OU (by exact hf)]at E;refine Qw<|Qa<|Qa<|x (QhR (n:=k) U U (by show k<=16;omega) (Qot oa))<|x (Qdj (a:=b) (b:=1 <<< k) U (OV (Value.int .u16) (Qeo k)) O (K8 oa))<|Qb<|Qw<|QP U U<|Qa<|xe ?_;exact⟨(k+1,orB b k),oh,oA,G,(J.D I).D H,Qdn O oa,E⟩
 rw[OT (by intro h0;have hv:(y.p.a.al.any λe=>decide (e∈q.p.a.al))=false:=hf;have hm:(y.p.a.al.any λe=>decide (e∈q.p.a.al))=true:=h0;rw[hv]at hm;cases hm)]at E;refine Qh<|Qw<|QP U U<|Qa<|xe ?_;exact⟨(k+1,b),oh,oA,G,(J.D I).D H,O,E⟩
theorem QkZ {c:CL}(hg:Zb w.heap b1 44 c.cells)(T:ZK [] w.heap c){q:XV}(hi:c.ex[i]?=some q)(V:∀l∈q.ls,0<=l.1/\l.1<16):
  Q6 prog 225 [oF oG i,.pointer (some ⟨b1,0,none⟩)] w λr w'=>r=.int .u16 (prB q.ls)/\O5 [] w w':=by
 obtain⟨Y,hq⟩:=Me.1 hi;have I:=T.ex.each q (hq ▸ Ll Y);have hu:=I.le;refine Zq func225 ?_;refine Qc<|Qb<|Qc<|Qb<|Qd<|Qc<|Qs U hg U U<|Qa<|O8 (g:=Q8) (i:=i) Xz T.ex.arr U U Y λhv ha=>?_;rw[hq]at ha;refine x (Zp U)<|x (QA (ha.fld 1 q.v U) U)<|QK I U<|Qa<|xe<|Qf<|QD (α:=Nat×Nat) [(4,4),(6,6),(14,23)] (λz=>[(4,.int .u16 z.2),(14,oF oG z.1)]) (λz w'=>z.1<=q.ls.length/\O5 [] w w'/\z.2=prB (q.ls.take z.1)) (λz=>q.ls.length - z.1) ol (0,0) oA
  ⟨Ln _,O5.Z _ _,U⟩ ?_
 rintro⟨k,b⟩ g w1 ⟨hk,J,G⟩;simp only[]at hk G;have hh:b<65536:=by rw[G];exact QaJ _ (λl hl=>V l (LX hl))
 refine Qc<|QZ U U<|xe<|Qd<|QG U (λO=>?_) (λO=>?_)
 ·refine Qy ?_;have hj:q.ls.length<=k:=by have H:¬(k:Int)<(q.ls.length:Int):=O;omega
  rw[Lt hj]at G;refine Qm<|Qb<|Qk ⟨[.int .u16 b],La,by rw[G];rfl,J⟩
 have E:k<q.ls.length:=by have H:(k:Int)<(q.ls.length:Int):=O;omega
 have he:q.ls.take (k+1)=q.ls.take k++[q.ls[k]'E]:=Lm E;have hn:=V _ (Ll E);refine Qh<|Qd<|Qf<|Qc<|O8 (g:=QI) YA (I.I J) U U E λhw H=>?_;refine Zk (q.ls[k]'E) λl hl=>?_;rw[hl]at H he hn;have ho:l.1=(l.1.toNat:Int):=oa
 have hf:l.1.toNat<16:=oa
 refine x (Qx H U U)<|Qe<|Qo (us:=[oF oG 0,oF oG 0]) U λb6 w2 hp hr S=>Qe<|Qj (us:=QI l) S U U U U oA λw3 hs S =>
  xe ?_
 have ht:O5 [] w1 w3:=hp.O hs hr;refine Qw<|Qa<|Qs U S U U<|x (QhR (n:=l.1.toNat) U (OV (Value.int .i64) ho) (by show l.1.toNat<=16;omega) (Qot hf))<|x (Qdj (a:=b) (b:=1 <<< l.1.toNat) U (OV (Value.int .u16) (Qeo _)) hh (K8 hf))<|Qb<|Qw<|QP U U<|Qa<|xe ?_;exact⟨(k+1,orB b l.1.toNat),oh,oA,E,J.D ht,by simp only[];rw[he,QbR,G]⟩
theorem QkY {c:CL}(hg:Zb w.heap b1 44 c.cells)(T:ZK [] w.heap c){q:KV}(hi:c.cs[i]?=some q)(V:∀l∈q.ts,0<=l.1/\l.1<16):
  Q6 prog 226 [oF oG i,.pointer (some ⟨b1,0,none⟩)] w λr w'=>r=.int .u16 (prB q.ts)/\O5 [] w w':=by
 obtain⟨Y,hq⟩:=Me.1 hi;have I:=T.cs.each q (hq ▸ Ll Y);have hu:=I.le;refine Zq func226 ?_;refine Qc<|Qb<|Qc<|Qb<|Qd<|Qc<|Qs U hg U U<|Qa<|O8 (g:=Zd) (i:=i) Xp T.cs.arr U U Y λhv ha=>?_;rw[hq]at ha;refine x (Zp U)<|x (QA (ha.fld 1 q.v U) U)<|QK I U<|Qa<|xe<|Qf<|QD (α:=Nat×Nat) [(4,4),(6,6),(14,23)] (λz=>[(4,.int .u16 z.2),(14,oF oG z.1)]) (λz w'=>z.1<=q.ts.length/\O5 [] w w'/\z.2=prB (q.ts.take z.1)) (λz=>q.ts.length - z.1) ol (0,0) oA
  ⟨Ln _,O5.Z _ _,U⟩ ?_
 rintro⟨k,b⟩ g w1 ⟨hk,J,G⟩;simp only[]at hk G;have hh:b<65536:=by rw[G];exact QaJ _ (λl hl=>V l (LX hl))
 refine Qc<|QZ U U<|xe<|Qd<|QG U (λO=>?_) (λO=>?_)
 ·refine Qy ?_;have hj:q.ts.length<=k:=by have H:¬(k:Int)<(q.ts.length:Int):=O;omega
  rw[Lt hj]at G;refine Qm<|Qb<|Qk ⟨[.int .u16 b],La,by rw[G];rfl,J⟩
 have E:k<q.ts.length:=by have H:(k:Int)<(q.ts.length:Int):=O;omega
 have he:q.ts.take (k+1)=q.ts.take k++[q.ts[k]'E]:=Lm E;have hn:=V _ (Ll E);refine Qh<|Qd<|Qf<|Qc<|O8 (g:=QI) YA (I.I J) U U E λhw H=>?_;refine Zk (q.ts[k]'E) λl hl=>?_;rw[hl]at H he hn;have ho:l.1=(l.1.toNat:Int):=oa
 have hf:l.1.toNat<16:=oa
 refine x (Qx H U U)<|Qe<|Qo (us:=[oF oG 0,oF oG 0]) U λb6 w2 hp hr S=>Qe<|Qj (us:=QI l) S U U U U oA λw3 hs S =>
  xe ?_
 have ht:O5 [] w1 w3:=hp.O hs hr;refine Qw<|Qa<|Qs U S U U<|x (QhR (n:=l.1.toNat) U (OV (Value.int .i64) ho) (by show l.1.toNat<=16;omega) (Qot hf))<|x (Qdj (a:=b) (b:=1 <<< l.1.toNat) U (OV (Value.int .u16) (Qeo _)) hh (K8 hf))<|Qb<|Qw<|QP U U<|Qa<|xe ?_;exact⟨(k+1,orB b l.1.toNat),oh,oA,E,J.D ht,by simp only[];rw[he,QbR,G]⟩
theorem xcG {pS:String}{x:O3}{l:List O3}
   {first:LV} (E:∃fn,Fu P g fn) (hx:ev f x=.func (.func g) first.toArray capt.toArray) (h:Q6 P g (first++l.map (ev f)++capt) w λv w'=>K (QW f d v) w'):
  XO P ⟨d,.call ⟨.value x,l.toArray,at_⟩,ty,pS,af,gd⟩ f w K:=by
 obtain⟨fn,G⟩:=E;exact xc (fn:=fn) hx h
def gK (m:Nat):Nat:=if m=0 then 223 else if m=1 then 225 else 226
theorem Qne (m:Nat):∃fn,Fu prog (gK m) fn:=by
 unfold gK;split
 ·exact⟨_,inferInstance⟩
 split
 ·exact⟨_,inferInstance⟩
 exact⟨_,inferInstance⟩
abbrev K2 (c:ZB)(m:Nat):LN:=srK c ((m:Int)+1)
theorem Qk3 (c:ZB):K2 c 0=srR c:=rfl
theorem Qk2 (c:ZB):K2 c 1=srX c:=rfl
theorem Qk1 (c:ZB):K2 c 2=srC c:=rfl
structure Qbi (c:ZB):Prop where
 c8:c.co.length<=8
 r:c.rq.length<=32
 x:c.ex.length<=32
 k:c.cs.length<=32
 xl:∀e∈c.ex,∀l∈e.ls,0<=l.1/\l.1<16
 kl:∀e∈c.cs,∀l∈e.ts,0<=l.1/\l.1<16
theorem Qkw.sr (h:Qkw c):Qbi c:=by
 have E:=Vp h.cd;have I:(szs c.co).length=c.co.length:=Lh ..;have H:=h.c8;have J:=h.cr;refine⟨H,oa,E.xl,E.kl,λe G l hl=>?_,λe G l hl=>?_⟩
 ·have:=E.x e G l hl;omega
 have:=(E.k e G).1 l hl;omega
theorem Qay (h:Qbi c){m:Nat}(I:m<3):(K2 c m).length<=32:=by
 have E:=h.r;have G:=h.x;have H:=h.k;rcases m with _|_|_|m
 ·rw[Qk3];unfold srR;rw[Lh];exact E
 ·rw[Qk2];unfold srX;rw[Lh];exact G
 ·rw[Qk1];unfold srC;rw[Lh];exact H
 omega
theorem QhA (h:Qbi c){m:Nat}(G:m<3):∀b∈K2 c m,b<65536:=by
 have H:=h.c8;rcases m with _|_|_|m
 ·rw[Qk3];unfold srR;intro b E;obtain⟨x,_,rfl⟩:=LC.1 E;exact QhK _ _ _ og oa
 ·rw[Qk2];unfold srX;intro b E;obtain⟨x,hx,rfl⟩:=LC.1 E;exact QaJ _ (h.xl x hx)
 ·rw[Qk1];unfold srC;intro b E;obtain⟨x,hx,rfl⟩:=LC.1 E;exact QaJ _ (h.kl x hx)
 omega
abbrev srV (b1:Nat)(c:ZB)(m:Nat):LV:=[oF oG ((m:Int)+1),oF oG (K2 c m).length,.func (.func (gK m)) #[] #[.pointer (some ⟨b1,0,none⟩)]]
theorem Qax (b1:Nat)(c:ZB)(m:Nat):(srV b1 c m).length=3:=rfl
theorem Qhy {c:CL}{m:Nat}(G:Zb w.heap b1 44 c.cells)(H:ZK [] w.heap c)(I:Qbi c.V)(O:m<3)(hi:i<(K2 c.V m).length):
  Q6 prog (gK m) [oF oG i,.pointer (some ⟨b1,0,none⟩)] w λr w'=>r=.int .u16 ((K2 c.V m)[i]'hi:Nat)/\O5 [] w w':=by
 rcases m with _|_|_|m
 ·have hl:(K2 c.V 0).length=c.rq.length:=by rw[Qk3];unfold srR;rw[Lh];exact Lh ..
  have E:i<c.rq.length:=Nat.lt_of_lt_of_eq hi hl;have e:(K2 c.V 0)[i]'hi=rqB (c.rq[i]'E).it 0 0 c.V.co:=by
   show(srR c.V)[i]'_=_;simp[srR,CL.V]
  rw[e];have J:c.co.length<=8:=by have:=I.c8;rw[show c.V.co.length=c.co.length from Lh ..]at this;exact this
  exact Qk0 G H J (LF E)
 ·have hl:(K2 c.V 1).length=c.ex.length:=by rw[Qk2];unfold srX;rw[Lh];exact Lh ..
  have E:i<c.ex.length:=Nat.lt_of_lt_of_eq hi hl;have e:(K2 c.V 1)[i]'hi=prB (c.ex[i]'E).ls:=by
   show(srX c.V)[i]'_=_;simp[srX,CL.V,XV.x]
  rw[e];exact QkZ G H (LF E) (λl hl=>I.xl (c.ex[i]'E).x (LO (Ll E)) l hl)
 ·have hl:(K2 c.V 2).length=c.cs.length:=by rw[Qk1];unfold srC;rw[Lh];exact Lh ..
  have E:i<c.cs.length:=Nat.lt_of_lt_of_eq hi hl;have e:(K2 c.V 2)[i]'hi=prB (c.cs[i]'E).ts:=by
   show(srC c.V)[i]'_=_;simp[srC,CL.V,KV.k]
  rw[e];exact QkY G H (LF E) (λl hl=>I.kl (c.cs[i]'E).k (LO (Ll E)) l hl)
 omega
structure Qrk (N:Nat)(w:O1)(c:CL)(r:O2)(b1 b:Nat):Prop where
 r:r=.slice (some ⟨b,0,none⟩) 3 3
 n1:N<=b1
 n:N<=b
 B1:Zb w.heap b1 44 c.cells
 B:Zb w.heap b 306 ([0,1,2].flatMap (srV b1 c.V))
theorem zP {c:CL}(J:ZK L w.heap c):
  Q6 prog 160 [c.val] w λr w'=>O5 [] w w'/\∃b1 b,Qrk w.heap.size w' c r b1 b:=by
 have h:=J.up (L':=[]) oe;have e0:(K2 c.V 0).length=c.rq.length:=by rw[Qk3];unfold srR;rw[Lh];exact Lh ..
 have e1:(K2 c.V 1).length=c.ex.length:=by rw[Qk2];unfold srX;rw[Lh];exact Lh ..
 have e2:(K2 c.V 2).length=c.cs.length:=by rw[Qk1];unfold srC;rw[Lh];exact Lh ..
 refine Zq func160 ?_;refine Qc<|Qe<|QS (us:=c.cells) U λb1 V G O E=>Qb ?_;have H:=h.I G;refine Qc<|Qs U E U U<|QK H.rq.arr U<|x (Zy (l:=[]) (l':=[_]))<|x (Qz ⟨U,U,U,Z⟩)<|x (Vc U) <|
  Y7 E rfl U<|QK H.ex.arr U<|x (Zy (l:=[]) (l':=[_]))<|x (Qz ⟨U,U,U,Z⟩)<|Q2 U<|x (Qq E U U) <|
  QK H.cs.arr U<|x (Zy (l:=[]) (l':=[_]))<|x (Qz ⟨U,U,U,Z⟩) <|
  Qe<|QC (us:=[[oF oG 1,oF oG c.rq.length,.func (.func 223) #[] #[.pointer (some ⟨b1,0,none⟩)]],[oF oG 2,oF oG c.ex.length,.func (.func 225) #[] #[.pointer (some ⟨b1,0,none⟩)]],[oF oG 3,oF oG c.cs.length,.func (.func 226) #[] #[.pointer (some ⟨b1,0,none⟩)]]]) U U og oe ⟨rfl,rfl,rfl,rfl,rfl,rfl,Z⟩ λS Y I ha T =>
  Qb ?_
 have hb:=G.size;refine Qk ⟨[_],La,G.D I,b1,S,U,O,oa,E.I I,?_⟩;have e:[0,1,2].flatMap (srV b1 c.V)=[oF oG 1,oF oG c.rq.length,.func (.func 223) #[] #[.pointer (some ⟨b1,0,none⟩)],oF oG 2,oF oG c.ex.length,.func (.func 225) #[] #[.pointer (some ⟨b1,0,none⟩)],oF oG 3,oF oG c.cs.length,.func (.func 226) #[] #[.pointer (some ⟨b1,0,none⟩)]]:=by
  simp only[Oe,OM,srV,e0,e1,e2];rfl
 rw[e];exact T
structure MV where
 kd:Int
 ix:Int
 v:O2
 co:LI
def MV.m (q:MV):UU:=⟨q.kd,q.ix,q.co⟩
abbrev Xn (q:MV):LV:=[oF oG q.kd,oF oG q.ix,q.v]
theorem Qn4 (q:MV):(Xn q).length=3:=rfl
abbrev mvP (q:MV):O2×Nat×Nat×LV:=(q.v,q.co.length,1,q.co.map (.int .i64))
abbrev MvN (base:Nat)(w:O1)(v:O2)(l:List MV):Prop:=Yz Xn 3 219 mvP base w v l
theorem Qlw {q:MV}(h:q.v.oneCell'=true):∀u∈Xn q,u.oneCell'=true:=by
 intro u E;simp only[Xn,oL,oJ,or_false]at E;rcases E with rfl|rfl|rfl
 ·rfl
 ·rfl
 exact h
theorem Ux (k:Int):∀(l:LN) (i:Nat),(VM k i l).length=l.length
 | [],_=>rfl
 | _::l,i=>by rw[VM,LS,Ux k l,LS]
theorem jP (k:Int):∀(l:LN) (i j:Nat) (h:j<l.length),(VM k i l).take (j+1)=(VM k i l).take j++[⟨k,((i+j:Nat):Int),setK (l[j]'h) 8⟩]
 | [],_,j,h=>OW h (Ni _)
 | b::l,i,0,h=>by rw[VM];rfl
 | b::l,i,j+1,h=>by
  rw[VM,MJ,MJ,jP k l (i+1) j (oz h),Ml];have e:((i+1+j:Nat):Int)=((i+(j+1):Nat):Int):=oa
  rw[e];rfl
abbrev mdG (c:ZB)(m:Nat):List UU:=VM ((m:Int)+1) 0 (K2 c m)
def mdP (c:ZB):Nat->List UU
 | 0=>[]
 | m+1=>mdP c m++mdG c m
theorem Qb3 (c:ZB):mdP c 3=O9 c:=by
 simp only[mdP,O9,Ok,o0];rfl
theorem QaQ {c:ZB}(h:Qbi c):∀m,m<=3->(mdP c m).length<=32*m
 | 0,_=>Ln _
 | m+1,E=>by
  have G:=QaQ h m oa;have H:=Qay h (show m<3 by omega);rw[mdP,Lk,Ux];omega
theorem Qd6 {c:CL}(T:ZK L w.heap c):
  Q6 prog 92 [c.val] w λr w'=>O5 [] w w'/\∃v l,r=.tuple #[v,oF oG (Zl c.V)]/\MvN w.heap.size w' v l/\(Zl c.V≠0->v=nS/\l=[])/\(Zl c.V=0->l.map MV.m=O9 c.V):=by
 have h:=T.up (L':=[]) oe;refine Zk (Zl c.V) λE hE=>?_;rw[hE];refine Zq func92 ?_;refine Qc<|Qe<|QS (us:=c.cells) U λb1 w1 h7 gh h8=>x Ql<|Qb<|Qd<|Qc<|Q5 h8 U U<|ZP<|(X2 (h.I h7)).mono ?_;rintro rc wc ⟨hB,hC⟩;rw[hE]at hB;subst hB;have hJ:=h8.I hC;have ho:=h7.D hC;refine Qb<|Qm<|ZA U U<|xe<|QY rfl (λI=>?_) (λI=>?_)
 ·refine Qm<|x Ql<|Qb<|Qk ⟨[nS,oF oG E],oA,ho,nS,[],U,Yz.nil,λ_=>⟨U,U⟩,λT=>OW T I⟩
 have hp:E=0:=Lo.1 I;have hh:Qbi c.V:=(Z5 (hE.D hp)).sr;refine Qh<|Qc<|Qb<|Qd<|Qc<|Q5 hJ U U<|ZP<|(zP (h.I ho)).mono ?_;rintro r2 J ⟨hK,c1,bs,hS⟩;have hM:=hS.r;subst hM;have hr:=ho.D hK;have hA:∀{w':O1},O5 [] J w'->Zn [] w'.heap (.slice (some ⟨bs,0,none⟩) 3 3) [0,1,2].length 3 ([0,1,2].flatMap (srV c1 c.V)):=λhs =>
  (hS.B.I hs).arr oe (n:=3) (cap:=3) (sz:=3) ol oa (Lu _)
 refine QK (hA (O5.Z _ _)) U<|Qa<|xe<|Qf<|QD (α:=Nat×O2×List MV) [(5,5),(7,8),(17,39)] (λz=>[(5,z.2.1),(17,oF oG z.1)]) (λz w'=>z.1<=3/\O5 [] J w'/\MvN J.heap.size w' z.2.1 z.2.2/\z.2.2.map MV.m=mdP c.V z.1) (λz=>3 - z.1) ol (0,nS,[]) oA
  ⟨Ln _,O5.Z _ _,Yz.nil,U⟩ ?_
 rintro⟨m,v,l⟩ g w3 ⟨hm,hj,V,Y⟩;simp only[]at hm V Y;have gi:=QaQ hh m hm;have gj:l.length=(mdP c.V m).length:=by rw[<-Y,Lh]
 refine Qc<|QZ U U<|xe<|Qd<|QG U (λht=>?_) (λht=>?_)
 ·refine Qy ?_;have hN:m=3:=by have hu:¬(m:Int)<(3:Nat):=ht;omega
  rw[hN,Qb3]at Y;refine Qm<|x Ql<|Qb ?_;have hO:=hr.size;exact Qk ⟨[v,oF oG 0],oA,hr.D hj,v,l,by rw[hp];rfl,⟨Zv V.own hO,λq hq L hL=>V.each q hq L (λb G=>(hL b G).imp (λh=>oa) id)⟩,λT=>OW hp T,λ_=>Y⟩
 have O:m<3:=by have hu:(m:Int)<(3:Nat):=ht;omega
 have gk:=Qay hh O;refine Qh ?_;have gl:=hj.size;have hge:=Qi V.own;have hP:([0,1,2]:LN)[m]'O=m:=by rcases m with _|_|_|m <;> first|rfl|omega
 refine Qd<|Qf<|Qc<|O8 (g:=srV c1 c.V) (i:=m) (Qax c1 c.V) (hA hj) U U O λgm I=>?_;rw[hP]at I;refine x (Qx I U U)<|Qe<|Qo (us:=[oF oG 0,oF oG 0,.nilFunc]) U λb7 w4 hQ hR ha=>Qe<|Qj (us:=srV c1 c.V m) ha U U U U oB λw5 hT ha =>
  xe ?_
 have hv:O5 [] w3 w5:=hQ.O hT hR;have gn:=hv.size;refine Qc<|Qs U ha U U<|Qa<|xe<|Qf<|QD (α:=Nat×O2×List MV) [(5,5),(8,8),(23,38)] (λz=>[(5,z.2.1),(23,oF oG z.1)]) (λz w'=>z.1<=(K2 c.V m).length/\O5 (ob v) w5 w'/\MvN J.heap.size w' z.2.1 z.2.2/\z.2.2.map MV.m=mdP c.V m++(mdG c.V m).take z.1/\∀b∈ob z.2.1,b∈ob v\/w5.heap.size<=b) (λz=>(K2 c.V m).length - z.1) ol (0,v,l) oA
  ⟨Ln _,O5.Z _ _,V.I hv,by simp only[List.take_zero,Ox];exact Y,λb G=>.inl G⟩ ?_
 rintro⟨i,vi,li⟩ g H ⟨hi,hk,he,hf,hl⟩;simp only[]at hi he hf hl;have go:=hk.size;have hU:=Qi he.own;have hn:O5 [] J H:=(hj.D hv).then hk (λb G=>.inr (hge b G).1);have hD:b7∉ob v:=λG=>ou (hge b7 G).2
 have hF:=ha.J hk hD;have h6:=h.I (hr.D hn);have hV:Zb H.heap c1 44 c.cells:=hS.B1.I hn;have gp:li.length<=200:=by
  have e1:=OV oP hf;rw[Lh,Lk,Ly]at e1;have e2:(mdG c.V m).length=(K2 c.V m).length:=Ux _ _ _;omega
 refine Qc<|QZ U U<|xe<|Qd<|QG U (λhw=>?_) (λhw=>?_)
 ·refine Qy ?_;have hW:(K2 c.V m).length<=i:=by have hu:¬(i:Int)<((K2 c.V m).length:Int):=hw;omega
  rw[Lt (by rw[Ux];exact hW)]at hf;refine Qw<|QP U U<|Qa<|xe ?_;exact⟨(m+1,vi,li),oh,oA,O,hn,he,hf⟩
 have S:i<(K2 c.V m).length:=by have hu:(i:Int)<((K2 c.V m).length:Int):=hw;omega
 have hy:(mdG c.V m).take (i+1)=(mdG c.V m).take i++[⟨(m:Int)+1,((0+i:Nat):Int),setK ((K2 c.V m)[i]'S) 8⟩]:=jP _ _ _ _ S;rw[LR]at hy;have hbl:=QhA hh O _ (Ll S);refine Qh<|Qd<|Qf<|Qm<|Qb ?_;have hG:b7∉ob vi:=λG=>by
  rcases hl b7 G with h9|h9
  ·exact hD h9
  have:=ha.lt;omega
 have hz:O5 [] H { H with drawn:=H.drawn+1 }:=O5.C _ _
 have gq:({ H with drawn:=H.drawn+1 }:O1).heap.size=H.heap.size:=rfl
 refine ZD (ob vi) (Xb 0 13 [7,8,10,11])<|p QE<|p (QR U)<|pq (λ_ hc=>Qq (hF.J hc hG) U U)<|p QE<|p (QR U) <|
  pq (λ_ hc=>Qq (hF.J hc hG) U U)<|p QE<|pk<|xcG (first:=[]) (capt:=[.pointer (some ⟨c1,0,none⟩)]) (Qne m) U<|(Qhy (hV.I hz) (h6.I hz) hh O S).mono ?_
 rintro r8 w8 ⟨rfl,hX⟩;refine Zk ((K2 c.V m)[i]'S) λbv hY=>?_;rw[hY]at hy hbl ⊢;have h1:=hz.D hX;refine⟨h1.any,?_⟩;refine pk<|xf<|(QeM bv hbl w8).mono ?_;rintro r9 w9 ⟨hZ,h2⟩;have h3:=h1.D hZ;have gr:=h1.size;refine⟨h3.any,?_⟩;refine p (λ_=>Qz ⟨U,U,xM h2,Z⟩)<|pk<|QC (us:=[Xn ⟨(m:Int)+1,i,r9,setK bv 8⟩]) U U og oe ⟨rfl,rfl,Z⟩ λgs gt h4 gu ga=>⟨(h3.D h4).any,?_⟩;have hg:=h3.D h4;have gv:=hg.size;refine pk<|Za (news:=Xn ⟨(m:Int)+1,i,r9,setK bv 8⟩) (L:=[]) (Qp he.own hg) U U U (ga.at oe) (Qlw (q:=⟨(m:Int)+1,i,r9,setK bv 8⟩) (Qt h2)) oa oa λhH gb gc h5 hI=>⟨hg.any.Q h5,?_⟩;refine p ZN<|pe ?_;have gw:=JG bv 8;have gg:MvN J.heap.size gb hH (li++[⟨(m:Int)+1,i,r9,setK bv 8⟩]):=Yz.app2 (N:=w8.heap.size) (he.I hg) (Qp h2 h4) (by show(setK bv 8).length<=_;omega) (ou hn.size) (λb G=>ou (hU b G)) gc h5 hI;refine Qw<|QP U U<|Qa<|xe<|⟨(i+1,hH,li++[⟨(m:Int)+1,i,r9,setK bv 8⟩]),oh,oA,S,(hk.D hg).then h5 hl,gg,?_,λb G=>?_⟩
 ·simp only[];rw[hy,Ls,hf,LB];rfl
 rcases hI b G with h9|h9
 ·exact hl b h9
 exact .inr oa
theorem QlP {v:O2}{es:LN}[Fu prog g fn]{cap:LV}{q:Nat->Bool}(h:Zn L w.heap v es.length 3 (es.flatMap (srV b1 c)))
  (hk:∀(m:Nat) (G:O1),O5 [] w G->Q6 prog g ([.agg (srV b1 c m).toArray]++cap) G λr w'=>r=.bool (q m)/\O5 [] G w'):
  Q6 prog 227 [v,.func (.func g) #[] cap.toArray] w λr w'=>O5 [] w w'/\∃i:Int,r=oF oG i/\((i=-1/\∀m∈es,q m=false)\/∃k:Nat,∃m,es[k]?=some m/\i=(k:Int)/\q m=true):=by
 have hf:=h.le;refine Zq func227 ?_;refine Qc<|Qb<|Qd<|Qm<|QK h U<|Qa<|xe<|Qf<|QD (α:=Nat) [(4,5),(8,18)] (λz=>[(8,oF oG z)]) (λz w'=>z<=es.length/\O5 [] w w'/\∀m∈es.take z,q m=false) (λz=>es.length - z) ol 0 La ⟨Ln _,O5.Z _ _,λm O=>by simp at O⟩ ?_;rintro k g' G ⟨hg,H,S⟩;refine Qc<|QZ U U<|xe<|Qd<|QG U (λT=>?_) (λT=>?_)
 ·refine Qy ?_;have he:es.length<=k:=by have I:¬(k:Int)<(es.length:Int):=T;omega
  rw[Lt he]at S;refine Qc<|Qb<|Qk ⟨[oF oG (-1)],La,H,-1,U,.inl ⟨U,S⟩⟩
 have E:k<es.length:=by have I:(k:Int)<(es.length:Int):=T;omega
 have V:es.take (k+1)=es.take k++[es[k]'E]:=Lm E;have Y:es[k]?=some (es[k]'E):=LF E;refine Qh<|Qd<|Qf<|Qm<|Qb<|Qm<|Qa<|Qa<|O8 (g:=srV b1 c) (i:=k) (Qax b1 c) (h.I H) U U E λhh ha=>?_;refine Zk (es[k]'E) λm O=>?_;rw[O]at ha V Y;refine x (Qx ha U U)<|Qe<|xc (first:=[]) (capt:=cap) U<|(hk m G H).mono ?_;rintro r2 w2 ⟨rfl,hb⟩;refine xe<|QX rfl (λI=>?_) (λI=>?_)
 ·refine Qm<|Qb<|Qk ⟨[oF oG k],La,H.D hb,k,U,.inr ⟨k,m,Y,U,I⟩⟩
 refine Qh<|Qw<|QP U U<|Qa<|xe<|⟨k+1,oa,La,E,H.D hb,λm' hc=>?_⟩;rw[V]at hc;rcases Lc.1 hc with J|J
 ·exact S m' J
 simp only[oI]at J;subst J;exact I
theorem QmC {m:Nat}{q:MV}(H:Zb w.heap E 219 (Xn q)):
  Q6 prog 228 [.agg (srV b1 c m).toArray,.pointer (some ⟨E,0,none⟩)] w λr w'=>r=.bool (decide ((m:Int)+1=q.kd))/\O5 [] w w':=by
 refine Zq func228 ?_;refine Qc<|Qe<|QS (us:=srV b1 c m) U λb2 J G O I=>Qb<|Qc<|Qs U I U U<|Qs U (H.I G) U U<|x (Q0 U U)<|Qb<|Qk ⟨[_],La,U,G⟩
theorem Qga {c:CL}{q:MV}(h0:ZK L w.heap c)(hD:QQ L w.heap q.v q.co):
  Q6 prog 161 [c.val,.agg #[oF oG q.kd,oF oG q.ix,q.v]] w λr w'=>r=oF oG (mdE c.V q.m)/\O5 [] w w':=by
 have h:=h0.up (L':=[]) oe;have hm:=hD.up (L':=[]) oe;have G:mdE c.V q.m=if Zl c.V≠0 then Zl c.V else if q.kd<1\/3<q.kd then 11 else if q.ix<0\/((srK c.V q.kd).length:Int)<=q.ix then 10 else if q.co=setK ((srK c.V q.kd).getD q.ix.toNat 0) 8 then 0 else 13:=rfl
 refine Zk (mdE c.V q.m) λE hE=>?_;rw[hE]at G ⊢;refine Zq func161 ?_;refine Qc<|Qe<|QS (us:=c.cells) U λb2 w1 hF gc hv=>Qe<|QS (us:=Xn q) U λb3 w2 he gg hG=>Qb ?_;have hw:=hF.D he;refine Qd<|Qc<|Q5 (hv.I he) U U<|ZP<|(X2 (h.I hw)).mono ?_;rintro r3 w3 ⟨rfl,hf⟩;refine Qb ?_;have hg:=hw.D hf;have hH:=(hv.I he).I hf;have hI:=hG.I hf;refine Qm<|ZA U U<|xe<|QY rfl (λT=>?_) (λT=>?_)
 ·rw[OU T]at G;subst G;refine Qm<|Qb<|Qk ⟨[_],La,U,hg⟩
 rw[OT T]at G;have hh:Qbi c.V:=(Z5 (Lo.1 T)).sr;refine Qh<|Qc<|Q5 hH U U<|ZP<|(zP (h.I hg)).mono ?_;rintro r4 w4 ⟨hy,c1,bs,hS⟩;have hJ:=hS.r;subst hJ;refine Qb ?_;have hK:=hg.D hy;have h1:=hI.I hy;have hA:Zn [] w4.heap (.slice (some ⟨bs,0,none⟩) 3 3) [0,1,2].length 3 ([0,1,2].flatMap (srV c1 c.V)):=hS.B.arr oe (n:=3) (cap:=3) (sz:=3) ol oa (Lu _);refine Qm<|x (Zy (l:=[]) (l':=[_]))<|ZP<|(QlP (q:=λm=>decide ((m:Int)+1=q.kd)) (cap:=[.pointer (some ⟨b3,0,none⟩)]) hA (λm w5 I=>QmC (h1.I I))).mono ?_;rintro r5 w5 ⟨I,i,rfl,hi⟩;refine Qb ?_;have h2:=hK.D I;have hj:=h1.I I;have h3:=hA.I I;have hL:Zb w5.heap c1 44 c.cells:=hS.B1.I I;refine Qd<|Qf<|Qm<|QZ U U<|Qb<|QY U (λhl=>?_) (λhl=>?_)
 ·have hn:q.kd<1\/3<q.kd:=by
   rcases hi with⟨_,hi⟩|⟨k,m,_,hi,_⟩
   ·have e0:=O0 (hi 0 oe);have e1:=O0 (hi 1 oe);have e2:=O0 (hi 2 oe);omega
   have gh:i<0:=hl;omega
  rw[OU hn]at G;subst G;refine Qc<|Qb<|Qk ⟨[_],La,U,h2⟩
 obtain⟨m,J,hM,hn⟩:∃m:Nat,m<3/\i=(m:Int)/\q.kd=(m:Int)+1:=by
  rcases hi with⟨hi,_⟩|⟨k,m,hk,hi,hq⟩
  ·exact OW (by rw[hi];decide:i<0) hl
  have gi:=OY hq;obtain⟨hN,hk⟩:=Me.1 hk;have hO:k<3:=hN;have gj:m=k:=by rcases k with _|_|_|k <;> first|exact hk.symm|omega
  exact⟨k,hO,hi,oa⟩
 subst hM;rw[OT oa,show srK c.V q.kd=K2 c.V m by rw[hn]]at G;have gk:=Qay hh J;have h4:([0,1,2]:LN)[m]'J=m:=by rcases m with _|_|_|m <;> first|rfl|omega
 refine Q3 (α:=Bool) [(21,34)] (λz=>[(21,.bool z)]) (λz w'=>O5 [] w5 w'/\z=decide (q.ix<0\/((K2 c.V m).length:Int)<=q.ix)) ol ?_ ?_
 ·refine ZD [] (Xb 0 14 [])<|p (QR U)<|pq (λ_ H=>Qq (hj.I H) U U)<|pb (λ_=>YQ U U) (λho=>?_) (λho=>?_)
  ·refine p QE<|ps<|ps<|ps<|ps<|ps<|ps<|ps<|ps<|p (Xg U)<|p ZN<|pe ?_;have hp:q.ix<0:=ho;exact⟨true,La,O5.C _ _,by rw[OX (.inl hp)]⟩
  refine p QE<|p (QR U)<|pq (λ_ H=>Qq (hj.I H) U U)<|p QE<|p QE <|
   Go.Lg.pig (g:=srV c1 c.V) (i:=m) U (Qax c1 c.V) h3 U U J λgl h5=>?_
  rw[h4]at h5;refine p (λ_=>Zp U)<|pq (λ_ H=>QA ((h5.fld 1 (oF oG (K2 c.V m).length) U).st H) U)<|p (λ_=>Ys U U) <|
   p (Xg rfl)<|p ZN<|pe ?_
  have hp:¬q.ix<0:=ho;refine⟨decide (((K2 c.V m).length:Int)<=q.ix),La,O5.C _ _,?_⟩;rw[decide_eq_decide];exact⟨.inr,λh=>h.resolve_left hp⟩
 rintro z g V ⟨Y,hz⟩;have ha:=h2.D Y;refine QX rfl (λht=>?_) (λht=>?_)
 ·rw[OU (OY (hz.symm.D ht))]at G;subst G;refine Qc<|Qb<|Qk ⟨[_],La,U,ha⟩
 have hP:=O0 (hz.symm.D ht);rw[OT hP]at G;have hQ:q.ix=(q.ix.toNat:Int):=oa
 have O:q.ix.toNat<(K2 c.V m).length:=oa
 have hR:(K2 c.V m).getD q.ix.toNat 0=(K2 c.V m)[q.ix.toNat]'O:=by simp[oQ,O]
 have hbl:=QhA hh J _ (Ll O);rw[hR]at G;have h6:=hj.I Y;have hT:=h3.I Y;have h7:O5 [] V { V with drawn:=V.drawn+1 }:=O5.C _ _
 have hU:∀{w':O1},O5 [] V w'->Q6 prog (gK m) [oF oG q.ix,.pointer (some ⟨c1,0,none⟩)] w' λr hV=>r=.int .u16 ((K2 c.V m)[q.ix.toNat]'O:Nat)/\O5 [] w' hV:=by
  intro w' hs;have:=Qhy ((hL.I Y).I hs) ((h.I ha).I hs) hh J O;rw[<-hQ]at this;exact this
 refine Qd<|ZD [] (Xb 0 14 [9,10,11])<|p (QR U)<|pq (λ_ H=>Qq (h6.I H) U U)<|p QE<|p QE<|Go.Lg.pig (g:=srV c1 c.V) (i:=m) U (Qax c1 c.V) hT U U J λgm h8=>?_;rw[h4]at h8;refine p (λ_=>Zp U)<|pq (λ_ H=>QA ((h8.fld 2 (.func (.func (gK m)) #[] #[.pointer (some ⟨c1,0,none⟩)]) U).st H) U)<|p (QR U)<|pq (λ_ H=>Qq (h6.I H) U U) <|
  pk<|xcG (first:=[]) (capt:=[.pointer (some ⟨c1,0,none⟩)]) (Qne m) U<|(hU h7).mono ?_
 rintro r7 w7 ⟨rfl,hW⟩;refine Zk ((K2 c.V m)[q.ix.toNat]'O) λbv hX=>?_;rw[hX]at G hbl ⊢;have h9:=h7.D hW;refine⟨h9,?_⟩;refine pk<|xf<|(QeM bv hbl w7).mono ?_;rintro r8 w8 ⟨hY,hZ⟩;have hb:=h9.D hY;refine⟨hb,?_⟩;have gn:=JG bv 8;refine pk<|xf<|(JD (hm.I (ha.D hb)) (Qu.ints (L:=[]) hZ oa oe)).mono ?_;rintro r9 w9 ⟨rfl,hB⟩;refine⟨hb.D hB,?_⟩;refine p (λ_=>Zx U)<|p ZN<|pe ?_;have hC:=(ha.D hb).D hB;refine QX rfl (λhu=>?_) (λhu=>?_)
 ·have ga:¬q.co=setK bv 8:=by
   intro e;have S:(!decide (q.co=setK bv 8))=true:=hu;rw[OX e]at S;cases S
  rw[OT ga]at G;subst G;refine Qc<|Qb<|Qk ⟨[_],La,U,hC⟩
 have gb:q.co=setK bv 8:=by
  refine Decidable.byContradiction λe=>?_;have S:(!decide (q.co=setK bv 8))=false:=hu;rw[OZ e]at S;cases S
 rw[OU gb]at G;subst G;refine Qh<|Qc<|Qb<|Qk ⟨[_],La,U,hC⟩
section
variable {pS:String}
abbrev i2 (p:Int×Int):LV:=[oF oG p.1,oF oG p.2]
abbrev i5 (a:ByteArray)(b c e:Bool)(i:Int):LV:=[.string a,.bool b,.bool c,.bool e,oF oG i]
end
end Go.Lg
namespace Go.Proofs
open Go.Proofs.Tryz
open Go.Shelf
def Tryz.sortEd_ren:Go.Shelf.Ren:=⟨λ|6=>197|15=>139|14=>261|28=>214|29=>215|20=>301|21=>302|22=>303|23=>304|24=>305|25=>306|26=>307|27=>308|46=>335|47=>268|48=>269|49=>336|50=>337|57=>348|n=>n,λ|22=>57|24=>167|25=>352|3=>3|39=>285|0=>0|53=>367|55=>369|4=>4|46=>361|45=>360|50=>236|5=>5|9=>9|66=>421|70=>425|76=>452|77=>411|n=>n,λ|n=>n⟩
theorem Tryz.sortEd:Go.Proofs.SlLaysF0.n6 prog Tryz.sortEd_ren:={
 mixed:=od
 f6:=⟨Tryz.f197.name,og,func197.D (OV some od)⟩
 f14:=⟨Tryz.f261.name,og,func261.D (OV some od)⟩
 f15:=func139.D (OV some od)
 f20:=⟨Tryz.f301.name,og,func301.D (OV some od)⟩
 f21:=⟨Tryz.f302.name,og,func302.D (OV some od)⟩
 f22:=⟨Tryz.f303.name,og,func303.D (OV some od)⟩
 f23:=⟨Tryz.f304.name,og,func304.D (OV some od)⟩
 f24:=⟨Tryz.f305.name,og,func305.D (OV some od)⟩
 f25:=⟨Tryz.f306.name,og,func306.D (OV some od)⟩
 f26:=⟨Tryz.f307.name,og,func307.D (OV some od)⟩
 f27:=⟨Tryz.f308.name,og,func308.D (OV some od)⟩
 f28:=func214.D (OV some od)
 f29:=func215.D (OV some od)
 f46:=⟨Tryz.f335.name,og,func335.D (OV some od)⟩
 f47:=func268.D (OV some od)
 f48:=func269.D (OV some od)
 f49:=⟨Tryz.f336.name,og,func336.D (OV some od)⟩
 f50:=⟨Tryz.f337.name,og,func337.D (OV some od)⟩
 f57:=⟨Tryz.f348.name,og,func348.D (OV some od)⟩
 t0:=underlying0
 a0:=isAgg0
 z0:=sizeOf0
 v0:=zeroValue0
 t3:=underlying3
 a3:=isAgg3
 z3:=sizeOf3
 v3:=zeroValue3
 t4:=underlying4
 a4:=isAgg4
 z4:=sizeOf4
 v4:=zeroValue4
 t5:=underlying5
 a5:=isAgg5
 z5:=sizeOf5
 v5:=zeroValue5
 t9:=underlying9
 a9:=isAgg9
 z9:=sizeOf9
 v9:=zeroValue9
 t22:=underlying57
 a22:=isAgg57
 z22:=sizeOf57
 v22:=zeroValue57
 t25:=underlying352
 a25:=isAgg352
 z25:=sizeOf352
 v25:=zeroValue352
 t39:=underlying285
 a39:=isAgg285
 z39:=sizeOf285
 v39:=zeroValue285
 t45:=underlying360
 a45:=isAgg360
 z45:=sizeOf360
 v45:=zeroValue360
 t46:=underlying361
 a46:=isAgg361
 z46:=sizeOf361
 v46:=zeroValue361
 t50:=underlying236
 a50:=isAgg236
 z50:=sizeOf236
 v50:=zeroValue236
 t53:=underlying367
 a53:=isAgg367
 z53:=sizeOf367
 v53:=zeroValue367
 t55:=underlying369
 a55:=isAgg369
 z55:=sizeOf369
 v55:=zeroValue369
 t66:=underlying421
 a66:=isAgg421
 z66:=sizeOf421
 v66:=zeroValue421
 t70:=underlying425
 a70:=isAgg425
 z70:=sizeOf425
 v70:=zeroValue425
 t76:=underlying452
 a76:=isAgg452
 z76:=sizeOf452
 v76:=zeroValue452
 t77:=underlying411
 a77:=isAgg411
 z77:=sizeOf411
 v77:=zeroValue411 }
end Go.Proofs
namespace Go.Lg
open Go.Lg Go.Sort
abbrev Ez:={ x:Ed // (0<=x.1/\x.1<1099511627776)/\0<=x.2.1/\x.2.1<1099511627776 }
instance:Inhabited Ez:=⟨⟨(0,0,0),og⟩⟩
abbrev qX (x:Ez):LV:=[oF oG x.1.1,oF oG x.1.2.1,oF oG x.1.2.2]
abbrev EzO (base:Nat)(w:O1)(v:O2)(l:List Ez):Prop:=w.ownsRow base 167 3 v l.length (l.flatMap qX)
def ecf (x y:Ez):Int:=if x.1.1=y.1.1 then x.1.2.1 - y.1.2.1 else x.1.1 - y.1.1
theorem Qqg (x y:Ez)(W:O1):Calls prog 311 #[.agg (qX x).toArray,.agg (qX y).toArray] W λe w'=>e=.returned (oF oG (ecf x y))/\∃q os',w'=grow (W.drewN q) os':=by
 have E:IntKind.i64.wrap (x.1.1 - y.1.1)=x.1.1 - y.1.1:=YJ ⟨ov x.2 y.2,ov x.2 y.2⟩;have G:IntKind.i64.wrap (x.1.2.1 - y.1.2.1)=x.1.2.1 - y.1.2.1:=YJ ⟨ov x.2 y.2,ov x.2 y.2⟩
 go_enter func311,ntmps311
 go_wp2
 ·go_ret;rename_i h;exact⟨by rw[ecf,OT (oz h)];rfl,0,_,by rw[alloc_eq_grow,alloc_eq_grow,grow_grow];rfl⟩
 go_ret;rename_i h;exact⟨by rw[ecf,OU (oz h)];rfl,0,_,by rw[alloc_eq_grow,alloc_eq_grow,grow_grow];rfl⟩
theorem Qqh (x y:Ez)(W:O1):Calls prog 198 #[.agg (qX x).toArray,.agg (qX y).toArray] W λe w'=>e=.returned (oF oG (ecf x y))/\∃q os',w'=grow (W.drewN q) os':=by
 have E:IntKind.i64.wrap (x.1.1 - y.1.1)=x.1.1 - y.1.1:=YJ ⟨ov x.2 y.2,ov x.2 y.2⟩;have G:IntKind.i64.wrap (x.1.2.1 - y.1.2.1)=x.1.2.1 - y.1.2.1:=YJ ⟨ov x.2 y.2,ov x.2 y.2⟩
 go_enter func198,ntmps198
 go_wp2
 ·go_ret;rename_i h;exact⟨by rw[ecf,OT (oz h)];rfl,0,_,by rw[alloc_eq_grow,alloc_eq_grow,grow_grow];rfl⟩
 go_ret;rename_i h;exact⟨by rw[ecf,OU (oz h)];rfl,0,_,by rw[alloc_eq_grow,alloc_eq_grow,grow_grow];rfl⟩
theorem Qa6 (x:Ez):(qX x).length=3:=rfl
theorem QdG:∀l:List Ez,(l.flatMap qX).length=l.length*3
 | []=>rfl
 | x::l=>by rw[LH,Lk,QdG l,Qa6,LS];omega
theorem Qe2 {l:List Ez}(I:j<l.length*3):(l.flatMap qX)[j]?=some ((flatK qX 3 l.toArray)[j]!):=by
 have E:j / 3<l.length:=Nat.div_lt_of_lt_mul oa;have G:j % 3<3:=NM _ og;rw[get_flatK _ _ _ _ (oz I)];have J:=XH qX 3 Qa6 l (j / 3) E;have O:(l.flatMap qX)[j]?=(qX (l[j / 3]'E))[j % 3]?:=by
  rw[<-J,LU,OU G,ME];congr 1;omega
 rw[O];have S:(l.toArray)[j / 3]! = l[j / 3]'E:=by simp[E]
 rw[S];have H:j % 3<(qX (l[j / 3]'E)).length:=G;exact(LF H).D (OV some (getElem!_pos (qX (l[j / 3]'E)) (j % 3) H).symm)
theorem Qjr (x y:Ez):ltOf ecf x y=true↔x.1.1<y.1.1\/x.1.1=y.1.1/\x.1.2.1<y.1.2.1:=by
 unfold ltOf ecf;rw[decide_eq_true_iff];split <;> omega
theorem Qa8 (x y:Ez):ltOf ecf x y=false↔y.1.1<x.1.1\/y.1.1=x.1.1/\y.1.2.1<=x.1.2.1:=by
 rw[<-Bool.not_eq_true,Qjr];omega
theorem QoC:SWO (ltOf ecf) where
 irrefl x:=by rw[Qa8];omega
 trans x y z h1 h2:=by rw[Qjr]at *;omega
 ntrans x y z h1 h2:=by rw[Qa8]at *;omega
theorem Qet [Inhabited α]{lt:α->α->Bool}{d E:Array α}(H:PermIn 0 d.size d E)(I:SortedIn lt 0 d.size E):E.toList.Perm d.toList/\E.toList.Pairwise (λx y=>lt y x=false):=by
 obtain⟨J,_,G⟩:=H;have e1:E.extract 0 d.size=E:=by rw[<-J];exact Array.extract_size
 rw[e1,Array.extract_size]at G;refine⟨G,?_⟩;rw[MQ];intro i j hi O S;have T:i<E.size:=by simpa using hi
 have V:j<E.size:=by simpa using O
 have:=I i j (Ln _) S oa;rw[getElem!_pos E j V,getElem!_pos E i T]at this;simpa using this
theorem Qde (eg:∀args w,(callFunc g args).run prog w=.ok (.enter g args) w)(hb:∀(x y:Ez) (W:O1),Calls prog g #[.agg (qX x).toArray,.agg (qX y).toArray] W λe w'=>e=.returned (oF oG (ecf x y))/\∃q os',w'=grow (W.drewN q) os')
   {base:Nat} {v:O2} {l:List Ez} (h:EzO base w v l) (hl:l.length<=1099511627776):
  Q6 prog 197 [v,.func (.func g) #[] #[]] w λ_ w'=>O5 (ob v) w w'/\∃l':List Ez,l'.Perm l/\l'.Pairwise (λx y=>ltOf ecf y x=false)/\EzO base w' v l':=by
 unfold Q6;rcases h.2 with⟨rfl,h0⟩|⟨gb,cap,cur,rfl,hf,I,hh,hm,ho,hq⟩
 ·have hr:l=[]:=Lp h0;subst hr;have H:=AnyF.slices_SortFunc_none Tryz.sortEd none 0 (.func (.func g) #[] #[]) w;change Calls prog 197 _ _ _ at H;refine Calls.mono H λe w' J=>?_;obtain⟨rfl,rfl⟩:=J;exact⟨O5.Z _ _,[],List.Perm.refl _,List.Pairwise.nil,h⟩
 have T:gb<w.heap.size:=(LG.1 I).1;have hH:HoldsK qX 3 w gb 0 l.toArray:=by
  intro j E;rw[size_flatK,LP]at E;have V:=Qe2 E;rw[<-hq,LU,OU E]at V;constructor
  ·show(match w.heap[gb]? with|some (.cells c _ _)=>if(none:Option _).isSome then none else c[0+j]?|_=>none)=_
   rw[I];simp only[oY,OD,OE,if_false];rw[<-Mo,V];rfl
  show(match w.heap[gb]? with|some (.cells _ _ (lo,hi))=>decide (lo<=0+j) && decide (0+j<hi)|_=>false)=false
  rw[I];simp
 have H:=AnyQ.slices_SortFunc Tryz.sortEd 3 isAgg167 sizeOf167 qX Qa6 (λx v Y=>by simp at Y;rcases Y with rfl|rfl|rfl <;> rfl) ecf QoC g #[] gb 0 cap l.toArray w eg (λm os dk _ x y=>hb x y _) hH T (by simp;omega)
 change Calls prog 197 _ _ _ at H;rw[LP]at H;refine Calls.mono H λe w' J=>?_;obtain⟨rfl,G,n,os,hp,hs,rfl⟩:=J;have O:G.size=l.length:=by have:=hp.1;simpa using this
 have ha:=Qet (d:=l.toArray) (by rw[LP];exact hp) (by rw[LP];exact hs);have S:(sortWorldK qX 3 w gb 0 n G os).heap=w.heap.modify gb (onCells (putCells id 0 (flatK qX 3 G)))++os:=rfl;refine⟨⟨rfl,U,U,?_,λk hk hn=>?_⟩,G.toList,ha.1,ha.2,?_⟩
 ·rw[S,MT,Md];omega
 ·rw[S,Mh,Md,OU hk,Mv,OT (λe=>hn (by simp[ob,e]))]
 refine⟨QdG _,.inr ⟨gb,cap,putCells id 0 (flatK qX 3 G) cur,by simp[O],hf,?_,by simp[O];exact hh,hm,by simp[putCells,ho],?_⟩⟩
 ·rw[S,Mh,Md,OU T,Mv,OU rfl,I];rfl
 apply M2;intro j;rw[LU];by_cases E:j<G.toList.length*3
 ·rw[OU E,Qe2 E,Mo];have ht:j<cur.size:=by simp[O]at E;omega
  have hu:j<(flatK qX 3 G).size:=by simpa using E
  simp only[putCells,Ow,Oj ht,Oy,OR,oY,true_and,OU hu,OI,id]
 rw[OT E,MS];rw[QdG];omega
theorem Qja:∀l:List Ez,(l.map (·.1)).flatMap QF=l.flatMap qX
 | []=>rfl
 | x::l=>by rw[LK,LH,LH,Qja l];rfl
theorem Qe1:∀l:List Ed,(∀e∈l,(0<=e.1/\e.1<1099511627776)/\0<=e.2.1/\e.2.1<1099511627776)->∃zs:List Ez,zs.map (·.1)=l
 | [],_=>⟨[],U⟩
 | e::l,h=>by
  obtain⟨zs,E⟩:=Qe1 l (λd hd=>h d (Lj _ hd));exact⟨⟨e,h e Lr⟩::zs,by rw[LK,E]⟩
abbrev Qcn (x y:Ed):Prop:=x.1<y.1\/x.1=y.1/\x.2.1<=y.2.1
theorem jy (eg:∀args w,(callFunc g args).run prog w=.ok (.enter g args) w)(E:∀(x y:Ez) (W:O1),Calls prog g #[.agg (qX x).toArray,.agg (qX y).toArray] W λe w'=>e=.returned (oF oG (ecf x y))/\∃q os',w'=grow (W.drewN q) os')
   {base:Nat} {v:O2} {l:List Ed} (h:w.ownsRow base 167 3 v l.length (l.flatMap QF)) (hl:l.length<=1099511627776) (G:∀e∈l,(0<=e.1/\e.1<1099511627776)/\0<=e.2.1/\e.2.1<1099511627776):
  Q6 prog 197 [v,.func (.func g) #[] #[]] w λ_ w'=>O5 (ob v) w w'/\∃l':List Ed,l'.Perm l/\l'.Pairwise Qcn/\w'.ownsRow base 167 3 v l'.length (l'.flatMap QF):=by
 obtain⟨zs,rfl⟩:=Qe1 l G;rw[Lh]at hl;rw[Lh,Qja]at h;refine(Qde eg E h hl).mono λ_ _ ⟨H,l',I,J,O⟩=>⟨H,l'.map (·.1),I.map _,?_,by rw[Lh,Qja];exact O⟩;rw[MO];refine J.imp λ{x y} S=>?_;have:=(Qa8 y x).1 S;exact this
theorem Qaz {base:Nat}{v:O2}{l:List Ed}(h:w.ownsRow base 167 3 v l.length (l.flatMap QF))(hl:l.length<=1099511627776)(E:∀e∈l,(0<=e.1/\e.1<1099511627776)/\0<=e.2.1/\e.2.1<1099511627776):
  Q6 prog 266 [v] w λ_ w'=>O5 (ob v) w w'/\∃l':List Ed,l'.Perm l/\l'.Pairwise Qcn/\w'.ownsRow base 167 3 v l'.length (l'.flatMap QF):=by
 refine Zq func266 ?_;refine Qw<|Qa<|QM<|(jy (enters_of func311 od U) Qqg h hl E).mono ?_;rintro H I G;refine xe ?_;exact⟨[],Z,G⟩
theorem QfL {base:Nat}{v:O2}{l:List Ed}(h:w.ownsRow base 167 3 v l.length (l.flatMap QF))(hl:l.length<=1099511627776)(E:∀e∈l,(0<=e.1/\e.1<1099511627776)/\0<=e.2.1/\e.2.1<1099511627776):
  Q6 prog 197 [v,.func (.func 198) #[] #[]] w λ_ w'=>O5 (ob v) w w'/\∃l':List Ed,l'.Perm l/\l'.Pairwise Qcn/\w'.ownsRow base 167 3 v l'.length (l'.flatMap QF):=
 jy (enters_of func198 od U) Qqh h hl E
def cmF (c:ZB)(l:List (LI)):LI:=l.zipIdx.filterMap λp=>if(Uk c.ex c.cs p.1).2.2=true then some (p.2:Int)else none
theorem QjH {l:List (LI)}{k:Nat}(h:k<l.length):cmF c (l.take (k+1))=cmF c (l.take k)++(if(Uk c.ex c.cs (l[k]'h)).2.2=true then[(k:Int)]else[]):=by
 unfold cmF;rw[Lm h,List.zipIdx_append,List.filterMap_append];have e:0+(l.take k).length=k:=by rw[Ly];omega
 rw[e];simp only[List.zipIdx_cons,List.zipIdx_nil,List.filterMap_cons,List.filterMap_nil];by_cases E:(Uk c.ex c.cs (l[k]'h)).2.2=true
 ·rw[OU E,OU E]
 rw[OT E,OT E]
theorem QmB (c:ZB)(l:List (LI)):(cmF c l).length<=l.length:=by
 unfold cmF;refine LJ (List.length_filterMap_le _ _) ?_;rw[List.length_zipIdx];exact Lu _
def Qfi (c:ZB):Bool:=match xp (O7 c.co),xp (O7 c.co++O7 c.rq)with
 | some (pa,ps),some (_,ts)=>ts.all λt=>decide ((wrf c.rq (t.drop c.co.length) (enb pa (plx ps (t.take c.co.length)))).length<=1)
 | _,_=>false
def cmB (c:ZB):LI:=match xp (O7 c.co++O7 c.rq)with
 | some (sa,ts)=>cmF c (ts.map (·.take c.co.length))++[sa.st]
 | none=>[]
structure CmI (b2 base:Nat)(W:O1)(xa:O2)(st:Int)(xm vb ve:O2)(bad:LI)(es:List Ed):Prop where
 B:Zb W.heap b2 59 [xa,oF oG st,xm,ve]
 b:Qu 3 base W vb bad
 e:W.ownsRow base 167 3 ve es.length (es.flatMap QF)
 dj:Dj vb ve
 bd:∀e∈es,(0<=e.1/\e.1<1099511627776)/\0<=e.2.1/\e.2.1<1099511627776
theorem CmI.I {b2 base:Nat}{W W':O1}{xa:O2}{st:Int}{xm vb ve:O2}{bad:LI}{es:List Ed}(h:CmI b2 base W xa st xm vb ve bad es)(E:O5 [] W W'):CmI b2 base W' xa st xm vb ve bad es :=
 ⟨h.B.I E,Qp h.b E,Qp h.e E,h.dj,h.bd⟩
theorem CmI.addB {base:Nat}{W:O1}{xa:O2}{st:Int}{xm E:O2}{bad bad':LI}(h:CmI b2 base W xa st xm vb ve bad es)(G:b2<base)(H:O5 (ob vb) W W')(O:Qu 3 base W' E bad')(S:∀b∈ob E,b∈ob vb\/W.heap.size<=b):CmI b2 base W' xa st xm E ve bad' es :=
 ⟨h.B.J H (QT h.b G),O,Qg h.e H (λb G T=>h.dj b T G),λb V I=>(S b V).elim (λJ=>h.dj b J I) (λJ=>ou (Zc h.e b I)),h.bd⟩
theorem CmI.addE {base:Nat}{W W1:O1}{xa:O2}{st:Int}{xm G:O2}{bad:LI}{e:Ed}(h:CmI b2 base W xa st xm vb ve bad es)(I:b2<base)(V:O5 (ob ve) W W1)(J:W1.ownsRow base 167 3 G (es.length+1) (es.flatMap QF++QF e))(Y:∀b∈ob G,b∈ob ve\/W.heap.size<=b)
  (O:O5 [b2] W1 W') (hB:Zb W'.heap b2 59 [xa,oF oG st,xm,G]) (he:(0<=e.1/\e.1<1099511627776)/\0<=e.2.1/\e.2.1<1099511627776):CmI b2 base W' xa st xm vb G bad (es++[e]):=by
 have hge:=Qi J;refine⟨hB,Qg (Qg h.b V (λb I E=>h.dj b I E)) O (λb H E=>by have:=(Qi h.b b H).1;rw[Lb.1 E]at this;omega),?_,λb S ha=>(Y b ha).elim (λT=>h.dj b S T) (λT=>ou (Zc h.b b S)),λd hd=>?_⟩
 ·have h9:=Qg J O (λb H E=>by have:=(hge b H).1;rw[Lb.1 E]at this;omega);rw[Lk,LA];simpa using h9
 rcases Lc.1 hd with hd|hd
 ·exact h.bd d hd
 rw[Lb.1 hd];exact he
theorem CmI.stb {base:Nat}{xa:O2}{st:Int}{xm:O2}{bad:LI}:Yy B (λW=>CmI b2 base W xa st xm vb ve bad es):=
 λW W' X h E G=>⟨Yy.blk W W' X h.B E G,Yy.row W W' X h.b E G,Yy.row W W' X h.e E G,h.dj,h.bd⟩
theorem QcX {c:CL}(h0:ZK [] w.heap c)(kk:Kb w 4096)(kn:Y0 c.V=0)(Y:(spc c.V).a.st<4096)(h1:Qfi c.V=true):
  Q6 prog 135 [c.val] w λr w'=>O5 [] w w'/\∃xa xm xe vb,r=.tuple #[.agg #[xa,oF oG ((spc c.V).a.st+1),xm,xe],vb,oF oG 0]/\Zr [xa,xm,xe]/\Qu 3 w.heap.size w' vb (cmB c.V):=by
 refine Q6.of_G 20 func135 U ntmps135 results135 oe ?_;refine Zh<|QN ol ol<|Qe<|QS (us:=c.cells) U λb1 w1 pc hb1 ko=>Qe<|Qo (us:=KJ) U λb2 w2 kq hb2 kr=>x Ql<|Qb ?_;have hM:=pc.D kq;have hl1:=ko.lt;have pd:=kr.lt;have pf:=ko.I kq;have kt:ZK [b2] w2.heap c:=(h0.up (L':=[b2]) (λb G=>.inr (by rw[Lb.1 G];omega))).I hM;refine Zh<|QN ol ol<|Q5 pf U U<|ZP<|(QcJ (h0.I hM) (kk.I hM)).mono ?_;rintro r3 w3 ⟨gn,vp,rfl,_,pg⟩;obtain⟨b,q,rfl,rfl,J,_,ph⟩:=pg kn;rw[kn];have hw:=hM.D gn;have ku:JW [b2] b w3.heap q:=(ph [b2] (λx hx=>by rw[Lb.1 hx];exact pd)).2 kt;have hsp:=Qdc J.p J.s;have hst':q.s.a.st<4096:=by rw[hsp]at Y;exact Y
 have pj:cmB q.c.V=cmF q.c.V ((q.ts.map (·.2)).map (·.take q.c.V.co.length))++[q.s.a.st]:=by unfold cmB;rw[J.s]
 have pm:∀t∈q.ts.map (·.2),(wrf q.c.V.rq (t.drop q.c.V.co.length) (enb q.p.a (plx (q.qs.map (·.2)) (t.take q.c.V.co.length)))).length<=1:=λt ht=>by
  unfold Qfi at h1;rw[J.p,J.s]at h1;exact OY (Mg.1 h1 t ht)
 have pn:(spc q.c.V).a.st=q.s.a.st:=by rw[hsp]
 rw[pn,pj];refine Qa<|Q7 U U<|Q7 U U<|x Ql<|Qb<|Zh<|Zh<|QN ol ol<|Qa<|ZA U U<|xe<|VL rfl<|YN ?_;refine Zh<|QN ol ol<|Qa<|Yl U<|Q2 U<|Qs U ku.B U U<|Qe<|Qo (us:=[oF oG 0]) U λb6 w4 po pp pu=>Qe<|QB (j:=0) (u:=oF oG q.s.a.st) pu U U oe rfl λE pw kv=>xe ?_;have hO:O5 [] w3 E:=po.O pw pp;have hn:=ku.I hO;have hz3:=gn.size;have kw:=kv.lt;have pz:Zb E.heap b2 59 KJ:=(kr.I gn).I hO;have hP:Zb E.heap b6 3 [oF oG q.s.a.st]:=kv;have hst0:0<=q.s.a.st:=by
  have:=(Jw (λa T=>by
   rcases Lc.1 T with T|T
   ·exact YW (Z5 J.ok).co a T
   exact YW (Z5 J.ok).rq a T) J.s).1.st
  omega
 refine Zh<|Zh<|QN ol ol<|Y7 hP U U<|x (Ys U U)<|xe<|QmU U (λkx=>OW (show q.s.a.st≥4096 from kx) oa) (λkx=>?_);refine YN ?_;have go:O5 [] E { E with drawn:=E.drawn+1 }:=O5.C _ _
 refine Zh<|yV (O5 [] E) [oD 0,oD 1,oD 2,oD 3,oD 4,oD 6,oD 7,oD 8,oD 9,oD 10,oD 11,oD 12,oD 14,oD 15,oD 16,oD 17,oD 18,oE 5,oE 13,oE 19,oD 20,oE 21] mixed ol ol od go ?_;refine p QE<|p (Xh U)<|p (QR U)<|p (QR U)<|pq (λ_ S=>Qq (hn.B.I S) U U)<|pq (λ_ S=>Qq (hP.I S) U U)<|p (λ_=>XR U U ⟨oa,oa⟩)<|p QE<|p (Xh U)<|p (QR U)<|p (QR U) <|
  pq (λ_ S=>Qq (hn.B.I S) U U)<|p QE<|p (Xh U)<|p (QR U)<|p (QR U)<|pq (λ_ S=>Qq (hn.B.I S) U U)<|pk<|xf<|(Z0 (hn.s.al.I go)).mono ?_
 rintro xa w6 ⟨p0,gp⟩;have gq:=go.D p0;refine⟨gq,?_⟩;refine pk<|xf<|(Z0 (hn.s.mr.I gq)).mono ?_;rintro xm w7 ⟨p1,gr⟩;have hR:=gq.D p1;refine⟨hR,?_⟩;refine pk<|xf<|(KQ (hn.s.ed.I hR)).mono ?_;rintro hS w8 ⟨p2,hT⟩;have gs:=hR.D p2;refine⟨gs,?_⟩;refine p (λ_=>Qz ⟨xM gp,U,xM gr,xM hT,Z⟩)<|pkl (hl:=by kernel_rfl)<|Qj (us:=[xa,oF oG (q.s.a.st+1),xm,hS]) (pz.I gs) U U U U ⟨Qt gp,U,Qt gr,Qt hT,Z⟩ λw9 kz p3=>pe ?_;have k0:O5 [b2] E w9:=gs.any.Q kz;have hz7:=hR.size;have h8:b2<E.heap.size:=oa
 have k4:=hn.st k0;have hU:Zr [xa,xm]:=⟨Qt gp,Qt gr,Z⟩;have p4:w9.ownsRow E.heap.size 167 3 hS q.s.a.ed.length (q.s.a.ed.flatMap QF):=Qg (Zv hT oa) kz (λb G H=>by have:=(Qi hT b G).1;rw[Lb.1 H]at this;omega);have hy:=Z5 J.ok;have hA:∀a∈O7 q.c.V.co++O7 q.c.V.rq,ZE a:=λa T=>by
  rcases Lc.1 T with T|T
  ·exact YW hy.co a T
  exact YW hy.rq a T
 have gt:=(Jw hA J.s).1.okay hA;have p5:∀e∈q.s.a.ed,(0<=e.1/\e.1<1099511627776)/\0<=e.2.1/\e.2.1<1099511627776:=λe he=>by
  have h1:=gt.ed e he;have h2:=gt.al _ h1.2.2.1;omega
 have p6:CmI b2 E.heap.size w9 xa (q.s.a.st+1) xm Zz hS [] q.s.a.ed:=⟨p3,QL _ _ _ _,p4,λb G=>(by cases G),p5⟩;have p7:=gt.ed_le;have k5:=zi hA J.s;have k6:=k5.1;have p8:=k5.2;simp only[]at k6 p8;have hckc:=hy.c8;have hX:q.c.V.co.length=q.c.co.length:=Lh ..;have p9:q.c.V.rq.length=q.c.rq.length:=Lh ..;have hcr:=hy.cr;have qc:(O7 q.c.V.co++O7 q.c.V.rq).length=q.c.co.length+q.c.rq.length:=by rw[Lk];unfold O7;rw[Lh,Lh,hX,p9]
 refine Zh<|Zh<|QN ol ol<|Qa<|Yl U<|Qs U k4.B U U<|QK k4.ts.arr U<|Qa<|xe<|Zk ((q.ts.map (·.2)).map (·.take q.c.V.co.length)) λtcs gu=>?_;rw[gu];have htcl:tcs.length=q.ts.length:=by rw[<-gu,Lh,Lh]
 have hTn:q.ts.length<=4096:=by have h2:=(Jw hA J.s).1.st;have h3:(q.ts.map (·.2)).length=q.ts.length:=Lh ..;omega
 refine Z9<|qI (α:=Nat×O2×O2×List Ed) [(3,3),(7,16),(60,109)] (λz=>[(3,z.2.1),(60,oF oG z.1)])
  (λz ds W'=>z.1<=q.ts.length/\O5 [b2] E W'/\UW E.heap.size W'.heap.size ds W'/\CmI b2 E.heap.size W' xa (q.s.a.st+1) xm z.2.1 z.2.2.1 (cmF q.c.V (tcs.take z.1)) z.2.2.2/\z.2.2.2.length<=131072+z.1)
  (λz=>q.ts.length - z.1) ol (0,Zz,hS,q.s.a.ed) oA ⟨Ln _,k0,⟨MM,λD hD=>by cases hD⟩,p6,p7⟩ ?_
 rintro⟨k,vb,ve,es⟩ g ds hz ⟨hk,hB,k7,I,qf⟩;simp only[]at hk I qf;have hz10:=hB.size;have hY:=QmB q.c.V (tcs.take k);rw[Ly]at hY;refine Zh<|QN ol ol<|QZ U U<|xe<|Zh<|Qaq U (λk8=>?_) (λk8=>?_)
 ·refine Vv ?_;rw[Lt oa]at I hY;refine Zk (cmF q.c.V tcs) λbad hZ=>?_;rw[hZ]at I hY;have gv:b2∉ob ve:=QT I.e h8;have ql:b2∉ob vb:=QT I.b h8;have ga:b6∉[b2]:=om
  have qo:b6∉ob ve:=QT I.e kw;have qr:b6∉ob vb:=QT I.b kw;refine Zh<|QN ol ol<|Qs U I.B U U<|ZP<|(QfL I.e oa I.bd).mono ?_;rintro r11 h4 ⟨ho,hh,hp,_,ho11⟩;refine xe ?_;have gb:=I.B.J ho gv;have gw:=(hP.J hB ga).J ho qo;have gx:=Qg I.b ho (λb G H=>I.dj b G H);have hz11:=ho.size;have hs:=Qi I.e;have hC:=Qi gx;have q0:UW E.heap.size hz.heap.size ds h4:=k7.J ho (Go.Lg.QU I.e);refine Zh<|yV (λw'=>O5 (b2::ob vb) h4 w'/\Zb w'.heap b2 59 [xa,oF oG (q.s.a.st+1),xm,ve]/\Zb w'.heap b6 3 [oF oG q.s.a.st]) [oD 0,oD 1,oD 2,oE 3,oE 4,oE 5,oD 6,oD 7] mixed ol ol od ⟨O5.C _ _,gb.I (O5.C _ _),gw.I (O5.C _ _)⟩ ?_;refine pq (λ_ S=>ZY S.2.1 U U)<|p QE<|pq (λ_ S=>Qq S.2.2 U U)<|pk<|QC (us:=[[oF oG q.s.a.st]]) U U og oe ⟨rfl,rfl,Z⟩ λb116 gy gz hb116 q1=>?_;have h5:=(O5.C [] h4).D gz;have hz12:=h5.size;refine⟨⟨h5.any,gb.I h5,gw.I h5⟩,?_⟩;refine pk<|Za (m:=1) (news:=[oF oG q.s.a.st]) (L:=[]) (Qp gx h5) U U U (q1.at oe) (by simp[Value.oneCell']) oa oa λk9 hE ma gc hn13=>?_;have gg:O5 (ob vb) h4 hE:=h5.any.Q gc;have mf:=gb.J gg ql;have mg:=gw.J gg qr;refine⟨⟨gg.mono (λb G=>Lj _ G),mf,mg⟩,?_⟩;refine pk<|Qj (us:=[xa,oF oG (q.s.a.st+1),xm,ve]) mf U U U U ⟨hU.1,U,hU.2.1,Qt I.e,Z⟩ λhf O mh=>?_;have g0:O5 (b2::ob vb) h4 hf:=(gg.mono (λb G=>Lj _ G)).Q (O.mono oe);refine⟨⟨g0,mh,mg.J O ga⟩,?_⟩;refine p ZN<|p ZN<|pe ?_;have q2:=Qg ma O (λb G H=>by have:=(Qi ma b G).1;rw[Lb.1 H]at this;omega);have hu:UW E.heap.size hz.heap.size ds hf:=q0.J g0 (λb G=>by
   rcases Li.1 G with rfl|G
   ·exact gb.cells
   exact Go.Lg.QU gx b G)
  have q3:b2∉ds:=λH=>ou (hu.2 b2 H).1
  have hG:O5 [] w hf:=(((hw.D hO).O hB oa).then ho (λb G=>.inr (ov (hs b G).1 hw.size))).then g0 (λb G=>.inr (by
   rcases Li.1 G with rfl|G
   ·omega
   have:=(hC b G).1;have:=hw.size;omega))
  refine Vu ⟨λD hD=>(hu.2 D hD).2.2,hu.1,[.agg #[xa,oF oG (q.s.a.st+1),xm,ve],k9,oF oG 0],λW' g4=>?_⟩;refine⟨⟨⟨_,U,Qn U ((mh.J g4 q3).at (L:=[]) oe).cells⟩,rfl,rfl,Z⟩,hG.then g4 (λD hD=>.inr (ov (hu.2 D hD).1 hw.size)),xa,xm,ve,k9,U,⟨hU.1,hU.2.1,Qt I.e,Z⟩,?_⟩;have h9:=Qu.snoc q2;have mj:=Qg h9 g4 (λb G H=>by
   obtain⟨o,g1,g2⟩:=Go.Lg.QU h9 b G;rw[(hu.2 b H).2.2]at g1;cases g1
   cases g2)
  rw[<-hZ]at mj;exact Zv mj (ou hw.size)
 have hH:k<q.ts.length:=by have h62:(k:Int)<(q.ts.length:Int):=k8;omega
 have mo:k<tcs.length:=oa
 have hg:=QjH (c:=q.c.V) mo;have q4:tcs[k]'mo=(q.ts[k]'hH).2.take q.c.V.co.length:=by subst gu;simp
 have gh:=Ll hH;have hI:=k6 _ (LO (f:=(·.2)) gh);have hv:=pm _ (LO (f:=(·.2)) gh);rw[q4]at hg;refine Zk (cmF q.c.V (tcs.take k)) λbad hZ=>?_;rw[hZ]at I hY hg;refine Zk (ob vb++ob ve) λav g5=>?_;have hC:=Qi I.b;have hs:=Qi I.e;have q5:∀x∈av,E.heap.size<=x/\x<hz.heap.size:=λx hx=>by
  rw[<-g5]at hx;exact(Lc.1 hx).elim (hC x) (hs x)
 have j1:JW (b2::av) b E.heap q:=hn.up (λx hx=>by
  rcases Li.1 hx with rfl|hx
  ·exact .inl Lr
  exact .inr (q5 x hx).1)
 have gi:JW (b2::av) b hz.heap q:=j1.st (hB.mono oe);refine Zk (cmF q.c.V (tcs.take (k+1))) λg6 mq=>?_;rw[mq]at hg;refine YN<|QfC (α:=O2×O2×List Ed) [(3,3),(7,16),(61,109)] (λz=>[(3,z.1),(60,oF oG k)]) (λz h6 W'=>O5 [b2] E W'/\UW E.heap.size W'.heap.size h6 W'/\CmI b2 E.heap.size W' xa (q.s.a.st+1) xm z.1 z.2.1 g6 z.2.2/\z.2.2.length<=131072+(k+1)) ol ?_ ?_
 rotate_left
 ·rintro⟨gj,hq,hh⟩ g h6 W ⟨j2,j3,za,zb⟩;refine QN ol ol<|QP U U<|Qa<|xe ?_;exact⟨(k+1,gj,hq,hh),oh,oA,hH,j2,j3,by simp only[];rw[mq];exact za,zb⟩
 refine Z9<|Zh<|QN ol ol<|Qa<|O8 (g:=YK) V0 gi.ts.arr U U hH λa63 ms=>?_;refine Zk (q.ts[k]'hH) λt ht=>?_;rw[ht]at ms gh hI hv hg;have zv:=gi.ts.each t gh;have htl:t.2.length=q.c.co.length+q.c.rq.length:=by rw[hI.1,qc]
 refine x (QA ms U)<|Qe<|Qo (us:=[oF oG 0]) U λb7 h4 ho z0 z1=>Qe<|QB (j:=0) (u:=oF oG k) z1 U U oe rfl λgy gz z2=>Qb ?_;have g7:O5 [] hz gy:=ho.O gz z0;have z3:Zb gy.heap b7 3 [oF oG k]:=z2;refine Zh<|QN ol ol<|Qa<|Qa<|ZP<|(QbE (gi.I g7) (zv.I g7) oa).mono ?_;rintro r13 hE ⟨gc,v9,mt,rfl,g8,mu⟩;refine Qa<|Q7 U U<|Q7 U U<|x Ql<|Qb ?_;have hJ:=g7.D gc;have mv:=gi.I hJ;rw[hX]at hv hg;refine Zk (t.2.take q.c.co.length) λtc gk=>?_;refine Zk (t.2.drop q.c.co.length) λtr mw=>?_;rw[gk]at g8 hv hg;rw[mw]at mu hv;have z4:tc.length=q.c.co.length:=by rw[<-gk,Ly];omega
 have z5:=hI.bd (m:=4096) (λa T=>(hA a T).st1);have my:∀x∈tc,0<=x/\x<4096:=λx hx=>z5 x (LX (by rw[gk];exact hx));have hVc:Vt (O7 q.c.V.co) tc:=by
  have h1:=hI.take;rw[show(O7 q.c.V.co).length=q.c.co.length by unfold O7;rw[Lh];exact hX,gk]at h1;exact h1
 have hVr:Vt (O7 q.c.V.rq) tr:=by
  have h1:=hI.drop;rw[show(O7 q.c.V.co).length=q.c.co.length by unfold O7;rw[Lh];exact hX,mw]at h1;exact h1
 have gl:JW [] b hE.heap q:=mv.up oe;have hvo:=qP gl.k1 gl.k2 gl.k3 (g8.up (L':=[]) oe) (by rw[J.ex,J.cs];exact hy.cd) hVc.tpOk;rw[J.ex,J.cs]at hvo;refine Zk (Uk q.c.V.ex q.c.V.cs tc) λV hV=>?_;rw[hV]at hvo hg;have g9:=I.I hJ;have hz13:=hJ.size;have mz:=z3.I gc;refine QfC (α:=O2) [(3,3),(11,14),(71,86)] (λz=>[(3,z)]) (λz h6 W=>h6=ds/\O5 (ob vb) hE W/\Qu 3 E.heap.size W z g6/\∀x∈ob z,x∈ob vb\/hE.heap.size<=x) ol ?_ ?_
 ·refine Zh<|QN ol ol<|Qa<|Yl U<|Q2 U<|x (Zj (us:=[q.vs,q.vx,q.vk]) gl.B U U U)<|Qa<|ZP<|hvo.mono ?_;rintro r14 hf ⟨O,rfl⟩;refine Qa<|Q7 U U<|Q7 U U<|Q7 U U<|Q7 U U<|x Ql<|x Ql<|x Ql<|Qb<|Zh<|QN ol ol<|Qa<|xe ?_;have m2:=Qp g9.b O;refine Ug U (λka=>?_) (λka=>?_)
  ·rw[OU ka]at hg;refine QN ol ol<|Qa<|Y7 (mz.I O) U U<|Qe<|QC (us:=[[oF oG k]]) U U og oe ⟨rfl,rfl,Z⟩ λb85 y1 hi hb85 hB85=>?_;have zy1:=hi.size;have hz14:=O.size;refine Qe<|Za (m:=1) (news:=[oF oG k]) (L:=[]) (Qp m2 hi) U U U (hB85.at oe) (by simp[Value.oneCell']) oa oa λz y2 gm hK kb=>Qb<|⟨z,⟨rfl,Z⟩,rfl,(O.D hi).any.Q hK,by rw[hg];exact Qu.snoc gm,λx hx=>(kb x hx).imp id (λh=>oa)⟩
  rw[OT (by rw[ka];decide),LQ]at hg;refine YN ?_;exact⟨vb,La,U,O.any,by rw[hg];exact m2,λx hx=>.inl hx⟩
 rintro gj g h6 hf ⟨rfl,O,hbO,hbn⟩;have hI14:=g9.addB h8 O hbO hbn;have hz14:=O.size;have kc:∀x∈ob vb,x∈b2::av:=λx hx=>Lj _ (by rw[<-g5];exact Lc.2 (.inl hx));have m3:∀x∈b2::ob ve,x∈b2::av:=λx hx=>by
  rcases Li.1 hx with rfl|hx
  ·exact Lr
  exact Lj _ (by rw[<-g5];exact Lc.2 (.inr hx))
 have ke:=mv.st (O.mono kc);have hI9a:=g8.st (O.mono kc);have m4:=mu.st (O.mono kc);have hG:O5 [b2] E hf:=(hB.D hJ.any).then O (λx hx=>.inr (hC x hx).1);have hs014:O5 [] w hf:=(hw.D hO).O hG oa;have hn7b:b7∉ob vb:=λH=>ou (hC b7 H).2
 have ga:b6∉[b2]:=om
 have hB714:=mz.J O hn7b;have hB614:=hP.J hG ga;have hu:UW E.heap.size hz.heap.size h6 hf:=(k7.I hJ).J O (Go.Lg.QU g9.b);refine Zh<|yV (O5 [] hf) [oD 0,oD 1,oD 2,oD 3,oD 4,oE 5,oD 6,oD 7] mixed ol ol od (O5.C _ _) ?_;refine p QE<|p (Xh U)<|p (QR U)<|pq (λ_ S=>Qq (ke.B.I S) U U)<|p QE<|pk<|xf<|(Qbf (hI9a.I (O5.C _ _)) ((kk.I hs014).I (O5.C _ _)) my oa).mono ?_;rintro r15 w15 ⟨rfl,hs15⟩;have kf:=(O5.C [] hf).D hs15;refine⟨kf,?_⟩;have m5:(match xd q.mm (KY tc)with|some u=>u|none=>oF oG 0)=oF oG (plx (q.qs.map (·.2)) tc):=by
  rw[J.m tc z4 (λx hx=>(my x hx).1)];unfold plx;by_cases H:tc∈q.qs.map (·.2)
  ·rw[OU H,OU H]
  rw[OT H,OT H]
 have hL:=QbS J.ok J.p;have m6:=Qh3 hL.2.2.1 tc;refine Zk (plx (q.qs.map (·.2)) tc) λpi hpi=>?_;rw[hpi]at m5 hv m6;rw[<-hL.2.1]at m6;have hckp:cks q.p.a pi=0:=by
  unfold cks;rw[OT (by rw[(Z1 q.p.a).2 hL.1];decide),OT oa]
 refine pq (λ_ S=>(Jz (k:=KY tc) (ke.m.I S) U U).D (OV (λv=>Result.ok (Next.value v) _) m5))<|p ZN<|pe ?_;refine Zh<|QN ol ol<|Qa<|Qa<|Qa<|ZP<|(qJ (b:=b) (st:=pi) (vr:=mt) m4.cells).mono ?_;rintro r16 h7 ⟨hs16,c1,c2,c3,rfl,hc1,kt,hc3,hR1,hR2,hR3⟩;refine xe ?_;have hr:=kf.D hs16;have hz1415:=kf.size;have hz16:=hr.size;have kg:=hI14.I hr;have hD16:=hu.I hr;have hB716:=hB714.I hr;have hB616:=hB614.I hr;have hs516:O5 [b2] E h7:=hG.D hr.any;refine Zk (wrf q.c.V.rq tr (enb q.p.a pi)) λfl kh=>?_;rw[kh]at hv;have ki:∀x∈b2::ob ve,x<hf.heap.size:=λx hx=>by
  rcases Li.1 hx with rfl|hx
  ·omega
  have:=(hs x hx).2;omega
 have hSt16:JW (b2::ob ve) b h7.heap q:=(ke.I hr).up (λx hx=>.inl (m3 x hx));have hIr16:QQ (b2::ob ve) h7.heap mt tr:=(m4.I hr).up (λx hx=>.inl (m3 x hx));have hEv:∀p∈fl,0<=p.1/\p.1<32:=λp hp=>by
  rw[<-kh]at hp;have g1:=(zh.1 hp).1;unfold enb at g1;obtain⟨e,he,g2⟩:=LC.1 g1;have g3:=hL.1.al _ (hL.1.ed e (ZU he).1).2.2.1;rw[g2]at g3;exact g3
 have hn7L:b7∉b2::ob ve:=λH=>by
  rcases Li.1 H with g1|g1
  ·omega
  have:=(hs b7 g1).2;omega
 have hn6L:b6∉b2::ob ve:=λH=>by
  rcases Li.1 H with g1|g1
  ·omega
  have:=(hs b6 g1).1;omega
 have gv:b2∉ob ve:=QT I.e h8;have hb016:E.heap.size<=h7.heap.size:=oa
 have hel2:es.length+1<=1099511627776:=oa
 have hkb2:(0:Int)<=(k:Int)/\(k:Int)<1099511627776:=oa
 refine Z9<|QcU (α:={ x:Int×Int // x∈fl }) (b2::ob ve) oa (capt:=[.pointer (some ⟨c1,0,none⟩),.pointer (some ⟨c2,0,none⟩),.pointer (some ⟨c3,0,none⟩)]) U (encs:=λx=>[oF oG x.1.1,oF oG x.1.2]) og (λ_=>U)
  (Uq hR1 hR2 hR3 (λH=>ou (ki _ H)) (λH=>ou (ki _ H)) (λx hx=>ou (ki _ hx)) hSt16 hIr16 (λx hx=>hy.rq x.it (LO hx)) hVr hckp U kh)
  (λpre W=>∃hq hh,O5 (b2::ob ve) h7 W/\CmI b2 E.heap.size W xa (q.s.a.st+1) xm gj hq g6 hh/\(pre=[]->hq=ve/\hh=es)/\hh.length<=es.length+pre.length)
  (λpre=>Yy.ex λhq=>Yy.ex λhh=>(Yy.J (Lu _)).and (CmI.stb.and ((Yy.pure _).and (Yy.pure _))))
  (λ_ _ _=>False) (λ_ _=>Yy.pure _)
  ⟨ve,es,O5.Z _ _,kg,λ_=>⟨U,U⟩,Lu _⟩
  (λf x f' W=>f'=upd (upd (upd f 98 (oF oG x.1.1)) 99 (oF oG x.1.2)) 16 (oF oG x.1.1)) (λx f'=>Yy.pure _) ?_ ?_ ?_ ?_
 ·rintro l pre ⟨⟨e,i⟩,he⟩ W hW;refine QN ol ol<|Qb<|⟨U,KT.refl _ _ _,Lg.XN.refl _ _,hW,U⟩
 ·rintro l pre ⟨⟨e,i⟩,he⟩ f' W ⟨hq,hh,Y,hj,m7,hlen⟩ rfl hN;have m8:pre=[]:=Lp (Nat.lt_one_iff.1 (LW hN hv));have hv1:=(m7 m8).1;have hv2:=(m7 m8).2;rw[hv1,hv2]at hj;have m9:=Y.size;have hee:=hEv _ he;simp only[]at hee;refine Z9<|QN ol ol<|Qs U hj.B U U<|Y7 (hB716.J Y hn7L) U U<|Qa<|Y7 (hB616.J Y hn6L) U U<|x (Qz ⟨U,U,U,Z⟩)<|Qe<|QC (us:=[QF ((k:Int),e,q.s.a.st)]) U U og (by exact(by decide:1*3<=1000000)) oA λb106 y1 hi hb106 hB106=>?_;have zy1:=hi.size;refine Qe<|Za (m:=1) (news:=QF ((k:Int),e,q.s.a.st)) (L:=[]) (Qp hj.e hi) U U U (hB106.at oe) (by simp[QF,Value.oneCell']) hel2 oa λu y2 gm hK kb=>?_;refine Q2 U<|Qe<|QB (u:=u) ((hj.B.I hi).J hK gv) U U oe (Qt gm) λy3 pa hB3=>xe ?_;have kj:O5 (b2::ob ve) W y3:=(hi.any.Q (hK.mono λx hx=>Lj _ hx)).Q (pa.mono oe);have hnw:∀x∈ob u,x∈ob ve\/W.heap.size<=x:=λx hx=>(kb x hx).imp id (λh=>oa);refine⟨KT.J kj m9 (λx hx=>⟨.inl hx,?_⟩),Lg.XN.J kj,u,es++[((k:Int),e,q.s.a.st)],Y.Q kj,hj.addE h8 (hi.any.Q hK) gm hnw pa hB3 ⟨hkb2,oh⟩,λh=>OW h oe,by simp only[oM,oO];omega⟩;rcases Li.1 hx with rfl|hx
  ·exact hj.B.cells
  exact Go.Lg.QU hj.e x hx
 ·rintro D xs W hD hxs ⟨hq,hh,Y,hj,_,hlen⟩ hdD;have hxl:xs.length=fl.length:=by have g1:=OV oP hxs;rw[Lh]at g1;exact g1
  have m9:=Y.size;refine⟨(gj,hq,hh),oA,hs516.then Y (λx hx=>?_),((hD16.J Y (λx hx=>?_)).up oa).cons oa (show h7.heap.size<=D from hD) hdD,hj,oh⟩
  ·rcases Li.1 hx with rfl|hx
   ·exact .inl Lr
   exact .inr (hs x hx).1
  rcases Li.1 hx with rfl|hx
  ·exact kg.B.cells
  exact Go.Lg.QU kg.e x hx
 rintro D e pre W hD hSp hF;exact hF.elim
theorem Um (m:Nat)(S:m<256)(w:O1):Q6 prog 34 [.int .u8 m] w λr w'=>O5 [] w w'/\Qu 3 w.heap.size w' r (setK m 5):=by
 refine Zq func34 ?_;refine Qc<|Qb<|Qc<|Qb<|Qd<|Qc<|Qb<|Qf<|QD (α:=Nat×O2) [(3,17)] (λz=>[(3,z.2),(4,oF oG z.1)]) (λz w'=>z.1<=5/\O5 [] w w'/\Qu 3 w.heap.size w' z.2 (setK m z.1)) (λz=>5 - z.1) ol (0,nS) oA
  ⟨Ln _,O5.Z _ _,QL _ _ _ _⟩ ?_
 rintro⟨k,v⟩ g w1 ⟨T,G,E⟩;simp only[]at T E;have hh:=JG m k;have hi:=G.size;refine Qd<|Qm<|QZ U U<|xe<|QG rfl (λV=>?_) (λV=>?_)
 ·refine Qy<|Qm<|Qb ?_;have Y:k=5:=oa
  rw[Y]at E;exact Qk ⟨[v],La,G,E⟩
 have J:k<5:=oa
 have ha:m / 2 ^ k<256:=Nat.lt_of_le_of_lt (Nat.div_le_self _ _) S;have H:=U0 m k;refine Qh<|Qd<|Qf<|Qm<|Qa<|x (jD (n:=k) U U (by show k<=8;omega))<|x (z7 (a:=m / 2 ^ k) (b:=1) (OV (Value.int .u8) (QaA m k)) U ha og)<|x (Q0 U U)<|xe<|QG rfl (λO=>?_) (λO=>?_)
 ·rw[OT (λe=>O (by rw[e];rfl))]at H;refine Qh<|Qw<|Qa<|QP U U<|Qb<|⟨(k+1,v),oh,oA,J,G,by simp only[];rw[H];exact E⟩
 rw[OU oa]at H;refine Qw<|Qa<|Qa<|Qe<|QC (us:=[[oF oG k]]) U U og oe ⟨rfl,rfl,Z⟩ λhj w2 I hl hc=>?_;have he:=Qp E I;have hn:=I.size;refine Qe<|Za (news:=[oF oG k]) (L:=[]) he U U U (hc.at oe) (by simp[Value.oneCell']) oa oa λv3 w3 hf hg ho =>
  Qb ?_
 have hge:=Qi E;refine Qw<|Qa<|QP U U<|Qb<|⟨(k+1,v3),oh,oA,J,(G.D I).then hg (λb hb=>.inr (hge b hb).1),?_⟩;simp only[];rw[H];exact Qu.snoc hf
section
variable {pS:String}
theorem QnM {e bys:Nat}[h:Sl P t e 1 bys z][he:Ik P e .u8][hd:St P E]{x:O3}(G:Zb w.heap b T [.int .u8 (n:Int)])(S:n<256)(hx:ev f x=.slice (some ⟨b,0,none⟩) 1 cap):
  (execOp (ev f) ⟨d,.convert t E x,ty,pS,af,gd⟩).run P w=.ok (.value (.string ⟨#[UInt8.ofNat n]⟩)) w:=by
 refine zm hx ?_;refine run_convert_bytes_back (P:=P) w t E e ⟨b,0,none⟩ cap [UInt8.ofNat n] h.u he.u hd.u (λj H=>?_);have I:j=0:=by simp at H;omega
 subst I;rw[Kt];have J:(⟨b,0,none⟩:Addr).add 0=⟨b,0,none⟩:=rfl;rw[J,G.cell];have O:(UInt8.ofNat n).toNat=n:=by simp[UInt8.toNat_ofNat'];omega
 simp[O]
end
theorem Qcg (e:J9):∀u∈Zo e,u.oneCell'=true:=by
 intro y E;simp only[Zo,oL,oJ,or_false]at E;rcases E with rfl|rfl|rfl|rfl|rfl <;> rfl
theorem Qa0 {q:IV}(G:q.p.va.oneCell'=true)(H:q.p.vm.oneCell'=true)(I:q.p.ve.oneCell'=true):∀u∈QO q,u.oneCell'=true:=by
 intro y E;simp only[QO,oL,oJ,or_false]at E;rcases E with rfl|rfl|rfl|rfl|rfl
 ·rfl
 ·exact G
 ·rfl
 ·exact H
 exact I
theorem yq {base:Nat}{q:IV}(h:∀L:LN,(∀b∈L,b<N)->ZH L H q.p.va q.p.vm q.p.ve q.p.a)(G:base<=N)(I:∀b∈av,b<N):∀t∈Qge q,YG base av H t.1 t.2.1 t.2.2.1 t.2.2.2:=by
 intro t J;simp only[oL,oJ,or_false]at J;rcases J with rfl|rfl|rfl
 ·exact YG.of_lt (λL E=>(h L E).al) G I
 ·exact YG.of_lt (λL E=>(h L E).mr) G I
 exact YG.of_lt (λL E=>(h L E).ed) G I
structure zc (base:Nat)(w:O1)(vc va:O2)(co:List IV)(al:LI):Prop where
 c:w.ownsRow base 71 5 vc co.length (co.flatMap QO)
 a:Qu 3 base w va al
 dj:Dj vc va
 each:∀q∈co,∀t∈Qge q,YG base (ob vc++ob va) w.heap t.1 t.2.1 t.2.2.1 t.2.2.2
section
variable {base:Nat}{vc vc' va':O2}{co:List IV}
theorem zc.nil:zc base w (nS) (nS) [] []:=⟨QL _ _ _ _,QL _ _ _ _,Dj.nil _,λq E=>by cases E⟩
theorem zc.I (h:zc base w vc va co al)(E:O5 [] w w'):zc base w' vc va co al:=⟨Qp h.c E,Qp h.a E,h.dj,λq G t H=>(h.each q G t H).I E⟩
theorem zc.low {X:LN}(h:zc base w vc va co al)(E:O5 X w w')(G:∀b∈X,b<base):zc base w' vc va co al :=
 ⟨Qg h.c E (λb H I=>ov (Qi h.c b H).1 (G b I)),Qg h.a E (λb H I=>ov (Qi h.a b H).1 (G b I)),h.dj,λq J t O=>(h.each q J t O).low E G⟩
theorem zc.avlt (h:zc base w vc va co al):∀b∈ob vc++ob va,b<w.heap.size:=λb E=>(Lc.1 E).elim (Zc h.c b) (Zc h.a b)
theorem zc.setC {q:IV}(h:zc base w vc va co al)(V:∀t∈Qge q,YG base (ob vc++ob va) w.heap t.1 t.2.1 t.2.2.1 t.2.2.2)(Y:w'.ownsRow base 71 5 vc' (co.length+1) (co.flatMap QO++QO q))
  (G:O5 (ob vc) w w') (H:∀b∈ob vc',b∈ob vc\/w.heap.size<=b):zc base w' vc' va (co++[q]) al:=by
 have I:O5 (ob vc++ob va) w w':=G.mono (λb E=>Lc.2 (.inl E));have J:∀b∈ob vc'++ob va,b∈ob vc++ob va\/w.heap.size<=b:=λb E=>by
  rcases Lc.1 E with E|E
  ·exact(H b E).imp (λh=>Lc.2 (.inl h)) id
  exact .inl (Lc.2 (.inr E))
 refine⟨?_,Qg h.a G (λb E ha=>h.dj b ha E),λb E O=>?_,λd hd t S=>?_⟩
 ·rw[Lk,LA];simpa using Y
 ·rcases H b E with T|T
  ·exact h.dj b T O
  have:=Zc h.a b O;omega
 rcases Lc.1 hd with hd|hd
 ·exact(h.each d hd t S).app I J
 simp only[oI]at hd;subst hd;exact(V t S).app I J
theorem zc.setA {H:LI}(h:zc base w vc va co al)(S:Qu 3 base w' va' H)(I:O5 (ob va) w w')(J:∀b∈ob va',b∈ob va\/w.heap.size<=b):zc base w' vc va' co H:=by
 have T:O5 (ob vc++ob va) w w':=I.mono (λb E=>Lc.2 (.inr E));have V:∀b∈ob vc++ob va',b∈ob vc++ob va\/w.heap.size<=b:=λb E=>by
  rcases Lc.1 E with E|E
  ·exact .inl (Lc.2 (.inl E))
  exact(J b E).imp (λh=>Lc.2 (.inr h)) id
 refine⟨Qg h.c I (λb E G=>h.dj b E G),S,λb E G=>?_,λd hd t Y=>(h.each d hd t Y).app T V⟩;rcases J b G with O|O
 ·exact h.dj b E O
 have:=Zc h.c b E;omega
theorem zc.itms (h:zc base w vc va co al)(I:co.length<=1099511627776)(J:∀q∈co,Jp q.nm)(G:∀b∈L,b<base):XM L w.heap vc co :=
 ⟨QJ h.c I (λb E hbL=>ov (Qi h.c b E).1 (G b hbL)),λq H=>⟨h.each q H (q.p.va,q.p.a.al.length,1,q.p.a.al.map (.int .i64)) oe L (λb E=>.inl (G b E)),h.each q H (q.p.vm,q.p.a.mr.length,1,q.p.a.mr.map (.int .i64)) oe L (λb E=>.inl (G b E)),h.each q H (q.p.ve,q.p.a.ed.length,3,q.p.a.ed.flatMap QF) oe L (λb E=>.inl (G b E))⟩,J⟩
end
theorem XJ (ns:LN):(bys ns).length=ns.length:=by rw[bys,Lh]
def grN (ns:LN)(o:Nat):LN:=(ns.drop o).take 27
theorem QiV (h:o+27<=ns.length):(grN ns o).length=27:=by unfold grN;simp;omega
theorem Qnd (h:∀n∈ns,n<256):∀n∈grN ns o,n<256:=QmE h o 27
theorem Qj0 (ns:LN)(n:Nat):(bys ns).set 0 (.int .u8 (n:Int))=bys (ns.set 0 n):=by
 unfold bys;rw[OQ]
theorem Qk7 (h:∀m∈ns,m<256)(E:n<256):∀m∈ns.set 0 n,m<256:=λm G=>by
 rcases MR G with H|rfl
 ·exact h m H
 exact E
theorem QhF (h:0<ns.length):(ns.set 0 n).getD 0 0=n:=by simp[oQ,h]
structure GdA (a:Q9):Prop where
 ok:ZE a
 p:0<a.st
 s:a.st<=3
 c:∃a0:Q9,ZE a0/\0<a0.st/\a=Xf a0
theorem QcG (G:ZE a)(h:0<a.st):0<(Xf a).st:=by
 show 0<((xq a).length:Int);have E:(0:Int)∈xq a:=by
  have key:∀(f i:Nat) (out:LI),(0:Int)∈out->(0:Int)∈j0 a f i out:=by
   intro f;induction f with
   | zero=>intro i out h;exact h
   | succ f ih =>
    intro i out h;rw[j0];split
    ·exact ih _ _ (Qa5 _ _ _ h)
    exact h
  refine key _ _ _ ?_;unfold fd0;rw[OU h];simp
 have:=List.length_pos_of_mem E;omega
theorem GdA.of {E:Q9}(G:ZE E)(H:0<E.st)(O:E.st<=((1+n % 5:Nat):Int))(J:a=Xf E)(S:n<3):GdA a:=by
 have I:=Qbe G;subst J;exact⟨I.1,QcG G H,ou I.2.2,E,G,H,U⟩
def nmI (c k:Nat):ByteArray:=⟨#[UInt8.ofNat c]⟩++⟨#[UInt8.ofNat (48+k)]⟩
theorem qg (c k:Nat):Jp (nmI c k):=by
 show(ByteArray.mk _++ByteArray.mk _).size<=_;rw[ByteArray.size_append];show 1+1<=_;omega
open Go.RowKit
section
variable {all:xE}{C:xA}
end
section
variable {all:xE}{C J:xA}
end
end Go.Lg
namespace Go.Proofs
open Go.Proofs.Tryz
open Go.Shelf
def Tryz.sortRm_ren:Go.Shelf.Ren:=⟨λ|6=>240|15=>139|14=>275|28=>214|29=>215|20=>313|21=>314|22=>315|23=>316|24=>317|25=>318|26=>319|27=>320|46=>339|47=>268|48=>269|49=>340|50=>341|57=>349|n=>n,λ|22=>86|24=>241|25=>390|3=>3|39=>285|0=>0|53=>367|55=>369|4=>4|46=>361|45=>360|50=>236|5=>5|9=>9|66=>421|70=>425|76=>452|77=>411|n=>n,λ|n=>n⟩
theorem Tryz.sortRm:Go.Proofs.SlLaysF0.n6 prog Tryz.sortRm_ren:={
 mixed:=od
 f6:=⟨Tryz.f240.name,og,func240.D (OV some od)⟩
 f14:=⟨Tryz.f275.name,og,func275.D (OV some od)⟩
 f15:=func139.D (OV some od)
 f20:=⟨Tryz.f313.name,og,func313.D (OV some od)⟩
 f21:=⟨Tryz.f314.name,og,func314.D (OV some od)⟩
 f22:=⟨Tryz.f315.name,og,func315.D (OV some od)⟩
 f23:=⟨Tryz.f316.name,og,func316.D (OV some od)⟩
 f24:=⟨Tryz.f317.name,og,func317.D (OV some od)⟩
 f25:=⟨Tryz.f318.name,og,func318.D (OV some od)⟩
 f26:=⟨Tryz.f319.name,og,func319.D (OV some od)⟩
 f27:=⟨Tryz.f320.name,og,func320.D (OV some od)⟩
 f28:=func214.D (OV some od)
 f29:=func215.D (OV some od)
 f46:=⟨Tryz.f339.name,og,func339.D (OV some od)⟩
 f47:=func268.D (OV some od)
 f48:=func269.D (OV some od)
 f49:=⟨Tryz.f340.name,og,func340.D (OV some od)⟩
 f50:=⟨Tryz.f341.name,og,func341.D (OV some od)⟩
 f57:=⟨Tryz.f349.name,og,func349.D (OV some od)⟩
 t0:=underlying0
 a0:=isAgg0
 z0:=sizeOf0
 v0:=zeroValue0
 t3:=underlying3
 a3:=isAgg3
 z3:=sizeOf3
 v3:=zeroValue3
 t4:=underlying4
 a4:=isAgg4
 z4:=sizeOf4
 v4:=zeroValue4
 t5:=underlying5
 a5:=isAgg5
 z5:=sizeOf5
 v5:=zeroValue5
 t9:=underlying9
 a9:=isAgg9
 z9:=sizeOf9
 v9:=zeroValue9
 t22:=underlying86
 a22:=isAgg86
 z22:=sizeOf86
 v22:=zeroValue86
 t25:=underlying390
 a25:=isAgg390
 z25:=sizeOf390
 v25:=zeroValue390
 t39:=underlying285
 a39:=isAgg285
 z39:=sizeOf285
 v39:=zeroValue285
 t45:=underlying360
 a45:=isAgg360
 z45:=sizeOf360
 v45:=zeroValue360
 t46:=underlying361
 a46:=isAgg361
 z46:=sizeOf361
 v46:=zeroValue361
 t50:=underlying236
 a50:=isAgg236
 z50:=sizeOf236
 v50:=zeroValue236
 t53:=underlying367
 a53:=isAgg367
 z53:=sizeOf367
 v53:=zeroValue367
 t55:=underlying369
 a55:=isAgg369
 z55:=sizeOf369
 v55:=zeroValue369
 t66:=underlying421
 a66:=isAgg421
 z66:=sizeOf421
 v66:=zeroValue421
 t70:=underlying425
 a70:=isAgg425
 z70:=sizeOf425
 v70:=zeroValue425
 t76:=underlying452
 a76:=isAgg452
 z76:=sizeOf452
 v76:=zeroValue452
 t77:=underlying411
 a77:=isAgg411
 z77:=sizeOf411
 v77:=zeroValue411 }
end Go.Proofs
namespace Go.Lg
def fst (a:Q9):Int:=if a.st=0 then -1 else 0
def cdA (c:ZB):Q9:=Qav (tgA c) [] (unc c.ev)
def ccA (c:ZB):Q9:=syA [tgA c,cdA c]
def own (c:ZB)(k:Bool):Q9:=if k=true then ccA c else tgA c
section
variable {pS:String}
theorem yd [h1:X6 P t]{x:O3}{l:List Bool}{u:Bool}(E:Zb w.heap b T (l.map Value.bool))(hx:ev f x=.pointer (some ⟨b,0+i*1,none⟩))(G:ev f y=.bool u)(hi:i<l.length)
  (hK:∀w',O5 [b] w w'->Zb w'.heap b T ((l.set i u).map Value.bool)->K (QW f d undef) w'):XO P ⟨d,.store t x y,ty,pS,af,gd⟩ f w K:=by
 refine QB E hx G (oz hi) rfl λw' H I=>hK w' H ?_;rw[OQ];simpa using I
theorem J2 [X6 P t]{x:O3}{l:List Bool}(h:Zb w.heap b T (l.map Value.bool))(hx:ev f x=.pointer (some ⟨b,0+i*1,none⟩))(hi:i<l.length):
  (execOp (ev f) ⟨d,.load t x,ty,pS,af,gd⟩).run P w=.ok (.value (.bool (l[i]'hi))) w:=Qq h hx (by simp[hi])
variable {C:xA}{pl:xu}
theorem pqB {b:Bool}(E:∀w',C w'->(execOp (ev f) (QV ops i)).run P w'=.ok (.value (.bool b)) w')(I:b=true->XP P ops C K pl (QW f (QV ops i).dst (.bool true)) w)(J:b=false->XP P ops C K pl (QW f (QV ops i).dst (.bool false)) w)
  (hd:U4 (QV ops i)=true:=by rfl) (H:Yb ops f (QV ops i)=true:=by rfl):XP P ops C K ((i,true)::pl) f w:=by
 cases G:b with
 | true=>rw[G]at E;exact pq E (I G) hd H
 | false=>rw[G]at E;exact pq E (J G) hd H
end
def bA (n:Nat)(g:Nat->Bool):List Bool:=(oT n).map g
theorem Qo7 (n:Nat)(g:Nat->Bool):(bA n g).length=n:=by simp[bA]
theorem Qo6 {g E:Nat->Bool}{u:Bool}(G:u=E i)(h:∀j,j<n->j≠i->E j=g j):(bA n g).set i u=bA n E:=by
 apply Mt
 ·simp[bA]
 intro k O H;rw[M7];have I:k<n:=by simpa[bA]using H
 by_cases e:i=k
 ·rw[OU e,G,e];simp[bA]
 rw[OT e];have:=h k I (λJ=>e J.symm);simp[bA,this]
theorem Qft (n:Nat):(oN n (Value.bool false).cells.toList).flatten=(bA n (λi=>decide (i<0))).map Value.bool:=by
 apply Mt
 ·simp[Value.cells,bA]
 intro i E G;simp[Value.cells,bA]
theorem qh {l:Lf}(h:s.toNat<l.length):l[s.toNat]'h=lft l s:=by unfold lft;simp[oQ,h]
theorem QlD (n:Nat)(fb:LI):(lf0 n fb).length=n:=by unfold lf0;rw[yG];simp
instance:Bw prog 388 [nS,oF oG 0,nS,nS,nS,.map none,nS] [(0,4),(4,1),(5,1),(6,1)]:=⟨od,og⟩
structure Pz where
 va:O2
 vm:O2
 ve:O2
 a:Q9
 vu:O2
 unc:LI
 mb:Nat
 mm:List (Int×O2)
 bl:Nat
 n:Nat
 rv:Nat->O2
abbrev Pz.cells (p:Pz):LV:=[p.va,oF oG p.a.st,p.vm,p.ve,p.vu,.map (some p.mb),.slice (some ⟨p.bl,0,none⟩) p.n p.n]
structure PzA (L:LN)(H:xC)(bp:Nat)(p:Pz):Prop where
 B:Zb H bp 388 p.cells
 bL:bp∉L
 a:ZH L H p.va p.vm p.ve p.a
 u:QQ L H p.vu p.unc
 M:Yk V4 H p.mb p.mm
 mL:p.mb∉L
 g:∀s,s<p.n->(match xd p.mm ((s:Nat):Int)with|some u=>u|none=>nS)=p.rv s
 R:∀s,s<p.n->QQ L H (p.rv s) (Y4 p.a.ed s)
theorem PzA.I {L:LN}{w w':O1}{bp:Nat}{p:Pz}(h:PzA L w.heap bp p)(E:O5 [] w w'):PzA L w'.heap bp p:=⟨h.B.I E,h.bL,h.a.I E,h.u.I E,h.M.I E,h.mL,h.g,λs G=>(h.R s G).I E⟩
theorem PzA.st {L:LN}{w w':O1}{bp:Nat}{p:Pz}(h:PzA L w.heap bp p)(E:O5 L w w'):PzA L w'.heap bp p:=⟨h.B.J E h.bL,h.bL,h.a.st E,h.u.st E,h.M.J E h.mL,h.mL,h.g,λs G=>(h.R s G).st E⟩
theorem PzA.up {L L':LN}{H:xC}{bp:Nat}{p:Pz}(h:PzA L H bp p)(E:∀b∈L',b∈L\/H.size<=b):PzA L' H bp p :=
 ⟨h.B,λI=>by rcases E _ I with G|G;exact h.bL G;have:=h.B.lt;omega,h.a.up E,h.u.up E,h.M,λI=>by rcases E _ I with G|G;exact h.mL G;have:=h.M.lt;omega,h.g,λs J=>(h.R s J).up E⟩
structure PzQ (p:Pz):Prop where
 ok:ZE p.a
 n:p.a.st=(p.n:Int)
theorem Qhx {vr vu:O2}{rm unc:LI}(h:ZH [] w.heap va vm ve a)(h7:ZE a)(hn:a.st=(n:Int))(hr:QQ [] w.heap vr rm)(gn:∀x∈rm,0<=x/\x<a.st)(hu:QQ [] w.heap vu unc):
  Q6 prog 238 [.agg #[va,oF oG a.st,vm,ve],vr,vu] w λr w'=>O5 [] w w'/\∃bp p,r=.pointer (some ⟨bp,0,none⟩)/\p.a=a/\p.unc=unc/\p.n=n/\w.heap.size<=p.bl/\PzA [p.bl] w'.heap bp p/\Zb w'.heap p.bl 4 ((lf0 n rm).map Value.bool):=by
 have kj:=h7.st1;have go:=h7.ed;have kk:=h7.ed_le;have kn:=hr.le;refine Zq func238 ?_;refine Qc<|Qe<|QS (us:=[va,oF oG a.st,vm,ve]) U λb3 H hh ko hz=>Qb ?_;have kq:=hz.lt;refine Q3 (α:=Nat×Nat×Nat) [(7,7),(13,20)] (λz=>[(7,.pointer (some ⟨z.1,0,none⟩))]) (λz w'=>O5 [] H w'/\Zb w'.heap z.1 388 [va,oF oG a.st,vm,ve,vu,.map (some z.2.1),.slice (some ⟨z.2.2,0,none⟩) n n] /\
  Yk V4 w'.heap z.2.1 []/\Zb w'.heap z.2.2 4 ((bA n (λi=>decide (i<0))).map Value.bool)/\H.heap.size<=z.1/\H.heap.size<=z.2.1/\H.heap.size<=z.2.2/\z.1≠z.2.1/\z.1≠z.2.2/\z.2.1≠z.2.2) ol ?_ ?_
 ·have ha:O5 [] H { H with drawn:=H.drawn+1 }:=O5.C _ _
  refine QmO (O5 [] H) [oD 0,oD 1,oD 3,oD 4] 2 5 [oE 5,oD 6,oE 7,oD 8] [oE 2,oD 6,oE 7,oD 8] mixed ol od (O5.C _ _) ?_;refine pq (λ_ I=>ZY (hz.I I) U U)<|p QE<|p (QR U)<|pq (λ_ I=>Qq (hz.I I) U U)<|pe ⟨⟨U,?_⟩,U,?_⟩
  ·refine YC V4 λbm w2 T h8 hN=>⟨ha.D T,?_⟩;refine pk<|qa (n:=n) (OV (Value.int .i64) hn) (OV (Value.int .i64) hn) oa λbl w3 V hbl hB=>⟨(ha.D T).D V,?_⟩;rw[Qft]at hB;refine p (λ_=>Zf [(0,[va,oF oG a.st,vm,ve]),(1,[vu]),(2,[.map (some bm)]),(3,[.slice (some ⟨bl,0,none⟩) n n])] ⟨U,U,hu.cells,U,U,U,U,U,Z⟩)<|pk <|
    QS (us:=[va,oF oG a.st,vm,ve,vu,.map (some bm),.slice (some ⟨bl,0,none⟩) n n]) U λbp w4 G hA O=>⟨((ha.D T).D V).D G,?_⟩
   refine p ZN<|pe ?_;have gp:=hN.lt;have gq:=hB.lt;have gr:({ H with drawn:=H.drawn+1 }:O1).heap.size=H.heap.size:=rfl
   exact⟨(bp,bm,bl),La,((ha.D T).D V).D G,O,(hN.I V).I G,hB.I G,oh,oh,oh,oh,oh,oh⟩
  refine qa (n:=n) (OV (Value.int .i64) hn) (OV (Value.int .i64) hn) oa λbl w2 T hbl hB=>⟨ha.D T,?_⟩;rw[Qft]at hB;refine pk<|YC V4 λbm w3 V h8 hO=>⟨(ha.D T).D V,?_⟩;refine p (λ_=>Zf [(0,[va,oF oG a.st,vm,ve]),(1,[vu]),(2,[.map (some bm)]),(3,[.slice (some ⟨bl,0,none⟩) n n])] ⟨U,U,hu.cells,U,U,U,U,U,Z⟩)<|pk <|
   QS (us:=[va,oF oG a.st,vm,ve,vu,.map (some bm),.slice (some ⟨bl,0,none⟩) n n]) U λbp w4 G hA O=>⟨((ha.D T).D V).D G,?_⟩
  refine p ZN<|pe ?_;have gp:=hO.lt;have gq:=hB.lt;have gr:({ H with drawn:=H.drawn+1 }:O1).heap.size=H.heap.size:=rfl
  exact⟨(bp,bm,bl),La,((ha.D T).D V).D G,O,hO.I G,(hB.I V).I G,oh,oh,oh,oh,oh,oh⟩
 rintro⟨bp,bm,bl⟩ g w4 ⟨G,O,hC,hD,hA,h8,hbl,hP,hQ,hE⟩;simp only[]at O hC hD hA h8 hbl hP hQ hE;have kr:=O.lt;have kt:=hC.lt;have gs:=hh.D G;have hq:bp∉[bl]:=by simpa using hQ
 have hR:bm∉[bl]:=by simpa using hE
 refine Qd<|Qm<|Yl U<|Qs U O U U<|QK (L:=[]) (hD.arr oe (n:=n) (cap:=n) (sz:=1) (by simp[bA]) oa (Lu _)) rfl<|Qa<|xe<|Qf<|QD (α:=Nat) [(8,8),(26,35)] (λz=>[(26,oF oG z)]) (λz w'=>z<=n/\O5 [bl] w4 w'/\Zb w'.heap bl 4 ((bA n (λi=>decide (i<z))).map Value.bool)) (λz=>n - z) ol 0 La ⟨Ln _,O5.Z _ _,hD⟩ ?_;rintro k g w5 ⟨hk,ht,hF⟩;refine Qc<|QZ U U<|xe<|Qd<|QG U (λhS=>?_) (λhS=>?_)
 ·refine Qy ?_;have gt:bA n (λi=>decide (i<k))=(rm.take 0).foldl cut (oN n true):=by
   apply Mt
   ·simp[bA]
   intro i h1 h2;have:i<n:=by simpa[bA]using h1
   simp[bA];omega
  rw[gt]at hF;have hT:QQ [bl] H.heap vr rm:=(hr.I hh).up (λb E=>.inr (by simp only[oI]at E;omega));have gu:ZH [bl] H.heap va vm ve a:=(h.I hh).up (λb E=>.inr (by simp only[oI]at E;omega));have hU:=O.J ht hq;refine Qd<|Qm<|QK ((hT.I G).st ht) U<|Qa<|xe<|Qf<|QD (α:=Nat) [(10,10),(38,48)] (λz=>[(38,oF oG z)]) (λz w'=>z<=rm.length/\O5 [bl] w4 w'/\Zb w'.heap bl 4 (((rm.take z).foldl cut (oN n true)).map Value.bool)) (λz=>rm.length - z) ol 0 La ⟨Ln _,ht,hF⟩ ?_;rintro j g w6 ⟨hj,J,hf⟩;refine Qc<|QZ U U<|xe<|Qd<|QG U (λhG=>?_) (λhG=>?_)
  ·refine Qy ?_;have gv:rm.length<=j:=by have h0:¬(j:Int)<(rm.length:Int):=hG;omega
   rw[Lt gv]at hf;have hV:=O.J J hq;have gw:=hC.J J hR;have ku:=hf.lt;refine Qd<|Qc<|Qs U ((hz.I G).J J om) U U<|QK ((gu.I G).st J).ed U<|Qa<|xe ?_;have kv:=J.size;refine Qf<|QD (α:=Nat×(Nat->O2)×List (Int×O2)) [(12,12),(52,73)] (λz=>[(52,oF oG z.1)]) (λz w'=>z.1<=a.ed.length/\O5 [bm] w6 w'/\Yk V4 w'.heap bm z.2.2/\VV w6.heap.size w' n z.2.1 (Y4 (a.ed.take z.1))/\∀s,s<n->(match xd z.2.2 ((s:Nat):Int)with|some u=>u|none=>nS)=z.2.1 s) (λz=>a.ed.length - z.1) ol (0,λ_=>nS,[]) ⟨rfl,Z⟩
    ⟨Ln _,O5.Z _ _,gw,⟨λi _=>QL _ _ _ _,λi j _ _ _=>Dj.nil _⟩,λs _=>U⟩ ?_
   rintro⟨i,rv,m⟩ g w7 ⟨hi,S,hH,hg,h3⟩;simp only[]at hi hH hg h3;have kw:=S.size;have hW:bp∉[bm]:=by simpa using hP
   have gx:bl∉[bm]:=by simpa using Ne.symm hE
   refine Qc<|QZ U U<|xe<|Qd<|QG U (λhI=>?_) (λhI=>?_)
   ·refine Qy ?_;have gy:a.ed.length<=i:=by have h4:¬(i:Int)<(a.ed.length:Int):=hI;omega
    rw[Lt gy]at hg;refine Qm<|Qb<|Qk ⟨[_],La,(gs.O J oa).O S oa,bp,⟨va,vm,ve,a,vu,unc,bm,m,bl,n,rv⟩,U,U,U,U,oh,⟨hV.J S hW,hq,?_,?_,hH,hR,h3,λs hs=>QJ (hg.own s hs) (LJ (qj a.ed s) oa) (λb E hm=>?_)⟩,hf.J S gx⟩
    ·have h9:ZH [bl,bm] w7.heap va vm ve a:=((((h.I hh).up (L':=[bl,bm]) (λb E=>.inr (by simp only[oL,oJ,or_false]at E;omega))).I G).st (J.mono oe)).st (S.mono oe);exact h9.up oe
    ·have h9:QQ [bl,bm] w7.heap vu unc:=((((hu.I hh).up (L':=[bl,bm]) (λb E=>.inr (by simp only[oL,oJ,or_false]at E;omega))).I G).st (J.mono oe)).st (S.mono oe);exact h9.up oe
    have:=(Qi (hg.own s hs) b E).1;simp only[oI]at hm;omega
   refine Qh ?_;have Y:i<a.ed.length:=by have h4:(i:Int)<(a.ed.length:Int):=hI;omega
   have hv:a.ed.take (i+1)=a.ed.take i++[a.ed[i]'Y]:=Lm Y;have hX:=go _ (Ll Y);refine Zk (a.ed[i]'Y) λe he=>?_;rw[he]at hv hX;have hY:e.2.2=(e.2.2.toNat:Int):=oa
   have hw:e.2.2.toNat<n:=oa
   have gz:=qj (a.ed.take i) e.2.2.toNat;rw[Ly]at gz;have hJ:=QdB (a.ed.take i) e hX.2.2.2.1;have g0:zg [bl,bm] w7.heap ve a.ed:=((((h.ed.I hh).up (L':=[bl,bm]) (λb E=>.inr (by simp only[oL,oJ,or_false]at E;omega))).I G).st (J.mono oe)).st (S.mono oe);refine Qd<|Qf<|Qc<|xie g0 U U Y λkx h4=>?_;rw[he]at h4;refine x (Qx h4 U U)<|Qe<|Qo (us:=[oF oG 0,oF oG 0,oF oG 0]) U λb12 w8 g2 g3 g4=>Qe<|Qj (us:=QF e) g4 U U U U oB λw9 g5 hK=>xe ?_;have hy:O5 [] w7 w9:=g2.O g5 g3;have kz:=hy.size;have hZ:=hg.I hy;have g6:=hZ.own _ hw;have h5:∀b∈ob (rv e.2.2.toNat),w6.heap.size<=b/\b<w7.heap.size:=λb E=>⟨(Qi (hg.own _ hw) b E).1,Zc (hg.own _ hw) b E⟩;have ga:bp∉ob (rv e.2.2.toNat):=λE=>ou (h5 _ E)
   have gb:bm∉ob (rv e.2.2.toNat):=λE=>ou (h5 _ E)
   have hL:b12∉ob (rv e.2.2.toNat):=λE=>ou (h5 _ E)
   have gc:=((hV.J S hW).I hy);have gg:=hH.I hy;have gh:=h3 e.2.2.toNat hw;rw[<-hY]at gh;refine qD (O5 (ob (rv e.2.2.toNat)) w9) [oD 0,oD 1,oD 2,oD 3,oD 4,oD 5,oD 6,oD 7,oD 8,oD 9,oD 10,oD 11,oD 12,oD 13,oD 14,oE 15,oE 16,oE 17] mixed ol od (O5.C _ _) ?_;refine p QE<|p (Xh U)<|p (QR U)<|pq (λ_ I=>Qq (gc.J I ga) U U) <|
    p (QR rfl)<|pq (λ_ I=>Qq (hK.J I hL) U U)<|p QE<|p (Xh U)<|p (QR U) <|
    pq (λ_ I=>Qq (gc.J I ga) U U)<|p (QR U)<|pq (λ_ I=>Qq (hK.J I hL) U U) <|
    pq (λ_ I=>(Jz (k:=e.2.2) (gg.J I gb) U U).D (OV (λv=>Result.ok (Next.value v) _) gh))<|p (QR U)<|pq (λ_ I=>Qq (hK.J I hL) U U) <|
    pk<|QC (us:=[[oF oG e.1]]) U U og oe ⟨rfl,rfl,Z⟩ λk0 g7 gi k4 g8=>⟨(O5.C _ _).D gi,?_⟩
   have ho:O5 [] w9 g7:=(O5.C _ _).D gi;have k5:=ho.size;refine pk<|Za (m:=1) (news:=[oF oG e.1]) (Qp g6 ho) U U U (g8.at (L:=[]) oe) (by simp[Value.oneCell']) oa oa λhM k6 g9 h6 ka=>⟨ho.any.Q h6,?_⟩;have kb:=(gg.I ho).J h6 gb;refine pkl (hl:=by kernel_rfl)<|XD (k:=e.2.2) kb U U λk7 gj kc=>pe ?_;have ke:∀b∈ob hM,b∈ob (rv e.2.2.toNat)\/w9.heap.size<=b:=λb E=>(ka b E).imp id (λh=>oa);have gk:=hZ.app hw (Qu.snoc g9) (ho.any.Q h6) ke;have gl:=gk.J gj (λi hi b E=>by have:=(Qi (gk.own i hi) b E).1;simp only[oI];omega);have kf:VZ (Y4 (a.ed.take i)) e.2.2.toNat (Y4 (a.ed.take i) e.2.2.toNat++[e.1])=Y4 (a.ed.take (i+1)):=by rw[hv];exact funext hJ
   rw[kf]at gl;refine Qw<|QP U U<|Qa<|xe<|⟨(i+1,VZ rv e.2.2.toNat hM,xh m e.2.2 hM),oh,La,Y,?_,kc,gl,λs hs=>?_⟩
   ·exact(((S.D hy).D ho).then h6 (λb E=>.inr (h5 b E).1)).Q gj
   simp only[];rw[Xv];by_cases gm:s=e.2.2.toNat
   ·subst gm;rw[OU hY,Yr]
   rw[OT oa,YU _ _ gm];exact h3 s hs
  refine Qh ?_;have hp:j<rm.length:=by have h0:(j:Int)<(rm.length:Int):=hG;omega
  have kg:=gn _ (Ll hp);have hv:rm.take (j+1)=rm.take j++[rm[j]'hp]:=Lm hp;refine Zk (rm[j]'hp) λs hs=>?_;rw[hs]at kg hv;have hJ:s=(s.toNat:Int):=oa
  have k8:((rm.take j).foldl cut (oN n true)).length=n:=by rw[yG];simp
  refine Qd<|Qf<|Qc<|xii (i:=j) ((hT.I G).st J) U U hp λk9 h0=>?_;rw[hs]at h0;refine x (QA h0 U)<|Qb<|Qw<|Qa<|Yl U<|Qs U (O.J J hq) U U<|Qa<|x (Zu (i:=s.toNat) U (OV (Value.int .i64) hJ) oa) <|
   Qe<|yd (i:=s.toNat) hf U U oa λw7 S kh=>xe ?_
  refine Qw<|QP U U<|Qa<|xe<|⟨j+1,oa,La,hp,J.Q S,?_⟩;rw[hv,MD];exact kh
 refine Qh ?_;have Y:k<n:=by have ma:(k:Int)<(n:Int):=hS;omega
 have hU:=O.J ht hq;refine Qd<|Qf<|Qm<|Qb<|Qw<|Qa<|Yl U<|Qs U hU U U<|Qa<|x (Zu (i:=k) U U oa) <|
  Qe<|yd (i:=k) hF U U (by rw[Qo7];exact Y) λw6 J hf=>xe ?_
 have ki:(bA n (λi=>decide (i<k))).set k true=bA n (λi=>decide (i<k+1)):=Qo6 oe (λi _ hi=>by
  by_cases e:i<k
  ·simp[e];omega
  simp[e];omega)
 rw[ki]at hf;refine Qw<|QP U U<|Qa<|xe ?_;exact⟨k+1,oa,La,Y,ht.Q J,hf⟩
theorem yL {r:LI}(h:i<l.length):O6 (l++r) i=O6 l i:=by
 unfold O6;simp[oQ,List.getElem?_append_left h]
theorem UI {q:Pz}(hA:PzA [] w.heap bp q)(hq:PzQ q)(hB:Zb w.heap q.bl 4 (lf.map Value.bool))(hl:lf.length=q.n):
  Q6 prog 242 [.pointer (some ⟨bp,0,none⟩)] w λr w'=>O5 [] w w'/\∃b,r=.slice (some ⟨b,0,none⟩) q.n q.n/\w.heap.size<=b/\Zb w'.heap b 3 ((dsts q.a lf).map (Value.int .i64))/\(dsts q.a lf).length=q.n:=by
 have hn:=hq.n;have kr:=hq.ok.st1;have gb:=hq.ok.mr;have kt:=hq.ok.mr_le;have ku:=hq.ok.ed_le;have hM:q.a.st.toNat=q.n:=oa
 have gt:=QoJ (lf:=lf) hq.ok hn;have gc:(dsL q.a.ed lf q.n 0 (ds0 q.a lf)).1=dsts q.a lf:=by unfold dsts;rw[hM]
 refine Zk (dsts q.a lf) λDD gu=>?_;rw[gu]at gc ⊢;refine Zq func242 ?_;refine Qc<|Qb<|Qm<|Yl U<|Q2 U<|Qs U hA.B U U<|Qe<|qa (n:=q.n) (OV (Value.int .i64) hn) (OV (Value.int .i64) hn) oa λbO w1 gg hC hN=>Qb ?_;rw[Qgg]at hN;refine Qd<|Qm<|QK (L:=[]) (hN.arr oe (n:=q.n) (cap:=q.n) (sz:=1) (by simp[gA]) oa (Lu _)) rfl<|Qa<|xe<|Qf<|QD (α:=Nat) [(4,4),(19,25)] (λz=>[(19,oF oG z)]) (λz w'=>z<=q.n/\O5 [] w w'/\Zb w'.heap bO 3 ((gA q.n (λj=>if j<z then -1 else 0)).map (Value.int .i64))) (λz=>q.n - z) ol 0 La ⟨Ln _,gg,hN⟩ ?_
 rintro j g H ⟨hj,hh,h0⟩;refine Qc<|QZ U U<|xe<|Qd<|QG U (λhO=>?_) (λhO=>?_)
 ·refine Qy ?_;have hP:j=q.n:=by have gv:¬(j:Int)<(q.n:Int):=hO;omega
  have gw:gA q.n (λi=>if i<j then -1 else 0)=((q.a.mr.take 0).foldl (ds1 lf) (oN q.n (-1),[])).1:=by
   apply Mt
   ·simp[gA]
   intro i h1 h2;have:i<q.n:=by simpa[gA]using h1
   simp[gA];omega
  rw[gw]at h0;refine Qc<|Qb<|Qd<|Qm<|Yl U<|Q2 U<|Qs U (hA.I hh).B U U<|QK (hA.I hh).a.mr U<|Qa<|xe<|Qf<|QD (α:=Nat×O2) [(5,5),(7,7),(32,50)] (λz=>[(5,z.2),(32,oF oG z.1)]) (λz w'=>z.1<=q.a.mr.length/\O5 [] w w'/\H.heap.size<=w'.heap.size/\Zb w'.heap bO 3 (((q.a.mr.take z.1).foldl (ds1 lf) (oN q.n (-1),[])).1.map (Value.int .i64)) /\
   Qu 3 H.heap.size w' z.2 ((q.a.mr.take z.1).foldl (ds1 lf) (oN q.n (-1),[])).2) (λz=>q.a.mr.length - z.1) ol (0,nS) oA ⟨Ln _,hh,Lu _,h0,QL _ _ _ _⟩ ?_
  rintro⟨k,vl⟩ g w3 ⟨hk,h3,gh,ho,ha⟩;simp only[]at hk ho ha;have gi:=Qcq (lf:=lf) (λx hx=>(gb x hx).1) k;rw[hM]at gi;refine Qc<|QZ U U<|xe<|Qd<|QG U (λhQ=>?_) (λhQ=>?_)
  ·refine Qy ?_;have gx:q.a.mr.length<=k:=by have hD:¬(k:Int)<(q.a.mr.length:Int):=hQ;omega
   have e0:(q.a.mr.take k).foldl (ds1 lf) (oN q.n (-1),[])=ds0 q.a lf:=by rw[Lt gx];unfold ds0;rw[hM]
   rw[e0]at ho ha;have gy:bO<H.heap.size:=h0.lt;refine Qd<|Qc<|Qb<|Qf<|QD (α:=Nat×Nat×O2×LI×LI) [(5,5),(8,8),(10,10),(51,100)] (λz=>[(5,z.2.2.1),(8,oF oG z.2.1)])
    (λz w'=>O5 [] w w'/\H.heap.size<=w'.heap.size/\Zb w'.heap bO 3 (z.2.2.2.1.map (Value.int .i64))/\Qu 3 H.heap.size w' z.2.2.1 z.2.2.2.2/\DsI q.n z.2.2.2/\z.1+z.2.1=q.n/\(dsL q.a.ed lf z.1 z.2.1 z.2.2.2).1=DD) (λz=>q.n - z.2.1) ol (q.n,0,vl,(ds0 q.a lf).1,(ds0 q.a lf).2) oA
    ⟨h3,gh,ho,ha,gt,U,gc⟩ ?_
   rintro⟨f,i,vl,o,l⟩ g w4 ⟨hf,hR,h4,O,hp,gz,S⟩;simp only[]at hR h4 O hp gz S;have g0:=hp.le;have gj:=hp.ok.len;simp only[]at g0 gj;have hF:=hA.I hf;refine Qd<|Qm<|Qa<|QK (L:=[]) (QJ O oa oe) rfl<|QZ rfl rfl<|xe<|QG U (λhS=>?_) (λhS=>?_)
   ·refine Qy ?_;have g2:¬i<l.length:=by have g3:¬(i:Int)<(l.length:Int):=hS;omega
    rw[Qjs g2]at S;simp only[]at S;subst S;refine Qm<|Qb<|Qk ⟨[.slice (some ⟨bO,0,none⟩) q.n q.n],La,hf,bO,U,hC,h4,gj⟩
   refine Qh ?_;have hr:i<l.length:=by have g3:(i:Int)<(l.length:Int):=hS;omega
   refine Exists.elim (Nat.exists_eq_succ_of_ne_zero (show f≠0 by omega)) λf' g4=>?_;subst g4;rw[dsL,OU hr]at S;have gk:=ZG hr;have hsr:=hp.ok.q _ (Ks hr);have hT:=hp.s0 _ (Ks hr);refine Zk (O6 l i) λs hs=>?_;rw[hs]at S hsr gk;simp only[]at hsr hT;rw[hs]at hT;have gl:s=(s.toNat:Int):=oa
   have gm:=hF.g s.toNat oa;rw[<-gl]at gm;have g5:=hF.R s.toNat oa;have kv:=qj q.a.ed s.toNat;refine Qd<|Qf<|Qd<|ZD [] (Xb 0 11 [])<|p QE<|p (Xh U)<|p (QR U)<|pq (λ_ T=>Qq (hF.B.I T) U U)<|p QE<|p QE <|
    pii (i:=i) U (QJ (L:=[]) O oa oe) rfl rfl hr λkw gn=>?_
   rw[gk]at gn;refine pq (λ_ T=>QA (gn.I T) U)<|pq (λ_ T=>(Jz (k:=s) (hF.M.I T) U U).D (OV (λv=>Result.ok (Next.value v) _) gm))<|p (λ_=>Xo g5 U)<|p QE<|pe ?_;have hG:O5 [] w4 { w4 with drawn:=w4.drawn+1 }:=O5.C _ _
   refine Qf<|QD (α:=Nat×O2×LI×LI) [(5,5),(10,10),(67,100)] (λz=>[(5,z.2.1),(67,oF oG z.1)])
    (λz w'=>z.1<=(Y4 q.a.ed s.toNat).length/\O5 [] w w'/\H.heap.size<=w'.heap.size/\Zb w'.heap bO 3 (z.2.2.1.map (Value.int .i64))/\Qu 3 H.heap.size w' z.2.1 z.2.2.2/\DsI q.n z.2.2/\0<=O6 z.2.2.1 s.toNat/\i<z.2.2.2.length/\O6 z.2.2.2 i=s /\
     ((Y4 q.a.ed s.toNat).drop z.1).foldl (dsE lf s) z.2.2=(Y4 q.a.ed s.toNat).foldl (dsE lf s) (o,l)) (λz=>(Y4 q.a.ed s.toNat).length - z.1) ol (0,vl,o,l) oA
    ⟨Ln _,hf.D hG,LJ hR hG.size,h4.I hG,Qp O hG,hp,hT,hr,hs,U⟩ ?_
   rintro⟨m,hH,o2,l2⟩ g w5 ⟨hm,E,hI,ht,hu,hg,hU,h5,hJ,I⟩;simp only[]at hm hI ht hu hg hU h5 hJ I;have go:=hA.I E;have g6:=hg.le;have g7:=hg.ok.len;simp only[]at g6 g7;refine Qc<|QZ U U<|xe<|Qd<|QG U (λhV=>?_) (λhV=>?_)
   ·refine Qy ?_;have g8:(Y4 q.a.ed s.toNat).length<=m:=by have hK:¬(m:Int)<((Y4 q.a.ed s.toNat).length:Int):=hV;omega
    rw[Lq g8]at I;simp only[List.foldl_nil]at I;rw[<-I]at S;refine Qw<|Qa<|QP U U<|Qb<|⟨(f',i+1,hH,o2,l2),oh,oA,E,hI,ht,hu,hg,oh,S⟩
   refine Qh ?_;have hv:m<(Y4 q.a.ed s.toNat).length:=by have hK:(m:Int)<((Y4 q.a.ed s.toNat).length:Int):=hV;omega
   have gp:=Qgh (Ll hv);have g9:=Zg hv;rw[g9,LZ]at I;refine Zk ((Y4 q.a.ed s.toNat)[m]'hv) λy hy=>?_;rw[hy]at gp I;have ka:0<=y/\y<(q.n:Int):=by
    obtain⟨e,he,h1,_⟩:=gp;have:=hq.ok.ed e he;omega
   have hw:y=(y.toNat:Int):=oa
   have h6:y.toNat<o2.length:=oa
   have hW:s.toNat<o2.length:=oa
   have kb:=hg.ok.le _ (Ks hW);simp only[]at kb;have hE:=Qjt (lf:=lf) hg hsr hU ka;have hX:=qh (l:=lf) (s:=y) oa;refine Qd<|Qf<|Qc<|xii (i:=m) ((go.R s.toNat oa)) U U hv λkx hK=>?_;rw[hy]at hK;refine x (QA hK U)<|Qb<|Q3 (α:=Bool) [(71,84)] (λz=>[(84,.bool z)]) (λz w'=>w'=w5/\z=(lft lf y && decide (O6 o2 y.toNat<0))) ol ?_ ?_
   ·refine Qw<|Qa<|Yl U<|Qs U go.B U U<|Qa<|x (Zu (i:=y.toNat) U (OV (Value.int .i64) hw) oa)<|x (J2 (i:=y.toNat) (hB.I E) U oa)<|?_;rw[hX];cases lft lf y with
    | true =>
     refine Qa<|Qa<|Qa<|x (Zu (i:=y.toNat) U (OV (Value.int .i64) hw) oa)<|x (zl (i:=y.toNat) ht U h6)<|QZ U U<|QH U<|xe ?_;exact⟨_,La,U,by rw[ZG h6];rfl⟩
    | false =>
     refine Qa<|Qr<|Qr<|Qr<|Qr<|Qr<|QH U<|xe ?_;exact⟨_,La,U,U⟩
   rintro z g kz ⟨rfl,rfl⟩;refine QX U (λh7=>?_) (λh7=>?_)
   ·rw[Lx,decide_eq_true_eq]at h7;have hEq:dsE lf s (o2,l2) y=(o2.set y.toNat (O6 o2 s.toNat+1),l2++[y]):=by unfold dsE;rw[OU h7]
    rw[hEq]at I hE;have kc:=ZG hW;have gq:=ZG h5;rw[hJ]at gq;refine Qm<|Qa<|Qa<|Qa<|Qa<|xii (i:=i) (QJ (L:=[]) hu oa oe) rfl rfl h5 λk0 gr=>?_;rw[gq]at gr;refine x (QA gr U)<|x (Zu (i:=s.toNat) U (OV (Value.int .i64) gl) oa)<|x (zl (i:=s.toNat) ht U hW)<|x (XR U U ⟨oa,oa⟩) <|
     x (Zu (i:=y.toNat) U (OV (Value.int .i64) hw) oa)<|Qe<|Kk (i:=y.toNat) ht U U h6 λw6 J hL=>xe ?_
    rw[kc]at hL;have ke:=J.size;have kf:∀b∈ob hH,b∉[bO]:=λb G=>by have:=Qi hu b G;simp only[oI];omega
    have h8:Qu 3 H.heap.size w6 hH l2:=Qg hu J kf;have kg:O5 [] w w6:=E.O J hC;refine Qw<|Qa<|Qa<|Qe<|QC (us:=[[oF oG y]]) U U og oe ⟨rfl,rfl,Z⟩ λk4 w7 h9 k5 kh=>Qe<|Za (m:=1) (news:=[oF oG y]) (Qp h8 h9) rfl rfl rfl (kh.at (L:=[]) oe) (by simp[Value.oneCell']) oa (ou h9.size) λhY w8 ki hZ k6 =>
     Qb ?_
    have k7:=h9.size;have k8:=hZ.size;refine Qw<|QP U U<|Qa<|xe<|⟨(m+1,hY,_,l2++[y]),oh,oA,hv,(kg.D h9).then hZ (λb G=>.inr (oy (Qi h8 b G) gg.size hh.size)),oa,(hL.I h9).J hZ (λG=>ou (Qi h8 _ G)),Qu.snoc ki,hE.1,hE.2,by simp only[oM];omega,by rw[yL h5];exact hJ,I⟩
   have hEq:dsE lf s (o2,l2) y=(o2,l2):=by
    unfold dsE;rw[OT];intro T;rw[T.1,OX T.2]at h7;cases h7
   rw[hEq]at I;refine Qh<|Qw<|QP U U<|Qa<|xe ?_;exact⟨(m+1,hH,o2,l2),oh,oA,hv,E,hI,ht,hu,hg,hU,h5,hJ,I⟩
  refine Qh ?_;have V:k<q.a.mr.length:=by have hD:(k:Int)<(q.a.mr.length:Int):=hQ;omega
  have kj:=gb _ (Ll V);have kk:q.a.mr.take (k+1)=q.a.mr.take k++[q.a.mr[k]'V]:=Lm V;have Y:(q.a.mr.take (k+1)).foldl (ds1 lf) (oN q.n (-1),[])=ds1 lf ((q.a.mr.take k).foldl (ds1 lf) (oN q.n (-1),[])) (q.a.mr[k]'V):=by rw[kk,MD];rfl
  have kn:((q.a.mr.take k).foldl (ds1 lf) (oN q.n (-1),[])).1.length=q.n/\((q.a.mr.take k).foldl (ds1 lf) (oN q.n (-1),[])).2.length<=q.a.mr.length:=by
   rw[gi];exact⟨UP _ _,LJ (Mi _ _) (by rw[Ly];omega)⟩
  refine Zk ((q.a.mr.take k).foldl (ds1 lf) (oN q.n (-1),[])) λz hz=>?_;rw[hz]at ho ha Y kn;refine Zk (q.a.mr[k]'V) λy hy=>?_;rw[hy]at kj Y;have hw:y=(y.toNat:Int):=oa
  have h6:y.toNat<z.1.length:=oa
  have hX:=qh (l:=lf) (s:=y) oa;have gs:=hA.I h3;refine Qd<|Qf<|Qc<|xii (i:=k) gs.a.mr U U V λk9 hD=>?_;rw[hy]at hD;refine x (QA hD U)<|Qb<|Qm<|Yl U<|Qs U gs.B U U<|Qa<|x (Zu (i:=y.toNat) U (OV (Value.int .i64) hw) oa)<|x (J2 (i:=y.toNat) (hB.I h3) U oa)<|xe ?_;rw[hX];refine QX U (λga=>?_) (λga=>?_)
  ·have e1:ds1 lf z y=(z.1.set y.toNat 0,z.2++[y]):=by unfold ds1;rw[OU ga]
   rw[e1]at Y;refine Qm<|Qa<|x (Zu (i:=y.toNat) U (OV (Value.int .i64) hw) oa)<|Qe<|Kk (i:=y.toNat) ho U U h6 λw4 hf h4=>xe ?_;have hR:=hf.size;have gy:bO<H.heap.size:=h0.lt;have O:Qu 3 H.heap.size w4 vl z.2:=Qg ha hf (λb G=>by have:=Qi ha b G;simp only[oI];omega);refine Qw<|Qa<|Qa<|Qe<|QC (us:=[[oF oG y]]) U U og oe ⟨rfl,rfl,Z⟩ λma w5 E mf ko=>Qe<|Za (m:=1) (news:=[oF oG y]) (Qp O E) rfl rfl rfl (ko.at (L:=[]) oe) (by simp[Value.oneCell']) oa (ou E.size) λhY w6 h8 J mg =>
    Qb ?_
   have hI:=E.size;have ke:=J.size;refine Qw<|QP U U<|Qa<|xe<|⟨(k+1,hY),oh,oA,V,((h3.O hf hC).D E).then J (λb G=>.inr (ov (Qi O b G) hh.size)),oa,?_,?_⟩
   ·simp only[];rw[Y];exact(h4.I E).J J (λG=>ou (Qi O _ G))
   simp only[];rw[Y];exact Qu.snoc h8
  have e1:ds1 lf z y=z:=by unfold ds1;rw[OT (by rw[ga];decide)]
  rw[e1]at Y;refine Qh<|Qw<|QP U U<|Qa<|xe ?_;exact⟨(k+1,vl),oh,oA,V,h3,gh,by simp only[];rw[Y];exact ho,by simp only[];rw[Y];exact ha⟩
 refine Qh ?_;have hP:j<q.n:=by have gv:(j:Int)<(q.n:Int):=hO;omega
 refine Qd<|Qf<|Qm<|Qb<|Qw ?_;have kq:(gA q.n (λi=>if i<j then -1 else 0)).set j (-1)=gA q.n (λi=>if i<j+1 then -1 else 0):=Qow (by rw[OU oa]) (λi _ hi=>by
  by_cases e:i<j
  ·rw[OU e,OU oa]
  rw[OT e,OT oa])
 refine Qa<|Qa<|x (Zu (i:=j) U U oa)<|Qe<|Qid (i:=j) h0 U U hP kq λw6 J hL=>xe ?_;refine Qw<|QP U U<|Qa<|xe ?_;exact⟨j+1,oa,La,hP,hh.O J hC,hL⟩
abbrev rmC (rk rs:Int)(x:Int×Int):LV:=[oF oG x.1,oF oG rk,oF oG rs,oF oG x.2]
theorem Qer (rk rs:Int)(x:Int×Int):(rmC rk rs x).length=4:=rfl
abbrev RmO (base:Nat)(w:O1)(v:O2)(rk rs:Int)(l:xx):Prop:=w.ownsRow base 241 4 v l.length (l.flatMap (rmC rk rs))
theorem RmO.snoc {base:Nat}{v:O2}{rk rs:Int}{l:xx}{x:Int×Int}(h:w.ownsRow base 241 4 v (l.length+1) (l.flatMap (rmC rk rs)++rmC rk rs x)):RmO base w v rk rs (l++[x]):=by
 unfold RmO;rw[Lk,LA];simpa using h
theorem Qix {k:Nat}(h:k<a.ed.length):(a.ed.take (k+1)).foldl (Vf ul lf) []=Vf ul lf ((a.ed.take k).foldl (Vf ul lf) []) (a.ed[k]'h):=by
 rw[Lm h,MD];rfl
theorem Qh7 {q:Pz}(S:PzA [] w.heap bp q)(hq:PzQ q)(hB:Zb w.heap q.bl 4 (lf.map Value.bool))(hl:lf.length=q.n)(rk:Int):
  Q6 prog 273 [.pointer (some ⟨bp,0,none⟩),oF oG rk] w λr w'=>O5 [] w w'/\RmO w.heap.size w' r rk 2 (lost q.a q.unc lf):=by
 have hn:=hq.n;have hT:=hq.ok.ed_le;refine Zq func273 ?_;refine Qc<|Qb<|Qc<|Qb<|Qd<|Qm<|Yl U<|Q2 U<|Qs U S.B U U<|QK S.a.ed U<|Qa<|xe<|Qf<|QD (α:=Nat×O2) [(5,5),(7,8),(15,72)] (λz=>[(5,z.2),(15,oF oG z.1)]) (λz w'=>z.1<=q.a.ed.length/\O5 [] w w'/\RmO w.heap.size w' z.2 rk 2 ((q.a.ed.take z.1).foldl (Vf q.unc lf) [])) (λz=>q.a.ed.length - z.1) ol (0,nS) oA ⟨Ln _,O5.Z _ _,QL _ _ _ _⟩ ?_;rintro⟨k,vo⟩ g w1 ⟨hk,hh,J⟩;simp only[]at hk J;have hi:=(ym (a:=q.a) (ul:=q.unc) (lf:=lf) (q.a.ed.take k) [] (λe T=>LX T) (λp hp=>by cases hp)).2;rw[Ly]at hi;refine Qc<|QZ U U<|xe<|Qd<|QG U (λhj=>?_) (λhj=>?_)
 ·refine Qy ?_;have hC:q.a.ed.length<=k:=by have V:¬(k:Int)<(q.a.ed.length:Int):=hj;omega
  rw[Lt hC]at J;refine Qm<|Qb<|Qk ⟨[_],La,hh,J⟩
 refine Qh ?_;have H:k<q.a.ed.length:=by have V:(k:Int)<(q.a.ed.length:Int):=hj;omega
 have hD:=hq.ok.ed _ (Ll H);have G:=Qix (ul:=q.unc) (lf:=lf) H;refine Zk ((q.a.ed.take k).foldl (Vf q.unc lf) []) λout hout=>?_;rw[hout]at J G hi;refine Zk (q.a.ed[k]'H) λe T=>?_;rw[T]at hD G;simp only[OG]at hi;have hE:e.1=(e.1.toNat:Int):=oa
 have hF:e.2.2=(e.2.2.toNat:Int):=oa
 have hG:=qh (l:=lf) (s:=e.1) oa;have hH:=qh (l:=lf) (s:=e.2.2) oa;have hI:=S.I hh;refine Qd<|Qf<|Qc<|xie hI.a.ed U U H λhU V=>?_;rw[T]at V;refine x (Qx V U U)<|Qe<|Qo (us:=[oF oG 0,oF oG 0,oF oG 0]) U λb7 w2 hJ hK I=>Qe<|Qj (us:=QF e) I U U U U oB λw3 hL Y=>xe ?_;have h2:O5 [] w1 w3:=hJ.O hL hK;have hm:=hh.D h2;have ha:=S.I hm;have h3:=hB.I hm;have hM:=Qp J h2;refine Qd<|Q3 (α:=Bool) [(19,47)] (λz=>[(47,.bool z)]) (λz w'=>O5 [] w3 w'/\(z=true↔(lft lf e.1=false\/lft lf e.2.2=true\/e.2.1∉q.unc))) ol ?_ ?_
 ·refine ZD [] (Xb 0 29 [26])<|p QE<|p (Xh U)<|p (QR U)<|pq (λ_ E=>Qq (ha.B.I E) U U)<|p (QR U)<|pq (λ_ E=>Qq (Y.I E) U U) <|
   p (λ_=>Zu (i:=e.1.toNat) U (OV (Value.int .i64) hE) oa)<|pq (v:=.bool (lft lf e.1)) (λ_ E=>(J2 (i:=e.1.toNat) (h3.I E) U oa).D (by rw[hG]))<|pB (λ_=>Zx rfl) (λO=>?_) (λO=>?_)
  ·refine p QE<|ps<|ps<|ps<|ps<|ps<|ps<|ps<|ps<|p (Xg U)<|p QE<|ps<|ps<|ps<|ps<|ps<|ps<|ps<|ps<|p (Xg U)<|pe ?_;exact⟨_,La,O5.C _ _,by simp at O;simp[O]⟩
  refine p QE<|p QE<|p (Xh U)<|p (QR U)<|pq (λ_ E=>Qq (ha.B.I E) U U)<|p (QR U)<|pq (λ_ E=>Qq (Y.I E) U U) <|
   p (λ_=>Zu (i:=e.2.2.toNat) U (OV (Value.int .i64) hF) oa)<|?_
  refine pqB (b:=lft lf e.2.2) (λ_ E=>(J2 (i:=e.2.2.toNat) (h3.I E) U oa).D (by rw[hH])) (λho=>?_) (λho=>?_)
  ·refine p (Xg U)<|p QE<|ps<|ps<|ps<|ps<|ps<|ps<|ps<|ps<|p (Xg U)<|pe ?_;exact⟨_,La,O5.C _ _,by simp[ho]⟩
  refine p (Xg U)<|p QE<|p QE<|p (Xh U)<|p (QR U)<|pq (λ_ E=>Qq (ha.B.I E) U U) <|
   p (QR rfl)<|pq (λ_ E=>Qq (Y.I E) U U)<|pk<|xg<|(Yj (ha.u.I (O5.C _ _)) e.2.1).mono ?_
  rintro r4 w4 ⟨rfl,rfl⟩;refine⟨O5.C _ _,?_⟩;refine p (λ_=>zZ U)<|p (Xg U)<|pe ?_;exact⟨_,La,O5.C _ _,by simp at O;simp[O,ho]⟩
 rintro z g w4 ⟨hr,hz⟩;have h4:=hm.D hr;have hs:=Qp hM hr;have I:=Y.I hr;refine QX rfl (λhf=>?_) (λhf=>?_)
 ·refine Qy ?_;have e1:Vf q.unc lf out e=out:=by unfold Vf;rw[OU (hz.1 hf)]
  rw[e1]at G;refine Qw<|QP U U<|Qa<|xe ?_;exact⟨(k+1,vo),oh,oA,H,h4,by simp only[];rw[G];exact hs⟩
 refine Qh ?_;have h5:¬(lft lf e.1=false\/lft lf e.2.2=true\/e.2.1∉q.unc):=λh=>by rw[hz.2 h]at hf;cases hf
 have h6:Zn [] w4.heap vo out.length 4 (out.flatMap (rmC rk 2)):=QJ hs oa oe;refine Qd<|Qm<|QK h6 U<|Qb<|Q3 (α:=Bool) [(50,62)] (λz=>[(62,.bool z)]) (λz w'=>O5 [] w4 w'/\(z=true↔out.getLast?.map (·.1)=some e.1)) ol ?_ ?_
 ·refine ZD [] (Xb 0 13 [])<|p QE<|pb (λ_=>Z7 U U) (λht=>?_) (λht=>?_)
  ·have hV:0<out.length:=by have hN:(0:Int)<(out.length:Int):=ht;omega
   have h7:out.getLast?=some (out[out.length - 1]'oa):=by rw[List.getLast?_eq_getElem?,LF]
   refine Zk (out[out.length - 1]'oa) λy hy=>?_;rw[hy]at h7;refine p QE<|p QE<|p QE<|p (λ_=>Jh U U ⟨oa,oa⟩)<|Go.Lg.pig (g:=rmC rk 2) (i:=out.length - 1) U (Qer rk 2) h6 U (OV (Value.int .i64) (show(out.length:Int) - 1=((out.length - 1:Nat):Int) by omega)) oa λhW h8=>?_;rw[hy]at h8;refine p (λ_=>Zp U)<|pq (λ_ E=>QA ((h8.fld 0 (oF oG y.1) U).I E) U)<|p (QR U)<|pq (λ_ E=>Qq (I.I E) U U) <|
    p (λ_=>Q0 U U)<|p (Xg U)<|pe ?_
   exact⟨_,La,O5.C _ _,by rw[h7];simp⟩
  have h0:out=[]:=Lp (by have hN:¬(0:Int)<(out.length:Int):=ht;omega);refine p QE<|ps<|ps<|ps<|ps<|ps<|ps<|ps<|ps<|ps<|p (Xg U)<|pe ?_;exact⟨_,La,O5.C _ _,by simp[h0]⟩
 rintro z2 g w5 ⟨hu,h9⟩;have hv:=h4.D hu;have hw:=Qp hs hu;have I:=I.I hu;refine QX rfl (λhg=>?_) (λhg=>?_)
 ·refine Qy ?_;have e1:Vf q.unc lf out e=out:=by unfold Vf;rw[OT h5,OU (h9.1 hg)]
  rw[e1]at G;refine Qw<|QP U U<|Qa<|xe ?_;exact⟨(k+1,vo),oh,oA,H,hv,by simp only[];rw[G];exact hw⟩
 refine Qh ?_;have hO:¬out.getLast?.map (·.1)=some e.1:=λh=>by rw[h9.2 h]at hg;cases hg
 have e1:Vf q.unc lf out e=out++[(e.1,e.2.1)]:=by unfold Vf;rw[OT h5,OT hO]
 rw[e1]at G;refine Qw<|Qa<|Qs U I U U<|Qa<|Qs U I U U<|x (Qz ⟨U,U,U,U,Z⟩) <|
  Qe<|QC (us:=[rmC rk 2 (e.1,e.2.1)]) U U og oe ⟨rfl,rfl,Z⟩ λhX w6 h1 hY hP =>
  Qe<|Za (m:=1) (news:=rmC rk 2 (e.1,e.2.1)) (Qp hw h1) U U U (hP.at (L:=[]) oe) (by simp[Value.oneCell']) oa (ov hv.size h1.size) λhQ w7 hR hS hZ=>Qb<|Qw<|QP U U<|Qa<|xe ?_
 exact⟨(k+1,hQ),oh,oA,H,(hv.D h1).then hS (λb hb=>.inr (Qi hw b hb).1),by simp only[];rw[G];exact RmO.snoc hR⟩
theorem Qak (lf:Lf)(d:Int):∀(l:LI) (i:Nat),VO lf i (l++[d])=VO lf i l++if lf.getD (i+l.length) false=true/\d<0 then[((i+l.length:Nat):Int)]else[]
 | [],i=>by
  simp only[Ok,VO,OG,OC]
 | a::l,i=>by
  have ih:=Qak lf d l (i+1);rw[show i+1+l.length=i+(a::l).length by simp;omega]at ih;simp only[Ob,VO,ih];by_cases h:lf.getD i false=true/\a<0
  ·rw[OU h,OU h,Ml]
  rw[OT h,OT h]
abbrev blP (l:LI):xx:=l.map λs=>(s,-1)
theorem QbT {q:Pz}(hA:PzA [] w.heap bp q)(O:PzQ q)(hB:Zb w.heap q.bl 4 (lf.map Value.bool))(hl:lf.length=q.n)(rk:Int):
  Q6 prog 274 [.pointer (some ⟨bp,0,none⟩),oF oG rk] w λr w'=>O5 [] w w'/\RmO w.heap.size w' r rk 3 (blP (VO lf 0 (dsts q.a lf)))/\(VO lf 0 (dsts q.a lf)).length<=q.n:=by
 have hn:=O.n;have hw:=O.ok.st1;refine Zq func274 ?_;refine Qc<|Qb<|Qc<|Qb<|Qd<|Qm<|QM<|(UI hA O hB hl).mono ?_;rintro r1 S ⟨hf,b,rfl,hb,hg,T⟩;refine Zk (dsts q.a lf) λD hD=>?_;rw[hD]at hg T ⊢;have hh:QQ [] S.heap (.slice (some ⟨b,0,none⟩) q.n q.n) D:=by
  have h:=hg.arr (L:=[]) oe (n:=q.n) (cap:=q.n) (sz:=1) (by simp[T]) oa (Lu _);unfold QQ;rw[T];exact h
 refine QK hh U<|Qa<|xe<|Qf<|QD (α:=Nat×O2) [(5,7),(11,33)] (λz=>[(5,z.2),(11,oF oG z.1)]) (λz w'=>z.1<=D.length/\O5 [] S w'/\RmO S.heap.size w' z.2 rk 3 (blP (VO lf 0 (D.take z.1)))) (λz=>D.length - z.1) ol (0,nS) oA ⟨Ln _,O5.Z _ _,QL _ _ _ _⟩ ?_;rintro⟨k,vo⟩ g w2 ⟨hk,I,E⟩;simp only[]at hk E;have hbl:=(UQ lf (D.take k) 0).2;rw[Ly]at hbl;have V:=hf.D I;refine Qc<|QZ U U<|xe<|Qd<|QG U (λY=>?_) (λY=>?_)
 ·refine Qy ?_;have hj:D.length<=k:=by have hm:¬(k:Int)<(D.length:Int):=Y;omega
  rw[Lt hj]at E;refine Qm<|Qb<|Qk ⟨[_],La,V,Zv E hf.size,ou (UQ lf D 0).2⟩
 refine Qh ?_;have G:k<D.length:=by have hm:(k:Int)<(D.length:Int):=Y;omega
 have ho:D.take (k+1)=D.take k++[D[k]'G]:=Lm G;have H:=Qak lf (D[k]'G) (D.take k) 0;rw[<-ho,Ly,LR,Mj oa]at H;refine Zk (D[k]'G) λd hd=>?_;rw[hd]at H;refine Zk (VO lf 0 (D.take k)) λout hout=>?_;rw[hout]at H E hbl;have ha:k<lf.length:=oa
 have hp:lf[k]'ha=lf.getD k false:=by simp[oQ,ha]
 have hr:=hA.I V;refine Qd<|Qf<|Qm<|xii (i:=k) (hh.I I) U U G λhy hi=>?_;rw[hd]at hi;refine x (QA hi U)<|x Ql<|Qb<|Q3 (α:=Bool) [(16,26)] (λz=>[(26,.bool z)]) (λz w'=>w'=w2/\(z=true↔lf.getD k false=true/\d<0)) ol ?_ ?_
 ·refine Qw<|Qa<|Yl U<|Qs U hr.B U U<|Qa<|x (Zu (i:=k) U U oa)<|xB (b:=lf.getD k false) ((J2 (i:=k) (hB.I V) U ha).D (by rw[hp])) (λhc=>?_) (λhc=>?_)
  ·refine Qa<|Qa<|QZ U U<|QH U<|xe ?_;exact⟨_,La,U,by rw[hc];simp⟩
  refine Qa<|Qr<|Qr<|QH U<|xe ?_;exact⟨_,La,U,by rw[hc];simp⟩
 rintro z g w3 ⟨rfl,hz⟩;refine QX rfl (λJ=>?_) (λJ=>?_)
 ·rw[OU (hz.1 J)]at H;refine Qw<|Qa<|Qa<|Qa<|x (Qz ⟨U,U,U,U,Z⟩)<|Qe<|QC (us:=[rmC rk 3 ((k:Int),-1)]) U U og oe ⟨rfl,rfl,Z⟩ λh0 w4 he h1 hs =>
   Qe<|Za (m:=1) (news:=rmC rk 3 ((k:Int),-1)) (Qp E he) U U U (hs.at (L:=[]) oe) (by simp[Value.oneCell']) (by rw[Lh];omega) (ov I.size he.size) λht w5 hu hv h2=>Qb<|Qw<|QP U U<|Qa<|xe ?_
  refine⟨(k+1,ht),oh,oA,G,(I.D he).then hv (λb hb=>.inr (Qi E b hb).1),?_⟩;simp only[];rw[H,show blP (out++[(k:Int)])=blP out++[((k:Int),-1)] by simp];exact RmO.snoc hu
 rw[OT (λh=>by rw[hz.2 h]at J;cases J),LQ]at H;refine Qh<|Qw<|QP U U<|Qa<|xe ?_;exact⟨(k+1,vo),oh,oA,G,I,by simp only[];rw[H];exact E⟩
def nxR (a:Q9)(ul:LI)(lf:Lf):Int×xx:=if(lost a ul lf).length≠0 then(2,lost a ul lf)else(3,blP (VO lf 0 (dsts a lf)))
theorem Qlr (a:Q9)(ul:LI)(lf:Lf):(nxR a ul lf).2.map (·.1)=nxs a ul lf:=by
 unfold nxR nxs;split
 ·rfl
 rw[Mu];exact List.map_id _
theorem Qh6 {q:Pz}(S:PzA [] w.heap bp q)(G:PzQ q)(T:Zb w.heap q.bl 4 (lf.map Value.bool))(hl:lf.length=q.n)(rk:Int):
  Q6 prog 239 [.pointer (some ⟨bp,0,none⟩),oF oG rk,.bool true] w λr w'=>O5 [] w w'/\RmO w.heap.size w' r rk (nxR q.a q.unc lf).1 (nxR q.a q.unc lf).2/\(nxR q.a q.unc lf).2.length<=1000000:=by
 have ha:=(QaS q.a q.unc lf).2;have hg:=G.ok.ed_le;have hn:=G.n;have hh:=G.ok.st1;have E:nxR q.a q.unc lf=if(lost q.a q.unc lf).length≠0 then(2,lost q.a q.unc lf)else(3,blP (VO lf 0 (dsts q.a lf))):=rfl
 refine Zk (nxR q.a q.unc lf) λNR hb=>?_;rw[hb]at E ⊢;refine Zq func239 ?_;refine Qc<|Qb<|Qd<|Qm<|Qa<|QM<|(Qh7 S G T hl rk).mono ?_;rintro r1 w1 ⟨H,J⟩;refine Zk (lost q.a q.unc lf) λL hL=>?_;rw[hL]at J E ha;refine Qb<|Q3 (α:=Bool) [(11,17)] (λz=>[(17,.bool z)]) (λz w'=>w'=w1/\(z=true↔L.length≠0)) ol ?_ ?_
 ·refine Qw<|Qa<|QK (L:=[]) (QJ J oa oe) rfl<|xb (Z7 rfl rfl) (λO=>?_) (λO=>?_)
  ·refine Qa<|Qr<|Qr<|QH U<|xe ?_;exact⟨_,La,U,by have V:(0:Int)<(L.length:Int):=O;simp;intro e;subst e;simp at V⟩
  refine Qa<|Qa<|x (Zx U)<|QH U<|xe ?_;have V:¬(0:Int)<(L.length:Int):=O;have hc:L.length=0:=oa
  exact⟨_,La,U,by rw[hc];simp⟩
 rintro z g w2 ⟨rfl,Y⟩;refine QX rfl (λI=>?_) (λI=>?_)
 ·rw[OU (Y.1 I)]at E;refine Qm<|Qb ?_;subst E;exact Qk ⟨[_],La,H,J,by show L.length<=_;omega⟩
 rw[OT (λh=>by rw[Y.2 h]at I;cases I)]at E;refine Qh<|Qm<|Qa<|QM<|(QbT (S.I H) G (T.I H) hl rk).mono ?_;rintro r3 w3 ⟨he,hf,hbl⟩;refine Qb ?_;subst E;exact Qk ⟨[_],La,H.D he,Zv hf H.size,by show(blP _).length<=_;rw[Lh];omega⟩
structure Vr (base:Nat)(w:O1)(n:Nat)(f:Nat->O2)(g:Nat->List Ed):Prop where
 own:∀i,i<n->YH 167 base w (f i) (g i)
 dj:∀i j,i<n->j<n->i≠j->Dj (f i) (f j)
theorem Vr.app {base:Nat}{f:Nat->O2}{g:Nat->List Ed}{l:List Ed}(h:Vr base w n f g)(hi:i<n)(O:YH 167 base w' v' l)(S:O5 (ob (f i)) w w')
  (T:∀b∈ob v',b∈ob (f i)\/w.heap.size<=b):Vr base w' n (VZ f i v') (VZ g i l):=by
 refine⟨λj E=>?_,λj k E H G=>?_⟩
 ·by_cases e:j=i
  ·subst e;rw[Yr,Yr];exact O
  rw[YU _ _ e,YU _ _ e];exact Qg (h.own j E) S (h.dj j i E hi e)
 have key:∀j,j<n->j≠i->Dj v' (f j):=λj E e b V I=>by
  rcases T b V with J|J
  ·exact h.dj i j hi E (Ne.symm e) b J I
  have:=Zc (h.own j E) b I;omega
 by_cases e1:j=i
 ·subst e1;rw[Yr,YU _ _ (Ne.symm G)];exact key k H (Ne.symm G)
 rw[YU _ _ e1];by_cases e2:k=i
 ·subst e2;rw[Yr];exact(key j E e1).symm
 rw[YU _ _ e2];exact h.dj j k E H G
theorem Vr.J {base:Nat}{f:Nat->O2}{g:Nat->List Ed}(h:Vr base w n f g)(E:O5 X w w')(G:∀i,i<n->∀b∈ob (f i),b∉X):Vr base w' n f g :=
 ⟨λi hi=>Qg (h.own i hi) E (G i hi),h.dj⟩
theorem Vr.I {base:Nat}{f:Nat->O2}{g:Nat->List Ed}(h:Vr base w n f g)(E:O5 [] w w'):Vr base w' n f g:=h.J E (λ_ _ _ _=>oe)
def y9 (es:List Ed)(s:Nat):List Ed:=Z4 es (s:Int)
theorem QfP (es:List Ed)(e:Ed)(E:0<=e.1):VZ (y9 es) e.1.toNat (y9 es e.1.toNat++[e])=y9 (es++[e]):=by
 funext s;unfold y9 Z4;rw[L5];by_cases h:s=e.1.toNat
 ·subst h;rw[Yr];have:e.1=(e.1.toNat:Int):=oa
  simp[<-this]
 rw[YU _ _ h];have:¬e.1=(s:Int):=oa
 simp[this]
theorem QbK (es:List Ed)(s:Nat):(y9 es s).length<=es.length:=Vd es _
def Qd5 (num:LI)(m:List (Int×O2)):Prop:=∀s:Nat,s<num.length->xd m (s:Int)=if O6 num s<0 then none else some (oF oG (O6 num s))
theorem Vz (l:LI)(k:Int):Ya l k=O6 l k.toNat:=rfl
structure K0 (b4 mb:Nat)(r2:O2)(wS:O1)(c:Cs)(m:List (Int×O2))(vo vk ve:O2)(w:O1):Prop where
 st:O5 [b4,mb] wS w
 B4:Zb w.heap b4 59 [r2,oF oG 0,vk,ve]
 M:Yk V4 w.heap mb m
 nm:Qd5 c.num m
 o:Qu 3 wS.heap.size w vo c.ord
 k:Qu 3 wS.heap.size w vk c.mk'
 e:YH 167 wS.heap.size w ve c.ed
 d1:Dj vo vk
 d2:Dj vo ve
 d3:Dj vk ve
section
variable {b4 mb:Nat}{r2:O2}{wS:O1}{c:Cs}{m:List (Int×O2)}{vo:O2}{w'':O1}
theorem K0.I (h:K0 b4 mb r2 wS c m vo vk ve w)(E:O5 [] w w'):K0 b4 mb r2 wS c m vo vk ve w' :=
 ⟨h.st.D E,h.B4.I E,h.M.I E,h.nm,Qp h.o E,Qp h.k E,Qp h.e E,h.d1,h.d2,h.d3⟩
theorem K0.setK (h:K0 b4 mb r2 wS c m vo vk ve w)(T:b4<wS.heap.size)(lm:mb<wS.heap.size)(ne:mb≠b4){H:O2}(I:O5 (ob vk) w w')(J:Qu 3 wS.heap.size w' H l)
  (O:∀b∈ob H,b∈ob vk\/w.heap.size<=b) (G:O5 [b4] w' w'') (S:Zb w''.heap b4 59 [r2,oF oG 0,H,ve]):K0 b4 mb r2 wS ⟨c.ord,c.num,l,c.ed⟩ m vo H ve w'' :=
 ⟨(h.st.then I (λb E=>.inr (Qi h.k b E).1)).then G (λb E=>.inl (by simp at E;simp[E])),S,(h.M.J I (QT h.k lm)).J G (oz ne),h.nm,
  Qg (Qg h.o I h.d1) G (λb E=>by have:=(Qi h.o b E).1;simp;omega),Qg J G (λb E=>by have:=(Qi J b E).1;simp;omega),
  Qg (Qg h.e I h.d3.symm) G (λb E=>by have:=(Qi h.e b E).1;simp;omega),h.d1.grow O (Zc h.o),h.d2,(h.d3.symm.grow O (Zc h.e)).symm⟩
theorem K0.setE (h:K0 b4 mb r2 wS c m vo vk ve w)(T:b4<wS.heap.size)(lm:mb<wS.heap.size)(ne:mb≠b4){H:O2}{l:List Ed}(I:O5 (ob ve) w w')(J:YH 167 wS.heap.size w' H l)
  (O:∀b∈ob H,b∈ob ve\/w.heap.size<=b) (G:O5 [b4] w' w'') (S:Zb w''.heap b4 59 [r2,oF oG 0,vk,H]):K0 b4 mb r2 wS ⟨c.ord,c.num,c.mk',l⟩ m vo vk H w'' :=
 ⟨(h.st.then I (λb E=>.inr (Qi h.e b E).1)).then G (λb E=>.inl (by simp at E;simp[E])),S,(h.M.J I (QT h.e lm)).J G (oz ne),h.nm,
  Qg (Qg h.o I h.d2) G (λb E=>by have:=(Qi h.o b E).1;simp;omega),Qg (Qg h.k I h.d3) G (λb E=>by have:=(Qi h.k b E).1;simp;omega),
  Qg J G (λb E=>by have:=(Qi J b E).1;simp;omega),h.d1,h.d2.grow O (Zc h.o),h.d3.grow O (Zc h.k)⟩
theorem K0.setN (h:K0 b4 mb r2 wS c m vo vk ve w)(lm:mb<wS.heap.size)(ne:mb≠b4){H:List (Int×O2)}(G:O5 [mb] w w')(hM:Yk V4 w'.heap mb H)(I:Qd5 l H):K0 b4 mb r2 wS ⟨c.ord,l,c.mk',c.ed⟩ H vo vk ve w' :=
 ⟨h.st.then G (λb E=>.inl (by simp at E;simp[E])),h.B4.J G (oz ne.symm),hM,I,Qg h.o G (λb E=>by have:=(Qi h.o b E).1;simp;omega),
  Qg h.k G (λb E=>by have:=(Qi h.k b E).1;simp;omega),Qg h.e G (λb E=>by have:=(Qi h.e b E).1;simp;omega),h.d1,h.d2,h.d3⟩
theorem K0.setO (h:K0 b4 mb r2 wS c m vo vk ve w)(I:b4<wS.heap.size)(lm:mb<wS.heap.size){G:O2}(E:O5 (ob vo) w w')(J:Qu 3 wS.heap.size w' G l)
  (H:∀b∈ob G,b∈ob vo\/w.heap.size<=b):K0 b4 mb r2 wS ⟨l,c.num,c.mk',c.ed⟩ m G vk ve w' :=
 ⟨h.st.then E (λb O=>.inr (Qi h.o b O).1),h.B4.J E (QT h.o I),h.M.J E (QT h.o lm),h.nm,J,Qg h.k E h.d1.symm,Qg h.e E h.d2.symm,
  (h.d1.symm.grow H (Zc h.k)).symm,(h.d2.symm.grow H (Zc h.e)).symm,h.d3⟩
end
theorem Qd5.set {num:LI}{m:List (Int×O2)}(h:Qd5 num m){k:Nat}(G:k<num.length){v:Int}(H:0<=v):Qd5 (num.set k v) (xh m (k:Int) (oF oG v)):=by
 intro s E;rw[L7]at E;rw[Xv];by_cases e:s=k
 ·subst e;have:O6 (num.set s v) s=v:=by unfold O6;simp[oQ,G]
  rw[OU rfl,this,OT oa]
 rw[OT oa];have:O6 (num.set k v) s=O6 num s:=by unfold O6;simp[oQ,List.getElem?_set_ne (Ne.symm e)]
 rw[this];exact h s E
theorem QbC (i:Nat)(c:Cs)(m:LI)(e:Ed):Zw i ⟨c.ord,c.num,m,c.ed⟩ e=⟨(Zw i c e).ord,(Zw i c e).num,m,(Zw i c e).ed⟩/\(Zw i c e).mk'=c.mk':=by
 unfold Zw;split <;> exact⟨U,U⟩
theorem Qa3 (i:Nat):∀(l:List Ed) (c:Cs) (m:LI),l.foldl (Zw i) ⟨c.ord,c.num,m,c.ed⟩=⟨(l.foldl (Zw i) c).ord,(l.foldl (Zw i) c).num,m,(l.foldl (Zw i) c).ed⟩/\(l.foldl (Zw i) c).mk'=c.mk'
 | [],c,m=>⟨U,U⟩
 | e::l,c,m=>by
  have E:=QbC i c m e;have G:=Qa3 i l (Zw i c e) m;rw[LZ,LZ,E.1,G.1];exact⟨U,G.2.D E.2⟩
theorem jv (i:Nat)(c:Cs)(e:Ed):∃r,(Zw i c e).ord=c.ord++r:=by
 unfold Zw;split
 ·exact⟨_,rfl⟩
 exact⟨[],oe⟩
theorem Qcc (i:Nat):∀(l:List Ed) (c:Cs),∃r,(l.foldl (Zw i) c).ord=c.ord++r
 | [],c=>⟨[],oe⟩
 | e::l,c=>by
  obtain⟨E,G⟩:=jv i c e;obtain⟨r2,H⟩:=Qcc i l (Zw i c e);exact⟨E++r2,by rw[LZ,H,G,LB]⟩
theorem QfQ {c:Cs}(hi:i<c.ord.length):qW a i c=Yi a i ((Z4 a.ed (O6 c.ord i)).foldl (Zw i) c):=by
 unfold qW;rw[Vz,MN];obtain⟨r,E⟩:=Qcc i (Z4 a.ed (O6 c.ord i)) c;have G:=(Qa3 i (Z4 a.ed (O6 c.ord i)) c c.mk').2;unfold Yi;have H:Ya ((Z4 a.ed (O6 c.ord i)).foldl (Zw i) c).ord (i:Int)=Ya c.ord (i:Int):=by
  rw[Vz,Vz,E];simp only[Ot];exact yL hi
 rw[H];split
 ·rw[(Qa3 i _ c _).1,G]
 rfl
theorem ya {q:Pz}(hA:PzA [] w.heap bp q)(hq:PzQ q)(hB:Zb w.heap q.bl 4 (lf.map Value.bool))(hl:lf.length=q.n):
  Q6 prog 243 [.pointer (some ⟨bp,0,none⟩)] w λr w'=>O5 [] w w'/\∃v o,r=.tuple #[v,o]/\Jv w.heap.size w'.heap v (Qhv q.a lf)/\o.oneCell'=true:=by
 have hn:=hq.n;have hst1:=hq.ok.st1;have kf:=hq.ok.ed_le;have ph:=QfO hq.ok lf;have Y:Qhv q.a lf=if q.a.st=0\/lft lf 0=false then⟨q.a.al,0,[],[]⟩else Yd (rstr q.a lf):=rfl
 refine Zk (Qhv q.a lf) λSA pj=>?_;rw[pj]at Y ⊢;refine Zq func243 ?_;refine Qc<|Qe<|Qo (us:=[nS,oF oG 0,nS,nS]) U λb2 w1 kg hb2 h9=>Qb ?_;have hl2:=h9.lt;have kh:=hA.I kg;refine Qm<|Yl U<|Q2 U<|Qs U kh.B U U<|QM<|(Z0 kh.a.al).mono ?_;rintro r2 w2 ⟨hM,hv⟩;have hz2:=hM.size;have hN:=Qu.ints (L:=[]) hv hA.a.al.le oe;refine x (Qz ⟨hN.cells,Z⟩)<|Qe<|Qo (us:=[nS,oF oG 0,nS,nS]) U λb4 w3 pm pn hC =>
  Qe<|Qj (us:=[r2,oF oG 0,nS,nS]) hC U U U U ⟨hN.one,U,U,U,Z⟩ λw4 po hC=>xe ?_
 have T:O5 [] w2 w4:=pm.O po pn;have ha:=kg.D hM;have hD:=ha.D T;have hl4:=hC.lt;have hz24:=T.size;have gk:=hA.I hD;have pp:∀b∈ob r2,b<w2.heap.size:=Zc hv;refine Qd<|Q3 (α:=Bool) [(22,36)] (λz=>[(36,.bool z)]) (λz w'=>w'=w4/\(z=true↔(q.a.st=0\/lft lf 0=false))) ol ?_ ?_
 ·refine Qw<|Qa<|Yl U<|Q2 U<|Qs U gk.B U U<|xb (Q0 U U) (λgl=>?_) (λgl=>?_)
  ·refine Qa<|Qr<|Qr<|Qr<|Qr<|Qr<|Qr<|Qr<|QH U<|xe ?_;exact⟨_,La,U,by simp[gl]⟩
  have gm:(0:Int).toNat<lf.length:=by
   have:0<q.n:=oa
   simp;omega
  have gn:=qh (l:=lf) (s:=0) gm;refine Qa<|Qa<|Yl U<|Qs U gk.B U U<|x (Zu (i:=0) U U (by simp at gm;omega))<|x (v:=.bool (lft lf 0)) ((J2 (i:=0) (hB.I hD) U gm).D (by rw[<-gn];rfl))<|x (Zx U)<|QH U<|xe ?_;exact⟨_,La,U,by simp[gl]⟩
 rintro z g w4 ⟨rfl,hz⟩;refine QX rfl (λhO=>?_) (λhO=>?_)
 ·rw[OU (hz.1 hO)]at Y;subst Y;refine Qc<|Q5 hC U U<|Qe<|Qj (us:=[r2,oF oG 0,nS,nS]) ((h9.I hM).I T) U U U U ⟨hN.one,U,U,U,Z⟩ λw6 hE h9=>Qb<|Qk ⟨[.agg #[r2,oF oG 0,nS,nS],nS],⟨⟨_,U,Qn U (h9.at (L:=[]) oe).cells⟩,rfl,Z⟩,hD.O hE oa,_,_,rfl,?_,rfl⟩;have pu:=Qg (Qp hv T) hE (λb E=>by have:=(Qi hv b E).1;simp;omega);exact⟨r2,_,_,U,λL' hF=>⟨Qu.ints pu hA.a.al.le (λb E=>ou (hF b E)),Zn.nil _ _ _,Zn.nil _ _ _⟩⟩
 have ki:¬(q.a.st=0\/lft lf 0=false):=λh=>by rw[hz.2 h]at hO;cases hO
 rw[OT ki]at Y;have pw:0<q.a.st:=by have:=hq.ok.st0;omega
 have kj:(rstr q.a lf).st.toNat=q.n:=by show q.a.st.toNat=q.n;omega
 unfold Yd at Y;rw[OT (show ¬(rstr q.a lf).st=0 from λh=>ki (.inl h)),kj]at Y;simp only[]at Y;refine Qh<|Qm<|Yl U<|Q2 U<|Qs U gk.B U U<|Qe<|qa (n:=q.n) (OV (Value.int .i64) hn) (OV (Value.int .i64) hn) oa λbE w6 hE pz go=>Qb ?_;rw[QhL]at go;have hlE:=go.lt;have p0:=hD.D hE;have kk:=hA.I p0;refine Qd<|Qm<|Yl U<|Q2 U<|Qs U kk.B U U<|QK kk.a.ed U<|Qa<|xe<|Qf<|QD (α:=Nat×(Nat->O2)) [(7,7),(50,74)] (λz=>[(50,oF oG z.1)]) (λz w'=>z.1<=q.a.ed.length/\O5 [bE] w6 w'/\Zb w'.heap bE 57 ((oT q.n).map z.2)/\Vr w6.heap.size w' q.n z.2 (y9 ((q.a.ed.take z.1).filter λe=>lft lf e.2.2))) (λz=>q.a.ed.length - z.1) ol (0,λ_=>nS) La
  ⟨Ln _,O5.Z _ _,go,⟨λi _=>QL _ _ _ _,λi j _ _ _=>Dj.nil _⟩⟩ ?_
 rintro⟨k,rv⟩ g w7 ⟨hk,hP,gp,V⟩;simp only[]at hk gp V;have hG:O5 [] w4 w7:=hE.O hP pz;have gq:=hD.D hG;have hz7:=hP.size;have kn:=hA.I gq;refine Qc<|QZ U U<|xe<|Qd<|QG U (λgr=>?_) (λgr=>?_)
 ·refine Qy ?_;have p1:q.a.ed.length<=k:=by have hQ:¬(k:Int)<(q.a.ed.length:Int):=gr;omega
  rw[Lt p1]at V;have V:Vr w6.heap.size w7 q.n rv (y9 (rstr q.a lf).ed):=V;have ko:(rstr q.a lf).ed.length<=q.a.ed.length:=Mi _ _;refine Qc<|Qe<|YC V4 λmb w8 gs p2 p3=>Qe<|X9 (k:=(0:Int)) p3 U U λH gt kq=>Qa<|Qb ?_;have J:O5 [] w7 H:=gs.O gt p2;have p4:=J.size;have hS:=kq.lt;refine Qc<|Qe<|QC (us:=[[oF oG 0]]) U U og oe ⟨rfl,rfl,Z⟩ λkr gu hw hb77 p5=>Qb<|Qd<|Qc<|Qb ?_;have gv:mb≠b4:=oa
  have hH:b4<H.heap.size:=oa
  have p6:=gq.D J;have gw:∀b∈[b4,mb],w2.heap.size<=b:=λb E=>by simp only[oL,oJ,or_false]at E;omega
  have p7:PzA [b4,mb] H.heap bp q:=((hA.I ha).up (λb E=>.inr (gw b E))).I (T.D (hG.D J));have hlw:=hB.lt;have kt:∀s,s<q.n->zg [b4,mb] H.heap (rv s) (y9 (rstr q.a lf).ed s):=λs hs=>QJ (Qp (V.own s hs) J) (ou (QbK (rstr q.a lf).ed s)) (λb E hm=>by
   have h1:=(Qi (V.own s hs) b E).1;have h2:=Zc (V.own s hs) b E;simp only[oL,oJ,or_false]at hm;omega)
  have hJ:=gp.I J;have ku:∀b,b<w2.heap.size->b∉[b4,mb]:=λb E hm=>ou (gw b hm)
  have p8:bE∉[b4,mb]:=oq
  have p9:Zb H.heap b4 59 [r2,oF oG 0,nS,nS]:=((hC.I hG)).I J;have qc:Zb H.heap b2 59 [nS,oF oG 0,nS,nS]:=((h9.I hM).I T).I (hG.D J);have qf:=Qp hv (T.D (hG.D J));have ql:Qu 3 H.heap.size gu (.slice (some ⟨kr,0,none⟩) 1 1) [0]:=p5.own (n:=1) (sz:=1) U oa oa;have kv:Qd5 (YR (rstr q.a lf)).num (xh [] (0:Int) (oF oG 0)):=by
   have h0:Qd5 (oN q.n (-1)) ([]:List (Int×O2)):=λs hs=>by
    have qo:s<q.n:=by simpa using hs
    have:O6 (oN q.n (-1)) s=-1:=by unfold O6;simp[oQ,qo]
    rw[this];rfl
   have h1:=h0.set (k:=0) (by simp;omega) (v:=0) (NI _);unfold YR;rw[kj];exact h1
  have gx:∀e∈(rstr q.a lf).ed,0<=e.1/\e.1<q.a.st/\0<=e.2.2/\e.2.2<q.a.st:=λe he=>by have:=ph.ed e he;exact⟨this.1,this.2.1,this.2.2.2.1,this.2.2.2.2⟩
  have kw:Uh q.a.st (YR (rstr q.a lf)):=Qfq (a:=rstr q.a lf) pw;have kx:(rstr q.a lf).mr=q.a.mr:=rfl;refine Zk (rstr q.a lf) λR hR=>?_;rw[hR]at Y kt kv gx kw kx ko;have qr:R.al=q.a.al:=by rw[<-hR];rfl
  have hnN:q.a.st.toNat=q.n:=oa
  refine Qf<|QD (α:=Nat×Cs×List (Int×O2)×O2×O2×O2) [(9,10),(12,14),(78,142)] (λz=>[(9,z.2.2.2.1),(10,oF oG z.1)])
   (λz w'=>K0 b4 mb r2 H z.2.1 z.2.2.1 z.2.2.2.1 z.2.2.2.2.1 z.2.2.2.2.2 w'/\z.1<=z.2.1.ord.length/\Uh q.a.st z.2.1/\z.2.1.mk'.length<=z.1/\z.2.1.ed.length<=z.1*131072/\X1 R (q.n - z.1) z.1 z.2.1=X1 R q.n 0 (YR R)) (λz=>q.n - z.1) ol
   (0,YR R,xh [] (0:Int) (oF oG 0),.slice (some ⟨kr,0,none⟩) 1 1,nS,nS) oA
   ⟨⟨hw.any,p9.I hw,kq.I hw,kv,ql,QL _ _ _ _,QL _ _ _ _,Dj.nil' _,Dj.nil' _,Dj.nil' _⟩,Ln _,kw,Ln _,Ln _,U⟩ ?_
  rintro⟨i,c,m,vo,vk,ve⟩ g q0 ⟨O,hi,G,q1,q2,gy⟩;simp only[]at O hi G q1 q2 gy;have hcle:=G.le;have hT:=Qu.ints (L:=[]) O.o oa oe;refine Qd<|Qm<|Qa<|QK hT U<|QZ U U<|xe<|QG U (λq3=>?_) (λq3=>?_)
  ·refine Qy ?_;have q4:c=X1 R q.n 0 (YR R):=by rw[<-gy,Qah oa]
   refine Qm<|QK hT U<|Q2 U<|Qe<|QB O.B4 U U oe rfl λhy ha hg=>xe ?_;have q5:=Qu.ints (L:=[]) O.k oa oe;have j1:=YH.eds (L:=[]) O.e (ou G.el) oe;refine Qc<|Q5 hg U U<|Qa<|Qe<|Qj (us:=[r2,oF oG c.ord.length,vk,ve]) ((qc.J O.st (ku _ oa)).J ha (by simp;omega)) U U U U ⟨hN.one,U,q5.one,j1.one,Z⟩ λj2 hU j3=>Qb ?_;have kz:O5 [b4,mb] H hy:=O.st.then ha (λb E=>.inl (by simp at E;simp[E]));have za:O5 [] w j2:=(p6.then kz (λb E=>.inr (ou (gw b E)))).O hU oa;refine Qk ⟨[.agg #[r2,oF oG c.ord.length,vk,ve],vo],⟨⟨_,U,Qn U (j3.at (L:=[]) oe).cells⟩,rfl,Z⟩,za,_,_,rfl,?_,hT.one⟩;rw[<-q4]at Y;subst Y;have k1:=Qg (Qg O.k ha (λb E=>by have:=(Qi O.k b E).1;simp;omega)) hU (λb E=>by have:=(Qi O.k b E).1;simp;omega);have k2:=Qg (Qg O.e ha (λb E=>by have:=(Qi O.e b E).1;simp;omega)) hU (λb E=>by have:=(Qi O.e b E).1;simp;omega);have k3:=Qg (Qg qf kz (λb E=>ku b (pp b E))) hU (λb E=>by have:=(Qi hv b E).1;simp;omega);exact⟨r2,vk,ve,U,λL' hF=>⟨by rw[qr];exact Qu.ints k3 hA.a.al.le (λb E=>ou (hF b E)),Qu.ints k1 (by show c.mk'.length<=_;omega) (λb E=>ou (hF b E)),YH.eds k2 (by show c.ed.length<=_;have:=G.el;omega) (λb E=>ou (hF b E))⟩⟩
  have I:i<c.ord.length:=oa
  refine Qh ?_;have k0:=ZG I;have hsr:=G.ord _ (Ks I);have hj:=QfQ (a:=R) I;refine Zk (O6 c.ord i) λs0 k5=>?_;rw[k5]at k0 hsr hj;have k6:s0=(s0.toNat:Int):=oa
  have gz:s0.toNat<q.n:=oa
  have zb:y9 R.ed s0.toNat=Z4 R.ed s0:=by unfold y9;rw[<-k6]
  have hV:=kt s0.toNat gz;rw[zb]at hV;have zv:=Vd R.ed s0;have k7:∀e∈Z4 R.ed s0,0<=e.2.2/\e.2.2<q.a.st:=λe he=>⟨(gx e (ZU he).1).2.2.1,(gx e (ZU he).1).2.2.2⟩;refine Zk (Z4 R.ed s0) λos z0=>?_;rw[z0]at hV zv k7 hj;refine Qd<|Qf<|Qd<|Qm<|Qa<|Qa<|xii (i:=i) hT U U I λa87 k8=>?_;rw[k0]at k8;refine x (QA k8 U)<|x (Zu (i:=s0.toNat) U (OV (Value.int .i64) k6) gz)<|Y7 (u:=rv s0.toNat) (hJ.J O.st p8) U (QbJ gz)<|QK (hV.st O.st) U<|Qa<|xe<|Qf<|QD (α:=Nat×Cs×List (Int×O2)×O2×O2) [(9,9),(12,14),(92,126)] (λz=>[(9,z.2.2.2.1),(92,oF oG z.1)])
   (λz w'=>K0 b4 mb r2 H z.2.1 z.2.2.1 z.2.2.2.1 vk z.2.2.2.2 w'/\z.1<=os.length/\Uh q.a.st z.2.1/\z.2.1.mk'=c.mk'/\z.2.1.ed.length=c.ed.length+z.1/\(∃r,z.2.1.ord=c.ord++r)/\(os.drop z.1).foldl (Zw i) z.2.1=os.foldl (Zw i) c) (λz=>os.length - z.1) ol (0,c,m,vo,ve) oA
   ⟨O,Ln _,G,U,U,⟨[],oe⟩,rfl⟩ ?_
  rintro⟨k4,d,m4,hW,hX⟩ g hy ⟨hh,z1,S,g0,k9,hY,h3⟩;simp only[]at hh z1 S g0 k9 hY h3;have hcle4:=S.le;have z2:=Qu.ints (L:=[]) hh.o oa oe;have g2:i<d.ord.length:=by obtain⟨r,hr⟩:=hY;rw[hr,Lk];omega
  have ma:O6 d.ord i=s0:=by obtain⟨r,hr⟩:=hY;rw[hr,yL I];exact k5
  refine Qc<|QZ U U<|xe<|Qd<|QG U (λz3=>?_) (λz3=>?_)
  ·refine Qy ?_;rw[Lq oa,NH]at h3;rw[<-h3]at hj;have mf:=p7.st hh.st;have z4:d.ord[i]'g2=s0:=by rw[ZG g2];exact ma
   have hmkC:Yi R i d=if s0∈q.a.mr then⟨d.ord,d.num,d.mk'++[(i:Int)],d.ed⟩else d:=by
    unfold Yi;rw[Vz,MN,ma,kx]
   rw[hmkC]at hj;have hZ:X1 R (q.n - (i+1)) (i+1) (qW R i c)=X1 R q.n 0 (YR R):=by
    rw[<-gy];obtain⟨t,ht⟩:∃t,q.n - i=t+1:=⟨q.n - i - 1,oa⟩;rw[ht,X1,OU I,show q.n - (i+1)=t by omega]
   have hm4l:=OV oP g0;refine Qd<|ZD [] (Xb 0 10 [9])<|p QE<|p (Xh U)<|p (QR U)<|p (QR U)<|pq (λ_ G=>Qq (mf.B.I G) U U)<|p QE <|
    p QE<|pii (i:=i) U z2 U U g2 λa134 mg=>?_
   rw[z4]at mg;refine pq (λ_ G=>QA (mg.I G) U)<|pk<|xg<|(Yj (mf.a.mr.I (O5.C _ _)) s0).mono ?_;rintro r16 w16 ⟨rfl,rfl⟩;refine⟨O5.C _ _,pe ?_⟩;have hf:=hh.I (O5.C [] hy);refine QG U (λg3=>?_) (λg3=>?_)
   ·rw[OT g3]at hj;refine Qh<|Qw<|Qa<|QP U U<|Qb ?_;rw[hj]at hZ;exact⟨(i+1,d,m4,hW,vk,hX),oh,oA,hf,oh,S,oh,oh,hZ⟩
   rw[OU g3]at hj;refine Qw<|Qs U hf.B4 U U<|Qa<|Qe<|QC (us:=[[oF oG i]]) U U og oe ⟨rfl,rfl,Z⟩ λb140 w17 hs17 hb140 hB140=>?_;have hK:=hf.I hs17;refine Qe<|Za (news:=[oF oG i]) (L:=[]) hK.k U U U (hB140.at oe) (by simp[Value.oneCell']) oa hK.st.size λmh w18 mj mo hn18=>?_;have hk18:Qu 3 H.heap.size w18 mh (d.mk'++[(i:Int)]):=Qu.snoc mj;refine Q2 U<|Qe<|QB (hK.B4.J mo (QT hK.k hH)) U U oe (Qt mj) λw19 hs19 hB19=>xe ?_;have hI19:=hK.setK hH hS gv mo hk18 hn18 hs19 hB19;refine Qw<|Qa<|QP U U<|Qb ?_;rw[hj]at hZ;exact⟨(i+1,⟨d.ord,d.num,d.mk'++[(i:Int)],d.ed⟩,m4,hW,mh,hX),oh,oA,hI19,oh,⟨S.nl,S.sum,S.ord,S.num,S.el⟩,by simp only[oM,oO];omega,oh,hZ⟩
  refine Qh ?_;have ga:k4<os.length:=oa
  have hdr:=Zg ga;rw[hdr,LZ]at h3;have g4:=k7 _ (Ll ga);refine Zk (os[k4]'ga) λe he=>?_;rw[he]at h3 g4;have gb:e.2.2=(e.2.2.toNat:Int):=oa
  have gc:e.2.2.toNat<d.num.length:=by rw[S.nl];omega
  have mq:=hh.nm e.2.2.toNat gc;rw[<-gb]at mq;have ms:Ya d.num e.2.2=O6 d.num e.2.2.toNat:=rfl;refine Qd<|Qf<|Qc<|xie (hV.st hh.st) U U ga λa94 mt=>?_;rw[he]at mt;refine x (Qx mt U U)<|Qe<|Qo (us:=[oF oG 0,oF oG 0,oF oG 0]) U λb12 w20 hs20 g5 hg=>Qe<|Qj (us:=QF e) hg U U U U oB λgg hs21 hg=>xe ?_;have mu:O5 [] hy gg:=hs20.O hs21 g5;have hf:=hh.I mu;have hl12:=hg.lt;have hz21:=mu.size;have hIz:=hh.st.size;have hc5:Uh q.a.st (Zw i d e):=QbB S g4.1 g4.2 (ou S.el);have mv:Zw i d e=⟨(Yt d e).ord,(Yt d e).num,(Yt d e).mk',(Yt d e).ed++[((i:Int),e.2.1,Ya (Yt d e).num e.2.2)]⟩:=zL gc;refine Q3 (α:=O2) [(13,14),(96,102)] (λz=>[(13,oF oG (if O6 d.num e.2.2.toNat<0 then 0 else O6 d.num e.2.2.toNat)),(14,.bool (!decide (O6 d.num e.2.2.toNat<0)))]) (λz w'=>w'=gg) ol ?_ ?_
  ·refine Qw<|Qa<|Qs U hg U U<|x (v:=.tuple #[oF oG (if O6 d.num e.2.2.toNat<0 then 0 else O6 d.num e.2.2.toNat),.bool (!decide (O6 d.num e.2.2.toNat<0))]) ((Vb (k:=e.2.2) hf.M U U).D (OV (λv=>Result.ok (Next.value v) _) ?_))<|Qa<|Q7 U U<|Q7 U U<|x Ql<|Qb ?_
   ·rw[mq];by_cases ho:O6 d.num e.2.2.toNat<0
    ·simp[ho]
    simp[ho]
   exact⟨.bool true,oA,U⟩
  rintro z5 g gg rfl;refine Q3 (α:=O2×List (Int×O2)×Int) [(9,9),(13,13),(103,115)] (λz=>[(9,z.1),(13,oF oG z.2.2)]) (λz w'=>O6 (Yt d e).num e.2.2.toNat=z.2.2/\K0 b4 mb r2 H (Yt d e) z.2.1 z.1 vk hX w'/\Zb w'.heap b12 167 (QF e)/\gg.heap.size<=w'.heap.size) ol ?_ ?_
  ·refine Qm<|x (Zx U)<|xe<|QX U (λg6=>?_) (λg6=>?_)
   ·have ho:O6 d.num e.2.2.toNat<0:=by simpa using g6
    have hL:Yt d e=⟨d.ord++[e.2.2],d.num.set e.2.2.toNat d.ord.length,d.mk',d.ed⟩:=by unfold Yt;rw[ms,OU ho]
    have hcg:O6 (Yt d e).num e.2.2.toNat=(d.ord.length:Int):=by rw[hL];unfold O6;simp[oQ,gc]
    refine Qm<|QK (Qu.ints (L:=[]) hf.o oa oe) rfl<|Qb<|Qm<|Qs rfl hg rfl rfl<|Qa<|Qe<|XD (k:=e.2.2) hf.M rfl rfl λw22 g7 hM22=>xe ?_;have mw:=hf.nm.set gc (v:=(d.ord.length:Int)) oa;rw[<-gb]at mw;have hI6:=hf.setN hS gv g7 hM22 mw;have gh:=hg.J g7 (by simp;omega);refine Qw<|Qa<|Qs U gh U U<|Qe<|QC (us:=[[oF oG e.2.2]]) U U og oe ⟨rfl,rfl,Z⟩ λb114 w23 g8 hb114 hB114=>?_;have g9:=hI6.I g8;refine Qe<|Za (news:=[oF oG e.2.2]) (L:=[]) g9.o U U U (hB114.at oe) (by simp[Value.oneCell']) (by show d.ord.length+1<=_;omega) g9.st.size λv24 w24 ho24 T hn24=>Qb ?_;have hk24:Qu 3 H.heap.size w24 v24 (d.ord++[e.2.2]):=Qu.snoc ho24;have hb12o:b12∉ob hW:=λE=>ou (Zc hh.o b12 E)
    have h4:=g9.setO hH hS T hk24 hn24;have:=g7.size;have:=g8.size;have:=T.size;refine⟨(v24,xh m4 e.2.2 (oF oG d.ord.length),(d.ord.length:Int)),oA,hcg,?_,(gh.I g8).J T hb12o,oa⟩;simp only[];rw[hL];exact h4
   have ho:¬O6 d.num e.2.2.toNat<0:=by simpa using g6
   have hL:Yt d e=d:=by unfold Yt;rw[ms,OT ho]
   have kf:(if O6 d.num e.2.2.toNat<0 then 0 else O6 d.num e.2.2.toNat)=O6 (Yt d e).num e.2.2.toNat:=by rw[hL,OT ho]
   refine Qh<|⟨(hW,m4,if O6 d.num e.2.2.toNat<0 then 0 else O6 d.num e.2.2.toNat),oA,kf.symm,?_,hg,Lu _⟩
   rw[hL];exact hf
  rintro⟨vo5,m5,tn⟩ g w25 ⟨my,h4,gh,hz25⟩;simp only[]at h4 my;have mz:(Yt d e).ed=d.ed:=by unfold Yt;split <;> rfl
  have hgN:Ya (Yt d e).num e.2.2=O6 (Yt d e).num e.2.2.toNat:=rfl;rw[hgN,mz,my]at mv;have heN:YH 167 H.heap.size w25 hX d.ed:=by have:=h4.e;rw[mz]at this;exact this
  refine Qw<|Qs U h4.B4 U U<|Qa<|Qs U gh U U<|Qa<|x (Qz ⟨U,U,U,Z⟩) <|
   Qe<|QC (us:=[QF ((i:Int),e.2.1,tn)]) U U og (by exact(by decide:1*3<=1000000)) oA λb123 w26 m2 hb123 hB123=>?_
  have gi:=h4.I m2;refine Qe<|Za (m:=1) (news:=QF ((i:Int),e.2.1,tn)) (L:=[]) (Qp heN m2) U U U (hB123.at oe) (λu hu=>by simp only[QF,oL,oJ,or_false]at hu;rcases hu with rfl|rfl|rfl <;> rfl) (ou S.el) gi.st.size λm3 w27 m6 m7 hn27=>?_
  have hk27:YH 167 H.heap.size w27 m3 (d.ed++[((i:Int),e.2.1,tn)]):=YH.snoc m6;refine Q2 U<|Qe<|QB (gi.B4.J m7 (QT gi.e hH)) U U oe (Qt m6) λw28 hs28 hB28=>xe ?_;have m8:=gi.setE hH hS gv m7 hk27 hn27 hs28 hB28;rw[<-mv]at m8;refine Qw<|QP U U<|Qa<|xe<|⟨(k4+1,Zw i d e,m5,vo5,m3),oh,oA,m8,oh,hc5,?_,?_,?_,h3⟩
  ·simp only[];rw[<-g0];exact(QbC i d [] e).2
  ·simp only[];rw[QbD,k9];omega
  simp only[];obtain⟨r1,h1⟩:=jv i d e;obtain⟨r2',h2⟩:=hY;exact⟨r2'++r1,by rw[h1,h2,LB]⟩
 refine Qh ?_;have I:k<q.a.ed.length:=by have hQ:(k:Int)<(q.a.ed.length:Int):=gr;omega
 have m9:=hq.ok.ed _ (Ll I);have htk:q.a.ed.take (k+1)=q.a.ed.take k++[q.a.ed[k]'I]:=Lm I;have h5:(q.a.ed.take (k+1)).filter (λe=>lft lf e.2.2)=(q.a.ed.take k).filter (λe=>lft lf e.2.2)++if lft lf (q.a.ed[k]'I).2.2=true then[q.a.ed[k]'I]else[]:=by
  rw[htk,L5];congr 1;by_cases h:lft lf (q.a.ed[k]'I).2.2=true
  ·simp[h]
  simp[h]
 have hfll:((q.a.ed.take k).filter (λe=>lft lf e.2.2)).length<=k:=LJ (Mi _ _) (by rw[Ly];omega);refine Zk ((q.a.ed.take k).filter (λe=>lft lf e.2.2)) λkept hkept=>?_;rw[hkept]at h5 V hfll;refine Zk (q.a.ed[k]'I) λe he=>?_;rw[he]at m9 h5;have pa:e.1=(e.1.toNat:Int):=oa
 have gb:e.2.2=(e.2.2.toNat:Int):=oa
 have gn:=qh (l:=lf) (s:=e.2.2) oa;have hp:e.1.toNat<q.n:=oa
 refine Qd<|Qf<|Qc<|xie kn.a.ed U U I λa52 hQ=>?_;rw[he]at hQ;refine x (Qx hQ U U)<|Qe<|Qo (us:=[oF oG 0,oF oG 0,oF oG 0]) U λb7 w8 gs hb7 h6=>Qe<|Qj (us:=QF e) h6 U U U U oB λH gt h6=>xe ?_;have J:O5 [] w7 H:=gs.O gt hb7;have p4:=J.size;have hA9:=kn.I J;have hB9:=hB.I (gq.D J);have ka:=V.I J;have hJ:=gp.I J;refine Qd<|ZD [] (Xb 0 8 [])<|p QE<|p (Xh U)<|p (QR U)<|pq (λ_ G=>Qq (hA9.B.I G) U U)<|p (QR U)<|pq (λ_ G=>Qq (h6.I G) U U) <|
  p (λ_=>Zu (i:=e.2.2.toNat) U (OV (Value.int .i64) gb) oa)<|pq (v:=.bool (lft lf e.2.2)) (λ_ G=>(J2 (i:=e.2.2.toNat) (hB9.I G) U oa).D (by rw[gn]))<|pe ?_
 have h7:O5 [] H { H with drawn:=H.drawn+1 }:=O5.C _ _
 refine QX rfl (λkb=>?_) (λkb=>?_)
 ·rw[OU kb]at h5;have hrow:=ka.own _ hp;have kc:∀b∈ob (rv e.1.toNat),w6.heap.size<=b/\b<w7.heap.size:=λb E=>⟨(Qi (V.own _ hp) b E).1,Zc (V.own _ hp) b E⟩;have pc:bE∉ob (rv e.1.toNat):=λE=>ou (kc _ E)
  have ke:b7∉ob (rv e.1.toNat):=λE=>ou (kc _ E)
  have ko:=QbK kept e.1.toNat;refine qD (O5 (ob (rv e.1.toNat)) H) [oD 0,oD 1,oD 2,oD 3,oD 4,oD 5,oD 6,oD 7,oD 8,oE 9,oE 10,oD 11,oE 12] mixed ol od (h7.any.Q (O5.C _ _)) ?_;refine p QE<|p (QR U)<|pq (λ_ G=>Qq (h6.J G ke) U U)<|p QE<|p (QR U) <|
   pq (λ_ G=>Qq (h6.J G ke) U U)<|p (λ_=>Zu (i:=e.1.toNat) U (OV (Value.int .i64) pa) hp)<|pq (λ_ G=>Qq (u:=rv e.1.toNat) (hJ.J G pc) U (QbJ hp)) <|
   pq (λ_ G=>ZY (h6.J G ke) U U)<|pk<|QC (us:=[QF e]) U U og (by exact(by decide:1*3<=1000000)) oA λb71 gu hw hb71 hB71=>⟨(h7.any.Q (O5.C _ _)).Q hw.any,?_⟩
  have h8:O5 [] H gu:=(h7.D (O5.C _ _)).D hw;have hz10:=h8.size;refine pk<|Za (m:=1) (news:=QF e) (L:=[]) (Qp hrow h8) U U U (hB71.at oe) (λu hu=>by simp only[QF,oL,oJ,or_false]at hu;rcases hu with rfl|rfl|rfl <;> rfl) oa oa λvr q0 pd gj hn11=>⟨h8.any.Q gj,?_⟩
  have hBE11:=(hJ.I h8).J gj pc;have hlen:((oT q.n).map rv).length=q.n:=oe
  refine p (λ_=>Zu (i:=e.1.toNat) U (OV (Value.int .i64) pa) hp)<|pkl (hl:=by kernel_rfl)<|QB (j:=0+e.1.toNat*1) (u:=vr) hBE11 U U (by rw[hlen];omega) (Qt pd) λhy ha hBE12=>pe ?_;have g5:Zb hy.heap bE 57 ((oT q.n).map (VZ rv e.1.toNat vr)):=by
   have e1:=Qhk id q.n rv e.1.toNat vr;simp only[id]at e1;rw[<-e1];simpa using hBE12
  have hvn:∀b∈ob vr,b∈ob (rv e.1.toNat)\/H.heap.size<=b:=λb E=>(hn11 b E).imp id (λh=>oa);have pf:=ka.app hp (YH.snoc pd) (h8.any.Q gj) hvn;have pg:=pf.J ha (λi hi b E=>by have:=(Qi (pf.own i hi) b E).1;simp only[oI];omega);rw[QfP kept e m9.1,<-h5]at pg;refine Qw<|QP U U<|Qa<|xe ?_;exact⟨(k+1,VZ rv e.1.toNat vr),oh,La,I,(((hP.D J).D h8).then gj (λb E=>.inr (kc b E).1)).Q ha,g5,pg⟩
 rw[OT (by rw[kb];decide),LQ]at h5;refine Qh<|Qw<|QP U U<|Qa<|xe ?_;exact⟨(k+1,rv),oh,La,I,(hP.D J).D h7,(hJ.I h7),by simp only[];rw[h5];exact ka.I h7⟩
end Go.Lg
