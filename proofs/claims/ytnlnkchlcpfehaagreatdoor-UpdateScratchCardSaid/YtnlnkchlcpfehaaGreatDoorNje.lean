/- Merged out of 44 texts. -/
import Derived.Test.YtnlnkchlcpfehaaGreatDoorNjd
import Derived.Laws.Small
import Derived.Scope
import Derived.Lib.Overlaps
set_option maxHeartbeats 40000000
set_option maxRecDepth 100000
set_option linter.all false
open Go Go.Lg
open Go.Value renaming int->oG
open Go.IntKind renaming i64->oH
open _root_.List renaming mem_singleton->oJ,not_mem_nil->oL,mem_cons->oM,length_append->oN,length_singleton->oP,getD->oQ,length->oR,range'->oS,range->oT,mem_append->oU,length_cons->oV,map_cons->oX,append_assoc->oY,length_map->o6,length_drop->Oa,length_take->Ob,size_toArray->Oc,nil_append->Oh,map_append->Oi,length_set->Oq,map_nil->OD,length_nil->OM
open _root_.Nat renaming zero_add->oZ,add_mul->Ot,lt_or_ge->OO,sub_zero->OP,zero_mul->OV,le_refl->OX,zero_le->OY
open _root_.Array renaming getElem?_eq_getElem->Oj,getElem?_mapIdx->Oy
open _root_.Option renaming map_some->Oz,isSome_none->OI
open _root_.Bool renaming false_eq_true->OJ,true_and->OU
open Go renaming World->O8,Value->O9,Operand->xd,Program->xh
open Go.Proofs Go.Proofs.Tryz
open Go.Proofs.Tryz renaming prog->sV
variable {w w':O8}{L L' ds:LN}{n t i sz b T j N E g ty id cap b1 B kt lo hi b2 et M gp gf:Nat}{a:QU}{cs us news capt:LV}{α β:Type}{y:xd}{c:Zy}{z va ve vm vt v' vl vs vx vb vk vu:O9}{l u al rs:LI}{f:Fr}{P:xh}{fn:Func}{s rk:Int}{o:Oper}{d:xL}{af:xJ}{gd:xC}{K:xG}{co:List Y0}{bf:List xR}{D:xE}{qs:List IV}{at_:Array Nat}{ops:xK}{ks:List KV}
namespace Go.Lg
theorem Uy {f:α->β}{l l':List α}(h:l.length≠l'.length):l.map f≠l'.map f:=λe=>h (by have:=O2 oR e;rwa [Lj,Lj]at this)
theorem VG {f:α->β}{l l':List α}{k:Nat}(h:k<l.length)(E:k<l'.length):(l.drop k).map f=(l'.drop k).map f↔f (l[k]'h)=f (l'[k]'E)/\(l.drop (k+1)).map f=(l'.drop (k+1)).map f:=by
 rw[LH h,LH E,LO,LO];exact List.cons_eq_cons
theorem Qg7 {v:O9}{l l':List IV}[Fu sV gf fn](h:Zk L ↑w v l.length 5 (l.flatMap QK))(E:Zk L' ↑w v' l'.length 5 (l'.flatMap QK))
  (h1:∀q∈l,Zj (QK q)) (hn:∀q∈l',Zj (QK q)) (hk:∀(k:Nat) (h:k<l.length) (E:k<l'.length) (H:O8),sW w H->QZ sV gf [.agg (QK (l[k]'h)).toArray,.agg (QK (l'[k]'E)).toArray] H λr w'=>r=.bool (decide ((l[k]'h).it=(l'[k]'E).it))/\sW H w'):
  QZ sV 148 [v,v',.func (.func gf) #[] #[]] w λr w'=>r=.bool (decide (l.map (·.it)=l'.map (·.it)))/\sW w w':=by
 have h6:=h.le;refine Zt func148 ?_;refine Qc<|Qb<|Qd<|Qj<|QE h U<|Qa<|QE E U<|Zu U U<|xe<|QY rfl (λhb=>?_) (λhb=>?_)
 .refine Qc<|Qb<|Qi ⟨[.bool false],Lb,?_,xj.Y _ _⟩;have:l.map (·.it)≠l'.map (·.it):=Uy λe=>hb (by rw[e]);simp[tup,this]
 refine Qe<|Qd<|Qj<|QE h U<|Qa<|xe<|Q2 (α:=Nat) [(6,9),(17,31)] (λk=>[(17,sS k)]) (λk w'=>sW w w'/\k<=l.length/\(l.map (·.it)=l'.map (·.it)↔(l.drop k).map (·.it)=(l'.drop k).map (·.it))) (λk=>l.length - k) 0 Lb ⟨xj.Y _ _,Lp _,oe⟩ ?_;rintro k g H ⟨O,hk1,S⟩;refine Zi rfl U (λho=>?_) (λho=>?_)
 .refine Qt<|Qc<|Qb<|Qi ⟨[.bool true],Lb,?_,O⟩;rw[Lx oa,Lx oa]at S;simp[tup,S]
 have I:k<l.length:=oa
 have J:k<l'.length:=oa
 have V:=hk k I J;have T:=VG (f:=(·.it)) I J;have hm:=h1 _ (Lm I);have hc:=hn _ (Lm J);refine Qe<|Qd<|Qn<|Qj<|xp (g:=QK) (i:=k) Yj (h.J O) U U I λh7 hg=>?_;refine Zd (l[k]'I) λq hq=>?_;rw[hq]at hg V hm T;refine x (Qu hg U U)<|QL [.string .empty,nS,sS 0,nS,nS] λb8 w2 hp hr ht=>x Qh<|QJ (QK q) ht hm λw3 hv hw=>xe ?_;have hh:sW H w3:=hp.Q hv hr;refine Qj<|Qa<|xp (g:=QK) (i:=k) Yj ((E.J O).J hh) U U J λh8 hi=>?_;refine Zd (l'[k]'J) λY hy=>?_;rw[hy]at hi V hc T;refine x (Qu hi U U)<|QL [.string .empty,nS,sS 0,nS,nS] λb9 w4 hz h0 h2=>QJ (QK Y) h2 hc λw5 h3 h4=>xe ?_;have hj:sW w3 w5:=hz.Q h3 h0;have Z:=(O.I hh).I hj;refine Qj<|QV (hw.J hj) U U<|QV h4 U U<|Qo<|xc (first:=[]) (capt:=[]) U<|(V w5 Z).S ?_;rintro r6 w6 ⟨rfl,hl⟩;refine x (Zr U)<|xe<|Q6 rfl (λha=>?_) (λha=>?_)
 .refine Qc<|Qb<|Qi ⟨[.bool false],Lb,?_,Z.I hl⟩;have h5:¬q.it=Y.it:=by simpa using ha
  have:l.map (·.it)≠l'.map (·.it):=λe=>h5 (T.1 (S.1 e)).1;simp[tup,this]
 refine Qe ?_;have he:q.it=Y.it:=by simpa using ha
 refine Qq<|QH U U<|Qa<|xe ?_;exact⟨k+1,oa,Lb,Z.I hl,oa,S.I (T.I ⟨λh=>h.2,λh=>⟨he,h⟩⟩)⟩
theorem QoL {v:O9}{l l':List XV}[Fu sV gf fn](h:Zk L ↑w v l.length 2 (l.flatMap Q0))(E:Zk L' ↑w v' l'.length 2 (l'.flatMap Q0))
  (h1:∀q∈l,Zj (Q0 q)) (hn:∀q∈l',Zj (Q0 q)) (hk:∀(k:Nat) (h:k<l.length) (E:k<l'.length) (H:O8),sW w H->QZ sV gf [.agg (Q0 (l[k]'h)).toArray,.agg (Q0 (l'[k]'E)).toArray] H λr w'=>r=.bool (decide ((l[k]'h).x=(l'[k]'E).x))/\sW H w'):
  QZ sV 149 [v,v',.func (.func gf) #[] #[]] w λr w'=>r=.bool (decide (l.map (·.x)=l'.map (·.x)))/\sW w w':=by
 have h6:=h.le;refine Zt func149 ?_;refine Qc<|Qb<|Qd<|Qj<|QE h U<|Qa<|QE E U<|Zu U U<|xe<|QY rfl (λhb=>?_) (λhb=>?_)
 .refine Qc<|Qb<|Qi ⟨[.bool false],Lb,?_,xj.Y _ _⟩;have:l.map (·.x)≠l'.map (·.x):=Uy λe=>hb (by rw[e]);simp[tup,this]
 refine Qe<|Qd<|Qj<|QE h U<|Qa<|xe<|Q2 (α:=Nat) [(6,9),(17,31)] (λk=>[(17,sS k)]) (λk w'=>sW w w'/\k<=l.length/\(l.map (·.x)=l'.map (·.x)↔(l.drop k).map (·.x)=(l'.drop k).map (·.x))) (λk=>l.length - k) 0 Lb ⟨xj.Y _ _,Lp _,oe⟩ ?_;rintro k g H ⟨O,hk1,S⟩;refine Zi rfl U (λho=>?_) (λho=>?_)
 .refine Qt<|Qc<|Qb<|Qi ⟨[.bool true],Lb,?_,O⟩;rw[Lx oa,Lx oa]at S;simp[tup,S]
 have I:k<l.length:=oa
 have J:k<l'.length:=oa
 have V:=hk k I J;have T:=VG (f:=(·.x)) I J;have hm:=h1 _ (Lm I);have hc:=hn _ (Lm J);refine Qe<|Qd<|Qn<|Qj<|xp (g:=Q0) (i:=k) XG (h.J O) U U I λh7 hg=>?_;refine Zd (l[k]'I) λq hq=>?_;rw[hq]at hg V hm T;refine x (Qu hg U U)<|QL [.string .empty,nS] λb8 w2 hp hr ht=>x Qh<|QJ (Q0 q) ht hm λw3 hv hw=>xe ?_;have hh:sW H w3:=hp.Q hv hr;refine Qj<|Qa<|xp (g:=Q0) (i:=k) XG ((E.J O).J hh) U U J λh8 hi=>?_;refine Zd (l'[k]'J) λY hy=>?_;rw[hy]at hi V hc T;refine x (Qu hi U U)<|QL [.string .empty,nS] λb9 w4 hz h0 h2=>QJ (Q0 Y) h2 hc λw5 h3 h4=>xe ?_;have hj:sW w3 w5:=hz.Q h3 h0;have Z:=(O.I hh).I hj;refine Qj<|QV (hw.J hj) U U<|QV h4 U U<|Qo<|xc (first:=[]) (capt:=[]) U<|(V w5 Z).S ?_;rintro r6 w6 ⟨rfl,hl⟩;refine x (Zr U)<|xe<|Q6 rfl (λha=>?_) (λha=>?_)
 .refine Qc<|Qb<|Qi ⟨[.bool false],Lb,?_,Z.I hl⟩;have h5:¬q.x=Y.x:=by simpa using ha
  have:l.map (·.x)≠l'.map (·.x):=λe=>h5 (T.1 (S.1 e)).1;simp[tup,this]
 refine Qe ?_;have he:q.x=Y.x:=by simpa using ha
 refine Qq<|QH U U<|Qa<|xe ?_;exact⟨k+1,oa,Lb,Z.I hl,oa,S.I (T.I ⟨λh=>h.2,λh=>⟨he,h⟩⟩)⟩
theorem QoM {v:O9}{l l':List KV}[Fu sV gf fn](h:Zk L ↑w v l.length 3 (l.flatMap Q5))(E:Zk L' ↑w v' l'.length 3 (l'.flatMap Q5))
  (h1:∀q∈l,Zj (Q5 q)) (hn:∀q∈l',Zj (Q5 q)) (hk:∀(k:Nat) (h:k<l.length) (E:k<l'.length) (H:O8),sW w H->QZ sV gf [.agg (Q5 (l[k]'h)).toArray,.agg (Q5 (l'[k]'E)).toArray] H λr w'=>r=.bool (decide ((l[k]'h).k=(l'[k]'E).k))/\sW H w'):
  QZ sV 152 [v,v',.func (.func gf) #[] #[]] w λr w'=>r=.bool (decide (l.map (·.k)=l'.map (·.k)))/\sW w w':=by
 have h6:=h.le;refine Zt func152 ?_;refine Qc<|Qb<|Qd<|Qj<|QE h U<|Qa<|QE E U<|Zu U U<|xe<|QY rfl (λhb=>?_) (λhb=>?_)
 .refine Qc<|Qb<|Qi ⟨[.bool false],Lb,?_,xj.Y _ _⟩;have:l.map (·.k)≠l'.map (·.k):=Uy λe=>hb (by rw[e]);simp[tup,this]
 refine Qe<|Qd<|Qj<|QE h U<|Qa<|xe<|Q2 (α:=Nat) [(6,9),(17,31)] (λk=>[(17,sS k)]) (λk w'=>sW w w'/\k<=l.length/\(l.map (·.k)=l'.map (·.k)↔(l.drop k).map (·.k)=(l'.drop k).map (·.k))) (λk=>l.length - k) 0 Lb ⟨xj.Y _ _,Lp _,oe⟩ ?_;rintro k g H ⟨O,hk1,S⟩;refine Zi rfl U (λho=>?_) (λho=>?_)
 .refine Qt<|Qc<|Qb<|Qi ⟨[.bool true],Lb,?_,O⟩;rw[Lx oa,Lx oa]at S;simp[tup,S]
 have I:k<l.length:=oa
 have J:k<l'.length:=oa
 have V:=hk k I J;have T:=VG (f:=(·.k)) I J;have hm:=h1 _ (Lm I);have hc:=hn _ (Lm J);refine Qe<|Qd<|Qn<|Qj<|xp (g:=Q5) (i:=k) Xs (h.J O) U U I λh7 hg=>?_;refine Zd (l[k]'I) λq hq=>?_;rw[hq]at hg V hm T;refine x (Qu hg U U)<|QL [.string .empty,nS,sS 0] λb8 w2 hp hr ht=>x Qh<|QJ (Q5 q) ht hm λw3 hv hw=>xe ?_;have hh:sW H w3:=hp.Q hv hr;refine Qj<|Qa<|xp (g:=Q5) (i:=k) Xs ((E.J O).J hh) U U J λh8 hi=>?_;refine Zd (l'[k]'J) λY hy=>?_;rw[hy]at hi V hc T;refine x (Qu hi U U)<|QL [.string .empty,nS,sS 0] λb9 w4 hz h0 h2=>QJ (Q5 Y) h2 hc λw5 h3 h4=>xe ?_;have hj:sW w3 w5:=hz.Q h3 h0;have Z:=(O.I hh).I hj;refine Qj<|QV (hw.J hj) U U<|QV h4 U U<|Qo<|xc (first:=[]) (capt:=[]) U<|(V w5 Z).S ?_;rintro r6 w6 ⟨rfl,hl⟩;refine x (Zr U)<|xe<|Q6 rfl (λha=>?_) (λha=>?_)
 .refine Qc<|Qb<|Qi ⟨[.bool false],Lb,?_,Z.I hl⟩;have h5:¬q.k=Y.k:=by simpa using ha
  have:l.map (·.k)≠l'.map (·.k):=λe=>h5 (T.1 (S.1 e)).1;simp[tup,this]
 refine Qe ?_;have he:q.k=Y.k:=by simpa using ha
 refine Qq<|QH U U<|Qa<|xe ?_;exact⟨k+1,oa,Lb,Z.I hl,oa,S.I (T.I ⟨λh=>h.2,λh=>⟨he,h⟩⟩)⟩
theorem Qfm {a b:Y0}:a=b↔(a.nm=b.nm/\a.a.st=b.a.st/\a.a.al=b.a.al/\a.a.mr=b.a.mr/\a.a.ed=b.a.ed):=by
 rw[QgS,Qhy];exact⟨λ⟨E,H,I,J,O⟩=>⟨E,I,H,J,O⟩,λ⟨E,H,I,J,O⟩=>⟨E,I,H,J,O⟩⟩
theorem Qg8 {q E:IV}(h:ZE [] ↑w q.p.va q.p.vm q.p.ve q.p.a)(T:ZE [] ↑w E.p.va E.p.vm E.p.ve E.p.a):
  QZ sV 146 [sT (QK q),sT (QK E)] w λr w'=>r=.bool (decide (q.it=E.it))/\sW w w':=by
 refine Zt func146 ?_;refine Qc<|Zg (QK q) λb2 Z V ha O=>Zg (QK E) λb3 w2 I hb S=>Qb ?_;have H:=V.I I;refine Qc<|Qm U (O.J I) U U<|Qm U S U U<|xb (XI U U) (λJ=>?_) (λJ=>?_)
 .refine Qa<|QN U<|x (Qu (((O.J I).at (L:=[]) oe).from 1) rfl rfl)<|QN rfl<|x (Qu ((S.at (L:=[]) oe).from 1) rfl rfl)<|Qx<|(Qex (h.J H) (T.J H)).S ?_;rintro r4 w4 ⟨rfl,Y⟩;refine QB U<|Qb<|Qi ⟨[.bool _],Lb,O2 Value.bool (decide_eq_decide.2 ⟨λh=>Qfm.2 ⟨J,h⟩,λh=>(Qfm.1 h).2⟩),H.I Y⟩
 refine Qa<|Zm<|Z6<|QB U<|Qb<|Qi ⟨[.bool false],Lb,O2 Value.bool (O6 λh=>J (Qfm.1 h).1).symm,H⟩
theorem QoO {q E:XV}(h:P2s [] ↑w q.v q.ls)(T:P2s [] ↑w E.v E.ls):
  QZ sV 150 [sT (Q0 q),sT (Q0 E)] w λr w'=>r=.bool (decide (q.x=E.x))/\sW w w':=by
 refine Zt func150 ?_;refine Qc<|Zg (Q0 q) λb2 Z V ha O=>Zg (Q0 E) λb3 w2 I hb S=>Qb ?_;have H:=V.I I;refine Qc<|Qm U (O.J I) U U<|Qm U S U U<|xb (XI U U) (λJ=>?_) (λJ=>?_)
 .refine Qa<|Qm U (O.J I) U U<|Qm U S U U<|Qx<|(Qiw (h.J H) (T.J H)).S ?_;rintro r4 w4 ⟨rfl,Y⟩;refine QB U<|Qb<|Qi ⟨[.bool _],Lb,O2 Value.bool (decide_eq_decide.2 ⟨λh=>yn.2 ⟨J,h⟩,λh=>(yn.1 h).2⟩),H.I Y⟩
 refine Qa<|Zm<|Z6<|QB U<|Qb<|Qi ⟨[.bool false],Lb,O2 Value.bool (O6 λh=>J (yn.1 h).1).symm,H⟩
theorem QoN {q E:KV}(h:P2s [] ↑w q.v q.ts)(V:P2s [] ↑w E.v E.ts):
  QZ sV 153 [sT (Q5 q),sT (Q5 E)] w λr w'=>r=.bool (decide (q.k=E.k))/\sW w w':=by
 refine Zt func153 ?_;refine Qc<|Zg (Q5 q) λb2 w1 Y ha J=>Zg (Q5 E) λb3 w2 I hb O=>Qb ?_;have H:=Y.I I;refine Qc<|Qm U (J.J I) U U<|Qm U O U U<|xb (XI U U) (λS=>?_) (λS=>?_)
 .refine Qa<|Qm U (J.J I) U U<|Qm U O U U<|xb (QW U U) (λT=>?_) (λT=>?_)
  .refine QB U<|Qa<|Qm U (J.J I) U U<|Qm U O U U<|Qx<|(Qiv (h.J H) (V.J H)).S ?_;rintro r4 w4 ⟨rfl,Z⟩;refine QB U<|Qb<|Qi ⟨[.bool _],Lb,O2 Value.bool (decide_eq_decide.2 ⟨λh=>qg.2 ⟨S,h,T⟩,λh=>(qg.1 h).2.1⟩),H.I Z⟩
  refine QB U<|Qa<|Zm<|Z6<|QB U<|Qb<|Qi ⟨[.bool false],Lb,O2 Value.bool (O6 λh=>T (qg.1 h).2.2).symm,H⟩
 refine Qa<|Zm<|Z6<|QB U<|Qa<|Zm<|Z6<|QB U<|Qb<|Qi ⟨[.bool false],Lb,O2 Value.bool (O6 λh=>S (qg.1 h).1).symm,H⟩
theorem QfM {c H:CL}(h0:ZG L ↑w c)(ht:ZG L' ↑w H):
  QZ sV 87 [c.val,H.val] w λr w'=>r=.bool (decide (c.Z=H.Z))/\sW w w':=by
 have h:=h0.up (L':=[]) oe;have E:=ht.up (L':=[]) oe;have Y:c.Z=H.Z↔(c.ev=H.ev/\c.co.map (·.it)=H.co.map (·.it)/\c.rq.map (·.it)=H.rq.map (·.it)/\c.ex.map (·.x)=H.ex.map (·.x)/\c.cs.map (·.k)=H.cs.map (·.k)):=Qht;have hh:∀{b:Bool},(c.Z=H.Z->b=true)->b=false->Value.bool false=.bool (decide (c.Z=H.Z)):=λh1 h2=>O2 Value.bool (O6 λe=>by rw[h1 e]at h2;cases h2).symm;have hi:∀{c:CL},ZG [] ↑w c->(∀q∈c.co,Zj (QK q))/\∀q∈c.rq,Zj (QK q):=λO=>⟨λq I=>⟨U,(O.co.each q I).al.one,U,(O.co.each q I).mr.one,(O.co.each q I).ed.one,La⟩,λq I=>⟨U,(O.rq.each q I).al.one,U,(O.rq.each q I).mr.one,(O.rq.each q I).ed.one,La⟩⟩;have ho:∀{c:CL},ZG [] ↑w c->∀q∈c.ex,Zj (Q0 q):=λO q I=>⟨U,(O.ex.each q I).one,La⟩;have hp:∀{c:CL},ZG [] ↑w c->∀q∈c.cs,Zj (Q5 q):=λO q I=>⟨U,(O.cs.each q I).one,U,La⟩;refine Zt func87 ?_;refine Qc<|Zg c.cells λb2 w1 hv h5 hw=>Zg H.cells λb3 w2 hr h6 Z=>Qb ?_;have T:=hv.I hr;have ha:=hw.J hr;refine Qc<|Qb<|Qc<|Qm U ha U U<|Qm U Z U U<|Qx<|(Qix (h.ev.arr.J T) (E.ev.arr.J T)).S ?_;rintro r1 w3 ⟨rfl,hj⟩;have hb:=T.I hj;refine xB K5 (λe1=>?_) (λe1=>?_)
 rotate_left
 .refine Zm<|Zm<|QB U<|Qa<|Zm<|Zm<|QB U<|Qa<|Zm<|Z6<|QB U<|Qa<|Zm<|Z6<|QB U<|Qb<|Qi ⟨[.bool false],Lb,hh (λe=>O4 (Y.1 e).1) e1,hb⟩
 refine Qm rfl (ha.J hj) U U<|Qm U (Z.J hj) U U<|Qa<|Qx<|(Qg7 (gf:=146) (h.co.arr.J hb) (E.co.arr.J hb) (hi h).1 (hi E).1
  (λk hk S w' J=>Qg8 (((h.co.each _ (Lm hk)).J hb).J J) (((E.co.each _ (Lm S)).J hb).J J))).S ?_
 rintro r2 w4 ⟨rfl,hy⟩;have hl:=hj.I hy;have he:=T.I hl;refine QB rfl<|xB K5 (λe2=>?_) (λe2=>?_)
 rotate_left
 .refine Zm<|Zm<|QB U<|Qa<|Zm<|Z6<|QB U<|Qa<|Zm<|Z6<|QB U<|Qb<|Qi ⟨[.bool false],Lb,hh (λe=>O4 (Y.1 e).2.1) e2,he⟩
 refine Qm rfl (ha.J hl) U U<|Qm U (Z.J hl) U U<|Qa<|Qx<|(Qg7 (gf:=146) (h.rq.arr.J he) (E.rq.arr.J he) (hi h).2 (hi E).2
  (λk hk S w' J=>Qg8 (((h.rq.each _ (Lm hk)).J he).J J) (((E.rq.each _ (Lm S)).J he).J J))).S ?_
 rintro r3 w5 ⟨rfl,hz⟩;have hm:=hl.I hz;have hg:=T.I hm;refine QB rfl<|xB K5 (λe3=>?_) (λe3=>?_)
 rotate_left
 .refine Zm<|Z6<|QB U<|Qa<|Zm<|Z6<|QB U<|Qb<|Qi ⟨[.bool false],Lb,hh (λe=>O4 (Y.1 e).2.2.1) e3,hg⟩
 refine Qm rfl (ha.J hm) U U<|Qm U (Z.J hm) U U<|Qx<|(QoL (gf:=150) (h.ex.arr.J hg) (E.ex.arr.J hg) (ho h) (ho E)
  (λk hk S w' J=>QoO (((h.ex.each _ (Lm hk)).J hg).J J) (((E.ex.each _ (Lm S)).J hg).J J))).S ?_
 rintro r4 w6 ⟨rfl,h3⟩;have hn:=hm.I h3;have V:=T.I hn;refine QB rfl<|xB K5 (λe4=>?_) (λe4=>?_)
 rotate_left
 .refine Zm<|Z6<|QB U<|Qb<|Qi ⟨[.bool false],Lb,hh (λe=>O4 (Y.1 e).2.2.2.1) e4,V⟩
 refine Qm rfl (ha.J hn) U U<|Qm U (Z.J hn) U U<|Qx<|(QoM (gf:=153) (h.cs.arr.J V) (E.cs.arr.J V) (hp h) (hp E)
  (λk hk S w' J=>QoN (((h.cs.each _ (Lm hk)).J V).J J) (((E.cs.each _ (Lm S)).J V).J J))).S ?_
 rintro r5 w7 ⟨rfl,h4⟩;refine QB rfl<|Qb<|Qi ⟨[.bool _],Lb,O2 Value.bool (decide_eq_decide.2 ?_),V.I h4⟩;rw[Y];exact⟨λe=>⟨O5 e1,O5 e2,O5 e3,O5 e4,e⟩,λe=>e.2.2.2.2⟩
abbrev ZK (p:ByteArray×Int):LV:=[.string p.1,sS p.2]
theorem QeT (p:ByteArray×Int):(ZK p).length=2:=rfl
structure Ua (L:LN)(H:xI)(v:O9)(l:List (ByteArray×Int)):Prop where
 arr:Zk L H v l.length 2 (l.flatMap ZK)
 nm:∀q∈l,JE q.1
theorem Ua.nil {L:LN}{H:xI}:Ua L H (nS) []:=⟨Zk.nil _ _ _,oe⟩
theorem Ua.J {L:LN}{w w':O8}{v:O9}{l:List (ByteArray×Int)}(h:Ua L ↑w v l)(E:sW w w'):Ua L ↑w' v l:=⟨h.arr.J E,h.nm⟩
theorem Ua.st {L:LN}{w w':O8}{v:O9}{l:List (ByteArray×Int)}(h:Ua L ↑w v l)(E:xj L w w'):Ua L ↑w' v l:=⟨h.arr.st E,h.nm⟩
theorem Ua.up {L L':LN}{H:xI}{v:O9}{l:List (ByteArray×Int)}(h:Ua L H v l)(E:∀b∈L',b∈L\/H.size<=b):Ua L' H v l:=⟨h.arr.up E,h.nm⟩
structure DV where
 kd:Int
 nm:ByteArray
 p:AV
 vl:O9
 ls:List (ByteArray×Int)
 vt:O9
 ts:List (ByteArray×Int)
 bd:Int
def DV.it (q:DV):Yd:=⟨q.kd,q.nm,q.p.a,q.ls,q.ts,q.bd⟩
abbrev Qs (q:DV):LV:=[sS q.kd,.string q.nm,q.p.va,sS q.p.a.st,q.p.vm,q.p.ve,q.vl,q.vt,sS q.bd]
theorem ZZ (q:DV):(Qs q).length=9:=rfl
structure Ji (L:LN)(H:xI)(q:DV):Prop where
 nm:JE q.nm
 a:ZE L H q.p.va q.p.vm q.p.ve q.p.a
 ls:Ua L H q.vl q.ls
 ts:Ua L H q.vt q.ts
theorem Ji.J {L:LN}{w w':O8}{q:DV}(h:Ji L ↑w q)(E:sW w w'):Ji L ↑w' q:=⟨h.nm,h.a.J E,h.ls.J E,h.ts.J E⟩
theorem Ji.st {L:LN}{w w':O8}{q:DV}(h:Ji L ↑w q)(E:xj L w w'):Ji L ↑w' q:=⟨h.nm,h.a.st E,h.ls.st E,h.ts.st E⟩
theorem Ji.up {L L':LN}{H:xI}{q:DV}(h:Ji L H q)(E:∀b∈L',b∈L\/H.size<=b):Ji L' H q:=⟨h.nm,h.a.up E,h.ls.up E,h.ts.up E⟩
theorem Ji.ones {H:xI}{q:DV}(h:Ji L H q):Zj (Qs q):=⟨U,U,h.a.al.one,U,h.a.mr.one,h.a.ed.one,h.ls.arr.one,h.ts.arr.one,U,La⟩
structure K2 (L:LN)(H:xI)(v:O9)(qs:List DV):Prop where
 arr:Zk L H v qs.length 9 (qs.flatMap Qs)
 each:∀q∈qs,Ji L H q
theorem K2.J {L:LN}{w w':O8}{v:O9}{qs:List DV}(h:K2 L ↑w v qs)(E:sW w w'):K2 L ↑w' v qs:=⟨h.arr.J E,λq H=>(h.each q H).J E⟩
theorem K2.up {L L':LN}{H:xI}{v:O9}{qs:List DV}(h:K2 L H v qs)(E:∀b∈L',b∈L\/H.size<=b):K2 L' H v qs:=⟨h.arr.up E,λq I=>(h.each q I).up E⟩
section
variable {pS:String}
theorem Qqz {x:xd}{k:IntKind}{a b:Int}(hx:ev f x=.int k a)(H:ev f y=.int k b):
  sR P f w d (.call ⟨.builtin .max,#[x,y],#[t,E]⟩) ty pS af gd (.int k (if b > a then b else a)):=by
 simp[sR,execOp,resolve,invoke,builtin,hx,H,run_max_int2]
end
def ixD {α:Type}(q:α->Bool)(es:List α):Int:=if es.findIdx q<es.length then(es.findIdx q:Int)else -1
theorem Qq9 {q:α->Bool}{es:List α}(h:∀e∈es,q e=false):ixD q es=-1:=by
 unfold ixD;rw[O0];rw[List.findIdx_eq_length.2 h];omega
theorem Qra {q:α->Bool}{es:List α}{k:Nat}(hk:k<es.length)(E:∀e∈es.take k,q e=false)(H:q (es[k]'hk)=true):ixD q es=(k:Int):=by
 have h:es.findIdx q=k:=(List.findIdx_eq hk).2 ⟨H,λj I=>E _ (List.mem_take_iff_getElem.2 ⟨j,oa,U⟩)⟩;unfold ixD;rw[h,O1 hk]
theorem Qoo {q:α->Bool}{es:List α}:fix q 0 es=ixD q es:=by
 rcases Qcf q es 0 with⟨E,H⟩|⟨k,hk,E,H,O⟩
 .rw[E,Qq9];intro e I;obtain⟨m,J,rfl⟩:=LM I;exact H m J
 rw[E,LS,Qra hk _ H];intro e I;obtain⟨m,J,rfl⟩:=List.mem_take_iff_getElem.1 I;exact O m oa
theorem QgP {v:O9}{es:List DV}[Fu sV g fn]{cap:LV}{q:DV->Bool}(h:Zk L ↑w v es.length 9 (es.flatMap Qs))
  (hk:∀e∈es,∀w1:O8,sW w w1->QZ sV g ([sT (Qs e)]++cap) w1 λr w'=>r=.bool (q e)/\sW w1 w'):
  QZ sV 158 [v,.func (.func g) #[] cap.toArray] w λr w'=>r=sS (ixD q es)/\sW w w' :=
 (ixG ⟨_,U,func158⟩ ZZ (ldA ZZ) h hk).S λ_ _ ⟨E,H⟩=>⟨by rw[E,Qoo],H⟩
theorem Qlb {q:DV}{T1 T2:Nat}{k:Int}{n:ByteArray}(O:QP ↑w b1 T1 [sS k])(S:QP ↑w b2 T2 [.string n]):
  QZ sV 214 [sT (Qs q),sP b1,sP b2] w λr w'=>r=.bool (UA k n q.it)/\sW w w':=by
 refine Zt func214 ?_;refine Qc<|Zg (Qs q) λT V E Y J=>Qb<|Qc<|Qm U J U U<|Xe (O.J E) U U<|xb (QW U U) (λH=>?_) (λH=>?_)
 .refine Qa<|Qm U J U U<|Xe (S.J E) U U<|xb (XI U U) (λI=>?_) (λI=>?_)
  .refine QB U<|Qb<|Qi ⟨[.bool true],Lb,O2 Value.bool (by unfold UA;rw[O4 (show q.it.kd=k from H),O4 (show q.it.nm=n from I)];rfl),E⟩
  refine QB U<|Qb<|Qi ⟨[.bool false],Lb,O2 Value.bool (by unfold UA;rw[O6 (show ¬q.it.nm=n from I),Bool.and_false]),E⟩
 refine Qa<|Zm<|K4<|QB U<|Qb<|Qi ⟨[.bool false],Lb,O2 Value.bool (by unfold UA;rw[O6 (show ¬q.it.kd=k from H),Bool.false_and]),E⟩
theorem QiC (es:List DV)(k:Int)(n:ByteArray):es.findIdx (λq=>UA k n q.it)=YK (es.map DV.it) k n:=by
 unfold YK;rw[List.findIdx_map];rfl
theorem yq {v:O9}{es:List DV}(h:Zk L ↑w v es.length 9 (es.flatMap Qs))(k:Int)(n:ByteArray):
  QZ sV 129 [v,sS k,.string n] w λr w'=>(∃i:Int,r=.tuple #[sS i,.bool (Ve (es.map DV.it) k n)]/\(Ve (es.map DV.it) k n=true->i=(YK (es.map DV.it) k n:Int)))/\sW w w':=by
 have I:=QiC es k n;refine Zt func129 ?_;refine Qc<|Zg [sS k] λT w1 V hc Y=>Zg [.string n] λZ w2 J he ha=>x Qh<|Qb ?_;have O:=V.I J;refine Qj<|x (ZC (l:=[]) (l':=[_,_]))<|Qx<|(QgP (q:=λq=>UA k n q.it) (cap:=[sP T,sP Z]) (h.J O) (λe _ w5 S=>Qlb ((Y.J J).J S) (ha.J S))).S ?_;rintro r3 w3 ⟨rfl,hb⟩;refine Qb<|Qj<|x (Qqz U U)<|Qa<|x (YI U U)<|x Qh<|Qb<|Qi ⟨[sS (if(0:Int) > ixD (λq:DV=>UA k n q.it) es then 0 else ixD (λq:DV=>UA k n q.it) es),.bool (decide ((0:Int)<=ixD (λq:DV=>UA k n q.it) es))],oB,⟨if(0:Int) > ixD (λq:DV=>UA k n q.it) es then 0 else ixD (λq:DV=>UA k n q.it) es,?_,?_⟩,O.I hb⟩
 .have e:decide ((0:Int)<=ixD (λq:DV=>UA k n q.it) es)=Ve (es.map DV.it) k n:=decide_eq_decide.2 (by
   unfold ixD;rw[I,Lj];split
   .rename_i E;exact⟨λ_=>E,λ_=>oa⟩
   rename_i E;exact⟨λH=>oa,λH=>O3 H E⟩)
  rw[e];rfl
 intro E;have H:YK (es.map DV.it) k n<es.length:=by have:=O5 E;rwa [Lj]at this
 unfold ixD;rw[I,O1 H];split <;> omega
theorem QlX {v:O9}(h:Zk L ↑w v n 2 cs)(E:∀u∈cs,u.oneCell'=true):
  QZ sV 126 [v] w λr w'=>sW w w'/\w'.ownsRow ↑w 145 2 r n cs :=
 J9 ⟨_,U,func126⟩ h E
theorem QlW {v:O9}(h:Zk L ↑w v n 2 cs)(E:∀u∈cs,u.oneCell'=true):
  QZ sV 127 [v] w λr w'=>sW w w'/\w'.ownsRow ↑w 147 2 r n cs :=
 J9 ⟨_,U,func127⟩ h E
theorem QlV {v:O9}(h:Zk L ↑w v n 2 cs)(E:∀u∈cs,u.oneCell'=true):
  QZ sV 79 [v] w λr w'=>sW w w'/\w'.ownsRow ↑w 105 2 r n cs :=
 J9 ⟨_,U,func79⟩ h E
theorem QlY {v:O9}(h:Zk L ↑w v n 3 cs)(E:∀u∈cs,u.oneCell'=true):
  QZ sV 80 [v] w λr w'=>sW w w'/\w'.ownsRow ↑w 110 3 r n cs :=
 J9 ⟨_,U,func80⟩ h E
theorem QlU {v:O9}(h:Zk L ↑w v n 4 cs)(E:∀u∈cs,u.oneCell'=true):
  QZ sV 116 [v] w λr w'=>sW w w'/\w'.ownsRow ↑w 261 4 r n cs :=
 J9 ⟨_,U,func116⟩ h E
theorem ju {v:O9}(h:Zk L ↑w v n 2 cs)(E:∀u∈cs,u.oneCell'=true):
  QZ sV 97 [v] w λr w'=>sW w w'/\w'.ownsRow ↑w 87 2 r n cs :=
 J9 ⟨_,U,func97⟩ h E
abbrev z9:LV:=[sS 0,.string .empty,nS,sS 0,nS,nS,nS,nS,sS 0]
theorem Qge (l:List (ByteArray×Int)):∀u∈l.flatMap ZK,u.oneCell'=true:=by
 intro u hu;obtain⟨p,_,E⟩:=Mr.1 hu;simp only[ZK,oM,oL,or_false]at E;rcases E with rfl|rfl <;> rfl
theorem KS {q:DV}(h0:Ji L ↑w q):
  QZ sV 69 [sT (Qs q)] w λr w'=>sW w w'/\∃q':DV,r=sT (Qs q')/\q'.it=q.it/\∀L:LN,(∀b∈L,b<↑w)->Ji L ↑w' q':=by
 have h:=h0.up (L':=[]) oe;refine Zt func69 ?_;refine Qc<|Zg (Qs q) λb1 w1 hE ht hv=>QL z9 λb2 w2 hw hT h2=>xe ?_;have hU:=hv.lt;have hV:=h2.lt;refine Qc<|QN U<|x (Q7 (us:=[q.p.va,sS q.p.a.st,q.p.vm,q.p.ve]) (hv.J hw) U U U)<|QL XD λb3 w3 hF hG hH=>QJ [q.p.va,sS q.p.a.st,q.p.vm,q.p.ve] hH ⟨h.a.al.one,U,h.a.mr.one,h.a.ed.one,La⟩ λI hI hg=>xe ?_;have hh:sW w2 I:=hF.Q hI hG;have h3:=(hE.I hw).I hh;have h4:=h.J h3;have hW:=hh.size;have h5:sW I { I with drawn:=I.drawn+1 }:=xj.X _ _
 refine Qd<|ZH [] [oE 0,oE 1,oE 3,oE 4,oE 5,oE 6,oE 8,oE 9,oF 2,oF 7,oF 10,oE 11,oE 12,oF 13]<|p (QF U)<|pq (λ_ H=>Qk (hg.J H) U U)<|p (QF U)<|pq (λ_ H=>Qk (hg.J H) U U) <|
  p (QF rfl)<|pq (λ_ H=>Qk (hg.J H) U U)<|p (QF U)<|pq (λ_ H=>Qk (hg.J H) U U) <|
  pk<|xg<|(ZU (h4.a.al.J h5)).S ?_
 rintro ra w5 ⟨hJ,hi⟩;have hj:sW I w5:=h5.I hJ;refine⟨hj,?_⟩;refine pk<|xg<|(ZU (h4.a.mr.J hj)).S ?_;rintro rm w6 ⟨h6,hl⟩;have hn:=hj.I h6;refine⟨hn,?_⟩;refine pk<|xg<|(Ka (h4.a.ed.J hn)).S ?_;rintro re w7 ⟨hy,O⟩;have S:=hn.I hy;refine⟨S,?_⟩;refine p (λ_=>Qv ⟨xS hi,U,xS hl,xS O,La⟩)<|p (QF U)<|pkk<|Yy (us:=[ra,sS q.p.a.st,rm,re]) (cs':=[sS q.kd,.string q.nm,ra,sS q.p.a.st,rm,re,q.vl,q.vt,sS q.bd]) ((hv.J (hw.I hh)).J S) U U U oe ⟨Qr hi,rfl,Qr hl,Qr O,La⟩ rfl λJ ho hz=>pe ?_;have hX:=S.size;have h7:sW w J:=(h3.I S).Q ho ht;have h1:b2∉[b1]:=ol
 have h8:=h.J h7;have hY:=ho.size;have h9:sW J { J with drawn:=J.drawn+1 }:=xj.X _ _
 refine Qd<|ZH [] [oE 0,oE 1,oE 3,oE 4,oF 2,oE 6,oF 5,oF 7,oE 8,oF 9]<|p (QF U)<|pq (λ_ H=>Qk (hz.J H) U U)<|p (QF U)<|pq (λ_ H=>Qk (hz.J H) U U) <|
  pk<|xg<|(QlX (h8.ls.arr.J h9) (Qge q.ls)).S ?_
 rintro rl w9 ⟨hK,hp⟩;have hr:sW J w9:=h9.I hK;refine⟨hr,?_⟩;refine p (QF U)<|pk<|xg<|(QlW (h8.ts.arr.J hr) (Qge q.ts)).S ?_;rintro rt hA ⟨hB,hs⟩;have T:=hr.I hB;refine⟨T,?_⟩;refine pkk<|Qw (j:=6) (u:=rl) (hz.J T) U U oe (Qr hp) λhZ V hM=>p (QF rfl)<|pkk<|Qw (j:=7) (u:=rt) hM rfl rfl oe (Qr hs) λhN Y hO=>pe ?_;have hq:Zj [sS q.kd,.string q.nm,ra,sS q.p.a.st,rm,re,rl,rt,sS q.bd]:=⟨U,U,Qr hi,U,Qr hl,Qr O,Qr hp,Qr hs,U,La⟩;refine Qc<|QV hO U U<|Qo<|ZA (us:=[sS q.kd,.string q.nm,ra,sS q.p.a.st,rm,re,rl,rt,sS q.bd]) ((((((h2.J hh).J S).O ho h1).J T).O V h1).O Y h1) U U U U hq λga hC hP=>xe ?_;refine Qi ⟨[sT (Qs ⟨q.kd,q.nm,⟨ra,rm,re,q.p.a⟩,rl,q.ls,rt,q.ts,q.bd⟩)],⟨YO hP,La⟩,(((h7.I T).Q V ht).Q Y ht).Q hC oa,_,U,U,λL hL=>?_⟩;have Z:∀b∈b1::b2::L,b<I.heap.size:=λb E=>by
  simp only[oM]at E;rcases E with rfl|rfl|E
  .omega
  .omega
  have:=hL b E;omega
 have e1:({ I with drawn:=I.drawn+1 }:O8).heap.size=I.heap.size:=rfl
 have e2:({ J with drawn:=J.drawn+1 }:O8).heap.size=J.heap.size:=rfl
 have gb:=hj.size;have gc:=hn.size;have gg:=hr.size;have ha:QG (b1::b2::L) ↑w7 ra q.p.a.al:=((Qp.ints hi h.a.al.le (λb E=>ov (Z b E))).J h6).J hy;have hm:QG (b1::b2::L) ↑w7 rm q.p.a.mr:=(Qp.ints hl h.a.mr.le (λb E=>ov (Z b E))).J hy;have he:zW (b1::b2::L) ↑w7 re q.p.a.ed:=QC O h.a.ed.le (λb E hbL=>oy (Qg O b E).1 (Z b hbL));have hQ:ZE (b1::b2::L) ↑w7 ra rm re q.p.a:=⟨ha,hm,he⟩;have hR:Zk (b1::b2::L) ↑hA rl q.ls.length 2 (q.ls.flatMap ZK):=(QC hp h.ls.arr.le (λb E hbL=>oy (Qg hp b E).1 (Z b hbL)):Zk (b1::b2::L) ↑w9 rl _ 2 _).J hB;have hS:Zk (b1::b2::L) ↑hA rt q.ts.length 2 (q.ts.flatMap ZK):=QC hs h.ts.arr.le (λb E hbL=>oy (Qg hs b E).1 (Z b hbL));have hD:Ji (b1::b2::L) ↑hN ⟨q.kd,q.nm,⟨ra,rm,re,q.p.a⟩,rl,q.ls,rt,q.ts,q.bd⟩:=⟨h.nm,((((hQ.st (ho.S oe)).J T).st (V.S oe)).st (Y.S oe)),⟨(hR.st (V.S oe)).st (Y.S oe),h.ls.nm⟩,⟨(hS.st (V.S oe)).st (Y.S oe),h.ts.nm⟩⟩;exact(hD.st (hC.S oe)).up (λb E=>.inl (by simp[E]))
section
variable {pS:String}
theorem yF {base e:Nat}{bys:Nat}[h:Sl P t e sz bys z]{v:O9}(I:w.ownsRow base e sz v n cs)
  {a:Addr} {m c:Nat}  (J:news.length=m*sz) (Z:∀j u,news[j]?=some u->w.cell? (a.add j)=some u) (h1:∀u∈news,u.oneCell'=true)
  (hb:n+m<=1073741824) (ht:bys<=131072) (he:base<=↑w):
  ∃v' w',(Builtin.append_ #[t,t] ty #[v,.slice (some a) m c]).run P w=.ok v' w'/\w'.ownsRow base e sz v' (n+m) (cs++news)/\xj (ob v) w w'/\(∀b∈ob v',b∈ob v\/↑w<=b):=by
 obtain⟨i,hi,hz,S,ha⟩:=Sl.info h;have hc:(n+m)*bys<=140737488355328:=LJ (Nat.mul_le_mul hb ht) oa;have hh:n+m<=maxLen:=by simp only[maxLen];omega
 by_cases hg:∃g cap cur,v=sL g n cap/\w.heap[g]?=some (.cells cur e (0,0))/\n+m<=cap
 .obtain⟨v',w',Y,ho,hv,_⟩:=run_append_own (P:=P) w base t ty e i z sz bys h.u hi hz S ha h.zs h.pos v n cs I a m c news J Z h1 hh hc he;refine⟨v',w',Y,ho,by rw[yT];exact xj.of_grown hv,?_⟩;obtain⟨g,cap,cur,rfl,hj,V⟩:=hg;rcases I.2 with⟨h2,_⟩|⟨g2,cap2,hp,h2,h3,h4,h5,h6,h7,h8⟩
  .cases h2
  cases h2
  have hw:n*i.size+news.length<=hp.size:=by rw[J,h7,S,<-MB];exact Ma _ V
  rw[(run_append_room (P:=P) w t ty e i h.u hi g n cap hp h4 a m c news (by rw[S];exact J) Z h1 V hw)]at Y;cases Y
  intro b H;exact .inl H
 have new:∀(old:Nat),old<n+m->∀O,O=(Obj.cells (cs.toArray++news.toArray++Builtin.zeroCells z.cells (grownCap w (n+m) old e - (n+m))) e) ->
   (w.drew.alloc O).ownsRow base e sz (.slice (some ⟨↑w,0,none⟩) (n+m) (grownCap w (n+m) old e)) (n+m) (cs++news):=by
  intro old ho O hy;subst hy;have hge:=grownCap_ge w (n+m) old e;have hq:grownCap w (n+m) old e<=maxLen:=grownCap_le_maxLen w (n+m) old e hh;have hs:(cs++news).length=(n+m)*sz:=by rw[Ln,I.1,J,MB]
  refine⟨hs,.inr ⟨↑w,_,_,U,he,KI w.drew _,hge,hq,?_,?_⟩⟩
  .simp only[Array.size_append,Oc,size_zeroCells,h.zs,I.1,J,<-Ot];congr 1;omega
  simp only[Array.toList_append,oY];rw[<-LD,<-hs];exact List.take_left
 have stp:∀O,xj (ob v) w (w.drew.alloc O):=λO=>⟨U,U,U,by rw[V8];exact NW _,λk hk _=>zi w.drew O k hk⟩;have fin:∀(b:Nat),b∈ob (.slice (some ⟨↑w,0,none⟩) (n+m) 0)->b∈ob v\/↑w<=b:=λb H=>by simp[ob]at H;omega
 rcases I.2 with⟨rfl,rfl⟩|⟨g,cap,cur,rfl,hB,hj,hC,hq,hD,hE⟩
 .have hx:cs=[]:=LA (oA I.1);subst hx;by_cases hm:m=0
  .subst hm;have hn:news=[]:=LA (oA J);subst hn;refine⟨nS,w,?_,QI _ _ _ _,xj.Y _ _,λb H=>by simp[ob]at H⟩;simp[Builtin.append_,run_underlying h.u,sizeOf,typeInfo,hi,Builtin.lenOf,Builtin.firstCells,loadCells,loadCellsFrom]
  have Y:=run_append_nil (P:=P) w t ty e i z h.u hi hz a m c news (by rw[S];exact J) Z oa oa (by rw[ha];have h0:=hc;simp only[oZ]at h0;omega);have hn:=new 0 oa _ U;simp only[oZ,Oh,Array.empty_append]at hn ⊢;exact⟨_,_,Y,hn,stp _,λb H=>fin b H⟩
 have V:cap<n+m:=by
  rcases OO cap (n+m)with h9|hge
  .exact h9
  exact O3 ⟨g,cap,cur,U,hj,hge⟩ hg
 have hA:∀j u,cs[j]?=some u->w.cell? ((⟨g,0,none⟩:Addr).add j)=some u:=I.cells (g:=g) U;exact⟨_,_,(run_append_grow (P:=P) w t ty e i z h.u hi hz ⟨g,0,none⟩ n cap cs (by rw[S];exact I.1) hA a m c news (by rw[S];exact J) Z V oa (growslice_fits V (by rw[ha];exact hc))),new cap V _ U,stp _,λb H=>fin b H⟩
theorem JZ {e bys:Nat}[h:Sl P t e sz bys z]{s:xd}{base:Nat}{v:O9}(H:w.ownsRow base e sz v n cs)(I:ev f s=v)
  {a:Addr} {m c:Nat}  (J:ev f y=.slice (some a) m c) (O:news.length=m*sz)  (S:At L ↑w a news) (V:∀u∈news,u.oneCell'=true)
  (Y:n+m<=1073741824) (Z:base<=↑w)
  (hK:∀v' w',w'.ownsRow base e sz v' (n+m) (cs++news)->xj (ob v) w w'->(∀b∈ob v',b∈ob v\/↑w<=b)->K (QT f d v') w') (ha:bys<=131072:=by decide):
  XO P ⟨d,.call ⟨.builtin .append,#[s,y],#[t,t]⟩,ty,pS,af,gd⟩ f w K:=by
 obtain⟨v',w',hr,h2,h3,h4⟩:=yF (P:=P) (t:=t) (ty:=ty) H O S.cells V Y ha Z (c:=c);have hc:(execOp (ev f) ⟨d,.call ⟨.builtin .append,#[s,y],#[t,t]⟩,ty,pS,af,gd⟩).run P w=.ok (.value v') w':=by
  simp[execOp,resolve,invoke,builtin,I,J,hr]
 exact xv hc (hK v' w' h2 h3 h4)
end
class Mm {α:Type}(E:LN->Array Obj->α->Prop):Prop where
 st:∀{L:LN} {w w':O8} {q:α},E L ↑w q->xj L w w'->E L ↑w' q
 up:∀{L L':LN} {H:xI} {q:α},E L H q->(∀b∈L',b∈L\/H.size<=b)->E L' H q
section
variable {E:LN->Array Obj->α->Prop}[Mm E]{X:LN}{q:α}
theorem Mm.S {H:xI}(h:E L H q)(I:∀b∈L',b∈L):E L' H q:=Mm.up h λb J=>.inl (I b J)
theorem Mm.O (h:E L ↑w q)(I:xj X w w')(J:∀b∈X,b∈L\/↑w<=b):E L ↑w' q :=
 Mm.S (Mm.st (Mm.up (L':=X++L) h (λb H=>(Lh.1 H).elim (J b) .inl)) (I.S λ_ H=>Lh.2 (.inl H))) λ_ H=>Lh.2 (.inr H)
theorem Mm.J (h:E L ↑w q)(H:sW w w'):E L ↑w' q:=Mm.st h H.any
end
structure K3 {α:Type}(g:α->LV)(sz:Nat)(E:LN->Array Obj->α->Prop)(L:LN)(H:xI)(v:O9)(qs:List α):Prop where
 arr:Zk L H v qs.length sz (qs.flatMap g)
 each:∀q∈qs,E L H q
section
variable {g:α->LV}{E:LN->Array Obj->α->Prop}
theorem K3.st [Mm E]{L:LN}{w w':O8}{v:O9}{qs:List α}(h:K3 g sz E L ↑w v qs)(H:xj L w w'):K3 g sz E L ↑w' v qs:=⟨h.arr.st H,λq I=>Mm.st (h.each q I) H⟩
theorem K3.up [Mm E]{L L':LN}{H:xI}{v:O9}{qs:List α}(h:K3 g sz E L H v qs)(I:∀b∈L',b∈L\/H.size<=b):K3 g sz E L' H v qs:=⟨h.arr.up I,λq J=>Mm.up (h.each q J) I⟩
theorem K3.J [Mm E]{v:O9}{qs:List α}(h:K3 g sz E L ↑w v qs)(H:sW w w'):K3 g sz E L ↑w' v qs:=h.st H.any
structure Yt {α:Type}(g:α->LV)(sz T:Nat)(E:LN->Array Obj->α->Prop)(base:Nat)(w:O8)(v:O9)(l:List α):Prop where
 own:w.ownsRow base T sz v l.length (l.flatMap g)
 each:∀q∈l,∀L:LN,(∀b∈L,b<base\/b∈ob v)->E L ↑w q
variable {bs:Nat}{v:O9}{l:List α}
theorem Yt.nil:Yt g sz T E bs w (nS) []:=⟨QI _ _ _ _,λq H=>by cases H⟩
theorem Yt.low [Mm E]{X:LN}(h:Yt g sz T E bs w v l)(I:xj X w w')(J:∀b∈X,b<bs):Yt g sz T E bs w' v l :=
 ⟨Qf h.own I (λb H O=>oy (Qg h.own b H).1 (J b O)),λq S L V =>
  Mm.S (Mm.st (L:=X++L) (h.each q S _ λb H=>(Lh.1 H).elim (λH=>.inl (J b H)) (V b)) (I.S λb H=>Lh.2 (.inl H))) λb H=>Lh.2 (.inr H)⟩
theorem Yt.J [Mm E](h:Yt g sz T E bs w v l)(H:sW w w'):Yt g sz T E bs w' v l:=h.low H (λ_ I=>by cases I)
theorem Yt.base {base':Nat}(h:Yt g sz T E bs w v l)(H:base'<=bs):Yt g sz T E base' w v l :=
 ⟨Zv h.own H,λq I L J=>h.each q I L λb O=>(J b O).imp (λh=>oa) id⟩
theorem Yt.app [Mm E]{I:O9}{J:O8}{q:α}(h:Yt g sz T E bs w v l)(S:∀L:LN,(∀b∈L,b<bs\/b∈ob v)->E L ↑w q)
  (V:J.ownsRow bs T sz I (l.length+1) (l.flatMap g++g q)) (Y:xj (ob v) w J) (Z:∀b∈ob I,b∈ob v\/↑w<=b):Yt g sz T E bs J I (l++[q]):=by
 have mv:∀d:α,(∀L:LN,(∀b∈L,b<bs\/b∈ob v)->E L ↑w d)->∀L:LN,(∀b∈L,b<bs\/b∈ob I)->E L ↑J d:=λd hd L hL=>by
  have h1:E (ob v++L) ↑w d:=Mm.up (hd (ob v++L.filter λb=>decide (b<bs)) λb H=>(Lh.1 H).elim .inr λH=>.inl (O5 (LY.1 H).2)) λb H=>by
   rcases Lh.1 H with H|H
   .exact .inl (Lh.2 (.inl H))
   rcases hL b H with O|O
   .exact .inl (Lh.2 (.inr (LY.2 ⟨H,O4 O⟩)))
   exact(Z b O).imp (λh3=>Lh.2 (.inl h3)) id
  exact Mm.S (Mm.st h1 (Y.S λb H=>Lh.2 (.inl H))) λb H=>Lh.2 (.inr H)
 refine⟨?_,λd hd=>?_⟩
 .rw[Ln,LC];simpa using V
 rcases Lh.1 hd with hd|hd
 .exact mv d (h.each d hd)
 simp only[oJ]at hd;subst hd;exact mv d S
theorem Yt.lst (h:Yt g sz T E bs w v l)(J:l.length<=1099511627776)(I:∀b∈L,b<bs):K3 g sz E L ↑w v l :=
 ⟨QC h.own J (λb H hbL=>oy (Qg h.own b H).1 (I b hbL)),λq O=>h.each q O L λb H=>.inl (I b H)⟩
end
instance:Mm Ji:=⟨Ji.st,Ji.up⟩
theorem V4 {H:xI}{q:DV}(h:Ji L H q):∀u∈Qs q,u.oneCell'=true:=by
 intro u hu;simp only[Qs,oM,oL,or_false]at hu;rcases hu with rfl|rfl|rfl|rfl|rfl|rfl|rfl|rfl|rfl
 .rfl
 .rfl
 .exact h.a.al.one
 .rfl
 .exact h.a.mr.one
 .exact h.a.ed.one
 .exact h.ls.arr.one
 .exact h.ts.arr.one
 rfl
abbrev JK (base:Nat)(w:O8)(v:O9)(l:List DV):Prop:=Yt Qs 9 70 Ji base w v l
theorem JK.dits {base:Nat}{v:O9}{l:List DV}(h:JK base w v l)(E:l.length<=1099511627776)(H:∀b∈L,b<base):K2 L ↑w v l:=⟨(Yt.lst h E H).arr,(Yt.lst h E H).each⟩
theorem Kt {v:O9}{es:List DV}(h0:K2 L ↑w v es)(h4:es.length<=100000):
  QZ sV 92 [v] w λr w'=>sW w w'/\∃l:List DV,JK ↑w w' r l/\l.map DV.it=es.map DV.it:=by
 have h:=h0.up (L':=[]) oe;refine Zt func92 ?_;refine Qc<|Qb<|Qc<|Qb<|Qd<|Qj<|QE h.arr U<|Qa<|xe<|Q2 (α:=Nat×O9×List DV) [(3,3),(5,5),(8,17)] (λz=>[(3,z.2.1),(8,sS z.1)]) (λz w'=>z.1<=es.length/\sW w w'/\JK ↑w w' z.2.1 z.2.2/\z.2.2.map DV.it=(es.take z.1).map DV.it) (λz=>es.length - z.1) (0,nS,[]) oB
  ⟨Lp _,xj.Y _ _,Yt.nil,U⟩ ?_
 rintro⟨k,vo,l⟩ g w1 ⟨hk,O,hR,H⟩;simp only[]at hk hR H;have h5:l.length=k:=by have:=O2 oR H;rw[Lj,Lj,LB]at this;omega
 refine Zi rfl U (λT=>?_) (λT=>?_)
 .refine Qt ?_;have hi:es.length<=k:=by have hj:¬(k:Int)<(es.length:Int):=T;omega
  rw[Lt hi]at H;refine Qj<|Qb<|Qi ⟨[vo],Lb,O,l,hR,H⟩
 have E:k<es.length:=by have hj:(k:Int)<(es.length:Int):=T;omega
 have Z:es.take (k+1)=es.take k++[es[k]'E]:=Lo E;have ha:=Lm E;have h1:=h.J O;refine Qe<|Qd<|Qn<|Qc<|xp (g:=Qs) (i:=k) ZZ h1.arr U U E λh6 hc=>?_;refine Zd (es[k]'E) λq hq=>?_;rw[hq]at hc Z ha;have he:=h1.each q ha;refine x (Qu hc U U)<|QL z9 λb5 w2 hl hn ho=>QJ (Qs q) ho he.ones λw3 hp hr=>xe ?_;have I:sW w1 w3:=hl.Q hp hn;have h7:=I.size;have h8:=O.size;refine Qq<|Qa<|QV hr U U<|Qx<|(KS (he.J I)).S ?_;rintro r4 w4 ⟨V,J,rfl,hs,hg⟩;have hA:=V.size;have ht:=Q3 (hR.J I).own;refine Qo<|Zb [Qs J] λhv w5 S hB hw=>?_;have hC:=S.size;have hy:At [] ↑w5 ⟨hv,0,none⟩ (Qs J):=by have:=hw.at (L:=[]) oe;simpa using this
 have hR5:=((hR.J I).J V).J S;refine Qo<|JZ (m:=1) (news:=Qs J) hR5.own U U U hy (V4 (hg [] oe)) oa oa λv6 w6 hz hh h2=>?_;refine Qb ?_;have h3:JK ↑w w6 v6 (l++[J]):=hR5.app (λL hL=>(hg L (λb Y=>by
  rcases hL b Y with h|h
  .omega
  exact ht b h)).J S) hz hh h2
 refine Qq<|QH U U<|Qa<|xe<|⟨(k+1,v6,l++[J]),by show es.length - (k+1)<es.length - k;omega,oB,E,((((O.I I).I V).I S).G hh λb Y=>.inr (Qg hR.own b Y).1),h3,?_⟩;simp only[];rw[Z,Ls,Ls,H,LO,LO,hs]
theorem jv {n:Nat}{u:LI}:∀{l:List Y0}{s:List ByteArray},Jv n u s l=0->(l.map (·.nm)).Nodup/\∀x∈l,x.nm∉s
 | [],_,_=>⟨.nil,λx hx=>by cases hx⟩
 | y::l,s,h=>by
  rw[Vg]at h;by_cases E:Z1 n u s y≠0
  .rw[O1 E]at h;exact O3 h E
  rw[O0 E]at h;have H:Z1 n u s y=0:=Lq.1 E;have O:y.nm∉s:=λI=>by
   unfold Z1 at H;split at H
   .exact O3 H oh
   exact O3 H oh
  obtain⟨S,J⟩:=jv h;refine⟨Nm.2 ⟨λI=>?_,S⟩,λx hx=>?_⟩
  .obtain⟨x,hx,e⟩:=Ly.1 I;exact J x hx (by rw[e];simp)
  rcases Lk.1 hx with rfl|hx
  .exact O
  exact λI=>J x hx (Lh.2 (.inl I))
theorem Qho {s:List ByteArray}{n:ByteArray}(h:Js s n=0):n∉s:=λE=>by
 unfold Js at h;split at h
 .exact O3 h oh
 exact O3 h oh
theorem zd {sz:LI}:∀{l:List Uf}{s:List ByteArray},Yc sz s l=0->(l.map (·.nm)).Nodup/\∀x∈l,x.nm∉s
 | [],_,_=>⟨.nil,λx hx=>by cases hx⟩
 | y::l,s,h=>by
  rw[Yc]at h;by_cases E:Js s y.nm≠0
  .rw[O1 E]at h;exact O3 h E
  rw[O0 E]at h;by_cases H:XR sz y.ls≠0
  .rw[O1 H]at h;exact O3 h H
  rw[O0 H]at h;obtain⟨O,J⟩:=zd h;refine⟨Nm.2 ⟨λI=>?_,O⟩,λx hx=>?_⟩
  .obtain⟨x,hx,e⟩:=Ly.1 I;exact J x hx (by rw[e];simp)
  rcases Lk.1 hx with rfl|hx
  .exact(Qho (Lq.1 E))
  exact λI=>J x hx (Lh.2 (.inl I))
theorem ze {sz:LI}:∀{l:List xT}{s:List ByteArray},YQ sz s l=0->(l.map (·.nm)).Nodup/\∀x∈l,x.nm∉s
 | [],_,_=>⟨.nil,λx hx=>by cases hx⟩
 | y::l,s,h=>by
  rw[YQ]at h;by_cases E:Js s y.nm≠0
  .rw[O1 E]at h;exact O3 h E
  rw[O0 E]at h;by_cases H:Xd sz y≠0
  .rw[O1 H]at h;exact O3 h H
  rw[O0 H]at h;obtain⟨O,J⟩:=ze h;refine⟨Nm.2 ⟨λI=>?_,O⟩,λx hx=>?_⟩
  .obtain⟨x,hx,e⟩:=Ly.1 I;exact J x hx (by rw[e];simp)
  rcases Lk.1 hx with rfl|hx
  .exact(Qho (Lq.1 E))
  exact λI=>J x hx (Lh.2 (.inl I))
theorem yf {c:Zy}{k:Int}{f:Nat->ByteArray}(hk:∀(j:Nat) (co:LI),Ya c ⟨k,(j:Int),co⟩=(k,f j)):∀(l:LN) (i:Nat),(Uh k i l).map (Ya c)=(oS i l.length).map λj=>(k,f j)
 | [],_=>rfl
 | b::l,i=>by
  rw[Uh,LO,yf hk l (i+1),hk,LX,Nn,LO]
theorem yL (L:List α)(f:α->ByteArray)(d:α)(k:Int):((oS 0 L.length).map λj=>(k,f (L.getD j d)))=L.map λx=>(k,f x):=by
 apply Mh
 .simp
 intro i I E;have H:i<L.length:=by simpa using E
 simp[oQ,H]
theorem QnW (c:Zy):(xq c).map (Ya c)=c.rq.map (λx=>((1:Int),x.nm))++(c.ex.map (λx=>((2:Int),x.nm))++c.cs.map λx=>((3:Int),x.nm)):=by
 unfold xq;rw[Ls,Ls];rw[yf (f:=λj=>(c.rq.getD j ⟨.empty,Vv⟩).nm) (λj co=>rfl),yf (f:=λj=>(c.ex.getD j ⟨.empty,[]⟩).nm) (λj co=>rfl),yf (f:=λj=>(c.cs.getD j ⟨.empty,[],0⟩).nm) (λj co=>rfl)];have e1:(srR c).length=c.rq.length:=Lj _;have e2:(srX c).length=c.ex.length:=Lj _;have E:(srC c).length=c.cs.length:=Lj _;rw[e1,e2,E,yL c.rq (·.nm),yL c.ex (·.nm),yL c.cs (·.nm)]
theorem X8 {k:Int}{f:α->ByteArray}{l:List α}(h:(l.map f).Nodup):(l.map λx=>(k,f x)).Nodup:=by
 have e:(l.map λx=>(k,f x))=(l.map f).map λn=>(k,n):=by rw[L4];rfl
 rw[e];exact(MC.2 (h.imp λE e=>E (O2 Prod.snd e)))
theorem QdB (h:Zf c=0):((xq c).map (Ya c)).Nodup:=by
 unfold Zf at h;split at h
 .rename_i E;exact O3 h E
 split at h
 .cases h
 split at h
 .cases h
 split at h
 .rename_i E;exact O3 h E
 split at h
 .rename_i E;exact O3 h E
 rename_i J;unfold Ys at h;split at h
 .cases h
 split at h
 .cases h
 split at h
 .cases h
 split at h
 .rename_i E;exact O3 h E
 rename_i hx;rw[QnW];refine Mi.2 ⟨X8 (jv (Lq.1 J)).1,Mi.2 ⟨X8 (zd (Lq.1 hx)).1,X8 (ze h).1,λa I b H e=>?_⟩,λa I b H e=>?_⟩
 .obtain⟨_,_,rfl⟩:=Ly.1 I;obtain⟨_,_,rfl⟩:=Ly.1 H;exact O3 (O2 Prod.fst e) (show(2:Int)≠3 by decide)
 obtain⟨_,_,rfl⟩:=Ly.1 I;rcases Lh.1 H with H|H
 .obtain⟨_,_,rfl⟩:=Ly.1 H;exact O3 (O2 Prod.fst e) (show(1:Int)≠2 by decide)
 obtain⟨_,_,rfl⟩:=Ly.1 H;exact O3 (O2 Prod.fst e) (show(1:Int)≠3 by decide)
theorem QrO (c:Zy)(bf:List xR)(v:Int)(m:Vw):(KK c bf v m).2.1.ky=Ya c m:=by
 unfold KK;split
 .rfl
 split
 .rename_i p E;split
  .have:=List.find?_some E;simpa using this
  rfl
 rfl
structure zl {α:Type}(g:α->LV)(sz T:Nat)(E:LN->Array Obj->α->Prop)(L:LN)(base:Nat)(w:O8)(v:O9)(l:List α):Prop where
 own:w.ownsRow base T sz v l.length (l.flatMap g)
 each:∀q∈l,E (ob v++L) ↑w q
section
variable {g:α->LV}{E:LN->Array Obj->α->Prop}{bs:Nat}{v:O9}{l:List α}
theorem zl.nil:zl g sz T E L bs w (nS) []:=⟨QI _ _ _ _,λq H=>by cases H⟩
theorem zl.O [Mm E]{X:LN}(h:zl g sz T E L bs w v l)(I:xj X w w')(J:∀b∈X,(b∈L\/↑w<=b)/\b∉ob v):zl g sz T E L bs w' v l :=
 ⟨Qf h.own I (λb H O=>(J b O).2 H),λq S=>Mm.O (h.each q S) I λb H=>(J b H).1.imp (λh=>Lh.2 (.inr h)) id⟩
theorem zl.J [Mm E](h:zl g sz T E L bs w v l)(H:sW w w'):zl g sz T E L bs w' v l:=h.O H (λ_ I=>by cases I)
theorem zl.app [Mm E]{I:O9}{J:O8}{q:α}(h:zl g sz T E L bs w v l)(O:E (ob v++L) ↑w q)
  (S:J.ownsRow bs T sz I (l.length+1) (l.flatMap g++g q)) (V:xj (ob v) w J) (Y:∀b∈ob I,b∈ob v\/↑w<=b):zl g sz T E L bs J I (l++[q]):=by
 have mv:∀d:α,E (ob v++L) ↑w d->E (ob I++L) ↑J d:=λd hd=>by
  have Z:E (ob v++(ob I++L)) ↑w d:=Mm.up hd λb H=>by
   rcases Lh.1 H with H|H
   .exact .inl (Lh.2 (.inl H))
   rcases Lh.1 H with H|H
   .exact(Y b H).imp (λh3=>Lh.2 (.inl h3)) id
   exact .inl (Lh.2 (.inr H))
  exact Mm.S (Mm.st Z (V.S λb H=>Lh.2 (.inl H))) λb H=>Lh.2 (.inr H)
 refine⟨?_,λd hd=>?_⟩
 .rw[Ln,LC];simpa using S
 rcases Lh.1 hd with hd|hd
 .exact mv d (h.each d hd)
 simp only[oJ]at hd;subst hd;exact mv d O
end
structure zB where
 ky:Ky
 vr:Int
 p:AV
 vk:O9
 kp:LI
 vd:O9
 ds:LI
 vm:O9
 rm:List Q4
abbrev ZW (q:zB):LV:=[sS q.ky.1,.string q.ky.2,sS q.vr,q.p.va,sS q.p.a.st,q.p.vm,q.p.ve,q.vk,q.vd,q.vm]
theorem Qfy (q:zB):(ZW q).length=10:=rfl
structure zV (L:LN)(H:xI)(q:zB):Prop where
 a:ZE L H q.p.va q.p.vm q.p.ve q.p.a
 k:QG L H q.vk q.kp
 d:QG L H q.vd q.ds
 r:Zk L H q.vm q.rm.length 4 (q.rm.flatMap KM)
theorem zV.st {L:LN}{w w':O8}{q:zB}(h:zV L ↑w q)(H:xj L w w'):zV L ↑w' q:=⟨h.a.st H,h.k.st H,h.d.st H,h.r.st H⟩
theorem zV.J {q:zB}(h:zV L ↑w q)(H:sW w w'):zV L ↑w' q:=h.st H.any
theorem zV.up {L L':LN}{H:xI}{q:zB}(h:zV L H q)(I:∀b∈L',b∈L\/H.size<=b):zV L' H q:=⟨h.a.up I,h.k.up I,h.d.up I,h.r.up I⟩
instance:Mm zV:=⟨zV.st,zV.up⟩
theorem zV.ones {H:xI}{q:zB}(h:zV L H q):Zj (ZW q):=⟨U,U,U,h.a.al.one,U,h.a.mr.one,h.a.ed.one,h.k.one,h.d.one,h.r.one,La⟩
structure Ent where
 ky:Ky
 vr:Int
 sp:QU
 kp:LI
 ds:LI
 rm:List Q4
def zB.en (q:zB):Ent:=⟨q.ky,q.vr,q.p.a,q.kp,q.ds,q.rm⟩
def xR.en (p:xR):Ent:=⟨p.ky,p.vr,p.sp,p.kp,p.ds,p.rm⟩
structure zS where
 e:zB
 c:CL
abbrev ZJ (q:zS):LV:=[sS q.e.ky.1,.string q.e.ky.2,sS q.e.vr,q.e.p.va,sS q.e.p.a.st,q.e.p.vm,q.e.p.ve,q.e.vk,q.e.vd,q.e.vm,q.c.ve,q.c.vc,q.c.vr,q.c.vx,q.c.vk]
theorem yQ (q:zS):(ZJ q).length=15:=rfl
def zS.pt (q:zS):xR:=⟨q.e.ky,q.e.vr,q.e.p.a,q.e.kp,q.e.ds,q.e.rm,q.c.Z⟩
structure qv (L:LN)(H:xI)(q:zS):Prop where
 e:zV L H q.e
 c:ZG L H q.c
theorem qv.st {L:LN}{w w':O8}{q:zS}(h:qv L ↑w q)(H:xj L w w'):qv L ↑w' q:=⟨h.e.st H,h.c.st H⟩
theorem qv.J {q:zS}(h:qv L ↑w q)(H:sW w w'):qv L ↑w' q:=h.st H.any
theorem qv.up {L L':LN}{H:xI}{q:zS}(h:qv L H q)(I:∀b∈L',b∈L\/H.size<=b):qv L' H q:=⟨h.e.up I,h.c.up I⟩
instance:Mm qv:=⟨qv.st,qv.up⟩
theorem qv.ones {H:xI}{q:zS}(h:qv L H q):Zj (ZJ q):=⟨U,U,U,h.e.a.al.one,U,h.e.a.mr.one,h.e.a.ed.one,h.e.k.one,h.e.d.one,h.e.r.one,h.c.ev.arr.one,h.c.co.arr.one,h.c.rq.arr.one,h.c.ex.arr.one,h.c.cs.arr.one,La⟩
structure RpV where
 v1:O9
 k1:List Ky
 v2:O9
 k2:List Ky
 v3:O9
 k3:List Ky
def RpV.rp (q:RpV):Rp:=⟨q.k1,q.k2,q.k3⟩
abbrev ZP (q:RpV):LV:=[q.v1,q.v2,q.v3]
theorem Qqq (q:RpV):(ZP q).length=3:=rfl
abbrev Kys (L:LN)(H:xI)(v:O9)(l:List Ky):Prop:=Zk L H v l.length 2 (l.flatMap Vb)
structure Ub (L:LN)(H:xI)(q:RpV):Prop where
 a1:Kys L H q.v1 q.k1
 a2:Kys L H q.v2 q.k2
 a3:Kys L H q.v3 q.k3
theorem Ub.st {L:LN}{w w':O8}{q:RpV}(h:Ub L ↑w q)(H:xj L w w'):Ub L ↑w' q:=⟨h.a1.st H,h.a2.st H,h.a3.st H⟩
theorem Ub.J {q:RpV}(h:Ub L ↑w q)(H:sW w w'):Ub L ↑w' q:=h.st H.any
theorem Ub.up {L L':LN}{H:xI}{q:RpV}(h:Ub L H q)(I:∀b∈L',b∈L\/H.size<=b):Ub L' H q:=⟨h.a1.up I,h.a2.up I,h.a3.up I⟩
instance:Mm Ub:=⟨Ub.st,Ub.up⟩
theorem Ub.ones {H:xI}{q:RpV}(h:Ub L H q):Zj (ZP q):=⟨h.a1.one,h.a2.one,h.a3.one,La⟩
theorem Qb2 (l:List Ky):∀u∈l.flatMap Vb,u.oneCell'=true:=by
 intro u hu;obtain⟨p,_,H⟩:=Mr.1 hu;simp only[Vb,oM,oL,or_false]at H;rcases H with rfl|rfl <;> rfl
structure IvA (L:LN)(H:xI)(q:IV):Prop where
 a:ZE L H q.p.va q.p.vm q.p.ve q.p.a
 nm:JE q.nm
theorem IvA.st {L:LN}{w w':O8}{q:IV}(h:IvA L ↑w q)(E:xj L w w'):IvA L ↑w' q:=⟨h.a.st E,h.nm⟩
theorem IvA.up {L L':LN}{H:xI}{q:IV}(h:IvA L H q)(E:∀b∈L',b∈L\/H.size<=b):IvA L' H q:=⟨h.a.up E,h.nm⟩
instance:Mm IvA:=⟨IvA.st,IvA.up⟩
theorem IvA.ones {H:xI}{q:IV}(h:IvA L H q):Zj (QK q):=⟨U,h.a.al.one,U,h.a.mr.one,h.a.ed.one,La⟩
structure XvA (L:LN)(H:xI)(q:XV):Prop where
 l:P2s L H q.v q.ls
 nm:JE q.nm
theorem XvA.st {L:LN}{w w':O8}{q:XV}(h:XvA L ↑w q)(E:xj L w w'):XvA L ↑w' q:=⟨h.l.st E,h.nm⟩
theorem XvA.up {L L':LN}{H:xI}{q:XV}(h:XvA L H q)(E:∀b∈L',b∈L\/H.size<=b):XvA L' H q:=⟨h.l.up E,h.nm⟩
instance:Mm XvA:=⟨XvA.st,XvA.up⟩
structure KvA (L:LN)(H:xI)(q:KV):Prop where
 l:P2s L H q.v q.ts
 nm:JE q.nm
theorem KvA.st {L:LN}{w w':O8}{q:KV}(h:KvA L ↑w q)(E:xj L w w'):KvA L ↑w' q:=⟨h.l.st E,h.nm⟩
theorem KvA.up {L L':LN}{H:xI}{q:KV}(h:KvA L H q)(E:∀b∈L',b∈L\/H.size<=b):KvA L' H q:=⟨h.l.up E,h.nm⟩
instance:Mm KvA:=⟨KvA.st,KvA.up⟩
abbrev IvR (base:Nat)(w:O8)(v:O9)(l:List IV):Prop:=Yt QK 5 98 IvA base w v l
theorem IvR.itms {base:Nat}{v:O9}{l:List IV}(h:IvR base w v l)(H:l.length<=1099511627776)(I:∀b∈L,b<base):XX L ↑w v l :=
 let z:=Yt.lst h H I;⟨z.arr,λq E=>(z.each q E).a,λq E=>(z.each q E).nm⟩
theorem QnH (l:List Q4):∀u∈l.flatMap KM,u.oneCell'=true:=by
 intro u hu;obtain⟨p,_,E⟩:=Mr.1 hu;simp only[KM,oM,oL,or_false]at E;rcases E with rfl|rfl|rfl|rfl <;> rfl
theorem QfE (h0:ZE L ↑w va vm ve a):
  QZ sV 81 [.agg #[va,sS a.st,vm,ve]] w λr w'=>sW w w'/\Xi ↑w ↑w' r a:=by
 have h:=h0.up (L':=[]) oe;refine Zt func81 ?_;refine Qc<|Zg [va,sS a.st,vm,ve] λb1 w1 hs hw hn=>QL XD λb2 I Y hy ho=>xe ?_;have hp:=hs.I Y;have Z:=h.J hp;have J:=hn.J Y;have hz:=hn.lt;have hd:sW I { I with drawn:=I.drawn+1 }:=xj.X _ _
 refine Qd<|ZH [] [oE 0,oE 1,oE 3,oE 4,oE 5,oE 6,oE 8,oE 9,oF 2,oF 7,oF 10,oE 11,oF 12]<|p (QF U)<|pq (λ_ H=>Qk (J.J H) U U)<|p (QF U)<|pq (λ_ H=>Qk (J.J H) U U) <|
  p (QF rfl)<|pq (λ_ H=>Qk (J.J H) U U)<|p (QF U)<|pq (λ_ H=>Qk (J.J H) U U) <|
  pk<|xg<|(ZU (Z.al.J hd)).S ?_
 rintro ra w5 ⟨ht,hg⟩;have O:sW I w5:=hd.I ht;refine⟨O,?_⟩;refine pk<|xg<|(ZU (Z.mr.J O)).S ?_;rintro rm w6 ⟨hq,hh⟩;have S:=O.I hq;refine⟨S,?_⟩;refine pk<|xg<|(Ka (Z.ed.J S)).S ?_;rintro re T ⟨hi,V⟩;have hj:=S.I hi;refine⟨hj,?_⟩;refine p (λ_=>Qv ⟨xS hg,U,xS hh,xS V,La⟩)<|pkk<|Ux [ra,sS a.st,rm,re] (ho.J hj) ⟨Qr hg,U,Qr hh,Qr V,La⟩ λw8 hr hv=>pe ?_;refine Qi ⟨[.agg #[ra,sS a.st,rm,re]],⟨YO hv,La⟩,(hp.I hj).Q hr oa,ra,rm,re,U,λL hL=>?_⟩;have h1:=Y.size;have h3:=O.size;have h4:=S.size;have hl:∀b∈b2::L,b<I.heap.size:=λb E=>by
  rcases Lk.1 E with rfl|E
  .exact ho.lt
  have:=hL b E;omega
 have ha:QG (b2::L) ↑T ra a.al:=((Qp.ints hg h.al.le (λb E=>ov (hl b E))).J hq).J hi;have hm:QG (b2::L) ↑T rm a.mr:=(Qp.ints hh h.mr.le (λb E=>ov (hl b E))).J hi;have he:zW (b2::L) ↑T re a.ed:=QC V h.ed.le (λb E hbL=>oy (Qg V b E).1 (hl b hbL));have hA:ZE (b2::L) ↑T ra rm re a:=⟨ha,hm,he⟩;exact(hA.st (hr.S oe)).up (λb E=>.inl (Ll _ E))
abbrev z10:LV:=[sS 0,.string .empty,sS 0,nS,sS 0,nS,nS,nS,nS,nS]
theorem QrC {q:zB}(h0:zV L ↑w q):
  QZ sV 55 [sT (ZW q)] w λr w'=>sW w w'/\∃q':zB,r=sT (ZW q')/\q'.en=q.en/\∀L:LN,(∀b∈L,b<↑w)->zV L ↑w' q':=by
 have h:=h0.up (L':=[]) oe;refine Zt func55 ?_;refine Qc<|Zg (ZW q) λb1 w1 h7 hs hj=>QL z10 λb2 w2 hl hN ht=>xe ?_;have hO:=hj.lt;have hP:=ht.lt;refine Qc<|QN U<|x (Q7 (us:=[q.vk,q.vd,q.vm]) (hj.J hl) U U U)<|QL [nS,nS,nS] λb3 w3 h8 h9 hA=>QJ [q.vk,q.vd,q.vm] hA ⟨h.k.one,h.d.one,h.r.one,La⟩ λw4 hB hC=>xe ?_;have V:sW w2 w4:=h8.Q hB h9;have hv:=(h7.I hl).I V;have hQ:=V.size;have hw:=(hj.J hl).J V;refine Qc<|QN U<|x (Q7 (us:=[q.p.va,sS q.p.a.st,q.p.vm,q.p.ve]) hw U U U)<|Qx<|(QfE (h.J hv).a).S ?_;rintro _ w5 ⟨hm,xa,xm,I,rfl,hy⟩;have hR:=hm.size;have J:=(hy [] oe);refine QN rfl<|Qo<|Yy (us:=[xa,sS q.p.a.st,xm,I]) (cs':=[sS q.ky.1,.string q.ky.2,sS q.vr,xa,sS q.p.a.st,xm,I,q.vk,q.vd,q.vm]) (hw.J hm) U U U oe ⟨J.al.one,rfl,J.mr.one,J.ed.one,La⟩ rfl λH hn hD=>xe ?_;have ho:xj [b1] w4 H:=hm.any.V hn;have hz:sW w H:=hv.Q ho hs;have h6:=h.J hz;have hS:=hn.size;have hF:b3∉[b1]:=ol
 have h1:b2∉[b1]:=ol
 have hp:=hC.O ho hF;have hd:sW H { H with drawn:=H.drawn+1 }:=xj.X _ _
 refine Qd<|ZH [] [oE 0,oE 1,oE 3,oE 4,oE 6,oE 7,oF 2,oF 5,oF 8,oE 9,oE 10,oF 11]<|p (QF U)<|pq (λ_ O=>Qk (hp.J O) U U)<|p (QF U)<|pq (λ_ O=>Qk (hp.J O) U U) <|
  p (QF rfl)<|pq (λ_ O=>Qk (hp.J O) U U)<|pk<|xg<|(ZU (h6.k.J hd)).S ?_
 rintro rk w7 ⟨hG,Y⟩;have Z:sW H w7:=hd.I hG;refine⟨Z,?_⟩;refine pk<|xg<|(ZU (h6.d.J Z)).S ?_;rintro rd w8 ⟨h2,he⟩;have hg:=Z.I h2;refine⟨hg,?_⟩;refine pk<|xg<|(QlU (h6.r.J hg) (QnH q.rm)).S ?_;rintro rr S ⟨hq,T⟩;have hh:=hg.I hq;refine⟨hh,?_⟩;refine p (λ_=>Qv ⟨xS Y,xS he,xS T,La⟩)<|p (QF U)<|pkk<|Yy (us:=[rk,rd,rr]) (cs':=[sS q.ky.1,.string q.ky.2,sS q.vr,xa,sS q.p.a.st,xm,I,rk,rd,rr]) (hD.J hh) U U U oe ⟨Qr Y,Qr he,Qr T,La⟩ rfl λhH h3 hI=>pe ?_;have h4:xj [b1] H hH:=hh.any.V h3;have hJ:Zj (ZW ⟨q.ky,q.vr,⟨xa,xm,I,q.p.a⟩,rk,q.kp,rd,q.ds,rr,q.rm⟩):=⟨U,U,U,J.al.one,U,J.mr.one,J.ed.one,Qr Y,Qr he,Qr T,La⟩;refine Qc<|QV hI U U<|QJ (ZW ⟨q.ky,q.vr,⟨xa,xm,I,q.p.a⟩,rk,q.kp,rd,q.ds,rr,q.rm⟩) (((ht.J V).O ho h1).O h4 h1) hJ λhT h5 hK=>xe ?_;refine Qi ⟨[sT (ZW ⟨q.ky,q.vr,⟨xa,xm,I,q.p.a⟩,rk,q.kp,rd,q.ds,rr,q.rm⟩)],⟨YO hK,La⟩,(hz.Q h4 hs).Q h5 oa,_,U,U,λL hL=>?_⟩;have e6:({ H with drawn:=H.drawn+1 }:O8).heap.size=H.heap.size:=rfl
 have hU:=Z.size;have hV:=hg.size;have hi:∀b∈b1::b2::L,b<w4.heap.size:=λb E=>by
  simp only[oM]at E;rcases E with rfl|rfl|E
  .omega
  .omega
  have:=hL b E;omega
 have ha:ZE (b1::b2::L) ↑S xa xm I q.p.a:=((hy (b1::b2::L) hi).st (hn.S oe)).J hh;have hk:QG (b1::b2::L) ↑S rk q.kp:=((Qp.ints Y h.k.le (λb E=>ov (hi b E))).J h2).J hq;have hM:QG (b1::b2::L) ↑S rd q.ds:=(Qp.ints he h.d.le (λb E=>ov (hi b E))).J hq;have hr:Zk (b1::b2::L) ↑S rr q.rm.length 4 (q.rm.flatMap KM):=QC T h.r.le (λb E hbL=>oy (Qg T b E).1 (hi b hbL));have hE:zV (b1::b2::L) ↑S ⟨q.ky,q.vr,⟨xa,xm,I,q.p.a⟩,rk,q.kp,rd,q.ds,rr,q.rm⟩:=⟨ha,hk,hM,hr⟩;exact((hE.st (h3.S oe)).st (h5.S oe)).up (λb E=>.inl (by simp[E]))
theorem QrB {q:RpV}(h0:Ub L ↑w q):
  QZ sV 45 [sT (ZP q)] w λr w'=>sW w w'/\∃q':RpV,r=sT (ZP q')/\q'.rp=q.rp/\∀L:LN,(∀b∈L,b<↑w)->Ub L ↑w' q':=by
 have h:=h0.up (L':=[]) oe;refine Zt func45 ?_;refine Qc<|Zg (ZP q) λb1 w1 hl hv hr=>QL [nS,nS,nS] λb2 H Z hw hn=>xe ?_;have ho:=hl.I Z;have h2:=h.J ho;have hg:=hr.J Z;have hy:=hl.size;have hz:=Z.size;have hd:sW H { H with drawn:=H.drawn+1 }:=xj.X _ _
 refine Qd<|ZH [] [oE 0,oE 1,oE 3,oE 4,oE 6,oE 7,oF 2,oF 5,oF 8,oE 9,oF 10]<|p (QF U)<|pq (λ_ I=>Qk (hg.J I) U U)<|p (QF U)<|pq (λ_ I=>Qk (hg.J I) U U) <|
  p (QF rfl)<|pq (λ_ I=>Qk (hg.J I) U U)<|pk<|xg<|(ju (h2.a1.J hd) (Qb2 q.k1)).S ?_
 rintro ra w5 ⟨hs,J⟩;have O:sW H w5:=hd.I hs;refine⟨O,?_⟩;refine pk<|xg<|(ju (h2.a2.J O) (Qb2 q.k2)).S ?_;rintro rm w6 ⟨hp,S⟩;have T:=O.I hp;refine⟨T,?_⟩;refine pk<|xg<|(ju (h2.a3.J T) (Qb2 q.k3)).S ?_;rintro re V ⟨hh,Y⟩;have hi:=T.I hh;refine⟨hi,?_⟩;refine p (λ_=>Qv ⟨xS J,xS S,xS Y,La⟩)<|pkk<|Ux [ra,rm,re] (hn.J hi) ⟨Qr J,Qr S,Qr Y,La⟩ λw8 hq ht=>pe ?_;refine Qi ⟨[sT (ZP ⟨ra,q.k1,rm,q.k2,re,q.k3⟩)],⟨YO ht,La⟩,(ho.I hi).Q hq oa,_,U,U,λL hL=>?_⟩;have e1:({ H with drawn:=H.drawn+1 }:O8).heap.size=H.heap.size:=rfl
 have h1:=O.size;have h3:=T.size;have hj:∀b∈b2::L,b<H.heap.size:=λb E=>by
  rcases Lk.1 E with rfl|E
  .exact hn.lt
  have:=hL b E;omega
 have ha:Kys (b2::L) ↑V ra q.k1:=((QC J h.a1.le (λb E hbL=>oy (Qg J b E).1 (hj b hbL)):Kys (b2::L) ↑w5 ra q.k1).J hp).J hh;have hm:Kys (b2::L) ↑V rm q.k2:=(QC S h.a2.le (λb E hbL=>oy (Qg S b E).1 (hj b hbL)):Kys (b2::L) ↑w6 rm q.k2).J hh;have he:Kys (b2::L) ↑V re q.k3:=QC Y h.a3.le (λb E hbL=>oy (Qg Y b E).1 (hj b hbL));have hA:Ub (b2::L) ↑V ⟨ra,q.k1,rm,q.k2,re,q.k3⟩:=⟨ha,hm,he⟩;exact(hA.st (hq.S oe)).up (λb E=>.inl (Ll _ E))
theorem QkH {c:CL}{q:MV}(h0:ZG L ↑w c)(ht:0<=q.ix)(hk:q.kd=1\/q.kd=2\/q.kd=3)(hr:q.kd=1->q.ix<(c.rq.length:Int))(hx:q.kd=2->q.ix<(c.ex.length:Int))(hs:q.kd=3->q.ix<(c.cs.length:Int)):
  QZ sV 85 [c.val,.agg #[sS q.kd,sS q.ix,q.v]] w λr w'=>r=.agg #[sS (Ya c.Z q.m).1,.string (Ya c.Z q.m).2]/\sW w w':=by
 have hb:((q.ix.toNat:Nat):Int)=q.ix:=Int.toNat_of_nonneg ht;refine Zt func85 ?_;refine Qc<|Zg c.cells λb2 w1 hm h6 hv=>Zg [sS q.kd,sS q.ix,q.v] λb3 w2 hc h7 hn=>QL [sS 0,.string .empty] λb4 w3 V h8 ho=>xe ?_;refine Qc<|Qm U (hn.J V) U U<|x (Qv ⟨U,La⟩)<|QL [sS 0,.string .empty] λb5 w4 hw hy hz=>QJ [sS q.kd,.string .empty] hz oB λw5 h1 he=>xe ?_;have Y:sW w3 w5:=hw.Q h1 hy;have hp:=((hm.I hc).I V).I Y;have hg:=((hv.J hc).J V).J Y;have Z:=(hn.J V).J Y;have hh:=ho.J Y;have h9:=ho.lt;have hi:b4∉[b5]:=ol
 have hA:=hm.size;have hB:=hc.size;have h5:=(h0.up (L':=[]) oe).J hp;have fin:∀(nm:ByteArray) (J w8:O8),(Ya c.Z q.m)=(q.kd,nm)->xj [b5] w5 J->QP ↑J b5 87 [sS q.kd,.string nm]->xj [b4] J w8->(Value.agg #[sS q.kd,.string nm]=.agg #[sS (Ya c.Z q.m).1,.string (Ya c.Z q.m).2]/\sW w w8):=λnm J w8 e h2 _ h3 =>
  ⟨by rw[e],(hp.Q h2 oa).Q h3 oa⟩
 refine Qd<|Qc<|Qm U Z U U<|xe<|Qn<|Qc<|x (QW U U)<|Qb<|QY U (λhj=>?_) (λhj=>?_)
 .have hk1:q.kd=1:=hj;have E:q.ix.toNat<c.rq.length:=by have:=hr hk1;omega
  refine Qq<|Qm U hg U U<|Qm U Z U U<|xp (g:=QK) (i:=q.ix.toNat) Yj h5.rq.arr U (show Go.Lg.ev _ _=_ from O2 sS hb.symm) E λhq O =>
   x (Zp rfl)<|x (Qy (O.fld 0 (.string (c.rq[q.ix.toNat]'E).nm) U) U)<|QN U<|Qo<|Qw (j:=1) (u:=.string (c.rq[q.ix.toNat]'E).nm) he U U oe rfl λw6 H I=>xe ?_
  refine Qc<|QV I U U<|Qo<|ZA (us:=[sS q.kd,.string (c.rq[q.ix.toNat]'E).nm]) (hh.O H hi) U U U U oB λJ S T=>xe ?_;refine Qi ⟨[.agg #[sS q.kd,.string (c.rq[q.ix.toNat]'E).nm]],⟨YO T,La⟩,fin _ _ _ ?_ H I S⟩;unfold Ya;rw[O1 (show q.m.kd=1 from hk1)];refine Prod.ext U ?_;show((c.rq.map IV.it).getD q.ix.toNat ⟨.empty,Vv⟩).nm=_;simp[oQ,E,IV.it]
 have hk1:¬q.kd=1:=hj;refine Qc<|x (QW U U)<|Qb<|QY U (λhl=>?_) (λhl=>?_)
 .have ha:q.kd=2:=hl;have E:q.ix.toNat<c.ex.length:=by have:=hx ha;omega
  refine Qq<|Qm U hg U U<|Qm U Z U U<|xp (g:=Q0) (i:=q.ix.toNat) XG h5.ex.arr U (show Go.Lg.ev _ _=_ from O2 sS hb.symm) E λhq O =>
   x (Zp rfl)<|x (Qy (O.fld 0 (.string (c.ex[q.ix.toNat]'E).nm) U) U)<|QN U<|Qo<|Qw (j:=1) (u:=.string (c.ex[q.ix.toNat]'E).nm) he U U oe rfl λw6 H I=>xe ?_
  refine Qc<|QV I U U<|Qo<|ZA (us:=[sS q.kd,.string (c.ex[q.ix.toNat]'E).nm]) (hh.O H hi) U U U U oB λJ S T=>xe ?_;refine Qi ⟨[.agg #[sS q.kd,.string (c.ex[q.ix.toNat]'E).nm]],⟨YO T,La⟩,fin _ _ _ ?_ H I S⟩;unfold Ya;rw[O0 (show ¬q.m.kd=1 from hk1),O1 (show q.m.kd=2 from ha)];refine Prod.ext U ?_;show((c.ex.map XV.x).getD q.ix.toNat ⟨.empty,[]⟩).nm=_;simp[oQ,E,XV.x]
 have ha:¬q.kd=2:=hl;have h4:q.kd=3:=oa
 have E:q.ix.toNat<c.cs.length:=by have:=hs h4;omega
 refine Qq<|Qm U hg U U<|Qm U Z U U<|xp (g:=Q5) (i:=q.ix.toNat) Xs h5.cs.arr U (show Go.Lg.ev _ _=_ from O2 sS hb.symm) E λhq O =>
  x (Zp rfl)<|x (Qy (O.fld 0 (.string (c.cs[q.ix.toNat]'E).nm) U) U)<|QN U<|Qo<|Qw (j:=1) (u:=.string (c.cs[q.ix.toNat]'E).nm) he U U oe rfl λw6 H I=>xe ?_
 refine Qc<|QV I U U<|Qo<|ZA (us:=[sS q.kd,.string (c.cs[q.ix.toNat]'E).nm]) (hh.O H hi) U U U U oB λJ S T=>xe ?_;refine Qi ⟨[.agg #[sS q.kd,.string (c.cs[q.ix.toNat]'E).nm]],⟨YO T,La⟩,fin _ _ _ ?_ H I S⟩;unfold Ya;rw[O0 (show ¬q.m.kd=1 from hk1),O0 (show ¬q.m.kd=2 from ha)];refine Prod.ext U ?_;show((c.cs.map KV.k).getD q.ix.toNat ⟨.empty,[],0⟩).nm=_;simp[oQ,E,KV.k]
theorem Qhz {H:xI}{v:O9}{a:Addr}(h:Zk L H v n sz cs)(e:v=.slice (some a) n cap):At L H a cs:=by
 rcases h.2.2 with⟨E,_⟩|⟨a',cap',E,_,I⟩
 .rw[E]at e;cases e
 rw[E]at e;simp only[Value.slice.injEq,Option.some.injEq]at e;rw[<-e.1];exact I
section
variable {Q:Exit->Fr->O8->Prop}
end
section
variable {pS:String}
theorem QhY {e bys:Nat}[h:Sl P t e sz bys z]{x E H I:xd}{k:IntKind}{m:Nat}(hx:ev f x=sL b n cap)(J:ev f E=.int k lo)(O:ev f H=.int k hi)(S:ev f I=.int k m)(h1:lo<=hi)(h2:hi<=m)(h3:m<=cap):
  sR P f w d (.slice t x (some E) (some H) (some I)) ty pS af gd (.slice (if m=lo then some ⟨b,0,none⟩else some ((⟨b,0,none⟩:Addr).add (lo*sz))) (hi - lo) (m - lo)):=by
 unfold sR
 obtain⟨i,T,_,V,_⟩:=Sl.info h;have e1:(Instr.sliceBound (.int k m) cap .slice3Acap).run P w=.ok m w:=ZM h3;have e2:(Instr.sliceBound (.int k hi) m .slice3B).run P w=.ok hi w:=ZM h2;have Y:(Instr.sliceBound (.int k lo) hi .slice3C).run P w=.ok lo w:=ZM h1;by_cases Z:m=lo
 .subst Z;simp[execOp,hx,J,O,S,Instr.sliceAt,Instr.slice,run_underlying h.u,Instr.sliceBounds,e1,e2,Y,sizeOf,typeInfo,T,V]
 simp[execOp,hx,J,O,S,Instr.sliceAt,Instr.slice,run_underlying h.u,Instr.sliceBounds,e1,e2,Y,sizeOf,typeInfo,T,V,Z]
theorem QhX {e bys:Nat}[h:Sl P t e sz bys z]{x E H:xd}{k:IntKind}(hx:ev f x=sL b n cap)(I:ev f E=.int k lo)(J:ev f H=.int k hi)(O:lo<=hi)(S:hi<=cap)(Z:lo<cap):
  sR P f w d (.slice t x (some E) (some H) none) ty pS af gd (.slice (some ⟨b,lo*sz,none⟩) (hi - lo) (cap - lo)):=by
 unfold sR
 obtain⟨i,T,_,V,_⟩:=Sl.info h;have e1:(Instr.sliceBound (.int k hi) cap .sliceAcap).run P w=.ok hi w:=ZM S;have e2:(Instr.sliceBound (.int k lo) hi .sliceB).run P w=.ok lo w:=ZM O;have Y:¬cap=lo:=oa
 simp[execOp,hx,I,J,Instr.sliceAt,Instr.slice,run_underlying h.u,Instr.sliceBounds,e1,e2,sizeOf,typeInfo,T,V,Y,Addr.add];exact λe=>e.symm
theorem QqI {e bys:Nat}[h:Sl P t e sz bys z]{s:xd}{cur:LV}(I:QP ↑w g e cur)(S:ev f s=sL g n cap)(T:cur.length=cap*sz)
  {a:Addr} {m c:Nat}  (V:ev f y=.slice (some a) m c) (J:news.length=m*sz)  (Y:At L ↑w a news) (Z:∀u∈news,u.oneCell'=true) (O:n+m<=cap)
  (hK:∀w',xj [g] w w'->QP ↑w' g e (cur.take (n*sz)++news++cur.drop (n*sz+news.length))->K (QT f d (sL g (n+m) cap)) w'):
  XO P ⟨d,.call ⟨.builtin .append,#[s,y],#[t,t]⟩,ty,pS,af,gd⟩ f w K:=by
 obtain⟨i,hi,hz,E,hc⟩:=Sl.info h;have ha:n*i.size+news.length<=cur.toArray.size:=by
  rw[LU,T,J,E,<-MB];exact Ma _ O
 have H:=run_append_room (P:=P) w t ty e i h.u hi g n cap cur.toArray I a m c news (by rw[E];exact J) Y.cells Z O ha;rw[E]at H;have hb:(execOp (ev f) ⟨d,.call ⟨.builtin .append,#[s,y],#[t,t]⟩,ty,pS,af,gd⟩).run P w=.ok (.value (sL g (n+m) cap)) (w.setRow g (cur.take (n*sz)++news++cur.drop (n*sz+news.length)).toArray):=by
  simp[execOp,resolve,invoke,builtin,S,V]at H ⊢;simp[H]
 exact xv hb (hK _ (xj.setRow _ _ _) (X5 I))
end
theorem QpQ {pS:String}[h1:XZ P t]{x:xd}{base k:Nat}{u:O9}
  (h:w.ownsRow base T sz (sL g n cap) n cs) (hx:ev f x=.pointer (some ⟨g,k,none⟩)) (H:ev f y=u) (hk:k<n*sz) (hu:u.oneCell'=true)
  (hK:∀w',xj [g] w w'->w'.ownsRow base T sz (sL g n cap) n (cs.set k u)->K (QT f d undef) w'):XO P ⟨d,.store t x y,ty,pS,af,gd⟩ f w K:=by
 obtain⟨I,cur,J,O,E⟩:=JC h;have Y:n*sz<=cap*sz:=Ma _ I;refine Qw (j:=k) J hx H oa hu λw' S V=>hK w' S ?_;refine VW h (Lu _) V (by rw[L9];exact O) ?_ (by rw[L9,<-E,LB];omega);rw[List.take_set,E]
def Fre {α:Type}(E:LN->Array Obj->α->Prop)(M:Nat)(H:xI)(q:α):Prop:=∀L:LN,(∀b∈L,b<M)->E L H q
theorem Fre.low {E:LN->Array Obj->α->Prop}[Mm E]{X:LN}{q:α}(h:Fre E M ↑w q)(I:xj X w w')(J:∀b∈X,b<M):Fre E M ↑w' q:=λL O =>
 Mm.S (Mm.st (L:=X++L) (h _ λb H=>(Lh.1 H).elim (J b) (O b)) (I.S λ_ H=>Lh.2 (.inl H))) λ_ H=>Lh.2 (.inr H)
theorem Fre.J {E:LN->Array Obj->α->Prop}[Mm E]{q:α}(h:Fre E M ↑w q)(H:sW w w'):Fre E M ↑w' q:=h.low H λ_ I=>by cases I
theorem Qje {q:XV}(h:q.v.oneCell'=true):∀u∈Q0 q,u.oneCell'=true:=by
 intro u hu;simp only[Q0,oM,oL,or_false]at hu;rcases hu with rfl|rfl
 .rfl
 exact h
theorem QkE {q:KV}(h:q.v.oneCell'=true):∀u∈Q5 q,u.oneCell'=true:=by
 intro u hu;simp only[Q5,oM,oL,or_false]at hu;rcases hu with rfl|rfl|rfl
 .rfl
 .exact h
 rfl
theorem jj {α:Type}{g:α->LV}{sz:Nat}(H:∀x,(g x).length=sz):∀(l:List α) (i j:Nat) (u:O9) (E:α) (h:i<l.length),j<sz->g E=(g (l[i]'h)).set j u->(l.flatMap g).set (i*sz+j) u=(l.set i E).flatMap g
 | [],i,_,_,_,h,_,_=>by simp at h
 | a::l,0,j,u,E,h,I,e=>by
  have J:g E=(g a).set j u:=e;rw[OV,LS,List.set_cons_zero,LQ,LQ,List.set_append_left _ _ (by rw[H a];exact I),J]
 | a::l,i+1,j,u,E,h,I,e=>by
  have O:(i+1)*sz+j=(g a).length+(i*sz+j):=by rw[H a,Nat.succ_mul];omega
  rw[O,NS,LQ,LQ,List.set_append_right _ _ oa,MW,jj H l i j u E (oA h) I e]
theorem yY {f:α->β}{l:List α}(hi:i<l.length){q:α}(h:f q=f (l[i]'hi)):(l.set i q).map f=l.map f:=by
 rw[NT,h];have:f (l[i]'hi)=(l.map f)[i]'(by rw[Lj];exact hi):=by rw[LW]
 rw[this,List.set_getElem_self]
structure CpI (N:Nat)(w':O8)(c:CL)(b3:Nat)(re rx rk:O9):Prop where
 b:N<=b3
 B:QP ↑w' b3 45 [re,nS,nS,rx,rk]
 e:w'.ownsRow N 169 5 re c.ev.length (c.ev.flatMap Zs)
 x:w'.ownsRow N 105 2 rx c.ex.length (c.ex.flatMap Q0)
 k:w'.ownsRow N 110 3 rk c.cs.length (c.cs.flatMap Q5)
 d1:∀b∈ob re,b≠b3/\b∉ob rx/\b∉ob rk
 d2:∀b∈ob rx,b≠b3/\b∉ob rk
 d3:∀b∈ob rk,b≠b3
theorem QrD {c:CL}(h0:ZG L ↑w c)(hn1:c.co.length<=1000)(hn2:c.rq.length<=1000):
  QZ sV 33 [c.val] w λr w'=>sW w w'/\Qf3 ↑w ↑w' r c.Z:=by
 have h:=h0.up (L':=[]) oe;have m7:=h.ex.arr.le;have m8:=h.cs.arr.le;have m9:=h.ev.arr.le;refine Zt func33 ?_;refine Qc<|Zg c.cells λb1 w1 pa hb1 k4=>QL Z3 λb2 w2 k5 hb2 k6=>xe ?_;have k7:=pa.I k5;have hl1:=k4.lt;have pc:=k6.lt;have h2:=h.J k7;have gh:=k4.J k5;have pd:sW w2 { w2 with drawn:=w2.drawn+1 }:=xj.X _ _
 have pf:∀u∈c.ex.flatMap Q0,u.oneCell'=true:=λu hu=>by
  obtain⟨q,T,hu⟩:=Mr.1 hu;exact Qje (h.ex.each q T).one u hu
 have pg:∀u∈c.cs.flatMap Q5,u.oneCell'=true:=λu hu=>by
  obtain⟨q,T,hu⟩:=Mr.1 hu;exact QkE (h.cs.each q T).one u hu
 refine QX (α:=Nat×O9×O9×O9) [(10,19),(3,3)] (λz=>[(3,.pointer (some ⟨z.1,0,none⟩))]) (λz w'=>sW w2 w'/\CpI ↑w2 w' c z.1 z.2.1 z.2.2.1 z.2.2.2) om ?_ ?_
 .refine Xv _ mixed om (Kd (α:=O9×O9×O9) (sW w2) [oE 0,oE 1,oE 3,oE 4,oE 6,oE 7] [oF 2,oF 5,oF 8,oE 9] 10 3 [oF 11] []
   [(10,19)] [(12,12),(15,15),(18,19)] (λz=>[(19,.agg #[z.1,nS,nS,z.2.1,z.2.2])])
   (λz own w'=>(w'.ownsRow ↑w2 169 5 z.1 c.ev.length (c.ev.flatMap Zs)/\w'.ownsRow ↑w2 105 2 z.2.1 c.ex.length (c.ex.flatMap Q0)/\w'.ownsRow ↑w2 110 3 z.2.2 c.cs.length (c.cs.flatMap Q5)) /\
    (∀b∈ob z.1,b∈own/\b∉ob z.2.1/\b∉ob z.2.2)/\(∀b∈ob z.2.1,b∈own/\b∉ob z.2.2)/\∀b∈ob z.2.2,b∈own)
   (λv w'=>∃b,v=sP b/\↑w2<=b/\QP ↑w' b 45 Z3) od om U pd oe ?_ ?_ ?_ ?_)
  .rintro v own wa wb ⟨b,rfl,E,hB⟩ hs hn;exact⟨b,U,E,hB.O hs (hn b ou)⟩
  .rintro z own wa wb ⟨⟨h1,h2,h3⟩,h4⟩ hs;exact⟨⟨Ql h1 hs,Ql h2 hs,Ql h3 hs⟩,h4⟩
  .rintro⟨re,rx,rk⟩ g own wz v ⟨⟨i1,i2,i3⟩,i4,i5,i6⟩ ph ⟨S,rfl,k8,pj⟩ pm;simp only[]at i1 i2 i3 i4 i5 i6;have gi:=(pm S ou).1;refine pkk<|Ux [re,nS,nS,rx,rk] pj ⟨Qr i1,U,U,Qr i2,Qr i3,La⟩ λw8 hD pn=>pe ?_;have nn:∀b,b∈own->b∉[S]:=λb E I=>gi (by rw[<-Lc.1 I];exact E);refine⟨(S,re,rx,rk),Lb,ph.Q hD k8,k8,pn,Qf i1 hD (λb E=>nn b (i4 b E).1),Qf i2 hD (λb E=>nn b (i5 b E).1),Qf i3 hD (λb E=>nn b (i6 b E)),λb E=>⟨λe=>gi (by rw[show S=b from e.symm];exact(i4 b E).1),(i4 b E).2⟩,λb E=>⟨λe=>gi (by rw[show S=b from e.symm];exact(i5 b E).1),(i5 b E).2⟩,λb E e=>gi (by rw[show S=b from e.symm];exact i6 b E)⟩
  refine p (QF U)<|pq (λ_ J=>Qk (gh.J J) U U)<|p (QF U)<|pq (λ_ J=>Qk (gh.J J) U U) <|
   p (QF rfl)<|pq (λ_ J=>Qk (gh.J J) U U)<|pe ⟨λg wf po=>flA Z3 po,?_⟩
  refine f2k λx1 p1 c1=>xg<|(UC (h2.ev.J c1).arr).S ?_;rintro re y1 ⟨k9,gs⟩;refine⟨c1.I k9,qE ↑x1 ↑y1,k9.any,λb E=>.inr (ZF.1 E),?_⟩;refine f2k λx2 p2 c2=>xg<|(QlV (h2.ex.J c2).arr pf).S ?_;rintro rx y2 ⟨gj,gt⟩;refine⟨c2.I gj,qE ↑x1 ↑y1++qE ↑x2 ↑y2,gj.any,λb E=>(Lh.1 E).imp id λE=>ZF.1 E,?_⟩;refine f2k λx3 p3 c3=>xg<|(QlY (h2.cs.J c3).arr pg).S ?_;rintro rk y3 ⟨gk,gu⟩;refine⟨c3.I gk,(qE ↑x1 ↑y1++qE ↑x2 ↑y2)++qE ↑x3 ↑y3,gk.any,λb E=>(Lh.1 E).imp id λE=>ZF.1 E,?_⟩;refine j3 (λ_=>Qv ⟨xS gs,xS gt,xS gu,La⟩)<|f2e ?_;have e1:=c1.size;have e2:=c2.size;have e3:=c3.size;have e12:=p2.size;have e23:=p3.size;have g1:=Qg gs;have g2:=Qg gt;have g3:=Qg gu;have f2:=gj.size;refine⟨(re,rx,rk),Lb,⟨Zv (Ql (Ql (Ql (Ql gs p2) gj) p3) gk) e1,Zv (Ql (Ql gt p3) gk) e2,Zv gu e3⟩,λb E=>⟨?_,λI=>?_,λI=>?_⟩,λb E=>⟨?_,λI=>?_⟩,λb E=>?_⟩
  .exact Lh.2 (.inl (Lh.2 (.inl (ZF.2 (g1 b E)))))
  .have:=g1 b E;have:=g2 b I;omega
  .have:=g1 b E;have:=g3 b I;omega
  .exact Lh.2 (.inl (Lh.2 (.inr (ZF.2 (g2 b E)))))
  .have:=g2 b E;have:=g3 b I;omega
  exact Lh.2 (.inr (ZF.2 (g3 b E)))
 rintro⟨S,re,rx,rk⟩ g w3 ⟨gl,V⟩;simp only[]at V;have gv:=k7.I gl;have h3:=h.J gv;have ma:=gh.J gl;have hz3:=gl.size;have mf:=V.B.lt;have gw:=Qg V.x;have gy:=Qg V.k;have pp:b1≠S:=by have:=V.b;omega
 have mg:b2≠S:=by have:=V.b;omega
 have mh:∀b∈S::(ob rx++ob rk),↑w<=b/\b<w3.heap.size:=λb E=>by
  rcases Lk.1 E with rfl|E
  .exact⟨ov V.b,mf⟩
  rcases Lh.1 E with E|E
  .have:=gw b E;omega
  have:=gy b E;omega
 have mj:ZG (S::(ob rx++ob rk)) ↑w3 c:=(h0.up (λb E=>.inr (mh b E).1)).J gv;have gz:∀b∈ob rx,b<w3.heap.size:=λb E=>(gw b E).2;have gm:∀b∈ob rk,b<w3.heap.size:=λb E=>(gy b E).2;have m3x:S∉ob rx:=λE=>(V.d2 S E).1 U;have m3k:S∉ob rk:=λE=>V.d3 S E U;refine Qd<|Qc<|Qm U ma U U<|QE h3.co.arr U<|Qa<|xe<|Q2 (α:=Nat×O9×List IV) [(5,5),(23,38)] (λz=>[(23,sS z.1)]) (λz w'=>z.1<=c.co.length/\xj [S] w3 w'/\QP ↑w' S 45 [re,z.2.1,nS,rx,rk]/\IvR ↑w3 w' z.2.1 z.2.2/\z.2.2.map IV.it=(c.co.take z.1).map IV.it) (λz=>c.co.length - z.1) (0,nS,[]) Lb ⟨Lp _,xj.Y _ _,V.B,Yt.nil,U⟩ ?_;rintro⟨i,voA,lA⟩ g w4 ⟨mo,hh,g0,gn,hH⟩;simp only[]at mo g0 gn hH;refine Zi rfl U (λgo=>?_) (λgo=>?_)
 rotate_left
 .have O:i<c.co.length:=by have hO:(i:Int)<(c.co.length:Int):=go;omega
  have hP:c.co.take (i+1)=c.co.take i++[c.co[i]'O]:=Lo O;have pu:lA.length=i:=by have:=O2 oR hH;rw[Lj,Lj,LB]at this;omega
  have Y:=Lm O;have h4:=mj.st (hh.S oe);have g4:=hh.size;refine Qe<|Qd<|Qn<|Qc<|xp (g:=QK) (i:=i) Yj h4.co.arr U U O λpw hQ=>?_;refine Zd (c.co[i]'O) λq T=>?_;rw[T]at hQ hP Y;have ht:=h4.co.each q Y;have hR:=h4.co.nm q Y;refine x (Qu hQ U U)<|QL [.string .empty,nS,sS 0,nS,nS] λb5 pz g5 g6 g7=>QJ (QK q) g7 ⟨U,ht.al.one,U,ht.mr.one,ht.ed.one,La⟩ λZ g8 hS=>xe ?_;have hi:sW w4 Z:=g5.Q g8 g6;have p0:=hi.size;have hT:=gn.J hi;have hU:=g0.J hi;have hge:=Qg hT.own;have hV:=Qg gn.own;have n3v:S∉ob voA:=λE=>ov (hge S E)
  have n5v:b5∉ob voA:=λE=>ov (hV b5 E)
  have hW:sW Z { Z with drawn:=Z.drawn+1 }:=xj.X _ _
  refine ZH (ob voA) (Xf 0 12 [6,8,9,11])<|p (QF U)<|pq (λ_ J=>Qk (hU.O J n3v) U U)<|p (QF U)<|pq (λ_ J=>Qk (hS.O J n5v) U U) <|
   p (QF rfl)<|pq (λ_ J=>Q7 (us:=[q.p.va,sS q.p.a.st,q.p.vm,q.p.ve]) (hS.O J n5v) U U U)<|pk<|xg<|(QfE ((ht.J hi).J hW)).S ?_
  rintro _ p4 ⟨g9,xa,xm,ha,rfl,hA⟩;have hv:=hW.I g9;have p5:=hv.size;have ka:=hA [] oe;refine⟨hv.any,?_⟩;refine p (λ_=>Q8 [(0,[.string q.nm]),(1,[xa,sS q.p.a.st,xm,ha])] ⟨U,U,U,U,La⟩)<|pk<|Zb [QK ⟨q.nm,⟨xa,xm,ha,q.p.a⟩⟩] λp6 kb hw p7 kc=>⟨(hv.I hw).any,?_⟩;have hl:=hv.I hw;have hX:=hT.J hl;have ke:IvA [] ↑kb ⟨q.nm,⟨xa,xm,ha,q.p.a⟩⟩:=⟨ka.J hw,hR⟩;refine pk<|Q9 (m:=1) (news:=QK ⟨q.nm,⟨xa,xm,ha,q.p.a⟩⟩) (L:=[]) hX.own U U U (kc.at oe) (Zj.all ke.ones) oa (ov hl.size) λv16 kf hY hy kg=>⟨(hl.any (L:=ob voA)).V hy,?_⟩;have p8:({ Z with drawn:=Z.drawn+1 }:O8).heap.size=Z.heap.size:=rfl
  have kh:IvR ↑w3 kf v16 (lA++[⟨q.nm,⟨xa,xm,ha,q.p.a⟩⟩]):=hX.app (λL hL=>⟨(hA L (λb E=>by
   rcases hL b E with h|h
   .omega
   have:=hge b h;omega)).J hw,hR⟩) hY hy kg
  refine p (QF U)<|pkk<|Qw (j:=1) (u:=v16) ((hU.J hl).O hy n3v) U U oe (Qr hY) λp9 hZ ki=>pe ?_;refine Qq<|QH U U<|Qa<|xe<|⟨(i+1,v16,lA++[⟨q.nm,⟨xa,xm,ha,q.p.a⟩⟩]),og,Lb,O,?_,ki,kh.low hZ (λb E=>by rw[Lc.1 E];omega),?_⟩
  .exact((hh.I (hi.I hl)).G hy (λb E=>.inr (ov (hV b E)))).V hZ
  simp only[];rw[hP,Ls,Ls,hH];rfl
 refine Qt ?_;have mq:c.co.length<=i:=by have hO:¬(i:Int)<(c.co.length:Int):=go;omega
 rw[Lt mq]at hH;clear mo mq go;have kj:=mj.st (hh.S oe);have qc:=hh.size;have qf:=ma.O hh (oA pp);have ql:=Qf V.x hh (λb E I=>m3x (Lc.1 I ▸ E));have qo:=Qf V.k hh (λb E I=>m3k (Lc.1 I ▸ E));have qr:=Qf V.e hh (λb E I=>(V.d1 b E).1 (Lc.1 I));have q0:=(k6.J gl).O hh (oA mg);refine Qd<|Qc<|Qm U qf U U<|QE kj.rq.arr U<|Qa<|xe<|Q2 (α:=Nat×O9×List IV) [(7,7),(42,57)] (λz=>[(42,sS z.1)]) (λz w'=>z.1<=c.rq.length/\xj [S] w4 w'/\QP ↑w' S 45 [re,voA,z.2.1,rx,rk]/\IvR ↑w4 w' z.2.1 z.2.2/\z.2.2.map IV.it=(c.rq.take z.1).map IV.it) (λz=>c.rq.length - z.1) (0,nS,[]) Lb ⟨Lp _,xj.Y _ _,g0,Yt.nil,U⟩ ?_;rintro⟨i,voB,lB⟩ g w5 ⟨ms,ho,ga,hJ,hK⟩;simp only[]at ms ga hJ hK;refine Zi rfl U (λgp=>?_) (λgp=>?_)
 rotate_left
 .have O:i<c.rq.length:=by have hO:(i:Int)<(c.rq.length:Int):=gp;omega
  have hP:c.rq.take (i+1)=c.rq.take i++[c.rq[i]'O]:=Lo O;have pu:lB.length=i:=by have:=O2 oR hK;rw[Lj,Lj,LB]at this;omega
  have Y:=Lm O;have h4:=kj.st (ho.S oe);have g4:=ho.size;refine Qe<|Qd<|Qn<|Qc<|xp (g:=QK) (i:=i) Yj h4.rq.arr U U O λpw hQ=>?_;refine Zd (c.rq[i]'O) λq T=>?_;rw[T]at hQ hP Y;have ht:=h4.rq.each q Y;have hR:=h4.rq.nm q Y;refine x (Qu hQ U U)<|QL [.string .empty,nS,sS 0,nS,nS] λb5 pz g5 g6 g7=>QJ (QK q) g7 ⟨U,ht.al.one,U,ht.mr.one,ht.ed.one,La⟩ λZ g8 hS=>xe ?_;have hi:sW w5 Z:=g5.Q g8 g6;have p0:=hi.size;have hT:=hJ.J hi;have hU:=ga.J hi;have hge:=Qg hT.own;have hV:=Qg hJ.own;have n3v:S∉ob voB:=λE=>ov (hge S E)
  have n5v:b5∉ob voB:=λE=>ov (hV b5 E)
  have hW:sW Z { Z with drawn:=Z.drawn+1 }:=xj.X _ _
  refine ZH (ob voB) (Xf 0 12 [6,8,9,11])<|p (QF U)<|pq (λ_ J=>Qk (hU.O J n3v) U U)<|p (QF U)<|pq (λ_ J=>Qk (hS.O J n5v) U U) <|
   p (QF rfl)<|pq (λ_ J=>Q7 (us:=[q.p.va,sS q.p.a.st,q.p.vm,q.p.ve]) (hS.O J n5v) U U U)<|pk<|xg<|(QfE ((ht.J hi).J hW)).S ?_
  rintro _ p4 ⟨g9,xa,xm,ha,rfl,hA⟩;have hv:=hW.I g9;have p5:=hv.size;have ka:=hA [] oe;refine⟨hv.any,?_⟩;refine p (λ_=>Q8 [(0,[.string q.nm]),(1,[xa,sS q.p.a.st,xm,ha])] ⟨U,U,U,U,La⟩)<|pk<|Zb [QK ⟨q.nm,⟨xa,xm,ha,q.p.a⟩⟩] λp6 kb hw p7 kc=>⟨(hv.I hw).any,?_⟩;have hl:=hv.I hw;have hX:=hT.J hl;have ke:IvA [] ↑kb ⟨q.nm,⟨xa,xm,ha,q.p.a⟩⟩:=⟨ka.J hw,hR⟩;refine pk<|Q9 (m:=1) (news:=QK ⟨q.nm,⟨xa,xm,ha,q.p.a⟩⟩) (L:=[]) hX.own U U U (kc.at oe) (Zj.all ke.ones) oa (ov hl.size) λv16 kf hY hy kg=>⟨(hl.any (L:=ob voB)).V hy,?_⟩;have p8:({ Z with drawn:=Z.drawn+1 }:O8).heap.size=Z.heap.size:=rfl
  have kh:IvR ↑w4 kf v16 (lB++[⟨q.nm,⟨xa,xm,ha,q.p.a⟩⟩]):=hX.app (λL hL=>⟨(hA L (λb E=>by
   rcases hL b E with h|h
   .omega
   have:=hge b h;omega)).J hw,hR⟩) hY hy kg
  refine p (QF U)<|pkk<|Qw (j:=2) (u:=v16) ((hU.J hl).O hy n3v) U U oe (Qr hY) λp9 hZ ki=>pe ?_;refine Qq<|QH U U<|Qa<|xe<|⟨(i+1,v16,lB++[⟨q.nm,⟨xa,xm,ha,q.p.a⟩⟩]),og,Lb,O,?_,ki,kh.low hZ (λb E=>by rw[Lc.1 E];omega),?_⟩
  .exact((ho.I (hi.I hl)).G hy (λb E=>.inr (ov (hV b E)))).V hZ
  simp only[];rw[hP,Ls,Ls,hK];rfl
 refine Qt ?_;have mt:c.rq.length<=i:=by have hO:¬(i:Int)<(c.rq.length:Int):=gp;omega
 rw[Lt mt]at hK;clear ms mt gp;have mu:=kj.st (ho.S oe);have hzB:=ho.size;have hJ:=Yt.base hJ qc;have q1:=gn.low ho (λb E=>by rw[Lc.1 E];exact mf);have mv:=Qf ql ho (λb E I=>m3x (Lc.1 I ▸ E));have q2:=Qf qo ho (λb E I=>m3k (Lc.1 I ▸ E));have q3:=Qf qr ho (λb E I=>(V.d1 b E).1 (Lc.1 I));have q4:=q0.O ho (oA mg);refine Qd<|Qc<|Qm U ga U U<|QE (QC (L:=[]) mv (by exact m7) oe) rfl<|Qa<|xe<|Q2 (α:=Nat×List XV) [(8,8),(61,76)] (λz=>[(61,sS z.1)]) (λz w'=>(z.1<=c.ex.length/\z.2.length=c.ex.length)/\xj (ob rx) w5 w'/\w'.ownsRow ↑w2 105 2 rx z.2.length (z.2.flatMap Q0)/\z.2.map XV.x=c.ex.map XV.x/\(∀j (H:j<z.2.length),j<z.1->Fre XvA ↑w3 ↑w' (z.2[j]'H))/\∀j (H:j<z.2.length) (hr:j<c.ex.length),z.1<=j->z.2[j]'H=c.ex[j]'hr)
  (λz=>c.ex.length - z.1) (0,c.ex) Lb ⟨⟨Lp _,U⟩,xj.Y _ _,mv,U,λj H hp=>O3 hp (Nat.not_lt_zero j),λj H hr _=>U⟩ ?_
 rintro⟨i,lx⟩ g w6 ⟨⟨q5,mw⟩,he,hM,kk,kn,ko⟩;simp only[]at q5 mw hM kk kn ko;refine Zi rfl U (λmy=>?_) (λmy=>?_)
 rotate_left
 .have hz:i<c.ex.length:=by have hO:(i:Int)<(c.ex.length:Int):=my;omega
  have O:i<lx.length:=oa
  have hge:=Qg hM;have g4:=he.size;obtain⟨gx,capx,eg⟩:=X7 hM oa;have kq:ob rx=[gx]:=by rw[eg];rfl
  have gb:=hM;rw[eg]at gb;have gc:=ga.O he m3x;have h6:=ko i O hz (Lu _);have Y:=Lm hz;have hE:=((mu.st (he.S (λb E=>Ll _ (Lh.2 (.inl E))))).ex.each _ Y).up (L':=[]) oe;have za:=QC (L:=[]) hM oa oe;refine Qe<|Qd<|Qn<|Qj<|Qb<|Zd (c.ex[i]'hz) λq T=>?_;rw[T]at h6 Y hE;have hd:sW w6 { w6 with drawn:=w6.drawn+1 }:=xj.X _ _
  refine ZH [] (Xf 0 13 [9,12])<|p (QF U)<|pq (λ_ J=>Qk (gc.J J) U U)<|p QA<|p (QF U)<|pq (λ_ J=>Qk (gc.J J) U U) <|
   p QA<|Go.Lg.pig (g:=Q0) (i:=i) U XG za U U O λzb kr=>p (λ_=>Zp U)<|pq (λ_ J=>Qy ((kr.fld 1 q.v (by rw[h6];rfl)).J J) U) <|
   pk<|xg<|(Qa3 (hE.J hd)).S ?_
  rintro rv w9 ⟨kt,hF⟩;have h7:sW w6 w9:=hd.I kt;refine⟨h7,?_⟩;refine p (λ_=>QO (i:=i) eg U O)<|p (QF U)<|pkk<|QpQ (k:=0+i*2+1) (u:=rv) (Ql gb h7) U U (by have:(i+1)*2<=lx.length*2:=Ma _ O;omega) (Qr hF) λzv h8 hG =>
   pe ?_
  rw[<-kq]at h8;rw[<-eg]at hG;have ku:=jj (g:=Q0) XG lx i 1 rv ⟨q.nm,rv,q.ls⟩ O oh (by rw[h6];rfl);rw[show 0+i*2+1=i*2+1 by omega,ku]at hG;refine Qq<|QH U U<|Qa<|xe ?_;have gg:=gz;refine⟨(i+1,lx.set i ⟨q.nm,rv,q.ls⟩),og,Lb,⟨hz,by simp only[Oq];exact mw⟩,(he.I h7).V h8,by simp only[Oq];exact hG,?_,λj H hp=>?_,λj H hr hp=>?_⟩
  .simp only[];rw[yY O (by rw[h6];rfl),kk]
  .simp only[Oq]at H;simp only[]at hp ⊢;rw[Nf];split
   .refine Fre.low (w:=w9) ?_ h8 gg;intro L hL;exact⟨QC hF (ov hE.le) (λb E hbL=>by have h1:=(Qg hF b E).1;have h2:=hL b hbL;have h3:w3.heap.size<=w6.heap.size:=oa;have h4:({ w6 with drawn:=w6.drawn+1 }:O8).heap.size=w6.heap.size:=rfl;omega),h.ex.nm q Y⟩
   rename_i z1;exact((kn j H oa).J h7).low h8 gg
  simp only[Oq]at H;simp only[]at hp ⊢;rw[List.getElem_set_ne oa];exact ko j H hr oa
 refine Qt ?_;have z2:=mu.st (he.S (λb E=>Ll _ (Lh.2 (.inl E))));have hzC:=he.size;have z3:=q1.low he gz;have z5:=hJ.low he gz;have mz:=Qf q2 he (λb E I=>(V.d2 b I).2 E);have he6:=Qf q3 he (λb E I=>(V.d1 b E).2.1 I);have kv:=ga.O he m3x;have m2x:b2∉ob rx:=λE=>ov (gw b2 E)
 have m2k:b2∉ob rk:=λE=>ov (gy b2 E)
 have hB26:=q4.O he m2x;refine Qd<|Qc<|Qm U kv U U<|QE (QC (L:=[]) mz (by exact m8) oe) rfl<|Qa<|xe<|Q2 (α:=Nat×List KV) [(9,9),(80,95)] (λz=>[(80,sS z.1)]) (λz w'=>(z.1<=c.cs.length/\z.2.length=c.cs.length)/\xj (ob rk) w6 w'/\w'.ownsRow ↑w2 110 3 rk z.2.length (z.2.flatMap Q5)/\z.2.map KV.k=c.cs.map KV.k/\(∀j (H:j<z.2.length),j<z.1->Fre KvA ↑w3 ↑w' (z.2[j]'H))/\∀j (H:j<z.2.length) (hr:j<c.cs.length),z.1<=j->z.2[j]'H=c.cs[j]'hr)
  (λz=>c.cs.length - z.1) (0,c.cs) Lb ⟨⟨Lp _,U⟩,xj.Y _ _,mz,U,λj H hp=>O3 hp (Nat.not_lt_zero j),λj H hr _=>U⟩ ?_
 rintro⟨i,lk⟩ g w7 ⟨⟨hiD,m2⟩,hg,h9,kw,gq,kx⟩;simp only[]at hiD m2 h9 kw gq kx;refine Zi rfl U (λm3=>?_) (λm3=>?_)
 rotate_left
 .have hz:i<c.cs.length:=by have hO:(i:Int)<(c.cs.length:Int):=m3;omega
  have O:i<lk.length:=oa
  have hge:=Qg h9;have g4:=hg.size;obtain⟨gx,capx,eg⟩:=X7 h9 oa;have kq:ob rk=[gx]:=by rw[eg];rfl
  have gb:=h9;rw[eg]at gb;have gc:=kv.O hg m3k;have h6:=kx i O hz (Lu _);have Y:=Lm hz;have hE:=((z2.st (hg.S (λb E=>Ll _ (Lh.2 (.inr E))))).cs.each _ Y).up (L':=[]) oe;have hAD:=QC (L:=[]) h9 oa oe;refine Qe<|Qd<|Qn<|Qj<|Qb<|Zd (c.cs[i]'hz) λq T=>?_;rw[T]at h6 Y hE;have hd:sW w7 { w7 with drawn:=w7.drawn+1 }:=xj.X _ _
  refine ZH [] (Xf 0 13 [9,12])<|p (QF U)<|pq (λ_ J=>Qk (gc.J J) U U)<|p QA<|p (QF U)<|pq (λ_ J=>Qk (gc.J J) U U) <|
   p QA<|Go.Lg.pig (g:=Q5) (i:=i) U Xs hAD U U O λzb kr=>p (λ_=>Zp U)<|pq (λ_ J=>Qy ((kr.fld 1 q.v (by rw[h6];rfl)).J J) U) <|
   pk<|xg<|(Qa2 (hE.J hd)).S ?_
  rintro rv w9 ⟨kt,hF⟩;have h7:sW w7 w9:=hd.I kt;refine⟨h7,?_⟩;refine p (λ_=>QO (i:=i) eg U O)<|p (QF U)<|pkk<|QpQ (k:=0+i*3+1) (u:=rv) (Ql gb h7) U U (by have:(i+1)*3<=lk.length*3:=Ma _ O;omega) (Qr hF) λzv h8 hG =>
   pe ?_
  rw[<-kq]at h8;rw[<-eg]at hG;have ku:=jj (g:=Q5) Xs lk i 1 rv ⟨q.nm,rv,q.ts,q.bd⟩ O oh (by rw[h6];rfl);rw[show 0+i*3+1=i*3+1 by omega,ku]at hG;refine Qq<|QH U U<|Qa<|xe ?_;have gg:=gm;refine⟨(i+1,lk.set i ⟨q.nm,rv,q.ts,q.bd⟩),og,Lb,⟨hz,by simp only[Oq];exact m2⟩,(hg.I h7).V h8,by simp only[Oq];exact hG,?_,λj H hp=>?_,λj H hr hp=>?_⟩
  .simp only[];rw[yY O (by rw[h6];rfl),kw]
  .simp only[Oq]at H;simp only[]at hp ⊢;rw[Nf];split
   .refine Fre.low (w:=w9) ?_ h8 gg;intro L hL;exact⟨QC hF (ov hE.le) (λb E hbL=>by have h1:=(Qg hF b E).1;have h2:=hL b hbL;have h3:w3.heap.size<=w7.heap.size:=oa;have h4:({ w7 with drawn:=w7.drawn+1 }:O8).heap.size=w7.heap.size:=rfl;omega),h.cs.nm q Y⟩
   rename_i z1;exact((gq j H oa).J h7).low h8 gg
  simp only[Oq]at H;simp only[]at hp ⊢;rw[List.getElem_set_ne oa];exact kx j H hr oa
 refine Qt ?_;have m4:=z3.low hg gm;have m5:=z5.low hg gm;have kz:=Qf hM hg (λb E I=>(V.d2 b E).2 I);have k0:=Qf he6 hg (λb E I=>(V.d1 b E).2.2 I);have hB37:=kv.O hg m3k;have hB27:=hB26.O hg m2k;have m6:∀j (H:j<lx.length),j<c.ex.length->Fre XvA ↑w3 ↑w7 (lx[j]'H):=λj H hr=>(kn j H oa).low hg gm;have hone:Zj [re,voA,voB,rx,rk]:=⟨Qr k0,Qr m4.own,Qr m5.own,Qr kz,Qr h9,La⟩;refine Qc<|QV hB37 U U<|QJ [re,voA,voB,rx,rk] hB27 hone λw8 hD hB28=>xe ?_;have hs37:xj (S::(ob rx++ob rk)) w3 w7:=(((hh.S oe).V (ho.S oe)).V (he.S (λb E=>Ll _ (Lh.2 (.inl E))))).V (hg.S (λb E=>Ll _ (Lh.2 (.inr E))));have hs07:sW w w7:=gv.G hs37 (λb E=>.inr (mh b E).1);refine Qi ⟨[.agg #[re,voA,voB,rx,rk]],⟨YO hB28,La⟩,hs07.Q hD oa,CL.mk re voA voB rx rk c.ev lA lB lx lk,U,?_,λL hL=>?_⟩
 .unfold CL.Z;simp only[];rw[hH,hK,kk,kw]
 have gr:∀b∈b2::L,b<w2.heap.size:=λb E=>by
  rcases Lk.1 E with rfl|E
  .exact pc
  have:=hL b E;omega
 have hN:∀b∈b2::L,b<w3.heap.size:=λb E=>ov (gr b E)
 have lA1:lA.length=c.co.length:=by have:=O2 oR hH;rwa [Lj,Lj]at this
 have lB1:lB.length=c.rq.length:=by have:=O2 oR hK;rwa [Lj,Lj]at this
 have hC:ZG (b2::L) ↑w7 (CL.mk re voA voB rx rk c.ev lA lB lx lk):=by
  refine⟨⟨QC k0 m9 (λb E I=>oy (Qg k0 b E).1 (gr b I)),h.ev.nm⟩,IvR.itms m4 (show lA.length<=1099511627776 by omega) hN,IvR.itms m5 (show lB.length<=1099511627776 by omega) hN,⟨QC kz (show lx.length<=1099511627776 by omega) (λb E I=>oy (Qg kz b E).1 (gr b I)),λq T=>?_,λq T=>?_⟩,⟨QC h9 (show lk.length<=1099511627776 by omega) (λb E I=>oy (Qg h9 b E).1 (gr b I)),λq T=>?_,λq T=>?_⟩⟩
  .obtain⟨j,H,rfl⟩:=LM T;exact(m6 j H (by have h5:j<lx.length:=H;omega) _ hN).l
  .obtain⟨j,H,rfl⟩:=LM T;exact(m6 j H (by have h5:j<lx.length:=H;omega) _ hN).nm
  .obtain⟨j,H,rfl⟩:=LM T;exact(gq j H (by have h5:j<lk.length:=H;omega) _ hN).l
  obtain⟨j,H,rfl⟩:=LM T;exact(gq j H (by have h5:j<lk.length:=H;omega) _ hN).nm
 exact(hC.st (hD.S oe)).up (λb E=>.inl (Ll _ E))
section
variable {κ:Type}[DecidableEq κ](ky:α->κ)(vl:α->O9)
def yZ (l:List α)(m:List (κ×O9)):List (κ×O9):=l.foldl (λm p=>xu m (ky p) (vl p)) m
theorem QaJ {k:κ}:∀(l:List α) (m:List (κ×O9)),(l.map ky).Nodup->(∀p∈l,xt m (ky p)=none)->xt (yZ ky vl l m) k=match l.find? (λp=>decide (ky p=k))with
  | some p=>some (vl p)
  | none=>xt m k
 | [],m,_,_=>rfl
 | p::l,m,I,J=>by
  obtain⟨H,O⟩:=Nm.1 (show(ky p::l.map ky).Nodup from I);have ih:=QaJ (k:=k) l (xu m (ky p) (vl p)) O λq E=>by
   rw[Xy,O0 λe=>H (by rw[e];exact LK E)];exact J q (Ll _ E)
  have e0:yZ ky vl (p::l) m=yZ ky vl l (xu m (ky p) (vl p)):=rfl;rw[e0,ih,List.find?_cons];by_cases hk:ky p=k
  .have S:l.find? (λp=>decide (ky p=k))=none:=List.find?_eq_none.2 λq E=>by
    have:ky q≠k:=λe=>H (by rw[hk,<-e];exact LK E);simpa using this
   rw[S,Xy,O1 hk];simp[hk]
  rw[Xy,O0 hk];simp[hk]
end
theorem QjL {κ:Type}[DecidableEq κ]{l:List κ}{s:κ}(h:s∉l):xu (l.map λs=>(s,Value.bool true)) s (.bool true)=(l++[s]).map λs=>(s,Value.bool true):=by
 induction l with
 | nil=>rfl
 | cons a l ih =>
  have E:a≠s:=λe=>h (by subst e;exact Lr);show(if a=s then(a,Value.bool true)::(l.map λs=>(s,Value.bool true))else(a,Value.bool true)::xu (l.map λs=>(s,Value.bool true)) s (.bool true))=_
  rw[O0 E,ih (λH=>h (Ll _ H))];rfl
theorem QjM {κ:Type}[DecidableEq κ](l:List κ)(s:κ):xt (l.map λs=>(s,Value.bool true)) s=if s∈l then some (.bool true)else none:=by
 induction l with
 | nil=>rfl
 | cons a l ih =>
  show(if a=s then some (Value.bool true)else xt (l.map λs=>(s,Value.bool true)) s)=_
  rw[ih];by_cases h:a=s
  .subst h;simp
  rw[O0 h];have E:¬s=a:=λe=>h e.symm;simp[E]
section
variable {pS:String}{κ:Type}[DecidableEq κ]
theorem Qh1 [hm:Mp P t kt et (.bool false)]{enc:κ->O9}[hk:Key P kt enc]{x:xd}{l:List κ}{s:κ}(h:Yh enc ↑w b (l.map λs=>(s,Value.bool true)))(hx:ev f x=.map (some b))(E:ev f y=enc s):
  sR P f w d (.lookup t x y false) ty pS af gd (.bool (decide (s∈l))):=by
 unfold sR
 rw[JO h hx E,QjM];by_cases H:s∈l <;> simp[H]
end
section
variable {pS:String}{κ:Type}[DecidableEq κ]
theorem QnE [hm:Mp P t kt et z]{enc:κ->O9}[hk:Key P kt enc]{x:xd}{m:List (κ×O9)}{k:κ}(h:Yh enc ↑w b m)(hx:ev f x=.map (some b))(E:ev f y=enc k)
  {v:O9} (H:(match xt m k with|some u=>Value.tuple #[u,.bool true]|none=>.tuple #[z,.bool false])=v):
  sR P f w d (.lookup t x y true) ty pS af gd v:=by
 unfold sR
 rw[<-H];exact VC h hx E
end
instance keyKy:Key sV 87 kKy:=QqU underlying87 oh oh U U underlying3 underlying9
abbrev z15:LV:=[sS 0,.string .empty,sS 0,nS,sS 0,nS,nS,nS,nS,nS,nS,nS,nS,nS,nS]
abbrev Xb:LV:=[nS,nS,nS]
abbrev paV (q:zS):O9:=sT (ZJ q)
theorem yg {k:Int}:∀{l:LN}{i:Nat}{m:Vw},m∈Uh k i l->m.kd=k/\(i:Int)<=m.ix/\m.ix<((i+l.length:Nat):Int)
 | [],_,_,h=>by simp[Uh]at h
 | b::l,i,m,h=>by
  rw[Uh]at h;rcases Lk.1 h with rfl|h
  .exact⟨U,Ng _,by simp only[oV];omega⟩
  obtain⟨E,H,I⟩:=yg h;exact⟨E,oa,by simp only[oV];omega⟩
theorem QnX {m:Vw}(h:m∈xq c):0<=m.ix/\(m.kd=1\/m.kd=2\/m.kd=3)/\(m.kd=1->m.ix<(c.rq.length:Int))/\(m.kd=2->m.ix<(c.ex.length:Int))/\(m.kd=3->m.ix<(c.cs.length:Int)):=by
 have e1:(srR c).length=c.rq.length:=Lj _;have e2:(srX c).length=c.ex.length:=Lj _;have J:(srC c).length=c.cs.length:=Lj _;unfold xq at h;rcases Lh.1 h with h|h
 .obtain⟨E,H,I⟩:=yg h;exact⟨oa,.inl E,λ_=>oa,λh=>oa,λh=>oa⟩
 rcases Lh.1 h with h|h
 .obtain⟨E,H,I⟩:=yg h;exact⟨oa,.inr (.inl E),λh=>oa,λ_=>oa,λh=>oa⟩
 obtain⟨E,H,I⟩:=yg h;exact⟨oa,.inr (.inr E),λh=>oa,λh=>oa,λ_=>oa⟩
theorem Qke {ps:List zS}(H:(ps.map (·.e.ky)).Nodup)(I:∀q∈ps,Zj (ZJ q))(k:Ky):∃(us:LV) (is:Bool),(match xt (yZ (λq:zS=>q.e.ky) paV ps []) k with|some u=>Value.tuple #[u,.bool true]|none=>.tuple #[sT z15,.bool false])=.tuple #[sT us,.bool is]/\us.length=15/\Zj us /\
  (is=true->∃q∈ps,us=ZJ q/\yS (ps.map (·.pt)) k=some q.pt)/\(is=false->yS (ps.map (·.pt)) k=none):=by
 rw[QaJ (λq:zS=>q.e.ky) paV ps [] H (λ_ _=>rfl)];have hf:yS (ps.map (·.pt)) k=(ps.find? λq=>decide (q.e.ky=k)).map (·.pt):=by
  unfold yS;rw[List.find?_map];rfl
 rw[hf];cases J:ps.find? λq=>decide (q.e.ky=k)with
 | none=>exact⟨z15,false,U,U,⟨U,U,U,U,U,U,U,U,U,U,U,U,U,U,U,La⟩,(λh=>by cases h),λ_=>rfl⟩
 | some q =>
  have E:=List.mem_of_find?_eq_some J;exact⟨ZJ q,true,U,U,I q E,λ_=>⟨q,E,U,U⟩,(λh=>by cases h)⟩
theorem QiQ {v:Int}{m:Vw}{p:xR}(E:qR c m=0)(h:yS bf (Ya c m)=some p):KK c bf v m=if p.c=Jr c m then(0,p,true)else(Yo (Jr c m),Vo c v m,false):=by
 unfold KK;rw[O0 (not_not_intro E),h]
theorem Qpm {v:Int}{m:Vw}(E:qR c m=0)(h:yS bf (Ya c m)=none):KK c bf v m=(Yo (Jr c m),Vo c v m,false):=by
 unfold KK;rw[O0 (not_not_intro E),h]
theorem Qpo {v:Int}{m:Vw}(E:qR c m≠0):(KK c bf v m).1=qR c m:=by
 unfold KK;rw[O1 E]
structure BlS where
 k:Nat
 vo:O9
 qs:List zS
 vk:O9
 K:List Ky
 vm:O9
 M:List Ky
structure BlI (LL:LN)(B:Nat)(w':O8)(b15 b50:Nat)(ks:List Ky)(z:BlS):Prop where
 b:∃T,QP ↑w' b15 T [z.vk,z.vm,nS]
 n:Yh kKy ↑w' b50 (ks.map λs=>(s,Value.bool true))
 o:zl ZJ 15 150 qv (ob z.vk++(ob z.vm++LL)) B w' z.vo z.qs
 k:w'.ownsRow B 87 2 z.vk z.K.length (z.K.flatMap Vb)
 m:w'.ownsRow B 87 2 z.vm z.M.length (z.M.flatMap Vb)
 d1:∀b∈ob z.vo,b∉ob z.vk/\b∉ob z.vm
 d2:∀b∈ob z.vk,b∉ob z.vm
section
variable {LL:LN}{w8 w9:O8}{b15 b50:Nat}{ks ks':List Ky}{z:BlS}
theorem BlI.J (h:BlI LL B w b15 b50 ks z)(E:sW w w8):BlI LL B w8 b15 b50 ks z:=by
 obtain⟨T,H⟩:=h.b;exact⟨⟨T,H.J E⟩,h.n.J E,h.o.J E,Ql h.k E,Ql h.m E,h.d1,h.d2⟩
theorem BlI.now (h:BlI LL B w b15 b50 ks z)(I:xj [b50] w w8)(J:Yh kKy ↑w8 b50 (ks'.map λs=>(s,Value.bool true)))(O:b15≠b50)(Y:b50<B)(S:b50∈LL):BlI LL B w8 b15 b50 ks' z:=by
 obtain⟨T,V⟩:=h.b;refine⟨⟨T,V.O I (oA O)⟩,J,h.o.O I λb E=>?_,Qf h.k I λb E H=>?_,Qf h.m I λb E H=>?_,h.d1,h.d2⟩
 .rw[Lc.1 E];exact⟨.inl (Lh.2 (.inr (Lh.2 (.inr S)))),λH=>ov ((Qg h.o.own) _ H)⟩
 .rw[Lc.1 H]at E;have:=(Qg h.k) _ E;omega
 rw[Lc.1 H]at E;have:=(Qg h.m) _ E;omega
theorem BlI.part (h:BlI LL B w b15 b50 ks z){J:O9}{q:zS}(V:qv (ob z.vo++(ob z.vk++(ob z.vm++LL))) ↑w q)(Y:w8.ownsRow B 150 15 J (z.qs.length+1) (z.qs.flatMap ZJ++ZJ q))(H:xj (ob z.vo) w w8)
  (O:∀b∈ob J,b∈ob z.vo\/↑w<=b) (ha:b15<B) (hc:b50<B):BlI LL B w8 b15 b50 ks { z with vo:=J,qs:=z.qs++[q] }:=by
 obtain⟨T,Z⟩:=h.b;have ge:=Qg h.o.own;refine⟨⟨T,Z.O H (λE=>ov (ge _ E))⟩,h.n.O H (λE=>ov (ge _ E)),h.o.app V Y H O,Qf h.k H (λb I E=>(h.d1 b E).1 I),Qf h.m H (λb I E=>(h.d1 b E).2 I),λb I=>?_,h.d2⟩;rcases O b I with S|S
 .exact h.d1 b S
 exact⟨λE=>ov ((Qg h.k) b E),λE=>ov ((Qg h.m) b E)⟩
theorem BlI.kept (h:BlI LL B w b15 b50 ks z){I:O9}{k:Ky}(Y:w8.ownsRow B 87 2 I (z.K.length+1) (z.K.flatMap Vb++Vb k))(V:xj (ob z.vk) w w8)
  (Z:∀b∈ob I,b∈ob z.vk\/↑w<=b) (J:xj [b15] w8 w9) (ha:∃T,QP ↑w9 b15 T [I,z.vm,nS]) (hg:b15<B) (hh:b50<B) (hc:b15≠b50) (hL:b15∈LL):BlI LL B w9 b15 b50 ks { z with vk:=I,K:=z.K++[k] }:=by
 have ge:=Qg h.o.own;have gm:=Qg h.m;have hd:∀b∈ob I,b∉ob z.vo/\b∉ob z.vm:=λb E=>by
  rcases Z b E with O|O
  .exact⟨λS=>(h.d1 b S).1 O,h.d2 b O⟩
  exact⟨λS=>ov (ge b S),λS=>ov (gm b S)⟩
 have he:w8.ownsRow B 87 2 I (z.K++[k]).length ((z.K++[k]).flatMap Vb):=by
  rw[Ln,LC];simpa using Y
 refine⟨ha,(h.n.O V (λH=>ov ((Qg h.k) _ H))).O J (by simpa using λe=>hc e.symm),⟨?_,λq hq=>?_⟩,Qf he J (λb E H=>?_),Qf (Qf h.m V (λb E H=>h.d2 b H E)) J (λb E H=>?_),λb E=>⟨λH=>(hd b H).1 E,(h.d1 b E).2⟩,λb E=>(hd b E).2⟩
 .exact Qf (Qf h.o.own V (λb E H=>(h.d1 b E).1 H)) J (λb E H=>by rw[Lc.1 H]at E;have:=ge _ E;omega)
 .have O:qv (ob I++(ob z.vo++(ob z.vk++(ob z.vm++LL)))) ↑w q:=Mm.up (h.o.each q hq) λb E=>by
   rcases Lh.1 E with E|E
   .exact(Z b E).imp (λh3=>Lh.2 (.inr (Lh.2 (.inl h3)))) id
   exact .inl E
  refine Mm.S (Mm.st (Mm.st O (V.S λb E=>Lh.2 (.inr (Lh.2 (.inr (Lh.2 (.inl E))))))) (J.S λb E=>by rw[Lc.1 E];exact Lh.2 (.inr (Lh.2 (.inr (Lh.2 (.inr (Lh.2 (.inr hL))))))))) λb E=>?_;rcases Lh.1 E with E|E
  .exact Lh.2 (.inr (Lh.2 (.inl E)))
  rcases Lh.1 E with E|E
  .exact Lh.2 (.inl E)
  exact Lh.2 (.inr (Lh.2 (.inr (Lh.2 (.inr E)))))
 .rw[Lc.1 H]at E;have:=(Qg Y) _ E;omega
 rw[Lc.1 H]at E;have:=gm _ E;omega
theorem BlI.mades (h:BlI LL B w b15 b50 ks z){I:O9}{k:Ky}(Y:w8.ownsRow B 87 2 I (z.M.length+1) (z.M.flatMap Vb++Vb k))(V:xj (ob z.vm) w w8)
  (Z:∀b∈ob I,b∈ob z.vm\/↑w<=b) (O:xj [b15] w8 w9) (ha:∃T,QP ↑w9 b15 T [z.vk,I,nS]) (hg:b15<B) (hh:b50<B) (hc:b15≠b50) (hL:b15∈LL):BlI LL B w9 b15 b50 ks { z with vm:=I,M:=z.M++[k] }:=by
 have ge:=Qg h.o.own;have gk:=Qg h.k;have hd:∀b∈ob I,b∉ob z.vo/\b∉ob z.vk:=λb E=>by
  rcases Z b E with S|S
  .exact⟨λJ=>(h.d1 b J).2 S,λJ=>h.d2 b J S⟩
  exact⟨λJ=>ov (ge b J),λJ=>ov (gk b J)⟩
 have he:w8.ownsRow B 87 2 I (z.M++[k]).length ((z.M++[k]).flatMap Vb):=by
  rw[Ln,LC];simpa using Y
 refine⟨ha,(h.n.O V (λH=>ov ((Qg h.m) _ H))).O O (by simpa using λe=>hc e.symm),⟨?_,λq hq=>?_⟩,Qf (Qf h.k V (λb E H=>h.d2 b E H)) O (λb E H=>?_),Qf he O (λb E H=>?_),λb E=>⟨(h.d1 b E).1,λH=>(hd b H).1 E⟩,λb E H=>(hd b H).2 E⟩
 .exact Qf (Qf h.o.own V (λb E H=>(h.d1 b E).2 H)) O (λb E H=>by rw[Lc.1 H]at E;have:=ge _ E;omega)
 .have S:qv (ob I++(ob z.vo++(ob z.vk++(ob z.vm++LL)))) ↑w q:=Mm.up (h.o.each q hq) λb E=>by
   rcases Lh.1 E with E|E
   .exact(Z b E).imp (λh3=>Lh.2 (.inr (Lh.2 (.inr (Lh.2 (.inl h3)))))) id
   exact .inl E
  refine Mm.S (Mm.st (Mm.st S (V.S λb E=>Lh.2 (.inr (Lh.2 (.inr (Lh.2 (.inr (Lh.2 (.inl E))))))))) (O.S λb E=>by rw[Lc.1 E];exact Lh.2 (.inr (Lh.2 (.inr (Lh.2 (.inr (Lh.2 (.inr hL))))))))) λb E=>?_;rcases Lh.1 E with E|E
  .exact Lh.2 (.inr (Lh.2 (.inl E)))
  rcases Lh.1 E with E|E
  .exact Lh.2 (.inr (Lh.2 (.inr (Lh.2 (.inl E)))))
  rcases Lh.1 E with E|E
  .exact Lh.2 (.inl E)
  exact Lh.2 (.inr (Lh.2 (.inr (Lh.2 (.inr (Lh.2 (.inr E)))))))
 .rw[Lc.1 H]at E;have:=gk _ E;omega
 rw[Lc.1 H]at E;have:=(Qg Y) _ E;omega
end
theorem Qh2 {q:DV}(h0:Ji L ↑w q):
  QZ sV 131 [sT (Qs q)] w λr w'=>r=.bool (yO q.it)/\sW w w':=by
 have h:=h0.up (L':=[]) oe;have ho:=h.a.al.le;have hp:=h.a.mr.le;have hq:=h.a.ed.le;have hr:=h.ls.arr.le;have hs:=h.ts.arr.le;have T:Qbh q.p.a=(decide (q.p.a.st=0) && decide ((q.p.a.al.length:Int)+(q.p.a.mr.length:Int)+(q.p.a.ed.length:Int)=0)):=rfl;have E:yO q.it=if q.kd=3 then Qbh q.p.a && decide ((q.ts.length:Int)=0) && decide (q.bd=0)else if q.kd=4 then Qbh q.p.a && decide ((q.ls.length:Int)=0)else decide ((q.ls.length:Int)+(q.ts.length:Int)=0) && decide (q.bd=0):=rfl
 refine Zd (Qbh q.p.a) λB hB=>?_;rw[hB]at T E;refine Zt func131 ?_;refine Qc<|Zg (Qs q) λb1 w1 hi ht hg=>Qb<|Qc<|QN U<|x (Q7 (us:=[q.p.va,sS q.p.a.st,q.p.vm,q.p.ve]) hg U U U)<|QL XD λb3 w2 hj hl hm=>QJ [q.p.va,sS q.p.a.st,q.p.vm,q.p.ve] hm ⟨h.a.al.one,U,h.a.mr.one,h.a.ed.one,La⟩ λw3 hn J=>xe ?_;have hh:sW w1 w3:=hj.Q hn hl;have O:=hi.I hh;have H:=hg.J hh;have I:=h.J O;refine QX (α:=Unit) [(4,4),(7,23)] (λ_=>[(4,.bool B)]) (λ_ w'=>w'=w3) om ?_ ?_
 .refine Qq<|Qm U J U U<|xb (QW U U) (λV=>?_) (λV=>?_)
  .refine Qa<|Qm U J U U<|QE I.a.al U<|Qm U J U U<|x (Xr I.a.mr U) <|
    QH rfl rfl<|Qm U J U U<|QE I.a.ed U<|x (X2 U U ⟨oa,oa⟩) <|
    x (QW rfl U)<|QB U<|Qb<|⟨(),⟨O2 Value.bool (by rw[T,O4 (show q.p.a.st=0 from V),OU]),La⟩,rfl⟩
  refine Qa<|Zm<|Zm<|Zm<|Zm<|QB U<|Qb<|⟨(),⟨O2 Value.bool (by rw[T,O6 (show ¬q.p.a.st=0 from V),Bool.false_and]),La⟩,rfl⟩
 rintro _ g Y rfl;refine Qd<|Qc<|Qm U H U U<|xe<|Qn<|Qc<|x (QW U U)<|Qb<|QY U (λZ=>?_) (λZ=>?_)
 .rw[O1 Z]at E;refine QX (α:=Unit) [(2,2),(28,39)] (λ_=>[(2,.bool (yO q.it))]) (λ_ w'=>w'=Y) om ?_ ?_
  .refine Qq<|xB K5 (λS=>?_) (λS=>?_)
   .refine Qa<|Qm U H U U<|QE I.ts.arr U<|xb (QW U U) (λha=>?_) (λha=>?_)
    .refine QB U<|Qa<|Qm U H U U<|x (QW U U)<|QB U<|Qb<|⟨(),⟨O2 Value.bool (by rw[E,S,O4 (show(q.ts.length:Int)=0 from ha)];rfl),La⟩,U⟩
    refine QB U<|Qa<|Zm<|QB U<|Qb<|⟨(),⟨O2 Value.bool (by rw[E,S,O6 (show ¬(q.ts.length:Int)=0 from ha)];rfl),La⟩,U⟩
   refine Qa<|Zm<|K4<|QB U<|Qa<|Zm<|QB U<|Qb<|⟨(),⟨O2 Value.bool (by rw[E,S];rfl),La⟩,U⟩
  rintro _ g w5 rfl;exact Qi ⟨[_],Lb,U,O⟩
 rw[O0 Z]at E;refine Qc<|x (QW U U)<|Qb<|QY U (λhb=>?_) (λhb=>?_)
 .rw[O1 hb]at E;refine QX (α:=Unit) [(2,2),(42,48)] (λ_=>[(2,.bool (yO q.it))]) (λ_ w'=>w'=Y) om ?_ ?_
  .refine Qq<|xB K5 (λhc=>?_) (λhc=>?_)
   .refine Qa<|Qm U H U U<|QE I.ls.arr U<|x (QW U U)<|QB U<|Qb<|⟨(),⟨O2 Value.bool (by rw[E,hc,OU]),La⟩,rfl⟩
   refine Qa<|Zm<|K4<|QB U<|Qb<|⟨(),⟨O2 Value.bool (by rw[E,hc];rfl),La⟩,U⟩
  rintro _ g w5 rfl;exact Qi ⟨[_],Lb,U,O⟩
 rw[O0 hb]at E;refine Qe<|QX (α:=Unit) [(2,2),(49,61)] (λ_=>[(2,.bool (yO q.it))]) (λ_ w'=>w'=Y) om ?_ ?_
 .refine Qq<|Qm U H U U<|QE I.ls.arr U<|Qm U H U U<|QE I.ts.arr U<|QH U U<|xb (QW U U) (λhe=>?_) (λhe=>?_)
  .refine Qa<|Qm U H U U<|x (QW U U)<|QB U<|Qb<|⟨(),⟨O2 Value.bool (by rw[E,O4 (show(q.ls.length:Int)+(q.ts.length:Int)=0 from he),OU]),La⟩,rfl⟩
  refine Qa<|Zm<|QB U<|Qb<|⟨(),⟨O2 Value.bool (by rw[E,O6 (show ¬(q.ls.length:Int)+(q.ts.length:Int)=0 from he),Bool.false_and]),La⟩,rfl⟩
 rintro _ g w5 rfl;exact Qi ⟨[_],Lb,U,O⟩
theorem QgC {v:O9}(h:XX L ↑w v qs)(i:Int):
  QZ sV 128 [v,sS i] w λr w'=>(match zO (qs.map (·.it)) i with
   | none=>r=.tuple #[.string .empty,oG oH 2]
   | some n=>r=.tuple #[.string n,oG oH 0]/\JE n)/\sW w w':=by
 have E:zO (qs.map (·.it)) i=if i<0\/(qs.length:Int)<=i then none else some ((qs.map IV.it).getD i.toNat ⟨.empty,Vv⟩).nm:=by unfold zO;rw[Lj]
 refine Zt func128 ?_;refine Qc<|x Qh<|Qb<|Qd<|QX (α:=Bool) [(6,13)] (λz=>[(13,.bool z)]) (λz w'=>w'=w/\(z=true↔(i<0\/(qs.length:Int)<=i))) om ?_ ?_
 .refine Qq<|Qa<|xb (YA U U) (λJ=>?_) (λJ=>?_)
  .refine Qa<|Zm<|K4<|QB U<|xe ?_;exact⟨true,Lb,U,⟨λ_=>.inl J,λ_=>U⟩⟩
  refine Qa<|Qa<|Qa<|QE h.arr U<|x (YI U U)<|QB U<|xe ?_;exact⟨_,Lb,U,⟨λe=>.inr (O5 e),λe=>O4 (e.resolve_left J)⟩⟩
 rintro z g w1 ⟨rfl,O⟩;refine Q6 rfl (λI=>?_) (λI=>?_)
 .rw[O1 (O.1 I)]at E;refine Qc<|x Qh<|Qb<|Qi ⟨[_,_],oB,by rw[E];rfl,xj.Y _ _⟩
 have Y:¬(i<0\/(qs.length:Int)<=i):=λe=>by rw[O.2 e]at I;cases I
 rw[O0 Y]at E;refine Qe<|exN (a:=i) oa λj S=>?_;have H:j<qs.length:=oa
 have Z:((qs.map IV.it).getD i.toNat ⟨.empty,Vv⟩).nm=(qs[j]'H).nm:=by
  rw[S];simp[oQ,H,IV.it]
 have T:=Lm H;rw[Z]at E;refine Qj<|Qa<|xp (g:=QK) (i:=j) Yj h.arr U (show Go.Lg.ev _ _=_ from O2 sS S) H λha V=>?_;refine Zd (qs[j]'H) λq hq=>?_;rw[hq]at V E T;refine x (Zp U)<|x (Qy (V.fld 0 (.string q.nm) U) U)<|x Qh<|Qb<|Qi ⟨[_,_],oB,by rw[E];exact⟨U,h.nm q T⟩,xj.Y _ _⟩
theorem Qd2 (co:List Y0)(y:Int×Int)(l:xF):V6 co (y::l)=match zO co y.1 with
  | none=>none
  | some n=>(V6 co l).map ((n,y.2)::·):=rfl
theorem Qd1 {y:Int×Int}{l:xF}{o:List (ByteArray×Int)}{X:Option (List (ByteArray×Int))}(h:X=(V6 co (y::l)).map (o++·))(E:zO co y.1=none):X=none:=by
 rw[h,Qd2,E];rfl
theorem Qd0 {y:Int×Int}{l:xF}{o:List (ByteArray×Int)}{X:Option (List (ByteArray×Int))}(h:X=(V6 co (y::l)).map (o++·)){n:ByteArray}(E:zO co y.1=some n):X=(V6 co l).map ((o++[(n,y.2)])++·):=by
 rw[h,Qd2,E];simp only[Option.map_map];congr 1;funext z;simp
abbrev Zn:O9:=nS
theorem QnL (o:Option α):o=none\/∃n,o=some n:=by cases o with
 | none=>exact .inl U
 | some n=>exact .inr ⟨n,U⟩
instance:Bw sV 70 z9 [(0,1),(1,1),(2,4),(6,1),(7,1),(8,1)]:={}
theorem Qlm {v:O9}{q:XV}(h0:XX L ↑w v qs)(hK:P2s L ↑w q.v q.ls)(hM:JE q.nm)(gw:q.ls.length<=100000):
  QZ sV 70 [v,sT (Q0 q)] w λr w'=>sW w w'/\(match V6 (qs.map (·.it)) q.ls with
   | none=>r=.tuple #[.agg z9.toArray,oG oH 2]
   | some l=>∃d:DV,r=.tuple #[.agg (Qs d).toArray,oG oH 0]/\d.it=⟨3,q.nm,Vv,l,[],0⟩/\∀L:LN,(∀b∈L,b<↑w)->Ji L ↑w' d):=by
 have hl:=hK.up (L':=[]) oe;refine Zd (V6 (qs.map (·.it)) q.ls) λR hR=>?_;rw[hR];have hN:R=(V6 (qs.map (·.it)) q.ls).map (([]:List (ByteArray×Int))++·):=by rw[hR];cases R <;> rfl
 refine Zt func70 ?_;refine Qc<|Zg (Q0 q) λb3 w1 hs gx hO=>QL z9 λb4 w2 ht gy hv=>Qb ?_;have hP:=hs.I ht;have hw:=hO.J ht;refine Qc<|Qm U hw U U<|x (Q8 [(0,[sS 3]),(1,[.string q.nm])] ⟨U,U,U,U,La⟩)<|QL z9 λO w3 hQ hS hT=>QJ [sS 3,.string q.nm,Zn,sS 0,Zn,Zn,Zn,Zn,sS 0] hT ⟨U,U,U,U,U,U,U,U,U,La⟩ λS hU hz=>xe ?_;have hh:sW w2 S:=hQ.Q hU hS;have h3:=hP.I hh;have gz:=hs.size;have g0:=hv.lt;have g2:=hz.lt;have hV:=hw.J hh;have hW:=hv.J hh;refine Qd<|Qc<|Qm U hV U U<|QE (hl.J h3) U<|Qa<|xe<|Q2 (α:=Nat×O9×List (ByteArray×Int)) [(5,5),(8,10),(17,41)] (λz=>[(17,sS z.1)]) (λz w'=>z.1<=q.ls.length/\xj [O] S w'/\QP ↑w' O 70 [sS 3,.string q.nm,Zn,sS 0,Zn,Zn,z.2.1,Zn,sS 0]/\w'.ownsRow ↑S 145 2 z.2.1 z.2.2.length (z.2.2.flatMap ZK)/\z.2.2.length=z.1/\(∀p∈z.2.2,JE p.1)/\R=(V6 (qs.map (·.it)) (q.ls.drop z.1)).map (z.2.2++·)) (λz=>q.ls.length - z.1) (0,Zn,[]) Lb
  ⟨Lp _,xj.Y _ _,hz,QI _ _ _ _,U,oe,hN⟩ ?_
 rintro⟨k,vl,l⟩ g w5 ⟨hk,Y,hi,H,h4,hj,hE⟩;simp only[]at hk hi H h4 hj hE;have Z:sW w w5:=h3.Q Y oa;have g3:=Y.size;have h6:=hW.O Y ol;have h5:=(h0.up (L':=[]) oe).J Z;have hX:=hl.J Z;refine Zi rfl U (λho=>?_) (λho=>?_)
 .refine Qt ?_;have hY:q.ls.length<=k:=by have hZ:¬(k:Int)<(q.ls.length:Int):=ho;omega
  rw[Lx hY]at hE;have ga:R=some l:=by rw[hE];simp[V6]
  refine Qc<|QV hi U U<|QJ [sS 3,.string q.nm,Zn,sS 0,Zn,Zn,vl,Zn,sS 0] h6 ⟨U,U,U,U,U,U,Qr H,U,U,La⟩ λw6 h7 gb=>Qb<|Qi ⟨[sT (Qs ⟨3,q.nm,⟨Zn,Zn,Zn,Vv⟩,vl,l,Zn,[],0⟩),sS 0],⟨YO gb,U,La⟩,Z.Q h7 oa,?_⟩;rw[ga];refine⟨⟨3,q.nm,⟨Zn,Zn,Zn,Vv⟩,vl,l,Zn,[],0⟩,U,U,λL hL=>?_⟩;have gc:Zk (b4::L) ↑w5 vl l.length 2 (l.flatMap ZK):=QC H oa (λb E hbL=>by
   have:=(Qg H b E).1;simp only[oM]at hbL;rcases hbL with rfl|hbL
   .omega
   have:=hL b hbL;omega)
  have gg:Ua L ↑w6 vl l:=⟨(gc.st (h7.S oe)).up (λb E=>.inl (by simp[E])),hj⟩;exact⟨hM,⟨Zk.nil _ _ _,Zk.nil _ _ _,Zk.nil _ _ _⟩,gg,Ua.nil⟩
 have T:k<q.ls.length:=by have hZ:(k:Int)<(q.ls.length:Int):=ho;omega
 have h8:q.ls.drop k=q.ls[k]'T::q.ls.drop (k+1):=LH T;refine Qe<|Qd<|Qn<|Qc<|xp (g:=QD) (i:=k) Yw hX U U T λg4 h9=>?_;refine Zd (q.ls[k]'T) λy hy=>?_;rw[hy]at h9 h8;rw[h8]at hE;refine x (Qu h9 U U)<|QL [sS 0,sS 0] λb8 w7 gh gi gj=>QJ (QD y) gj oB λw8 gk hA=>xe ?_;have hB:sW w5 w8:=gh.Q gk gi;refine Qj<|Qm U hA U U<|Qx<|(QgC (h5.J hB) y.1).S ?_;rintro r9 w9 ⟨ha,hC⟩;have he:=hB.I hC;refine Or.elim (QnL (zO (qs.map (·.it)) y.1)) (λI=>?_) (λI=>?_)
 .have gl:=Qd1 hE I;rw[I]at ha;have hg:r9=.tuple #[.string .empty,sS 2]:=ha;subst hg;refine Qa<|QS U U<|QS U U<|x Qh<|Qb<|Qd<|Qj<|Zu U U<|xe<|QY U (λV=>?_) (λV=>O3 (show(2:Int)≠0 by decide) V);refine Qc<|x (Q8 [] La)<|Qa<|QJ z9 (h6.J he) ⟨U,U,U,U,U,U,U,U,U,La⟩ λg5 gm gn=>Qb<|Qi ⟨[sT z9,sS 2],⟨YO gn,U,La⟩,(Z.I he).Q gm oa,?_⟩;rw[gl];rfl
 refine Exists.elim I λn I=>?_;rw[I]at ha;have hg:r9=.tuple #[.string n,sS 0]/\JE n:=ha;have go:=hg.1;subst go;refine Qa<|QS U U<|QS U U<|x Qh<|Qb<|Qd<|Qj<|Zu U U<|xe<|QY rfl (λV=>O3 U V) (λV=>?_);refine Qe ?_;have hD:=hi.J he;refine Qq<|Qm U hD U U<|Qa<|Qm U (hA.J hC) U U<|x (Qv ⟨U,U,La⟩)<|Qo<|Zb [ZK (n,y.2)] λg6 g7 hF g8 gp=>?_;have hq:=he.I hF;have g9:=hq.size;refine Qo<|Q9 (m:=1) (news:=ZK (n,y.2)) (Ql H hq) U U U (by have:=gp.at (L:=[]) oe;simpa using this) oq oa oa λhr gq hG hH gr=>?_;have hI:O∉ob vl:=λhm=>ov (Qg H O hm).1
 refine QN rfl<|Qo<|Qw (j:=6) (u:=hr) ((hD.J hF).O hH hI) U U oe (Qr hG) λgs hJ gt=>xe ?_;have gu:xj [O] S gq:=(Y.G hq oe).G hH λb E=>.inr (Qg H b E).1;have gv:gs.ownsRow ↑S 145 2 hr (l++[(n,y.2)]).length ((l++[(n,y.2)]).flatMap ZK):=by
  have h1:=Qf hG hJ (λb E hc=>by
   simp only[oJ]at hc;subst hc;rcases gr b E with h2|h2
   .exact hI h2
   omega)
  rw[Ln,LC];simpa using h1
 refine Qq<|QH U U<|Qa<|xe<|⟨(k+1,hr,l++[(n,y.2)]),by show q.ls.length - (k+1)<q.ls.length - k;omega,Lb,T,gu.G hJ (λb E=>.inl E),gt,gv,by simp[h4],λp J=>?_,(Qd0 hE I)⟩;rcases Lh.1 J with J|J
 .exact hj p J
 simp only[oJ]at J;subst J;exact hg.2
theorem QlM {v:O9}{q:KV}(h0:XX L ↑w v qs)(hK:P2s L ↑w q.v q.ts)(hM:JE q.nm)(gw:q.ts.length<=100000):
  QZ sV 71 [v,sT (Q5 q)] w λr w'=>sW w w'/\(match V6 (qs.map (·.it)) q.ts with
   | none=>r=.tuple #[.agg z9.toArray,oG oH 2]
   | some l=>∃d:DV,r=.tuple #[.agg (Qs d).toArray,oG oH 0]/\d.it=⟨4,q.nm,Vv,[],l,q.bd⟩/\∀L:LN,(∀b∈L,b<↑w)->Ji L ↑w' d):=by
 have hl:=hK.up (L':=[]) oe;refine Zd (V6 (qs.map (·.it)) q.ts) λR hR=>?_;rw[hR];have hN:R=(V6 (qs.map (·.it)) q.ts).map (([]:List (ByteArray×Int))++·):=by rw[hR];cases R <;> rfl
 refine Zt func71 ?_;refine Qc<|Zg (Q5 q) λb3 w1 ht gx hO=>QL z9 λb4 w2 hv gy hw=>Qb ?_;have hP:=ht.I hv;have hh:=hO.J hv;refine Qc<|Qm U hh U U<|Qm U hh U U<|x (Q8 [(0,[sS 4]),(1,[.string q.nm]),(5,[sS q.bd])] ⟨U,U,U,U,U,U,La⟩)<|QL z9 λO w3 hQ hS hT=>QJ [sS 4,.string q.nm,Zn,sS 0,Zn,Zn,Zn,Zn,sS q.bd] hT ⟨U,U,U,U,U,U,U,U,U,La⟩ λS hU hz=>xe ?_;have hi:sW w2 S:=hQ.Q hU hS;have h3:=hP.I hi;have gz:=ht.size;have g0:=hw.lt;have g2:=hz.lt;have hV:=hh.J hi;have hW:=hw.J hi;refine Qd<|Qc<|Qm U hV U U<|QE (hl.J h3) U<|Qa<|xe<|Q2 (α:=Nat×O9×List (ByteArray×Int)) [(5,5),(8,10),(19,43)] (λz=>[(19,sS z.1)]) (λz w'=>z.1<=q.ts.length/\xj [O] S w'/\QP ↑w' O 70 [sS 4,.string q.nm,Zn,sS 0,Zn,Zn,Zn,z.2.1,sS q.bd]/\w'.ownsRow ↑S 147 2 z.2.1 z.2.2.length (z.2.2.flatMap ZK)/\z.2.2.length=z.1/\(∀p∈z.2.2,JE p.1)/\R=(V6 (qs.map (·.it)) (q.ts.drop z.1)).map (z.2.2++·)) (λz=>q.ts.length - z.1) (0,Zn,[]) Lb
  ⟨Lp _,xj.Y _ _,hz,QI _ _ _ _,U,oe,hN⟩ ?_
 rintro⟨k,vl,l⟩ g w5 ⟨hk,Y,hj,H,h4,ho,hE⟩;simp only[]at hk hj H h4 ho hE;have Z:sW w w5:=h3.Q Y oa;have g3:=Y.size;have h6:=hW.O Y ol;have h5:=(h0.up (L':=[]) oe).J Z;have hX:=hl.J Z;refine Zi rfl U (λhq=>?_) (λhq=>?_)
 .refine Qt ?_;have hY:q.ts.length<=k:=by have hZ:¬(k:Int)<(q.ts.length:Int):=hq;omega
  rw[Lx hY]at hE;have ga:R=some l:=by rw[hE];simp[V6]
  refine Qc<|QV hj U U<|QJ [sS 4,.string q.nm,Zn,sS 0,Zn,Zn,Zn,vl,sS q.bd] h6 ⟨U,U,U,U,U,U,U,Qr H,U,La⟩ λw6 h7 gb=>Qb<|Qi ⟨[sT (Qs ⟨4,q.nm,⟨Zn,Zn,Zn,Vv⟩,Zn,[],vl,l,q.bd⟩),sS 0],⟨YO gb,U,La⟩,Z.Q h7 oa,?_⟩;rw[ga];refine⟨⟨4,q.nm,⟨Zn,Zn,Zn,Vv⟩,Zn,[],vl,l,q.bd⟩,U,U,λL hL=>?_⟩;have gc:Zk (b4::L) ↑w5 vl l.length 2 (l.flatMap ZK):=QC H oa (λb E hbL=>by
   have:=(Qg H b E).1;simp only[oM]at hbL;rcases hbL with rfl|hbL
   .omega
   have:=hL b hbL;omega)
  have gg:Ua L ↑w6 vl l:=⟨(gc.st (h7.S oe)).up (λb E=>.inl (by simp[E])),ho⟩;exact⟨hM,⟨Zk.nil _ _ _,Zk.nil _ _ _,Zk.nil _ _ _⟩,Ua.nil,gg⟩
 have T:k<q.ts.length:=by have hZ:(k:Int)<(q.ts.length:Int):=hq;omega
 have h8:q.ts.drop k=q.ts[k]'T::q.ts.drop (k+1):=LH T;refine Qe<|Qd<|Qn<|Qc<|xp (g:=QD) (i:=k) Yw hX U U T λg4 h9=>?_;refine Zd (q.ts[k]'T) λy hy=>?_;rw[hy]at h9 h8;rw[h8]at hE;refine x (Qu h9 U U)<|QL [sS 0,sS 0] λb8 w7 gh gi gj=>QJ (QD y) gj oB λw8 gk hA=>xe ?_;have hB:sW w5 w8:=gh.Q gk gi;refine Qj<|Qm U hA U U<|Qx<|(QgC (h5.J hB) y.1).S ?_;rintro r9 w9 ⟨ha,hC⟩;have he:=hB.I hC;refine Or.elim (QnL (zO (qs.map (·.it)) y.1)) (λI=>?_) (λI=>?_)
 .have gl:=Qd1 hE I;rw[I]at ha;have hg:r9=.tuple #[.string .empty,sS 2]:=ha;subst hg;refine Qa<|QS U U<|QS U U<|x Qh<|Qb<|Qd<|Qj<|Zu U U<|xe<|QY U (λV=>?_) (λV=>O3 (show(2:Int)≠0 by decide) V);refine Qc<|x (Q8 [] La)<|Qa<|QJ z9 (h6.J he) ⟨U,U,U,U,U,U,U,U,U,La⟩ λg5 gm gn=>Qb<|Qi ⟨[sT z9,sS 2],⟨YO gn,U,La⟩,(Z.I he).Q gm oa,?_⟩;rw[gl];rfl
 refine Exists.elim I λn I=>?_;rw[I]at ha;have hg:r9=.tuple #[.string n,sS 0]/\JE n:=ha;have go:=hg.1;subst go;refine Qa<|QS U U<|QS U U<|x Qh<|Qb<|Qd<|Qj<|Zu U U<|xe<|QY rfl (λV=>O3 U V) (λV=>?_);refine Qe ?_;have hD:=hj.J he;refine Qq<|Qm U hD U U<|Qa<|Qm U (hA.J hC) U U<|x (Qv ⟨U,U,La⟩)<|Qo<|Zb [ZK (n,y.2)] λg6 g7 hF g8 gp=>?_;have hr:=he.I hF;have g9:=hr.size;refine Qo<|Q9 (m:=1) (news:=ZK (n,y.2)) (Ql H hr) U U U (by have:=gp.at (L:=[]) oe;simpa using this) oq oa oa λhs gq hG hH gr=>?_;have hI:O∉ob vl:=λhm=>ov (Qg H O hm).1
 refine QN rfl<|Qo<|Qw (j:=7) (u:=hs) ((hD.J hF).O hH hI) U U oe (Qr hG) λgs hJ gt=>xe ?_;have gu:xj [O] S gq:=(Y.G hr oe).G hH λb E=>.inr (Qg H b E).1;have gv:gs.ownsRow ↑S 147 2 hs (l++[(n,y.2)]).length ((l++[(n,y.2)]).flatMap ZK):=by
  have h1:=Qf hG hJ (λb E hc=>by
   simp only[oJ]at hc;subst hc;rcases gr b E with h2|h2
   .exact hI h2
   omega)
  rw[Ln,LC];simpa using h1
 refine Qq<|QH U U<|Qa<|xe<|⟨(k+1,hs,l++[(n,y.2)]),by show q.ts.length - (k+1)<q.ts.length - k;omega,Lb,T,gu.G hJ (λb E=>.inl E),gt,gv,by simp[h4],λp J=>?_,(Qd0 hE I)⟩;rcases Lh.1 J with J|J
 .exact ho p J
 simp only[oJ]at J;subst J;exact hg.2
instance:Bw sV 92 z10 [(0,2),(2,1),(3,4),(7,3)]:={}
instance:Bw sV 150 z15 [(0,10),(10,5)]:={}
theorem QcR {c:CL}(E:ZG L ↑w c)(H:Kb w 4096):
  QZ sV 88 [c.val] w λr w'=>sW w w'/\∃us c0 c1 c2 c3 sa st sm se o,r=.tuple #[sT us,.agg #[c0,c1,c2,c3,sa,sS st,sm,se,o],sS (Yo c.Z)]/\us.length=8/\Zj us/\Zj [c0,c1,c2,c3,sa,sm,se,o] /\
   (Yo c.Z=0->st=(suA c.Z).st/\∀L:LN,(∀b∈L,b<↑w)->ZE L ↑w' sa sm se (suA c.Z)/\Qae L ↑w' c0 c1 c2 (spc c.Z).a (fbs (spc c.Z)) (unc c.Z.ev)):=by
 refine(yw E H).S ?_;rintro r w' ⟨I,us,c0,c1,c2,c3,sa,sm,se,o,rfl,J,O,S,_,T⟩;exact⟨I,us,c0,c1,c2,c3,sa,_,sm,se,o,U,J,O,S,λh=>⟨O1 h,T h⟩⟩
theorem Qig {c:CL}{q:MV}(I:ZG L ↑w c)(J:QG L ↑w q.v q.co):
  QZ sV 86 [c.val,.agg #[sS q.kd,sS q.ix,q.v]] w λr w'=>sW w w'/\∃cm:CL,r=.tuple #[sT cm.cells,sS (qR c.Z q.m)]/\Zj cm.cells/\(qR c.Z q.m=0->cm.Z=Jr c.Z q.m/\∀L:LN,(∀b∈L,b<↑w)->ZG L ↑w' cm):=by
 refine(Qdx I J).S ?_;rintro r w' ⟨O,us,rfl,Y,H,S,T⟩;refine⟨O,?_⟩;by_cases E:qR c.Z q.m=0
 .obtain⟨cm,e1,e2,V⟩:=T E;have e:us=cm.cells:=by simpa using e1
  subst e;exact⟨cm,U,H,λ_=>⟨e2,V⟩⟩
 have e:=S E;subst e;exact⟨CL.mk Zn Zn Zn Zn Zn [] [] [] [] [],U,H,λh=>O3 h E⟩
theorem Qmm (c:Zy)(bf:List xR)(v:Int)(m:Vw)(l:List Vw)(o:List xR)(k n:List Ky):blL c bf v (m::l) o k n=if(KK c bf v m).1≠0 then((KK c bf v m).1,[],[],[])else
  if(KK c bf v m).2.2=true then blL c bf v l (o++[(KK c bf v m).2.1]) (k++[Ya c m]) n else blL c bf v l (o++[(KK c bf v m).2.1]) k (n++[Ya c m]):=rfl
theorem Qen {c:CL}{ps:List zS}{v:Int}(h0:ZG L ↑w c)(hp:Go.Lg.K3 ZJ 15 qv L' ↑w vb ps)(ma:∀b∈L',b<↑w)(hn:(ps.map (·.e.ky)).Nodup)(hpl:ps.length<=1000)(hkb:Kb w 4096):
  QZ sV 34 [c.val,vb,sS v] w λr w'=>sW w w'/\∃vp us,r=.tuple #[vp,sT us,sS (KX c.Z (ps.map (·.pt)) v)]/\us.length=3/\Zj us/\(KX c.Z (ps.map (·.pt)) v≠0->vp=Zn/\us=Xb) /\
   (KX c.Z (ps.map (·.pt)) v=0->∃qs q,us=ZP q/\qs.map (·.pt)=jC c.Z (ps.map (·.pt)) v/\q.rp=X0 c.Z (ps.map (·.pt)) v/\(w'.ownsRow ↑w 150 15 vp qs.length (qs.flatMap ZJ))/\Go.Lg.K3 ZJ 15 qv L' ↑w' vp qs/\∀M:LN,(∀b∈M,b<↑w)->Ub M ↑w' q):=by
 have h:=h0.up (L':=[]) oe;have hS:Go.Lg.K3 ZJ 15 qv [] ↑w vb ps:=hp.up oe;have hpk:(ps.map (·.pt)).map (·.ky)=ps.map (·.e.ky):=by rw[L4];rfl
 have mf:=Qke hn (λq hq=>(hp.each q hq).ones);refine Zd (ps.map (·.pt)) λbf mg=>?_;rw[mg]at hpk mf ⊢;have Z:KX c.Z bf v=if Zf c.Z≠0 then Zf c.Z else(qn c.Z bf v).1:=rfl
 have mh:jC c.Z bf v=(qn c.Z bf v).2.1:=rfl;have mj:X0 c.Z bf v=⟨(qn c.Z bf v).2.2.1,(qn c.Z bf v).2.2.2,(bf.filter λp=>decide (p.ky∉(xq c.Z).map (Ya c.Z))).map (·.ky)⟩:=rfl;have hbR:blL c.Z bf v (xq c.Z) [] [] []=qn c.Z bf v:=rfl;refine Zd (KX c.Z bf v) λE hE=>?_;rw[hE]at Z ⊢;refine Zt func34 ?_;refine Qc<|Zg c.cells λb3 w1 mo hb3 g4=>x Qh<|QL Xb λb7 w2 gm hb7 g5=>Qb ?_;have mq:=mo.I gm;have hz1:=mo.size;have hz2:=gm.size;refine Qc<|QV (g4.J gm) U U<|Qx<|(jI (h.J mq)).S ?_;rintro r3 w3 ⟨hT,vM,lM,rfl,hM,hMbad,hMgood⟩;have ms:=mq.I hT;have hz3:=hT.size;refine Qa<|QS U U<|QS U U<|x Qh<|Qb<|Qd<|Qj<|Zu U U<|xe<|QY rfl (λhU=>?_) (λhU=>?_)
 .rw[O1 hU]at Z;refine Qc<|x (Qv La)<|Qa<|x Qh<|QJ Xb (g5.J hT) oC λw4 hs4 hB74=>Qb<|Qi ⟨[Zn,sT Xb,sS (Zf c.Z)],⟨U,YO hB74,U,La⟩,ms.Q hs4 oa,Zn,Xb,by rw[Z];rfl,U,oC,λ_=>⟨U,U⟩,λh0=>O3 (Z.symm.I h0) hU⟩
 rw[O0 hU]at Z;have g6:=Lq.1 hU;have hok:zk c.Z:=(ZO g6).sr;have hV:=hMgood g6;have mt:=QdB g6;have hMl:lM.length<=96:=by have:=UZ hok;rw[<-hV,Lj]at this;exact this
 have mu:Zk [] ↑w3 vM lM.length 3 (lM.flatMap YN):=hM.arr oa oe;refine Qe<|Qc<|Qo<|YZ kKy λg7 w5 mv hb37 mw=>Qb ?_;have my:=ms.I mv;refine Qd<|Qj<|QE (Go.Lg.K3.J hS my).arr U<|Qa<|xe<|Q2 (α:=Nat) [(13,13),(40,49)] (λz=>[(40,sS z)]) (λz w'=>z<=ps.length/\xj [g7] w5 w'/\Yh kKy ↑w' g7 (yZ (λq:zS=>q.e.ky) paV (ps.take z) [])) (λz=>ps.length - z) 0 Lb ⟨Lp _,xj.Y _ _,mw⟩ ?_;rintro k g w6 ⟨hk,gn,g8⟩;have mz:sW w w6:=my.Q gn oa;have hz6:=gn.size;refine Zi rfl U (λgo=>?_) (λgo=>?_)
 rotate_left
 .have J:k<ps.length:=by have hW:(k:Int)<(ps.length:Int):=go;omega
  have ho:ps.take (k+1)=ps.take k++[ps[k]'J]:=Lo J;have m2:=Go.Lg.K3.J hS mz;have hr:=Lm J;refine Qe<|Qd<|Qn<|Qc<|xp (g:=ZJ) (i:=k) yQ m2.arr U U J λa42 m3=>?_;refine Zd (ps[k]'J) λq hq=>?_;rw[hq]at m3 ho hr;have g9:=m2.each q hr;refine x (Qu m3 U U)<|QL z15 λb13 w7 ka hb13 hB13=>QJ (ZJ q) hB13 g9.ones λV hY m4=>xe ?_;have hB:sW w6 V:=ka.Q hY hb13;refine Qq<|Qa<|QN U<|QN U<|x (Q7 (us:=Vb q.e.ky) m4 U U U)<|QV m4 U U<|Qo<|XN (k:=q.e.ky) (g8.J hB) U U λY hs hm9=>xe ?_;refine Qq<|QH U U<|Qa<|xe<|⟨k+1,oa,Lb,J,(gn.I hB).V hs,?_⟩;have m5:Yh kKy ↑Y g7 (xu (yZ (λq:zS=>q.e.ky) paV (ps.take k) []) q.e.ky (paV q)):=hm9;rw[ho];unfold yZ at m5 ⊢;rw[Mk];exact m5
 refine Qt ?_;have hZ:ps.length<=k:=by have hW:¬(k:Int)<(ps.length:Int):=go;omega
 rw[Lt hZ]at g8;clear hZ go hk;refine Qc<|Qb<|Qc<|QL Xb λI w7 ka hb15 m6=>xe ?_;refine Qc<|Qo<|YZ kKy λO V hY hb50 m7=>Qb ?_;have hB:=ka.I hY;have m8:=mz.I hB;have hz8:=hY.size;have hl15:=m6.lt;have hl50:=m7.lt;have hl37:=mw.lt;have ga:sW w3 V:=(mv.Q gn oa).I hB;have hB38:=(g4.J (gm.I hT)).J ga;have hB78:=(g5.J hT).J ga;have hl3:=g4.lt;have hl7:=g5.lt;have hMA8:=mu.J ga;refine Qd<|Qj<|QE hMA8 U<|Qa<|xe<|Q2 (α:=BlS) [(6,6),(8,8),(14,14),(18,25),(53,123)] (λz=>[(14,z.vo),(53,sS z.k)]) (λz w'=>z.k<=lM.length/\xj [I,O] V w'/\BlI (b7::I::O::L') ↑V w' I O ((lM.take z.k).map λq=>Ya c.Z q.m) z/\blL c.Z bf v ((lM.drop z.k).map MV.m) (z.qs.map (·.pt)) z.K z.M=qn c.Z bf v/\(z.qs.length=z.k/\z.K.length<=z.k/\z.M.length<=z.k))
  (λz=>lM.length - z.k) ⟨0,Zn,[],Zn,[],Zn,[]⟩ oB ⟨Lp _,xj.Y _ _,⟨⟨_,(m6.J hY)⟩,m7,zl.nil,QI _ _ _ _,QI _ _ _ _,λb H=>by simp[ob]at H,λb H=>by simp[ob]at H⟩,by rw[List.drop_zero,hV];exact hbR,U,Lu _,Lu _⟩ ?_
 rintro⟨k,vo,qs,vk,K,vm,M⟩ g Y ⟨hk,hs,S,hR,hql,hKl,hMl'⟩;simp only[]at hk S hR hql hKl hMl';have hX:∀b∈[I,O],↑w<=b/\b<V.heap.size:=λb H=>by simp only[oM,oL,or_false]at H;omega
 have kb:sW w Y:=m8.G hs (λb H=>.inr (hX b H).1);have hz9:=hs.size;have m9:=hB38.O hs ot;have pa:=hB78.O hs ot;have hm379:=(g8.J hB).O hs ot;have hp9:=Go.Lg.K3.J hS kb;refine Zi rfl U (λkc=>?_) (λkc=>?_)
 .refine Qt ?_;have hZ:lM.length<=k:=by have hW:¬(k:Int)<(lM.length:Int):=kc;omega
  have gp:=S;rw[Lt hZ]at gp;rw[Lx hZ]at hR;have hR0:qn c.Z bf v=(0,qs.map (·.pt),K,M):=hR.symm;rw[hR0]at Z mh mj;have pc:E=0:=Z;have hks:(lM.map λq=>Ya c.Z q.m)=(xq c.Z).map (Ya c.Z):=by rw[<-hV,L4];rfl
  rw[hks]at gp;obtain⟨T15,hB159⟩:=gp.b;have hm509:=gp.n;refine Qd<|Qj<|QE hp9.arr U<|Qa<|xe<|Q2 (α:=Nat×O9×List Ky) [(27,27),(126,144)] (λz=>[(126,sS z.1)]) (λz w'=>z.1<=ps.length/\xj [I] Y w'/\QP ↑w' I T15 [vk,vm,z.2.1]/\w'.ownsRow ↑Y 87 2 z.2.1 z.2.2.length (z.2.2.flatMap Vb)/\z.2.2=((ps.take z.1).filter λp=>decide (p.e.ky∉(xq c.Z).map (Ya c.Z))).map (·.e.ky))
   (λz=>ps.length - z.1) (0,Zn,[]) Lb ⟨Lp _,xj.Y _ _,hB159,QI _ _ _ _,U⟩ ?_
  rintro⟨i,vg,G⟩ g gb ⟨hi,ha,ke,h6,hG⟩;simp only[]at hi ke h6 hG;have pd:sW w gb:=kb.Q ha oa;have hz10:=ha.size;have hB710:=pa.O ha ol;have hm5010:=hm509.O ha ol;have hGl:G.length<=1000:=by
   rw[hG,Lj];refine LJ (Mt _ _) ?_;rw[LB];omega
  refine Zi U U (λkf=>?_) (λkf=>?_)
  .refine Qt ?_;have hie:ps.length<=i:=by have hW:¬(i:Int)<(ps.length:Int):=kf;omega
   rw[Lt hie]at hG;have pf:Zj [vk,vm,vg]:=⟨Qr S.k,Qr S.m,Qr h6,La⟩;refine Qd<|ZH [] (Xf 0 5 [3])<|p QA<|pq (λ_ hc=>ZN (ke.J hc) U U)<|p ZL<|pkk<|Ux [vk,vm,vg] (hB710.J (xj.X _ _)) pf λgq kg hB711 =>
    p ZL<|pe ?_
   have hD:xj [b7] gb gq:=(xj.X [] gb).any.V kg;have n7:∀b,↑V<=b->b∉[b7]:=λb H T=>by rw[Lc.1 T]at H;omega
   have kh:∀b,↑V<=b->b∉[I]:=λb H T=>by rw[Lc.1 T]at H;omega
   have pg:=Qf (Qf S.k ha (λb H=>kh b (Qg S.k b H).1)) hD (λb H=>n7 b (Qg S.k b H).1);have ph:=Qf (Qf S.m ha (λb H=>kh b (Qg S.m b H).1)) hD (λb H=>n7 b (Qg S.m b H).1);have pj:=Qf h6 hD (λb H=>n7 b (ov (Qg h6 b H).1));have ki:=Qf (Qf S.o.own ha (λb H=>kh b (Qg S.o.own b H).1)) hD (λb H=>n7 b (Qg S.o.own b H).1);have kj:sW w gq:=pd.Q hD oa;refine Qi ⟨[vo,.agg #[vk,vm,vg],sS 0],⟨U,YO hB711,U,La⟩,kj,vo,[vk,vm,vg],by rw[pc];rfl,U,pf,λh0=>O3 pc h0,λ_=>⟨qs,⟨vk,K,vm,M,vg,G⟩,U,mh.symm,?_,Zv ki oa,⟨QC ki oa (λb H hbL=>oy (Qg ki b H).1 (ma b hbL)),λq hq=>?_⟩,λN hN=>⟨QC pg (show K.length<=1099511627776 by omega) (λb H hbL=>oy (Qg pg b H).1 (hN b hbL)),QC ph (show M.length<=1099511627776 by omega) (λb H hbL=>oy (Qg ph b H).1 (hN b hbL)),QC pj (show G.length<=1099511627776 by omega) (λb H hbL=>oy (Qg pj b H).1 (hN b hbL))⟩⟩⟩
   .rw[mj];show Rp.mk K M G=_;rw[hG,<-mg,List.filter_map,L4];rfl
   have hq9:=S.o.each q hq;have hq9':qv (b7::I::O::L') ↑Y q:=Mm.S hq9 λb H=>Lh.2 (.inr (Lh.2 (.inr (Lh.2 (.inr H)))));exact((hq9'.st (ha.S oe)).st (hD.S oe)).up (λb H=>.inl (by simp[H]))
  have J:i<ps.length:=by have hW:(i:Int)<(ps.length:Int):=kf;omega
  have ho:ps.take (i+1)=ps.take i++[ps[i]'J]:=Lo J;have pm:=Go.Lg.K3.J hS pd;have hr:=Lm J;refine Qe<|Qd<|Qn<|Qc<|xp (g:=ZJ) (i:=i) yQ pm.arr U U J λa128 pn=>?_;refine Zd (ps[i]'J) λq hq=>?_;rw[hq]at pn ho hr;have g9:=pm.each q hr;refine x (Qu pn U U)<|QL z15 λb27 po gc hb27 hB27=>QJ (ZJ q) hB27 g9.ones λpp gr pu=>xe ?_;have hF:sW gb pp:=gc.Q gr hb27;have hz13:=hF.size;refine Qj<|QN U<|QN U<|x (Q7 (us:=Vb q.e.ky) pu U U U)<|x (Qh1 (s:=q.e.ky) (hm5010.J hF) U U)<|x (Zr U)<|xe ?_;have kk:=ke.J hF;have pw:=Ql h6 hF;refine Q6 U (λkn=>?_) (λkn=>?_)
  .have ko:q.e.ky∉(xq c.Z).map (Ya c.Z):=by simpa using kn
   refine Qq<|Qm U kk U U<|QN U<|QN U<|x (Q7 (us:=Vb q.e.ky) pu U U U)<|Qo<|Zb [Vb q.e.ky] λb141 kq hH hb141 hB141 =>
    Qo<|Q9 (m:=1) (news:=Vb q.e.ky) (L:=[]) (Ql pw hH) U U U (by have:=hB141.at (L:=[]) oe;simpa using this) oq oa (ov hH.size) λkr hl pz hg p0=>QN U<|Qo<|Qw (j:=2) (u:=kr) ((kk.J hH).O hg (λH=>ov (Qg h6 I H).1)) U U oe (Qr pz) λp1 gs hB1516 =>
    xe ?_
   refine Qq<|QH U U<|Qa<|xe ?_;have ht:xj [I] Y kq:=ha.I (hF.I hH);have kt:xj [I] Y hl:=ht.G hg (λb H=>.inr (Qg h6 b H).1);refine⟨(i+1,kr,G++[q.e.ky]),og,Lb,J,kt.V gs,hB1516,?_,?_⟩
   .have p2:hl.ownsRow ↑Y 87 2 kr (G++[q.e.ky]).length ((G++[q.e.ky]).flatMap Vb):=by
     rw[Ln,LC];simpa using pz
    refine Qf p2 gs (λb H T=>?_);have:=(Qg p2 b H).1;rw[Lc.1 T]at this;omega
   simp only[];rw[ho,Mc,Ls,<-hG,Mg,O1 (O4 ko)];rfl
  have ko:q.e.ky∈(xq c.Z).map (Ya c.Z):=by simpa using kn
  refine Qe<|Qq<|QH U U<|Qa<|xe<|⟨(i+1,vg,G),og,Lb,J,ha.I hF,kk,pw,?_⟩;simp only[];rw[ho,Mc,Ls,<-hG,Mg,O0 (oA ko)];simp
 have J:k<lM.length:=by have hW:(k:Int)<(lM.length:Int):=kc;omega
 have ho:lM.take (k+1)=lM.take k++[lM[k]'J]:=Lo J;have hr:=Lm J;rw[LH J,LO,Qmm]at hR;have ku:sW w3 Y:=ga.G hs (λb H=>.inr (by simp only[oM,oL,or_false]at H;have:=ga.size;omega));have hn1:(lM.map λq=>Ya c.Z q.m).Nodup:=by
  rw[<-hV,L4]at mt;exact mt
 have kv:=hn1.sublist ((List.take_sublist (k+1) lM).map λq=>Ya c.Z q.m);rw[ho,Ls]at kv;refine Qe<|Qd<|Qn<|Qc<|xp (g:=YN) (i:=k) Qkq (mu.J ku) U U J λa55 p3=>?_;refine Zd (lM[k]'J) λq hq=>?_;rw[hq]at p3 ho hr hR kv;have hqI:QG [] ↑Y q.v q.co:=(YH.J hM ku).each q hr [] oe;have hqm:q.m∈xq c.Z:=by rw[<-hV];exact LK hr
 have p4:Ya c.Z q.m∉(lM.take k).map λq=>Ya c.Z q.m:=λT=>(Mi.1 kv).2.2 _ T _ (Lc.2 U) U;have gg:=QnX hqm;have hh:=mf (Ya c.Z q.m);have gt:=λp:xR=>QiQ (c:=c.Z) (bf:=bf) (v:=v) (m:=q.m) (p:=p);have gu:=Qpm (c:=c.Z) (bf:=bf) (v:=v) (m:=q.m);have hb0:=Qpo (c:=c.Z) (bf:=bf) (v:=v) (m:=q.m);refine x (Qu p3 U U)<|QL [sS 0,sS 0,nS] λb18 gb ha hb18 hB18=>QJ (YN q) hB18 ⟨U,U,hqI.one,La⟩ λgq kg p5=>xe ?_;have gv:sW Y gq:=ha.Q kg hb18;have kj:=kb.I gv;have hK:=QkH (q:=q) (h.J kj) gg.1 gg.2.1 (λe=>by have:=gg.2.2.1 e;rwa [show c.Z.rq.length=c.rq.length from Lj ..]at this) (λe=>by have:=gg.2.2.2.1 e;rwa [show c.Z.ex.length=c.ex.length from Lj ..]at this) (λe=>by have:=gg.2.2.2.2 e;rwa [show c.Z.cs.length=c.cs.length from Lj ..]at this);have p6:Vo c.Z v q.m=⟨Ya c.Z q.m,v,suA (Jr c.Z q.m),(UB (Jr c.Z q.m)).1,(UB (Jr c.Z q.m)).2.1,(UB (Jr c.Z q.m)).2.2,Jr c.Z q.m⟩:=rfl;refine Zd (Ya c.Z q.m) λky p7=>?_;rw[p7]at p4 hh gt gu hK hR p6;refine Qc<|QV (m9.J gv) U U<|QV p5 U U<|Qx<|hK.S ?_;rintro _ po ⟨rfl,gc⟩;refine QL [sS 0,.string .empty] λp8 pp gr hb19 hB19=>QJ (Vb ky) hB19 oB λkq hH p9=>xe ?_;have qc:sW po kq:=gr.Q hH hb19;have ht:=(gv.I gc).I qc;have hz914:=ht.size;have hz911:=gv.size;have hz12:=gc.size;have qf:=S.J ht;have hz10:=ha.size;have hz13:=gr.size;refine Qj<|QV p9 U U<|Qo<|XN (k:=ky) qf.n U U λhl hg p0=>xe ?_;have kt:xj [O] Y hl:=ht.any.V hg;have ql:xj [I,O] V hl:=hs.V (kt.S oe);have qo:sW w hl:=m8.G ql (λb H=>.inr (hX b H).1);have hz15:=hg.size;have hI15:BlI (b7::I::O::L') ↑V hl I O ((lM.take (k+1)).map λq=>Ya c.Z q.m) ⟨k,vo,qs,vk,K,vm,M⟩:=by
  refine qf.now hg ?_ oa oa oe;have h5:Yh kKy ↑hl O (xu (((lM.take k).map λq=>Ya c.Z q.m).map λs=>(s,Value.bool true)) ky (.bool true)):=p0;rw[QjL p4]at h5;have e:((lM.take (k+1)).map λq=>Ya c.Z q.m)=((lM.take k).map λq=>Ya c.Z q.m)++[ky]:=by
   rw[ho,Ls,LO,p7];rfl
  rw[e];exact h5
 have hne50:∀b,↑V<=b->b∉[O]:=λb H T=>by rw[Lc.1 T]at H;omega
 have hB1815:=((p5.J gc).J qc).O hg ol;have hB1915:=p9.O hg ol;have hB315:=(m9.J ht).O hg ol;have qr:=(pa.J ht).O hg ol;have hm3715:=(hm379.J ht).O hg ol;have hqI3:QG [] ↑w3 q.v q.co:=hM.each q hr [] oe;have hqI15:QG [] ↑hl q.v q.co:=((((hqI3.up (L':=[O]) (λb H=>.inr (by rw[Lc.1 H];omega))).J ku).J ht).st hg).up oe;refine Qc<|QV hB315 U U<|QV hB1815 U U<|Qx<|(Qig (q:=q) (h.J qo) hqI15).S ?_;rintro r23 p1 ⟨gs,cm,rfl,ho5,hgood⟩;refine Qa<|QS U U<|QS U U<|QL Z3 λb20 w17 hs17 hb20 hB20=>QJ cm.cells hB20 ho5 λq0 hs18 hB2018 =>
  Qb ?_
 have kw:sW p1 q0:=hs17.Q hs18 hb20;have h2:=gs.I kw;have q1:=qo.I h2;have hz1518:=h2.size;refine Qd<|Qj<|Zu U U<|xe<|QY rfl (λgh=>?_) (λgh=>?_)
 .have he:=hb0 gh;rw[he,O1 gh]at hR;rw[<-hR]at Z;refine Qc<|x (Qv La)<|Qa<|x Qh<|QJ Xb (qr.J h2) oC λw19 kx hB719=>Qb<|Qi ⟨[Zn,sT Xb,sS (qR c.Z q.m)],⟨U,YO hB719,U,La⟩,q1.Q kx oa,Zn,Xb,by rw[Z];rfl,U,oC,λ_=>⟨U,U⟩,λh0=>O3 (Z.symm.I h0) gh⟩
 have kz:=Lq.1 gh;have gt:=λp=>gt p kz;have gu:=gu kz;have gi:=hgood kz;have hI18:=hI15.J h2;have q2:=hB1915.J h2;refine Qe<|Exists.elim hh λus hh=>Exists.elim hh λis hh=>?_;refine Qd<|Qj<|QV q2 U U<|x (QnE (k:=ky) (hm3715.J h2) U U hh.1)<|Qa<|QS U U<|QS U U<|QL z15 λb22 w19 kx hb22 hB22 =>
  Qo<|ZA (us:=us) hB22 U U hh.2.1 U hh.2.2.1 λhJ hs20 q3=>Qb ?_
 have hL:sW q0 hJ:=kx.Q hs20 hb22;have q4:=q1.I hL;have q5:=hB2018.J hL;have hz1820:=hL.size;have za:∀N:LN,(∀b∈N,b<↑hl)->ZG N ↑hJ cm:=λN hN=>((gi.2 N hN).J kw).J hL;refine QX (α:=Bool) [(78,84)] (λz=>[(84,.bool z)]) (λz w'=>sW hJ w'/\(z=true->∃p∈ps,us=ZJ p/\KK c.Z bf v q.m=(0,p.pt,true))/\(z=false->KK c.Z bf v q.m=(Yo (Jr c.Z q.m),Vo c.Z v q.m,false))) om ?_ ?_
 .refine Qq<|xB K5 (λk0=>?_) (λk0=>?_)
  .refine Exists.elim (hh.2.2.2.1 k0) λp h3=>?_;have gw:qv [] ↑hJ p:=(Go.Lg.K3.J hS q4).each p h3.1;have gx:=h3.2.1;have hEq:QZ sV 87 [p.c.val,cm.val] hJ λr w'=>r=.bool (decide (p.c.Z=Jr c.Z q.m))/\sW hJ w':=by
    rw[<-gi.1];exact QfM gw.c (za [] oe)
   refine Qa<|QN U<|x (Q7 (us:=p.c.cells) q3 U U (by rw[gx];rfl))<|QV q5 U U<|Qx<|hEq.S ?_;rintro _ gy ⟨rfl,hv⟩;refine QB U<|xe ?_;have H:=gt p.pt h3.2.2;refine⟨decide (p.c.Z=Jr c.Z q.m),Lb,hv,λhz=>⟨p,h3.1,gx,?_⟩,λhz=>?_⟩
   .rw[H,O1 (show p.pt.c=_ from O5 hz)]
   rw[H,O0 (show ¬p.pt.c=_ from O7 hz)]
  refine Qa<|Zm<|K4<|QB U<|xe ?_;exact⟨false,Lb,xj.Y _ _,λhz=>O3 hz oh,λ_=>gu (hh.2.2.2.2 k0)⟩
 rintro zb g gy ⟨hv,hzt,hzf⟩;have gz:=hL.I hv;have k4:=q4.I hv;have hO:=hI18.J gz;have hz21:=hv.size;have zv:=q2.J gz;have z1:=q5.J hv;have h721:=(qr.J h2).J gz;have z2:xj [I,O] V gy:=(ql.I h2).I gz;have gvo:=Qg hO.o.own;have gvk:=Qg hO.k;have gvm:=Qg hO.m;obtain⟨T15,z3⟩:=hO.b;have n15o:I∉ob vo:=λT=>ov (gvo I T).1
 have n15k:I∉ob vk:=λT=>ov (gvk I T).1
 have n15m:I∉ob vm:=λT=>ov (gvm I T).1
 have n19o:p8∉ob vo:=λT=>ov (Qg S.o.own p8 T)
 have z5:∀b∈ob vo++(ob vk++(ob vm++(b7::I::O::L'))),b<↑Y/\(b∈L'\/↑w<=b):=λb H=>by
  rcases Lh.1 H with H|H
  .have:=Qg S.o.own b H;exact⟨this.2,.inr oa⟩
  rcases Lh.1 H with H|H
  .have:=Qg S.k b H;exact⟨this.2,.inr oa⟩
  rcases Lh.1 H with H|H
  .have:=Qg S.m b H;exact⟨this.2,.inr oa⟩
  simp only[oM]at H;rcases H with rfl|rfl|rfl|H
  .exact⟨oa,.inr oa⟩
  .exact⟨oa,.inr oa⟩
  .exact⟨oa,.inr oa⟩
  exact⟨ov (ma b H),.inl H⟩
 refine Q6 rfl (λk5=>?_) (λk5=>?_)
 .refine Exists.elim (hzt k5) λp h3=>?_;have gx:=h3.2.1;have H:=h3.2.2;rw[H,O0 oe,O1 rfl]at hR;have gw:qv (ob vo++(ob vk++(ob vm++(b7::I::O::L')))) ↑gy p:=((hp.each p h3.1).up λb H=>(z5 b H).2).J k4;refine Qj<|QV (q3.J hv) U hh.2.1<|Qo<|XQ (us:=[us]) U U oh (by exact(by decide:1*15<=1000000)) ⟨U,hh.2.1,La⟩ λb87 k6 hw hb87 hB87=>?_;have hA22:At [] ↑k6 ⟨b87,0,none⟩ (ZJ p):=by have:=hB87.at (L:=[]) oe;rw[gx]at this;simpa using this
  have hI22:=hO.J hw;refine Qo<|JZ (m:=1) (news:=ZJ p) hI22.o.own U U U hA22 (Zj.all gw.ones) (show qs.length+1<=1073741824 by omega) (ov hw.size) λv23 w23 ho23 h7 hn23=>?_;refine Qb ?_;have hI23:=hI22.part (gw.J hw) ho23 h7 hn23 oa oa;have hB1523:=(z3.J hw).O h7 n15o;have hB1923:=(zv.J hw).O h7 n19o;refine Qc<|Qm U hB1523 U U<|QV hB1923 U U<|Qo<|Zb [Vb ky] λb92 w24 h8 hb92 hB92=>?_;have hI24:=hI23.J h8;refine Qo<|Q9 (m:=1) (news:=Vb ky) (L:=[]) hI24.k U U U (by have:=hB92.at (L:=[]) oe;simpa using this) oq (show K.length+1<=1099511627776 by omega) (oz hw.size h7.size h8.size) λv25 w25 ho25 hQ hn25=>?_;refine QN U<|Qo<|Qw (j:=0) (u:=v25) ((hB1523.J h8).O hQ n15k) U U oe (Qr ho25) λk7 g0 hB1526=>xe ?_;have hy:=hI24.kept ho25 hQ hn25 g0 ⟨T15,hB1526⟩ oa oa oa oe;refine Qt<|Qq<|QH U U<|Qa<|xe ?_;have hs826:xj [I,O] V k7:=((((z2.I hw).G h7 (λb H=>.inr (gvo b H).1)).I h8).G hQ (λb H=>.inr (gvk b H).1)).V (g0.S oe);refine⟨⟨k+1,v23,qs++[p],v25,K++[ky],vm,M⟩,og,oB,J,hs826,⟨hy.b,hy.n,hy.o,hy.k,hy.m,hy.d1,hy.d2⟩,?_,by simp only[oN,oP];omega⟩;simp only[];rw[Ls];exact hR
 have H:=hzf k5;rw[H]at hR;have hSy:=QcR ((za [] oe).J hv) (hkb.J k4);rw[gi.1]at hSy;refine Qe<|Qc<|QV z1 U U<|Qx<|hSy.S ?_;rintro r36 k6 ⟨hw,us8,c0,c1,c2,c3,sa,st,sm,se,oo,rfl,hl8,ho8,h4,g2⟩;refine Qa<|QS U U<|QS U U<|QS U U<|QL [nS,sS 0,nS,nS,nS,nS,nS,nS] λb24 w23 h7 hb24 hB24=>QL [nS,nS,nS,sS 0,nS,sS 0,nS,nS,nS] λb25 w24 h8 hb25 hB25 =>
  Qo<|ZA (us:=us8) (hB24.J h8) U U hl8 U ho8 λw25 hQ hB2425=>?_
 have hl24:=hB24.lt;have n2425:b25∉[b24]:=ol
 refine QJ [c0,c1,c2,c3,sa,sS st,sm,se,oo] (hB25.O hQ n2425) ⟨h4.1,h4.2.1,h4.2.2.1,h4.2.2.2.1,h4.2.2.2.2.1,U,h4.2.2.2.2.2.1,h4.2.2.2.2.2.2.1,h4.2.2.2.2.2.2.2.1,La⟩ λk7 g0 hB2526=>Qb ?_;have gj:sW k6 k7:=(((h7.I h8).Q hQ oa).Q g0 oa);have h1:=hw.I gj;have hs026:=k4.I h1;have hz2126:=h1.size;refine Qd<|Qj<|Zu U U<|xe<|QY rfl (λgk=>?_) (λgk=>?_)
 .rw[O1 gk]at hR;rw[<-hR]at Z;refine Qc<|x (Qv La)<|Qa<|x Qh<|QJ Xb (h721.J h1) oC λk8 hj hB727=>Qb<|Qi ⟨[Zn,sT Xb,sS (Yo (Jr c.Z q.m))],⟨U,YO hB727,U,La⟩,hs026.Q hj oa,Zn,Xb,by rw[Z];rfl,U,oC,λ_=>⟨U,U⟩,λh0=>O3 (Z.symm.I h0) gk⟩
 rw[O0 gk,O0 oe]at hR;have g2:=g2 (Lq.1 gk);have hst:=g2.1;refine Qe<|Qc ?_;have hy:=hO.J h1;have hB1926:=zv.J h1;have hB2026:=z1.J h1;refine Zd (⟨⟨ky,v,⟨sa,sm,se,suA (Jr c.Z q.m)⟩,c0,(UB (Jr c.Z q.m)).1,c1,(UB (Jr c.Z q.m)).2.1,c2,(UB (Jr c.Z q.m)).2.2⟩,cm⟩:zS) λP hP=>?_;have hPc:[sS ky.1,.string ky.2,sS v,sa,sS st,sm,se,c0,c1,c2,cm.ve,cm.vc,cm.vr,cm.vx,cm.vk]=ZJ P:=by rw[<-hP,hst]
 refine Qa<|QV hB1926 U U<|Qa<|QN U<|x (Q7 (us:=[sa,sS st,sm,se]) hB2526 U U U)<|QN U<|x (Q7 (us:=[c0,c1,c2]) hB2526 U U U) <|
  x (Q8 [(0,Vb ky),(1,[sS v]),(2,[sa,sS st,sm,se]),(3,[c0,c1,c2])] ⟨U,U,U,U,U,U,U,U,La⟩)<|QV hB2026 U U<|x (Q8 [(0,[sS ky.1,.string ky.2,sS v,sa,sS st,sm,se,c0,c1,c2]),(1,cm.cells)] ⟨U,U,U,U,La⟩) <|
  Qo<|Zb [[sS ky.1,.string ky.2,sS v,sa,sS st,sm,se,c0,c1,c2,cm.ve,cm.vc,cm.vr,cm.vx,cm.vk]] λb115 k8 hj hb115 hB115=>?_
 have hA27:At [] ↑k8 ⟨b115,0,none⟩ (ZJ P):=by have:=hB115.at (L:=[]) oe;rw[<-hPc];simpa using this
 have hI27:=hy.J hj;have hz27:=hj.size;have hLc:∀b∈ob vo++(ob vk++(ob vm++(b7::I::O::L'))),b<↑hl/\b<gy.heap.size:=λb H=>ov (z5 b H).1
 have hPA:qv (ob vo++(ob vk++(ob vm++(b7::I::O::L')))) ↑k8 P:=by
  obtain⟨hA,hC⟩:=g2.2 _ (λb H=>(hLc b H).2);have hcmX:=((((gi.2 _ (λb H=>(hLc b H).1)).J kw).J hL).J hv).J h1;rw[<-hP];exact⟨⟨(hA.J gj).J hj,(hC.k.J gj).J hj,(hC.d.J gj).J hj,(hC.r.J gj).J hj⟩,hcmX.J hj⟩
 refine Qo<|JZ (m:=1) (news:=ZJ P) hI27.o.own U U U hA27 (Zj.all hPA.ones) (show qs.length+1<=1073741824 by omega) oa λv28 w28 ho28 gl hn28=>?_;refine Qb ?_;have hI28:=hI27.part hPA ho28 gl hn28 oa oa;have hB1528:=((z3.J h1).J hj).O gl n15o;have hB1928:=(hB1926.J hj).O gl n19o;refine Qq<|Qm U hB1528 U U<|QV hB1928 U U<|Qo<|Zb [Vb ky] λb120 w29 g3 hb120 hB120=>?_;have hI29:=hI28.J g3;refine Qo<|Q9 (m:=1) (news:=Vb ky) (L:=[]) hI29.m U U U (by have:=hB120.at (L:=[]) oe;simpa using this) oq (show M.length+1<=1099511627776 by omega) (oy gl.size g3.size) λv30 w30 ho30 k9 hn30=>?_;refine QN rfl<|Qo<|Qw (j:=1) (u:=v30) ((hB1528.J g3).O k9 n15m) U U oe (Qr ho30) λw31 hs31 hB1531=>xe ?_;have h9:=hI29.mades ho30 k9 hn30 hs31 ⟨T15,hB1531⟩ oa oa oa oe;refine Qq<|QH U U<|Qa<|xe ?_;have hs831:xj [I,O] V w31:=(((((z2.I h1).I hj).G gl (λb H=>.inr (gvo b H).1)).I g3).G k9 (λb H=>.inr (gvm b H).1)).V (hs31.S oe);refine⟨⟨k+1,v28,qs++[P],vk,K,v30,M++[ky]⟩,og,oB,J,hs831,⟨h9.b,h9.n,h9.o,h9.k,h9.m,h9.d1,h9.d2⟩,?_,by simp only[oN,oP];omega⟩;simp only[];rw[Ls];have hPp:[P].map (·.pt)=[Vo c.Z v q.m]:=by
  rw[p6,<-hP];show[zS.pt _]=_;unfold zS.pt;rw[gi.1]
 rw[hPp];exact hR
theorem Qef {n:Nat}{al:LI}:∀{l:List Y0}{s:List ByteArray}{u:LI},(Yr n al s u l).1=0->(l.map (·.nm)).Nodup/\∀x∈l,x.nm∉s
 | [],_,_,_=>⟨.nil,λx hx=>by cases hx⟩
 | y::l,s,u,h=>by
  rw[Kc]at h;by_cases E:Z1 n al s y≠0
  .rw[O1 E]at h;exact O3 h E
  rw[O0 E]at h;have H:Z1 n al s y=0:=Lq.1 E;have O:y.nm∉s:=λI=>by
   unfold Z1 at H;split at H
   .exact O3 H oh
   exact O3 H oh
  obtain⟨S,J⟩:=Qef h;refine⟨Nm.2 ⟨λI=>?_,S⟩,λx hx=>?_⟩
  .obtain⟨x,hx,e⟩:=Ly.1 I;exact J x hx (by rw[e];simp)
  rcases Lk.1 hx with rfl|hx
  .exact O
  exact λI=>J x hx (Lh.2 (.inl I))
structure CkP (c:Zy):Prop where
 ev:KG c.ev=0
 ne:c.co.length≠0
 n8:c.co.length<=8
 n12:c.co.length+c.rq.length<=12
 co:(Yr c.ev.length (Vs c.ev.length) [] [] c.co).1=0
 rq:Jv c.ev.length (Yr c.ev.length (Vs c.ev.length) [] [] c.co).2.2 (Yr c.ev.length (Vs c.ev.length) [] [] c.co).2.1 c.rq=0
 cd:Ys (szs c.co) c.ex c.cs=0
theorem Qa7 :Zf c=0↔CkP c:=by
 constructor
 .intro h;unfold Zf at h;split at h
  .rename_i E;exact O3 h E
  rename_i E;split at h
  .cases h
  rename_i J;split at h
  .cases h
  rename_i O;split at h
  .rename_i H;exact O3 h H
  rename_i H;split at h
  .rename_i I;exact O3 h I
  rename_i I;exact⟨Lq.1 E,J,oa,oa,Lq.1 H,Lq.1 I,h⟩
 intro h;unfold Zf;rw[O0 (not_not_intro h.ev),O0 h.ne,O0 (oy h.n8 h.n12),O0 (not_not_intro h.co),O0 (not_not_intro h.rq)];exact h.cd
theorem QiK {sz:LI}{ex:List Uf}{cs:List xT}(h:Ys sz ex cs=0):(∀x∈ex,Yp (x.ls.map (·.1))/\x.ls.length≠0)/\∀x∈cs,Yp (x.ts.map (·.1)):=by
 unfold Ys at h;split at h
 .cases h
 split at h
 .cases h
 split at h
 .cases h
 split at h
 .rename_i E;exact O3 h E
 rename_i hx;refine⟨λx I=>?_,λx I=>?_⟩
 .have E:=(Jo _ _ _ (Lq.1 hx)) x I;unfold XR at E;split at E
  .cases E
  rename_i H;exact⟨(Vh _ _ _ E).2.1,H⟩
 have E:=(Kw _ _ _ h) x I;unfold Xd at E;split at E
 .cases E
 split at E
 .rename_i H;exact O3 E H
 rename_i H;exact(Vf _ _ _ (Lq.1 H)).2.1
theorem Qcp (h:(ZT c).1=0):∃a b,JI c.co c.ex=some a/\J8 c.co c.cs=some b/\(ZT c).2=c.co.map (J7 1)++(c.rq.map (J7 2)++(a++b))/\KE (ZT c).2=0:=by
 unfold ZT Qd3 at *;cases E:JI c.co c.ex with
 | none=>rw[E]at h;simp at h
 | some a =>
  cases H:J8 c.co c.cs with
  | none=>rw[E,H]at h;simp at h
  | some b =>
   rw[E,H]at h;simp only[]at h ⊢;by_cases hk:KE (c.co.map (J7 1)++(c.rq.map (J7 2)++(a++b)))≠0
   .rw[O1 hk]at h;exact O3 h hk
   rw[O0 hk];exact⟨a,b,U,U,U,Lq.1 hk⟩
abbrev dky (x:Yd):Ky:=(x.kd,x.nm)
theorem Qd4 {k:Int}{n:ByteArray}{x:Yd}:UA k n x=true↔dky x=(k,n):=by
 unfold UA dky;rw[LF,decide_eq_true_iff,decide_eq_true_iff,Prod.mk.injEq]
theorem QlI {l:List Yd}{k:Int}{n:ByteArray}:Ve l k n=true↔(k,n)∈l.map dky:=by
 unfold Ve YK;rw[decide_eq_true_iff];constructor
 .intro h;exact Ly.2 ⟨_,Lm h,Qd4.1 (List.findIdx_getElem (w:=h))⟩
 intro h;obtain⟨x,hx,e⟩:=Ly.1 h;exact List.findIdx_lt_length_of_exists ⟨x,hx,Qd4.2 e⟩
structure KOk (ks:List Ky):Prop where
 n:ks.length<=76
 kd:∀k (h:k<ks.length),1<=(ks[k]'h).1/\(ks[k]'h).1<=4
 nm:∀k (h:k<ks.length),YE (ks[k]'h).2=true
 no:∀k (h:k<ks.length),ks[k]'h∉ks.take k
 or:∀k (h:k<ks.length),0<k->(ks[k - 1]'oa).1<=(ks[k]'h).1
theorem Qg9 {l:List Yd}{k:Nat}(h:k<l.length):dk1 l k (l[k]'h)=0↔((1<=(l[k]'h).kd/\(l[k]'h).kd<=4)/\YE (l[k]'h).nm=true/\dky (l[k]'h)∉(l.map dky).take k/\(0<k->((l[k - 1]'oa).kd<=(l[k]'h).kd))/\yO (l[k]'h)=true):=by
 have T:((l.getD (k - 1) ⟨0,.empty,Vv,[],[],0⟩))=l[k - 1]'oa:=by rw[LR,LE oa];rfl
 have O:Ve (l.take k) (l[k]'h).kd (l[k]'h).nm=true↔dky (l[k]'h)∈(l.map dky).take k:=by rw[QlI,NV]
 unfold dk1;rw[T];constructor
 .intro E;split at E
  .cases E
  rename_i V;split at E
  .cases E
  rename_i H;split at E
  .cases E
  rename_i I;split at E
  .cases E
  rename_i S;split at E
  .cases E
  rename_i J;exact⟨oa,oA H,λe=>I (O.2 e),λhk=>oa,oA J⟩
 rintro⟨V,H,I,S,J⟩;rw[O0 oa,O0 (by rw[H];decide),O0 (λe=>I (O.1 e)),O0 (λe=>ov (S e.1)),O0 (by rw[J];decide)]
theorem yo {l:List Yd}:∀(r:List Yd) (i:Nat),dkL l i r=0↔∀k (h:k<r.length),dk1 l (i+k) (r[k]'h)=0
 | [],i=>⟨λ_ k h=>by simp at h,λ_=>rfl⟩
 | x::r,i=>by
  rw[dkL];constructor
  .intro h k hk;split at h
   .rename_i E;exact O3 h E
   rename_i E;cases k with
   | zero=>exact Lq.1 E
   | succ k =>
    have:=(yo r (i+1)).1 h k (oA hk);rw[show i+(k+1)=i+1+k by omega];exact this
  intro h;have H:dk1 l i x=0:=h 0 oe;rw[O0 (not_not_intro H)];refine(yo r (i+1)).2 λk hk=>?_;have:=h (k+1) (oA hk);rw[show i+1+k=i+(k+1) by omega];exact this
theorem QoT {l:List Yd}:KE l=0↔KOk (l.map dky)/\∀x∈l,yO x=true:=by
 unfold KE;constructor
 .intro h;split at h
  .cases h
  rename_i S;have E:∀k (hk:k<l.length),_:=λk hk=>(Qg9 hk).1 (by have:=((yo l 0).1 h) k hk;rw[LS]at this;exact this);refine⟨⟨by rw[Lj];omega,λk hk=>?_,λk hk=>?_,λk hk=>?_,λk hk I=>?_⟩,λx hx=>?_⟩
  .rw[LW];exact(E k (oA hk)).1
  .rw[LW];exact(E k (oA hk)).2.1
  .rw[LW];exact(E k (oA hk)).2.2.1
  .rw[LW,LW];exact(E k (oA hk)).2.2.2.1 I
  obtain⟨k,hk,rfl⟩:=LM hx;exact(E k hk).2.2.2.2
 rintro⟨h,J⟩;have O:=h.n;rw[Lj]at O;rw[O0 oa];refine(yo l 0).2 λk hk=>?_;rw[LS];have H:k<(l.map dky).length:=by rw[Lj];exact hk
 refine(Qg9 hk).2 ⟨?_,?_,?_,λI=>?_,J _ (Lm hk)⟩
 .have:=h.kd k H;rwa [LW]at this
 .have:=h.nm k H;rwa [LW]at this
 .have:=h.no k H;rwa [LW]at this
 have:=h.or k H I;rwa [LW,LW]at this
def qi (a:QU):QU:=⟨a.al,a.st,Vs a.st.toNat,a.ed⟩
structure POk (p:xR):Prop where
 e:Yo p.c=0
 sp:p.sp=suA p.c
 kp:p.kp=(UB p.c).1
 ds:p.ds=(UB p.c).2.1
 rm:p.rm=(UB p.c).2.2
theorem POk.new {v:Int}{m:Vw}(h:Yo (Jr c m)=0):POk (Vo c v m):=⟨h,U,U,U,U⟩
structure QcA (c:Zy)(ps:List xR):Prop where
 ck:Zf c=0
 mc:∀m∈xq c,qR c m=0/\Yo (Jr c m)=0
 ky:ps.map (·.ky)=(xq c).map (Ya c)
 cc:ps.map (·.c)=(xq c).map (Jr c)
 ok:∀p∈ps,POk p
theorem Qkb {l:List xR}{k:Ky}{p:xR}(h:yS l k=some p):p∈l/\p.ky=k:=by
 unfold yS at h;have E:=List.find?_some h;exact⟨List.mem_of_find?_eq_some h,oA E⟩
theorem Qta {v:Int}{m:Vw}(I:∀p∈bf,POk p)(h:(KK c bf v m).1=0):qR c m=0/\Yo (Jr c m)=0/\POk (KK c bf v m).2.1/\(KK c bf v m).2.1.c=Jr c m/\(KK c bf v m).2.1.ky=Ya c m:=by
 refine⟨?_,?_,?_,?_,QrO c bf v m⟩
 all_goals unfold KK at *
 .by_cases E:qR c m≠0
  .rw[O1 E]at h;exact O3 h E
  exact Lq.1 E
 all_goals
  by_cases E:qR c m≠0
  .rw[O1 E]at h;exact O3 h E
  rw[O0 E]at h
  try rw[O0 E]
  cases hf:yS bf (Ya c m)with
  | none =>
   rw[hf]at h
   first|exact h|exact POk.new h|rfl
  | some p =>
   rw[hf]at h;obtain⟨J,_⟩:=Qkb hf;simp only[]at h ⊢;by_cases H:p.c=Jr c m
   .first|exact H ▸ (I p J).e|(rw[O1 H];first|exact I p J|exact H)
   rw[O0 H]at h
   first|exact h|(rw[O0 H];first|exact POk.new h|rfl)
theorem Qmk {c:Zy}{bf:List xR}{v:Int}:∀(l:List Vw) (o:List xR) (k n:List Ky),(blL c bf v l o k n).1=0->(∀m∈l,(KK c bf v m).1=0)
 | [],_,_,_,_,_,E=>by cases E
 | m::l,o,k,n,h,m',E=>by
  rw[blL]at h;by_cases H:(KK c bf v m).1≠0
  .rw[O1 H]at h;exact O3 h H
  rw[O0 H]at h;rcases Lk.1 E with rfl|E
  .exact Lq.1 H
  split at h
  .exact Qmk l _ _ _ h m' E
  exact Qmk l _ _ _ h m' E
theorem Qml {c:Zy}{bf:List xR}{v:Int}:∀(l:List Vw) (o:List xR) (k n:List Ky),(∀m∈l,(KK c bf v m).1=0) ->
  blL c bf v l o k n=(0,o++l.map (λm=>(KK c bf v m).2.1),k++(l.filter λm=>(KK c bf v m).2.2).map (Ya c),n++(l.filter λm=>!(KK c bf v m).2.2).map (Ya c))
 | [],o,k,n,_=>by rw[blL];simp
 | m::l,o,k,n,h=>by
  have ih:=λo k n=>Qml l o k n λx hx=>h x (Ll _ hx);rw[blL,O0 (not_not_intro (h m Lr))];cases E:(KK c bf v m).2.2 with
  | true=>rw[O1 rfl,ih];simp[E,oY]
  | false=>rw[O0 oh,ih];simp[E,oY]
theorem Qmj {v:Int}(h:KX c bf v=0):Zf c=0/\∀m∈xq c,(KK c bf v m).1=0:=by
 unfold KX at h;by_cases E:Zf c≠0
 .rw[O1 E]at h;exact O3 h E
 rw[O0 E]at h;exact⟨Lq.1 E,Qmk (xq c) [] [] [] h⟩
theorem Qcy {v:Int}(h:∀m∈xq c,(KK c bf v m).1=0):qn c bf v=(0,(xq c).map (λm=>(KK c bf v m).2.1),((xq c).filter λm=>(KK c bf v m).2.2).map (Ya c),((xq c).filter λm=>!(KK c bf v m).2.2).map (Ya c)):=by
 unfold qn;rw[Qml _ _ _ _ h,Md,Md,Md]
theorem Qmh {v:Int}(O:∀p∈bf,POk p)(h:KX c bf v=0):QcA c (jC c bf v):=by
 obtain⟨S,I⟩:=Qmj h;have H:=λm E=>Qta O (I m E);have e:jC c bf v=(xq c).map (λm=>(KK c bf v m).2.1):=by unfold jC;rw[Qcy I]
 refine⟨S,λm E=>⟨(H m E).1,(H m E).2.1⟩,?_,?_,λp J=>?_⟩
 .rw[e,L4];exact MU λm E=>(H m E).2.2.2.2
 .rw[e,L4];exact MU λm E=>(H m E).2.2.2.1
 rw[e]at J;obtain⟨m,E,rfl⟩:=Ly.1 J;exact(H m E).2.2.1
abbrev Pts (L:LN)(H:xI)(v:O9)(l:List zS):Prop:=Go.Lg.K3 ZJ 15 qv L H v l
structure StV where
 c:CL
 vp:O9
 ps:List zS
structure StA (L:LN)(H:xI)(q:StV):Prop where
 c:ZG L H q.c
 p:Pts L H q.vp q.ps
theorem StA.st {L:LN}{w w':O8}{q:StV}(h:StA L ↑w q)(E:xj L w w'):StA L ↑w' q:=⟨h.c.st E,h.p.st E⟩
theorem StA.up {L L':LN}{H:xI}{q:StV}(h:StA L H q)(E:∀b∈L',b∈L\/H.size<=b):StA L' H q:=⟨h.c.up E,h.p.up E⟩
instance:Mm StA:=⟨StA.st,StA.up⟩
def StV.st (q:StV):Zy×List xR:=(q.c.Z,q.ps.map (·.pt))
structure UnV where
 b1:Nat
 b2:Nat
 s:StV
structure Ke where
 b:Nat
 s:StV
 made:Int
 vr:O9
 rs:List RpV
 vu:O9
 us:List UnV
abbrev Qbs (s:Ke):LV:=[s.s.c.ve,s.s.c.vc,s.s.c.vr,s.s.c.vx,s.s.c.vk,s.s.vp,sS s.made,s.vr,s.vu]
def Ke.own (s:Ke):LN:=s.b::(ob s.vr++ob s.vu)
def Ke.sys (s:Ke):Sys:=⟨s.s.c.Z,s.s.ps.map (·.pt),s.made,s.rs.map (·.rp),s.us.map λu=>u.s.st⟩
abbrev Vz (u:UnV):O9:=.func (.func 44) #[] #[.pointer (some ⟨u.b1,0,none⟩),.pointer (some ⟨u.b2,0,none⟩)]
structure UnA (L:LN)(H:xI)(u:UnV):Prop where
 a1:At L H ⟨u.b1,0,none⟩ u.s.c.cells
 a2:At L H ⟨u.b2,0,none⟩ [u.s.vp]
 s:StA L H u.s
theorem UnA.st {L:LN}{w w':O8}{u:UnV}(h:UnA L ↑w u)(E:xj L w w'):UnA L ↑w' u:=⟨h.a1.st E,h.a2.st E,StA.st h.s E⟩
theorem UnA.up {L L':LN}{H:xI}{u:UnV}(h:UnA L H u)(E:∀b∈L',b∈L\/H.size<=b):UnA L' H u:=⟨h.a1.up E,h.a2.up E,h.s.up E⟩
instance:Mm UnA:=⟨UnA.st,UnA.up⟩
structure Vq (L:LN)(w:O8)(s:Ke):Prop where
 blk:∃T,QP ↑w s.b T (Qbs s)
 rr:w.ownsRow 0 60 3 s.vr s.rs.length (s.rs.flatMap ZP)
 ru:w.ownsRow 0 140 1 s.vu s.us.length (s.us.map Vz)
 d1:s.b∉ob s.vr
 d2:s.b∉ob s.vu
 d3:∀b∈ob s.vr,b∉ob s.vu
 sub:∀b∈s.own,b∈L
 st:StA L ↑w s.s
 rA:∀q∈s.rs,Ub L ↑w q
 uA:∀q∈s.us,UnA L ↑w q
theorem Vq.lt {L:LN}{w:O8}{s:Ke}(h:Vq L w s):∀b∈s.own,b<w.heap.size:=λb E=>by
 unfold Ke.own at E;rcases Lk.1 E with rfl|E
 .obtain⟨T,H⟩:=h.blk;exact H.lt
 rcases Lh.1 E with E|E
 .exact(Qg h.rr b E).2
 exact(Qg h.ru b E).2
theorem Vq.O {L X:LN}{w w':O8}{s:Ke}(h:Vq L w s)(E:xj X w w')(H:∀b∈X,b∈L\/↑w<=b)(I:∀b∈s.own,b∉X):Vq L w' s:=by
 have S:s.b∉X:=I _ Lr;have V:∀b∈ob s.vr,b∉X:=λb J=>I b (Ll _ (Lh.2 (.inl J)));have Y:∀b∈ob s.vu,b∉X:=λb J=>I b (Ll _ (Lh.2 (.inr J)));obtain⟨T,Z⟩:=h.blk;exact⟨⟨T,Z.O E S⟩,Qf h.rr E V,Qf h.ru E Y,h.d1,h.d2,h.d3,h.sub,Mm.O h.st E H,λq O=>Mm.O (h.rA q O) E H,λq O=>Mm.O (h.uA q O) E H⟩
theorem Vq.J {s:Ke}(h:Vq L w s)(E:sW w w'):Vq L w' s:=h.O E (λ_ H=>by cases H) (λ_ _=>oe)
theorem Vq.up {L L':LN}{w:O8}{s:Ke}(h:Vq L w s)(E:∀b∈L',b∈L\/↑w<=b)(I:∀b∈s.own,b∈L'):Vq L' w s :=
 ⟨h.blk,h.rr,h.ru,h.d1,h.d2,h.d3,I,h.st.up E,λq H=>(h.rA q H).up E,λq H=>(h.uA q H).up E⟩
section
variable {pS:String}
theorem QtS {C:xH}{pl:xD}{e bys:Nat}{x I:xd}{v:O9}{H:xI}{k:IntKind}[h:Sl P t e sz bys z]
  (J:Za ops E=⟨d,.slice t x none (some I) none,ty,pS,af,gd⟩) (hA:Zk L H v n sz cs) (hx:ev f x=v) (O:ev f I=.int k hi) (S:hi<=n)
  (hK:∀v',Zk L H v' hi sz (cs.take (hi*sz))->XP P ops C K pl (QT f d v') w)
  (T:Z4 ops f (Za ops E)=true:=by rfl):XP P ops C K ((E,true)::pl) f w:=by
 obtain⟨v',V,Y⟩:=Qdf (P:=P) (d:=d) (ty:=ty) (pS:=pS) (af:=af) (gd:=gd) (t:=t) hA hx O S;exact Lg.p (λw'=>by rw[J];exact Y w') (by rw[J];exact hK v' V) T
end
theorem JS {v:O9}{es:List DV}(h0:K2 L ↑w v es):
  QZ sV 72 [v] w λr w'=>r=sS (KE (es.map DV.it))/\sW w w':=by
 have h:=h0.up (L':=[]) oe;have hQ:=h.arr.le;have ha:KE (es.map DV.it)=if 76<es.length then 3 else dkL (es.map DV.it) 0 (es.map DV.it):=by unfold KE;rw[Lj]
 refine Zt func72 ?_;refine Qc<|Qb<|Qd<|Qj<|QE h.arr U<|x (ZX U U)<|xe<|QY rfl (λh9=>?_) (λh9=>?_)
 .have hj:76<es.length:=by have hA:(76:Int)<(es.length:Int):=h9;omega
  refine Qc<|Qb<|Qi ⟨[_],Lb,by rw[ha,O1 hj];rfl,xj.Y _ _⟩
 have hj:¬76<es.length:=by have hA:¬(76:Int)<(es.length:Int):=h9;omega
 rw[O0 hj]at ha;refine Zd (KE (es.map DV.it)) λE hE=>?_;rw[hE]at ha;refine Qe<|Qd<|Qj<|QE h.arr U<|Qa<|xe<|Q2 (α:=Nat) [(2,6),(12,62)] (λz=>[(12,sS z)]) (λz w'=>z<=es.length/\sW w w'/\dkL (es.map DV.it) z ((es.map DV.it).drop z)=E) (λz=>es.length - z) 0 Lb ⟨Lp _,xj.Y _ _,ha.symm⟩ ?_;rintro k g w1 ⟨hk,hl,hd⟩;refine Zi rfl U (λhm=>?_) (λhm=>?_)
 .refine Qt ?_;have hB:es.length<=k:=by have hC:¬(k:Int)<(es.length:Int):=hm;omega
  rw[Lx (by rw[Lj];exact hB)]at hd;refine Qc<|Qb<|Qi ⟨[sS 0],Lb,by rw[hE,<-hd];rfl,hl⟩
 have I:k<es.length:=by have hC:(k:Int)<(es.length:Int):=hm;omega
 have hD:k<(es.map DV.it).length:=by rw[Lj];exact I
 rw[LH hD,LW,dkL]at hd;have h5:=Lm I;have hF:(es.map DV.it).take k=(es.take k).map DV.it:=NV.symm;have H:dk1 (es.map DV.it) k (es[k]'I).it=if(es[k]'I).kd<1\/4<(es[k]'I).kd then 11 else if YE (es[k]'I).nm=false then 7 else if Ve ((es.take k).map DV.it) (es[k]'I).kd (es[k]'I).nm=true then 8 else if 0<k/\(es[k]'I).kd<((es.map DV.it).getD (k - 1) ⟨0,.empty,Vv,[],[],0⟩).kd then 5 else if yO (es[k]'I).it=false then 6 else 0:=by
  unfold dk1;rw[hF];rfl
 have h1:=h.J hl;refine Qe<|Qd<|Qn<|Qj<|xp (g:=Qs) (i:=k) ZZ h1.arr U U I λhR h6=>?_;refine Zd (es[k]'I) λq hq=>?_;rw[hq]at h6 h5 H hd;have hn:=h1.each q h5;refine x (Qu h6 U U)<|QL [sS 0,.string .empty,nS,sS 0,nS,nS,nS,nS,sS 0] λb4 w2 hG hH hI=>x Qh <|
  QJ (Qs q) hI hn.ones λS hJ ho=>xe ?_
 have hr:sW w1 S:=hG.Q hJ hH;have h3:=h1.J hr;have T:∀e:Int,e≠0->dk1 (es.map DV.it) k q.it=e->E=e:=λe he h=>by rw[h,O1 he]at hd;exact hd.symm
 have h7:sW S { S with drawn:=S.drawn+1 }:=xj.X _ _
 refine Qd<|ZH [] (Xf 0 13 [7])<|p QA<|p QA<|QtS (hi:=k) U h3.arr U U oa λv' hK=>p (QF U)<|pq (λ_ J=>Qk (ho.J J) U U) <|
  p (QF rfl)<|pq (λ_ J=>Qk (ho.J J) U U)<|?_
 have hL:Zk [] ↑S v' (es.take k).length 9 ((es.take k).flatMap Qs):=by
  rw[LB,Mu oa,<-QaT Qs 9 ZZ];exact hK
 refine pk<|xg<|(yq (hL.J h7) q.kd q.nm).S ?_;rintro r4 w4 ⟨⟨i,rfl,_⟩,hM⟩;have V:sW S w4:=h7.I hM;refine⟨V,?_⟩;refine p QA<|p (λ_=>Zw U U)<|p (λ_=>Zw U U)<|p ZL<|p ZL<|pe ?_;have Y:=ho.J V;have hb:=(hl.I hr).I V;refine Qn<|QX (α:=Bool) [(28,36)] (λz=>[(28,.bool z)]) (λz w'=>w'=w4/\(z=true↔(q.kd<1\/4<q.kd))) om ?_ ?_
 .refine Qq<|Qm U Y U U<|xb (YA U U) (λhs=>?_) (λhs=>?_)
  .refine Qa<|Zm<|QB U<|Qb<|⟨true,Lb,U,⟨λ_=>.inl hs,λ_=>U⟩⟩
  refine Qa<|Qm U Y U U<|x (ZX U U)<|QB U<|Qb<|⟨_,Lb,U,⟨λe=>.inr (O5 e),λe=>O4 (e.resolve_left hs)⟩⟩
 rintro z g w5 ⟨rfl,Z⟩;refine Q6 rfl (λhg=>?_) (λhg=>?_)
 .rw[O1 (Z.1 hg)]at H;have O:=T 11 oh H;refine Qc<|Qb<|Qi ⟨[sS 11],Lb,by rw[hE,O];rfl,hb⟩
 rw[O0 (λe=>by rw[Z.2 e]at hg;cases hg)]at H;refine Qc<|Qm U Y U U<|Qx<|(Uc q.nm hn.nm w5).S ?_;rintro r6 w6 ⟨rfl,rfl⟩;refine x (Zr U)<|Qb<|Q6 U (λht=>?_) (λht=>?_)
 .rw[O1 (oA ht)]at H;have O:=T 7 oh H;refine Qc<|Qb<|Qi ⟨[sS 7],Lb,by rw[hE,O];rfl,hb⟩
 rw[O0 (oA ht)]at H;refine Qj<|Qb<|Q6 U (λhv=>?_) (λhv=>?_)
 .rw[O1 hv]at H;have O:=T 8 oh H;refine Qc<|Qb<|Qi ⟨[sS 8],Lb,by rw[hE,O];rfl,hb⟩
 rw[O0 (by rw[hv];decide)]at H;refine QX (α:=Bool) [(44,57)] (λz=>[(44,.bool z)]) (λz w'=>sW w6 w'/\(z=true↔(0<k/\q.kd<((es.map DV.it).getD (k - 1) ⟨0,.empty,Vv,[],[],0⟩).kd))) om ?_ ?_
 .refine ZH [] (Xf 0 14 [])<|p QA<|pb (λ_=>ZX U U) (λhw=>?_) (λhw=>?_)
  .have hN:0<k:=by have hS:(0:Int)<(k:Int):=hw;omega
   have hp:k - 1<es.length:=oa
   have hge:((es.map DV.it).getD (k - 1) ⟨0,.empty,Vv,[],[],0⟩).kd=(es[k - 1]'hp).kd:=by simp[oQ,hp,DV.it]
   have hO:(k:Int) - 1=((k - 1:Nat):Int):=oa
   refine p QA<|p (QF U)<|pq (λ_ J=>Qk (Y.J J) U U)<|p QA<|p QA <|
    p (λ_=>X1 U U ⟨oa,oa⟩)<|Go.Lg.pig (g:=Qs) (i:=k - 1) U ZZ (h3.J V).arr U (show Go.Lg.ev _ _=_ from O2 sS hO) hp λhT hP=>p (λ_=>Zp U)<|pq (λ_ J=>Qy ((hP.fld 0 (sS (es[k - 1]'hp).kd) U).J J) U) <|
    p (λ_=>YA U U)<|p (Z9 U)<|p ZL<|pe ?_
   refine⟨_,Lb,xj.X _ _,⟨λe=>⟨hN,by rw[hge];exact O5 e⟩,λe=>O4 (by rw[hge]at e;exact e.2)⟩⟩
  refine p QA<|ps<|ps<|ps<|ps<|ps<|ps<|ps<|ps<|ps<|p (Z9 U)<|p ZL<|pe ?_;exact⟨false,Lb,xj.X _ _,⟨λe=>(by cases e),λe=>O3 (show(0:Int)<(k:Int) by omega) hw⟩⟩
 rintro z g w7 ⟨hy,Z⟩;have h2:=hb.I hy;refine Q6 rfl (λhh=>?_) (λhh=>?_)
 .rw[O1 (Z.1 hh)]at H;have O:=T 5 oh H;refine Qc<|Qb<|Qi ⟨[sS 5],Lb,by rw[hE,O];rfl,h2⟩
 rw[O0 (λe=>by rw[Z.2 e]at hh;cases hh)]at H;refine Qc<|QV (Y.J hy) U U<|Qx<|(Qh2 (hn.J ((hr.I V).I hy))).S ?_;rintro r8 w8 ⟨rfl,h8⟩;refine x (Zr U)<|Qb<|Q6 U (λh4=>?_) (λh4=>?_)
 .rw[O1 (oA h4)]at H;refine Qc<|Qb<|Qi ⟨[sS 6],Lb,by rw[hE,(T 6 oh H)];rfl,h2.I h8⟩
 rw[O0 (oA h4)]at H;rw[H,O0 oh]at hd;refine Qe<|Qq<|QH U U<|Qa<|xe ?_;exact⟨k+1,oa,Lb,I,h2.I h8,hd⟩
section
variable {o:List Yd}{X:Option (List Yd)}
theorem QiE {y:Uf}{l:List Uf}(h:X=(JI co (y::l)).map (o++·))(E:V6 co y.ls=none):X=none:=by
 rw[h,JI,E];rfl
theorem QiD {y:Uf}{l:List Uf}(h:X=(JI co (y::l)).map (o++·)){r:List (ByteArray×Int)}(E:V6 co y.ls=some r):X=(JI co l).map ((o++[⟨3,y.nm,Vv,r,[],0⟩])++·):=by
 rw[h,JI,E];simp only[Option.map_map];congr 1;funext z;simp
theorem QiG {y:xT}{l:List xT}(h:X=(J8 co (y::l)).map (o++·))(E:V6 co y.ts=none):X=none:=by
 rw[h,J8,E];rfl
theorem QiF {y:xT}{l:List xT}(h:X=(J8 co (y::l)).map (o++·)){r:List (ByteArray×Int)}(E:V6 co y.ts=some r):X=(J8 co l).map ((o++[⟨4,y.nm,Vv,[],r,y.bd⟩])++·):=by
 rw[h,J8,E];simp only[Option.map_map];congr 1;funext z;simp
end
theorem Qkd {X:Option (List Yd)}:X=X.map (([]:List Yd)++·):=by cases X <;> rfl
theorem Qo3 (h:JI c.co c.ex=none\/J8 c.co c.cs=none):ZT c=(2,[]):=by
 unfold ZT Qd3;rcases h with h|h <;> rw[h]
 cases JI c.co c.ex <;> rfl
theorem QlG {a b l:List Yd}(E:JI c.co c.ex=some a)(H:J8 c.co c.cs=some b)(I:l=c.co.map (J7 1)++(c.rq.map (J7 2)++(a++b))):ZT c=if KE l≠0 then(KE l,[])else(0,l):=by
 unfold ZT Qd3;rw[E,H,I]
theorem JK.app {base:Nat}{w E:O8}{v H:O9}{l:List DV}{I:O8}{q:DV}(h:JK base w v l)(O:sW w E)(hb:base<=↑w)(S:∀L:LN,(∀b∈L,b<↑w)->Ji L ↑E q)
  (T:I.ownsRow base 70 9 H (l.length+1) (l.flatMap Qs++Qs q)) (V:xj (ob v) E I) (Y:∀b∈ob H,b∈ob v\/↑E<=b):JK base I H (l++[q]):=
 (Yt.J h O).app (λL Z=>S L (λb ha=>by
  rcases Z b ha with J|J
  .omega
  exact Q3 h.own b J)) T V Y
theorem QmD {c:CL}(h0:ZG L ↑w c)(kb:c.co.length<=1000)(kc:c.rq.length<=1000)(ke:c.ex.length<=1000)(kf:c.cs.length<=1000)(gy:∀q∈c.ex,q.ls.length<=100000)(hk1:∀q∈c.cs,q.ts.length<=100000):
  QZ sV 31 [c.val] w λr w'=>sW w w'/\∃v,r=.tuple #[v,sS (ZT c.Z).1]/\((ZT c.Z).1≠0->v=Zn)/\((ZT c.Z).1=0->∃l,JK ↑w w' v l/\l.map DV.it=(ZT c.Z).2):=by
 have h:=h0.up (L':=[]) oe;have hJ:=@Qo3 c.Z;have gk:=@QlG c.Z;refine Zd (ZT c.Z) λR hR=>?_;rw[hR]at hJ gk ⊢;refine Zd (JI c.Z.co c.Z.ex) λRE gr=>?_;refine Zd (J8 c.Z.co c.Z.cs) λRC gs=>?_;rw[gr,gs]at hJ gk;refine Zt func31 ?_;refine Qc<|Zg c.cells λb1 J hS kg hK=>x Qh<|Qb ?_;have kh:=hS.size;have h1:=h.J hS;refine Qc<|Qb<|Qd<|Qc<|Qm U (hK.J (xj.Y [] J)) U U<|QE (h1.co.arr.J (xj.Y [] J)) U<|Qa<|xe<|Q2 (α:=Nat×O9×List DV×List Yd) [(4,4),(6,6),(21,34)] (λz=>[(4,z.2.1),(21,sS z.1)]) (λz w'=>z.1<=c.co.length/\sW J w'/\JK ↑J w' z.2.1 z.2.2.1/\z.2.2.1.map DV.it=([]:List Yd)++z.2.2.2/\z.2.2.2.length=z.1/\z.2.2.2=(c.co.take z.1).map (λq=>J7 1 q.it)) (λz=>c.co.length - z.1) (0,Zn,[],[]) oB
  ⟨Lp _,(xj.Y [] J),Yt.nil,by rw[LT];exact U,U,U⟩ ?_
 rintro⟨k2,v2,l2,o2⟩ g w2 ⟨gz,hM,hT,hU,gt,gc⟩;simp only[]at gz hT hU gt gc;have g0:=hM.size;have ki:l2.length<=4000:=by
  have e1:=O2 oR hU;simp only[o6,oN,OM]at e1;omega
 refine Zi rfl U (λZ=>?_) (λZ=>?_)
 .refine Qt ?_;have hv:c.co.length<=k2:=by have hw:¬(k2:Int)<(c.co.length:Int):=Z;omega
  rw[Lt hv]at gc;rw[gc,Md]at hU;refine Qd<|Qc<|Qm U (hK.J hM) U U<|QE (h1.rq.arr.J hM) U<|Qa<|xe<|Q2 (α:=Nat×O9×List DV×List Yd) [(4,4),(8,8),(38,51)] (λz=>[(4,z.2.1),(38,sS z.1)]) (λz w'=>z.1<=c.rq.length/\sW J w'/\JK ↑J w' z.2.1 z.2.2.1/\z.2.2.1.map DV.it=(c.co.map (λq=>J7 1 q.it))++z.2.2.2/\z.2.2.2.length=z.1/\z.2.2.2=(c.rq.take z.1).map (λq=>J7 2 q.it)) (λz=>c.rq.length - z.1) (0,v2,l2,[]) oB
   ⟨Lp _,hM,hT,by rw[LT];exact hU,U,U⟩ ?_
  rintro⟨k3,v3,l3,o3⟩ g w3 ⟨g2,hN,hV,hW,gu,gg⟩;simp only[]at g2 hV hW gu gg;have g3:=hN.size;have kj:l3.length<=4000:=by
   have e1:=O2 oR hW;simp only[o6,oN]at e1;omega
  refine Zi U U (λZ=>?_) (λZ=>?_)
  .refine Qt ?_;have hv:c.rq.length<=k3:=by have hw:¬(k3:Int)<(c.rq.length:Int):=Z;omega
   rw[Lt hv]at gg;rw[gg]at hW;refine Qd<|Qc<|Qm U (hK.J hN) U U<|QE (h1.ex.arr.J hN) U<|Qa<|xe<|Q2 (α:=Nat×O9×List DV×List Yd) [(2,4),(10,12),(55,73)] (λz=>[(4,z.2.1),(55,sS z.1)]) (λz w'=>z.1<=c.ex.length/\sW J w'/\JK ↑J w' z.2.1 z.2.2.1/\z.2.2.1.map DV.it=(c.co.map (λq=>J7 1 q.it)++c.rq.map (λq=>J7 2 q.it))++z.2.2.2/\z.2.2.2.length=z.1/\RE=(JI c.Z.co ((c.ex.drop z.1).map XV.x)).map (z.2.2.2++·)) (λz=>c.ex.length - z.1) (0,v3,l3,[]) oB
    ⟨Lp _,hN,hV,by rw[LT];exact hW,U,gr ▸ Qkd⟩ ?_
   rintro⟨k4,v4,l4,o4⟩ g w4 ⟨g4,ht,hX,gh,gv,hO⟩;simp only[]at g4 hX gh gv hO;have g5:=ht.size;have kk:l4.length<=4000:=by
    have e1:=O2 oR gh;simp only[o6,oN]at e1;omega
   refine Zi U U (λZ=>?_) (λZ=>?_)
   .refine Qt ?_;have hv:c.ex.length<=k4:=by have hw:¬(k4:Int)<(c.ex.length:Int):=Z;omega
    rw[Lx hv]at hO;have g6:RE=some o4:=by rw[hO];simp[JI]
    refine Qd<|Qc<|Qm U (hK.J ht) U U<|QE (h1.cs.arr.J ht) U<|Qa<|xe<|Q2 (α:=Nat×O9×List DV×List Yd) [(2,4),(14,16),(77,95)] (λz=>[(4,z.2.1),(77,sS z.1)]) (λz w'=>z.1<=c.cs.length/\sW J w'/\JK ↑J w' z.2.1 z.2.2.1/\z.2.2.1.map DV.it=(c.co.map (λq=>J7 1 q.it)++c.rq.map (λq=>J7 2 q.it)++o4)++z.2.2.2/\z.2.2.2.length=z.1/\RC=(J8 c.Z.co ((c.cs.drop z.1).map KV.k)).map (z.2.2.2++·)) (λz=>c.cs.length - z.1) (0,v4,l4,[]) oB
     ⟨Lp _,ht,hX,by rw[LT];exact gh,U,gs ▸ Qkd⟩ ?_
    rintro⟨k5,v5,l5,o5⟩ g w5 ⟨g7,hP,hR5,gi,gw,hQ⟩;simp only[]at g7 hR5 gi gw hQ;have g8:=hP.size;have kn:l5.length<=4000:=by
     have e1:=O2 oR gi;simp only[o6,oN]at e1;omega
    refine Zi U U (λZ=>?_) (λZ=>?_)
    .refine Qt ?_;have hv:c.cs.length<=k5:=by have hw:¬(k5:Int)<(c.cs.length:Int):=Z;omega
     rw[Lx hv]at hQ;have g9:RC=some o5:=by rw[hQ];simp[J8]
     have hy:=gk (l:=l5.map DV.it) g6 g9 (by rw[gi,LD,LD];simp only[CL.Z,List.map_map];rfl);refine Qd<|Qj<|Qx<|(JS (hR5.dits (L:=[]) oa oe)).S ?_;rintro r6 w6 ⟨rfl,O⟩;have gx:sW w w6:=hS.I (hP.I O);refine Qb<|Qj<|Zu U U<|xe<|QY U (λgj=>?_) (λgj=>?_)
     .rw[O1 gj]at hy;refine Qj<|x Qh<|Qb<|Qi ⟨[Zn,sS (KE (l5.map DV.it))],oB,gx,Zn,by rw[hy];rfl,λ_=>U,λe=>?_⟩;rw[hy]at e;exact O3 e gj
     rw[O0 gj]at hy;refine Qe<|Qj<|x Qh<|Qb<|Qi ⟨[v5,sS 0],oB,gx,v5,by rw[hy];rfl,λe=>O3 (by rw[hy]) e,λ_=>⟨l5,(Yt.J hR5 O).base oa,by rw[hy]⟩⟩
    have E:k5<c.cs.length:=by have hw:(k5:Int)<(c.cs.length:Int):=Z;omega
    have hl:c.cs.drop k5=c.cs[k5]'E::c.cs.drop (k5+1):=LH E;have hm:c.cs.take (k5+1)=c.cs.take k5++[c.cs[k5]'E]:=Lo E;have V:=Lm E;have Y:=h1.J hP;refine Qe<|Qd<|Qn<|Qc<|xp (g:=Q5) (i:=k5) Xs Y.cs.arr U U E λgl hg=>?_;refine Zd (c.cs[k5]'E) λq hq=>?_;rw[hq]at hg hm V hl;have ha:=Y.cs.each q V;have hz:=Y.cs.nm q V;rw[hl,LO]at hQ;refine x (Qu hg U U)<|QL [.string .empty,Zn,sS 0] λb5 w6 O h2 h3=>QJ (Q5 q) h3 ⟨U,ha.one,U,La⟩ λw7 h4 ho=>xe ?_;have S:sW w5 w7:=O.Q h4 h2;have gm:=S.size;refine Qc<|Qm U ((hK.J hP).J S) U U<|QV ho U U<|Qx<|(QlM (Y.co.J S) (ha.J S) hz (hk1 q V)).S ?_;rintro r8 w8 ⟨h6,hp⟩;have hY:=S.I h6;refine Or.elim (QnL (V6 (c.co.map (·.it)) q.ts)) (λhn=>?_) (λhn=>?_)
    .have hZ:=QiG hQ hn;rw[hn]at hp;have he:r8=.tuple #[sT z9,sS 2]:=hp;subst he;refine Qa<|QS U U<|QS U U<|QL z9 λgn w9 h7 h8 h9=>QJ z9 h9 ⟨U,U,U,U,U,U,U,U,U,La⟩ λhr I ga=>Qb<|Qd<|Qj<|Zu U U<|xe<|QY U (λhh=>?_) (λhh=>O3 (show(2:Int)≠0 by decide) hh);refine Qj<|x Qh<|Qb<|Qi ⟨[Zn,sS 2],oB,hS.I ((hP.I hY).I (h7.Q I h8)),Zn,?_,λ_=>U,λe=>?_⟩
     .rw[hJ (.inr hZ)];rfl
     rw[hJ (.inr hZ)]at e;exact O3 e oh
    refine Exists.elim hn λn hn=>?_;have hE1:=QiF hQ hn;rw[hn]at hp;have he:∃d:DV,r8=.tuple #[sT (Qs d),sS 0]/\d.it=⟨4,q.nm,Vv,[],n,q.bd⟩/\∀L:LN,(∀b∈L,b<↑w7)->Ji L ↑w8 d:=hp;refine Exists.elim he λH he=>?_;have go:=he.1;have hA:=he.2.1;have hs:=he.2.2;subst go;have gp:Ji [] ↑w8 H:=hs [] oe;refine Qa<|QS U U<|QS U U<|QL z9 λgn ka h7 h8 h9=>QJ (Qs H) h9 gp.ones λw9 I ga=>Qb ?_;have gb:sW w8 w9:=h7.Q I h8;have T:=hY.I gb;have hi:∀L:LN,(∀b∈L,b<↑w5)->Ji L ↑w9 H:=λL hL=>(hs L (λb hb=>ov (hL b hb))).J gb;refine Qd<|Qj<|Zu U U<|xe<|QY U (λhh=>O3 U hh) (λhh=>?_);refine Qe<|Qq<|Qa<|QV ga U U<|?_;have hB:JK ↑J w9 v5 l5:=Yt.J hR5 T;refine Qo<|Zb [Qs H] λhC hr I gq hD=>?_;have hE:At [] ↑hr ⟨hC,0,none⟩ (Qs H):=by have:=hD.at (L:=[]) oe;simpa using this
    refine Qo<|JZ (m:=1) (news:=Qs H) (Yt.J hB I).own U U U hE (V4 (hi [] oe)) oa (oy T.size I.size) λv6 hj hF O hG=>?_;refine Qb ?_;have hH:JK ↑J hj v6 (l5++[H]):=hR5.app (T.I I) g8 (λL hL=>(hi L hL).J I) hF O hG;have hI:sW J hj:=((hP.I T).I I).G O λb hb=>.inr (Qg hR5.own b hb).1;refine Qq<|QH U U<|Qa<|xe<|⟨(k5+1,v6,l5++[H],o5++[H.it]),by show c.cs.length - (k5+1)<c.cs.length - k5;omega,oB,E,hI,hH,by simp only[];rw[Ls,gi,LD];rfl,by simp[gw],?_⟩;simp only[];rw[hA];exact hE1
   have E:k4<c.ex.length:=by have hw:(k4:Int)<(c.ex.length:Int):=Z;omega
   have hl:c.ex.drop k4=c.ex[k4]'E::c.ex.drop (k4+1):=LH E;have hm:c.ex.take (k4+1)=c.ex.take k4++[c.ex[k4]'E]:=Lo E;have V:=Lm E;have Y:=h1.J ht;refine Qe<|Qd<|Qn<|Qc<|xp (g:=Q0) (i:=k4) XG Y.ex.arr U U E λgl hg=>?_;refine Zd (c.ex[k4]'E) λq hq=>?_;rw[hq]at hg hm V hl;have ha:=Y.ex.each q V;have hz:=Y.ex.nm q V;rw[hl,LO]at hO;refine x (Qu hg U U)<|QL [.string .empty,Zn] λb5 w6 O h2 h3=>QJ (Q0 q) h3 ⟨U,ha.one,La⟩ λw7 h4 ho=>xe ?_;have S:sW w4 w7:=O.Q h4 h2;have gm:=S.size;refine Qc<|Qm U ((hK.J ht).J S) U U<|QV ho U U<|Qx<|(Qlm (Y.co.J S) (ha.J S) hz (gy q V)).S ?_;rintro r8 w8 ⟨h6,hp⟩;have hY:=S.I h6;refine Or.elim (QnL (V6 (c.co.map (·.it)) q.ls)) (λhn=>?_) (λhn=>?_)
   .have hZ:=QiE hO hn;rw[hn]at hp;have he:r8=.tuple #[sT z9,sS 2]:=hp;subst he;refine Qa<|QS U U<|QS U U<|QL z9 λgn w9 h7 h8 h9=>QJ z9 h9 ⟨U,U,U,U,U,U,U,U,U,La⟩ λhr I ga=>Qb<|Qd<|Qj<|Zu U U<|xe<|QY U (λhh=>?_) (λhh=>O3 (show(2:Int)≠0 by decide) hh);refine Qj<|x Qh<|Qb<|Qi ⟨[Zn,sS 2],oB,hS.I ((ht.I hY).I (h7.Q I h8)),Zn,?_,λ_=>U,λe=>?_⟩
    .rw[hJ (.inl hZ)];rfl
    rw[hJ (.inl hZ)]at e;exact O3 e oh
   refine Exists.elim hn λn hn=>?_;have hE1:=QiD hO hn;rw[hn]at hp;have he:∃d:DV,r8=.tuple #[sT (Qs d),sS 0]/\d.it=⟨3,q.nm,Vv,n,[],0⟩/\∀L:LN,(∀b∈L,b<↑w7)->Ji L ↑w8 d:=hp;refine Exists.elim he λH he=>?_;have go:=he.1;have hA:=he.2.1;have hs:=he.2.2;subst go;have gp:Ji [] ↑w8 H:=hs [] oe;refine Qa<|QS U U<|QS U U<|QL z9 λgn ka h7 h8 h9=>QJ (Qs H) h9 gp.ones λw9 I ga=>Qb ?_;have gb:sW w8 w9:=h7.Q I h8;have T:=hY.I gb;have hi:∀L:LN,(∀b∈L,b<↑w4)->Ji L ↑w9 H:=λL hL=>(hs L (λb hb=>ov (hL b hb))).J gb;refine Qd<|Qj<|Zu U U<|xe<|QY U (λhh=>O3 U hh) (λhh=>?_);refine Qe<|Qq<|Qa<|QV ga U U<|?_;have hB:JK ↑J w9 v4 l4:=Yt.J hX T;refine Qo<|Zb [Qs H] λhC hr I gq hD=>?_;have hE:At [] ↑hr ⟨hC,0,none⟩ (Qs H):=by have:=hD.at (L:=[]) oe;simpa using this
   refine Qo<|JZ (m:=1) (news:=Qs H) (Yt.J hB I).own U U U hE (V4 (hi [] oe)) oa (oy T.size I.size) λv6 hj hF O hG=>?_;refine Qb ?_;have hH:JK ↑J hj v6 (l4++[H]):=hX.app (T.I I) g5 (λL hL=>(hi L hL).J I) hF O hG;have hI:sW J hj:=((ht.I T).I I).G O λb hb=>.inr (Qg hX.own b hb).1;refine Qq<|QH U U<|Qa<|xe<|⟨(k4+1,v6,l4++[H],o4++[H.it]),by show c.ex.length - (k4+1)<c.ex.length - k4;omega,oB,E,hI,hH,by simp only[];rw[Ls,gh,LD];rfl,by simp[gv],?_⟩;simp only[];rw[hA];exact hE1
  have E:k3<c.rq.length:=by have hw:(k3:Int)<(c.rq.length:Int):=Z;omega
  have hl:c.rq.drop k3=c.rq[k3]'E::c.rq.drop (k3+1):=LH E;have hm:c.rq.take (k3+1)=c.rq.take k3++[c.rq[k3]'E]:=Lo E;have V:=Lm E;have Y:=h1.J hN;refine Qe<|Qd<|Qn<|Qc<|xp (g:=QK) (i:=k3) Yj Y.rq.arr U U E λgl hg=>?_;refine Zd (c.rq[k3]'E) λq hq=>?_;rw[hq]at hg hm V hl;have ha:=Y.rq.each q V;have hz:=Y.rq.nm q V;refine x (Qu hg U U)<|QL [.string .empty,Zn,sS 0,Zn,Zn] λb5 w6 O h2 h3=>QJ (QK q) h3 ⟨U,ha.al.one,U,ha.mr.one,ha.ed.one,La⟩ λw7 h4 ho=>xe ?_;have S:sW w3 w7:=O.Q h4 h2;refine Qq<|Qa<|Qm U ho U U<|QN U<|x (Q7 (us:=[q.p.va,sS q.p.a.st,q.p.vm,q.p.ve]) ho U U U)<|x (Q8 [(0,[sS 2]),(1,[.string q.nm]),(2,[q.p.va,sS q.p.a.st,q.p.vm,q.p.ve])] ⟨U,U,U,U,U,U,La⟩) <|
   Qx<|(KS (q:=⟨2,q.nm,q.p,Zn,[],Zn,[],0⟩) (L:=[]) ⟨hz,ha.J S,Ua.nil,Ua.nil⟩).S ?_
  rintro r8 w9 ⟨h6,H,rfl,hA,hs⟩;have T:=S.I h6;have gm:=S.size;have hi:∀L:LN,(∀b∈L,b<↑w3)->Ji L ↑w9 H:=λL hL=>hs L (λb hb=>ov (hL b hb));have hB:JK ↑J w9 v3 l3:=Yt.J hV T;refine Qo<|Zb [Qs H] λhC hr I gq hD=>?_;have hE:At [] ↑hr ⟨hC,0,none⟩ (Qs H):=by have:=hD.at (L:=[]) oe;simpa using this
  refine Qo<|JZ (m:=1) (news:=Qs H) (Yt.J hB I).own U U U hE (V4 (hi [] oe)) oa (oy T.size I.size) λv6 hj hF O hG=>?_;refine Qb ?_;have hH:JK ↑J hj v6 (l3++[H]):=hV.app (T.I I) g3 (λL hL=>(hi L hL).J I) hF O hG;have hI:sW J hj:=((hN.I T).I I).G O λb hb=>.inr (Qg hV.own b hb).1;refine Qq<|QH U U<|Qa<|xe<|⟨(k3+1,v6,l3++[H],o3++[H.it]),by show c.rq.length - (k3+1)<c.rq.length - k3;omega,oB,E,hI,hH,by simp only[];rw[Ls,hW,LD];rfl,by simp[gu],?_⟩;simp only[];rw[hm,Ls,<-gg,hA];rfl
 have E:k2<c.co.length:=by have hw:(k2:Int)<(c.co.length:Int):=Z;omega
 have hl:c.co.drop k2=c.co[k2]'E::c.co.drop (k2+1):=LH E;have hm:c.co.take (k2+1)=c.co.take k2++[c.co[k2]'E]:=Lo E;have V:=Lm E;have Y:=h1.J hM;refine Qe<|Qd<|Qn<|Qc<|xp (g:=QK) (i:=k2) Yj Y.co.arr U U E λgl hg=>?_;refine Zd (c.co[k2]'E) λq hq=>?_;rw[hq]at hg hm V hl;have ha:=Y.co.each q V;have hz:=Y.co.nm q V;refine x (Qu hg U U)<|QL [.string .empty,Zn,sS 0,Zn,Zn] λb5 w6 O h2 h3=>QJ (QK q) h3 ⟨U,ha.al.one,U,ha.mr.one,ha.ed.one,La⟩ λw7 h4 ho=>xe ?_;have S:sW w2 w7:=O.Q h4 h2;refine Qq<|Qa<|Qm U ho U U<|QN U<|x (Q7 (us:=[q.p.va,sS q.p.a.st,q.p.vm,q.p.ve]) ho U U U)<|x (Q8 [(0,[sS 1]),(1,[.string q.nm]),(2,[q.p.va,sS q.p.a.st,q.p.vm,q.p.ve])] ⟨U,U,U,U,U,U,La⟩) <|
  Qx<|(KS (q:=⟨1,q.nm,q.p,Zn,[],Zn,[],0⟩) (L:=[]) ⟨hz,ha.J S,Ua.nil,Ua.nil⟩).S ?_
 rintro r8 w9 ⟨h6,H,rfl,hA,hs⟩;have T:=S.I h6;have gm:=S.size;have hi:∀L:LN,(∀b∈L,b<↑w2)->Ji L ↑w9 H:=λL hL=>hs L (λb hb=>ov (hL b hb));have hB:JK ↑J w9 v2 l2:=Yt.J hT T;refine Qo<|Zb [Qs H] λhC hr I gq hD=>?_;have hE:At [] ↑hr ⟨hC,0,none⟩ (Qs H):=by have:=hD.at (L:=[]) oe;simpa using this
 refine Qo<|JZ (m:=1) (news:=Qs H) (Yt.J hB I).own U U U hE (V4 (hi [] oe)) oa (oy T.size I.size) λv6 hj hF O hG=>?_;refine Qb ?_;have hH:JK ↑J hj v6 (l2++[H]):=hT.app (T.I I) g0 (λL hL=>(hi L hL).J I) hF O hG;have hI:sW J hj:=((hM.I T).I I).G O λb hb=>.inr (Qg hT.own b hb).1;refine Qq<|QH U U<|Qa<|xe<|⟨(k2+1,v6,l2++[H],o2++[H.it]),by show c.co.length - (k2+1)<c.co.length - k2;omega,oB,E,hI,hH,by simp only[];rw[Ls,hU,LD];rfl,by simp[gt],?_⟩;simp only[];rw[hm,Ls,<-gc,hA];rfl
structure CSz (c:Zy):Prop where
 c1:c.co.length<=1000
 c2:c.rq.length<=1000
 c3:c.ex.length<=1000
 c4:c.cs.length<=1000
 x:∀q∈c.ex,q.ls.length<=100000
 k:∀q∈c.cs,q.ts.length<=100000
theorem Qio {n:Int}(h:Yp l)(E:∀x∈l,0<=x/\x<n)(H:n<=8):l.length<=8:=by
 have:=Ja l 0 n h E;omega
theorem Vj (h:Zf c=0):CSz c:=by
 have E:=Qa7.1 h;have hd:=VQ E.cd;have J:(szs c.co).length=c.co.length:=Lj _;have O:=E.n8;refine⟨oa,ov E.n12,ov hd.xl,ov hd.kl,λq H=>?_,λq H=>?_⟩
 .have:=Qio ((QiK E.cd).1 q H).1 (n:=((szs c.co).length:Int)) (λx hx=>by
   obtain⟨p,I,rfl⟩:=Ly.1 hx;exact hd.x q H p I) oa
  rw[Lj]at this;omega
 have:=(hd.k q H).2;omega
theorem CSz.its {c:CL}(h:CSz c.Z):c.co.length<=1000/\c.rq.length<=1000/\c.ex.length<=1000/\c.cs.length<=1000/\(∀q∈c.ex,q.ls.length<=100000)/\∀q∈c.cs,q.ts.length<=100000:=by
 have e1:c.Z.co.length=c.co.length:=Lj _;have e2:c.Z.rq.length=c.rq.length:=Lj _;have H:c.Z.ex.length=c.ex.length:=Lj _;have I:c.Z.cs.length=c.cs.length:=Lj _;exact⟨e1 ▸ h.c1,e2 ▸ h.c2,H ▸ h.c3,I ▸ h.c4,λq E=>h.x q.x (LK E),λq E=>h.k q.k (LK E)⟩
theorem Qfl {c:CL}(E:ZG L ↑w c)(H:CSz c.Z):
  QZ sV 31 [c.val] w λr w'=>sW w w'/\∃v,r=.tuple #[v,sS (ZT c.Z).1]/\((ZT c.Z).1≠0->v=Zn)/\((ZT c.Z).1=0->∃l,JK ↑w w' v l/\l.map DV.it=(ZT c.Z).2):=
 let h:=H.its;QmD E h.1 h.2.1 h.2.2.1 h.2.2.2.1 h.2.2.2.2.1 h.2.2.2.2.2
theorem QfD {c:CL}(E:ZG L ↑w c)(H:CSz c.Z):
  QZ sV 33 [c.val] w λr w'=>sW w w'/\Qf3 ↑w ↑w' r c.Z :=
 let h:=H.its;QrD E h.1 h.2.1
abbrev z9s:LV:=[nS,nS,nS,nS,nS,nS,sS 0,nS,nS]
instance:Bw sV 126 z9s [(0,5),(5,1),(6,1),(7,1),(8,1)]:={}
abbrev Qfa:O9:=.pointer none
abbrev pS (b:Nat):O9:=sP b
theorem QmA {c:CL}(J:ZG L ↑w c)(hz:CSz c.Z)(h3:Kb w 4096):
  QZ sV 8 [c.val] w λr w'=>sW w w'/\∃vp,r=.tuple #[vp,sS (qQ c.Z)]/\(qQ c.Z≠0->vp=Qfa)/\(qQ c.Z=0->∃s:Ke,vp=pS s.b/\s.sys=jY c.Z/\(∀b∈s.own,↑w<=b)/\Vq (s.own++oT ↑w) w' s):=by
 have h:=J.up (L':=[]) oe;have I:qQ c.Z=if(ZT c.Z).1≠0 then(ZT c.Z).1 else if Zf c.Z≠0 then Zf c.Z else KX c.Z [] 0:=rfl
 refine Zd (qQ c.Z) λE hE=>?_;rw[hE]at I ⊢;refine Zt func8 ?_;refine Qc<|Zg c.cells λb1 w1 ho h4 T=>x Qh<|Qb<|Qd<|Qc<|QV T U U<|Qx<|(Qfl (h.J ho) hz).S ?_;rintro r2 w2 ⟨V,v2,rfl,_,_⟩;have hg:=ho.I V;have hH:=V.size;refine Qa<|QS U U<|QS U U<|x Qh<|Qb<|Qj<|Zu U U<|xe<|QY rfl (λZ=>?_) (λZ=>?_)
 .rw[O1 Z]at I;refine Qj<|x Qh<|Qb<|Qi ⟨[Qfa,sS (ZT c.Z).1],oB,hg,Qfa,by rw[I];rfl,λ_=>U,λJ=>O3 (I.symm.I J) Z⟩
 rw[O0 Z]at I;refine Qe<|Qd<|Qc<|QV (T.J V) U U<|Qx<|(Xz (h.J hg)).S ?_;rintro r3 w3 ⟨rfl,ha⟩;have hh:=hg.I ha;have hI:=ha.size;refine Qb<|Qj<|Zu U U<|xe<|QY rfl (λhc=>?_) (λhc=>?_)
 .rw[O1 hc]at I;refine Qj<|x Qh<|Qb<|Qi ⟨[Qfa,sS (Zf c.Z)],oB,hh,Qfa,by rw[I];rfl,λ_=>U,λJ=>O3 (I.symm.I J) hc⟩
 rw[O0 hc]at I;have hJ:=T.lt;refine Qe<|Qc<|QV ((T.J V).J ha) U U<|Qx<|(QfD (h.J hh) hz).S ?_;rintro _ w4 ⟨hi,c4,rfl,hp,hr⟩;have hK:=hi.size;refine QJ c4.cells (((T.J V).J ha).J hi) (hr [] oe).ones λw5 hj hs=>xe ?_;have ht:sW w w5:=(hh.I hi).Q hj h4;have hL:=hj.size;have h5:∀b∈b1::oT ↑w,b<w3.heap.size:=λb H=>by
  rcases Lk.1 H with rfl|H
  .omega
  have:=MQ.1 H;omega
 have hv:ZG (b1::oT ↑w) ↑w5 c4:=(hr _ h5).st (hj.S oe);have hbld:=Qen (L':=oT ↑w) (vb:=Zn) (ps:=[]) (v:=0) hv ⟨Zk.nil _ _ _,oe⟩ (λb H=>ov (MQ.1 H)) .nil oe (h3.J ht);rw[hp]at hbld;refine Qc<|QV hs U U<|Qx<|hbld.S ?_;rintro r6 w6 ⟨he,vp,us,rfl,h6,h7,hM,h8⟩;have hN:=he.size;refine Qa<|QS U U<|QS U U<|QS U U<|QL Xb λb8 w7 h9 hA hB=>x Qh <|
  Qo<|ZA (us:=us) hB U U h6 U h7 λw8 hC hw=>Qb ?_
 have S:sW w6 w8:=h9.Q hC hA;have hy:=(ht.I he).I S;refine Qd<|Qj<|Zu U U<|xe<|QY rfl (λhl=>?_) (λhl=>?_)
 .refine Qj<|x Qh<|Qb<|Qi ⟨[Qfa,sS (KX c.Z [] 0)],oB,hy,Qfa,by rw[I];rfl,λ_=>U,λJ=>O3 (I.symm.I J) hl⟩
 have hm:KX c.Z [] 0=0:=Lq.1 hl;refine Exists.elim (h8 hm) λqs O=>Exists.elim O λq O=>?_;have hD:us=[q.v1,q.v2,q.v3]:=O.1;rw[hD]at hw;refine Qe<|Qc<|QV (hs.J (he.I S)) U U<|Qa<|Qm U hw U U<|x (Xr ((O.2.2.2.2.2 [] oe).J S).a2 rfl) <|
  x (Q8 [(0,c4.cells),(1,[vp]),(2,[sS (q.k2.length:Int)])] ⟨U,U,xS O.2.2.2.1,U,U,U,La⟩) <|
  Zg (Qbs ⟨0,⟨c4,vp,qs⟩,q.k2.length,Zn,[],Zn,[]⟩) λY w9 hn hF h1=>x Qh<|Qb ?_
 have hO:=S.size;have hP:=h1.lt;have h2:∀b∈Y::oT ↑w,b∈oT ↑w\/↑w8<=b:=λb H=>by
  rcases Lk.1 H with rfl|H
  .exact .inr hF
  exact .inl H
 refine Qi ⟨[pS Y,sS 0],oB,hy.I hn,pS Y,by rw[I,hm];rfl,λJ=>O3 (I.I hm) J,λ_=>⟨⟨Y,⟨c4,vp,qs⟩,q.k2.length,Zn,[],Zn,[]⟩,U,?_,λb H=>?_,?_⟩⟩
 .unfold Ke.sys jY;simp only[];rw[hp];have e1:qs.map (·.pt)=jC c.Z [] 0:=O.2.1;have e2:q.rp=X0 c.Z [] 0:=O.2.2.1;have e3:(X0 c.Z [] 0).made=q.k2:=by rw[<-e2];rfl
  rw[e1,e3];rfl
 .have hG:b∈[Y]:=H;rw[Lc.1 hG];omega
 refine⟨⟨_,h1⟩,QI _ _ _ _,QI _ _ _ _,by simp[ob],by simp[ob],by simp[ob],λb H=>Lh.2 (.inl H),⟨?_,?_⟩,oe,oe⟩
 .exact(((hv.J (he.I S)).up λb H=>(h2 b H).imp (Ll _) id).J hn)
 exact(Go.Lg.K3.up (Go.Lg.K3.J O.2.2.2.2.1 S) h2).J hn
theorem QjO {s:Ke}(h:Vq L w s):
  QZ sV 59 [pS s.b] w λr w'=>r=sS s.made/\w'=w:=by
 obtain⟨T,E⟩:=h.blk;refine Zt func59 ?_;refine Qc<|Qb<|Qd<|Qj<|x (Y8 underlying47 U U)<|xe<|Zl rfl<|Qe<|Qj<|Z7 U<|Qm U E U U<|Qb<|Qi ⟨[_],Lb,U,U⟩
theorem QjP {s:Ke}(h:Vq L w s)(S:CSz s.s.c.Z):
  QZ sV 11 [pS s.b] w λr w'=>sW w w'/\∃cm:CL,r=.tuple #[sT cm.cells,sS 0]/\cm.Z=s.s.c.Z/\∀L:LN,(∀b∈L,b<↑w)->ZG L ↑w' cm:=by
 obtain⟨T,V⟩:=h.blk;refine Zt func11 ?_;refine Qc<|QL Z3 λb2 w1 H Y I=>Qb ?_;have he:=H.size;refine Qd<|Qj<|x (Y8 underlying47 U U)<|xe<|Zl rfl<|Qe<|Qj<|Z7 U<|QN U<|x (Q7 (us:=s.s.c.cells) (V.J H) U U U)<|Qx<|(QfD (h.st.c.J H) S).S ?_;rintro _ w3 ⟨J,cm,rfl,Z,hC⟩;refine QJ cm.cells (I.J J) (hC [] oe).ones λw4 O ha=>Qb<|Qi ⟨[sT cm.cells,sS 0],⟨YO ha,rfl,La⟩,(H.I J).Q O Y,cm,rfl,Z,λN hN=>?_⟩;exact((hC (b2::N) (λb E=>by
  rcases Lk.1 E with rfl|E
  .exact I.lt
  have:=hN b E;omega)).st (O.S oe)).up λb E=>.inl (Ll _ E)
theorem zq {s:Ke}(h:Vq L w s)(hl:s.s.ps.length<=1000):
  QZ sV 18 [pS s.b] w λr w'=>sW w w'/\∃v es,r=.tuple #[v,sS 0]/\es.map zB.en=s.s.ps.map (λq=>q.pt.en)/\Yt ZW 10 92 zV ↑w w' v es:=by
 obtain⟨T,hB⟩:=h.blk;have hp:Pts [] ↑w s.s.vp s.s.ps:=h.st.p.up oe;refine Zt func18 ?_;refine Qc<|x Qh<|Qb<|Qd<|Qj<|x (Y8 underlying47 U U)<|xe<|Zl rfl<|Qe<|Qc<|Qb<|Qd<|Qj<|Z7 U<|Qm U hB U U<|QE hp.arr U<|Qa<|xe<|Q2 (α:=Nat×O9×List zB) [(4,4),(6,6),(14,24)] (λz=>[(4,z.2.1),(14,sS z.1)]) (λz w'=>z.1<=s.s.ps.length/\sW w w'/\Yt ZW 10 92 zV ↑w w' z.2.1 z.2.2/\z.2.2.map zB.en=(s.s.ps.take z.1).map λq=>q.pt.en) (λz=>s.s.ps.length - z.1) (0,Zn,[]) oB ⟨Lp _,xj.Y _ _,Yt.nil,U⟩ ?_;rintro⟨k,vo,l⟩ g Y ⟨hk,O,hR,H⟩;simp only[]at hk hR H;have h5:l.length=k:=by have:=O2 oR H;rw[Lj,Lj,LB]at this;omega
 refine Zi rfl U (λZ=>?_) (λZ=>?_)
 .refine Qt ?_;have hn:s.s.ps.length<=k:=by have S:¬(k:Int)<(s.s.ps.length:Int):=Z;omega
  rw[Lt hn]at H;refine Qj<|x Qh<|Qb<|Qi ⟨[vo,sS 0],oB,O,vo,l,U,H,hR⟩
 have E:k<s.s.ps.length:=by have S:(k:Int)<(s.s.ps.length:Int):=Z;omega
 have hc:s.s.ps.take (k+1)=s.s.ps.take k++[s.s.ps[k]'E]:=Lo E;have he:=Lm E;have hg:Pts [] ↑Y s.s.vp s.s.ps:=Go.Lg.K3.J hp O;refine Qe<|Qd<|Qn<|Qc<|xp (g:=ZJ) (i:=k) yQ hg.arr U U E λh6 S=>?_;refine Zd (s.s.ps[k]'E) λq hq=>?_;rw[hq]at S hc he;have hh:qv [] ↑Y q:=hg.each q he;refine x (Qu S U U)<|QL z15 λb6 w2 ho hr hs=>QJ (ZJ q) hs hh.ones λw3 ht hv=>xe ?_;have I:sW Y w3:=ho.Q ht hr;have h7:=I.size;have h8:=O.size;refine Qq<|Qa<|QN U<|x (Q7 (us:=ZW q.e) hv U U U)<|Qx<|(QrC (hh.e.J I)).S ?_;rintro r4 w4 ⟨ha,J,rfl,hw,hi⟩;have h9:=ha.size;have hy:=Q3 (hR.J I).own;refine Qo<|Zb [ZW J] λhz w5 V hA h0=>?_;have hC:=V.size;have h1:At [] ↑w5 ⟨hz,0,none⟩ (ZW J):=by have:=h0.at (L:=[]) oe;simpa using this
 have hR5:=((hR.J I).J ha).J V;refine Qo<|JZ (m:=1) (news:=ZW J) hR5.own U U U h1 (hi [] oe).ones.all oa oa λv6 w6 h2 hj h3=>?_;refine Qb ?_;have h4:Yt ZW 10 92 zV ↑w w6 v6 (l++[J]):=hR5.app (λL hL=>(hi L (λb hb=>by
  rcases hL b hb with h|h
  .omega
  exact hy b h)).J V) h2 hj h3
 refine Qq<|QH U U<|Qa<|xe<|⟨(k+1,v6,l++[J]),by show s.s.ps.length - (k+1)<s.s.ps.length - k;omega,oB,E,((((O.I I).I ha).I V).G hj λb hb=>.inr (Qg hR.own b hb).1),h4,?_⟩;simp only[];rw[hc,Ls,Ls,H,LO,LO,hw];rfl
theorem QgY {α:Type}(g:α->LV)(sz:Nat)(E:∀x,(g x).length=sz):∀(l:List α) (k:Nat),(l.flatMap g).drop (k*sz)=(l.drop k).flatMap g
 | [],k=>oe
 | a::l,0=>oe
 | a::l,k+1=>by
  rw[show(k+1)*sz=(g a).length+k*sz by rw[E a,Nat.succ_mul];omega,LQ,List.drop_append,Lx oa,Md,MW,QgY g sz E l k];rfl
theorem QdU {base:Nat}{v:O9}{l:List DV}(h:JK base w v l):∀q∈l,∀u∈Qs q,u.oneCell'=true:=λq E=>V4 (h.each q E [] oe)
theorem JK.turn {base:Nat}{v r:O9}{l l':List DV}(h:JK base w v l)(H:xj (ob v) w w')(I:∀b∈ob r,b∈ob v)(J:∀q∈l',q∈l)(O:w'.ownsRow base 70 9 r l'.length (l'.flatMap Qs)):JK base w' r l' :=
 ⟨O,λq S L T=>Mm.S (Mm.st (L:=ob v++L) (h.each q (J q S) _ λb E=>by
  rcases Lh.1 E with E|E
  .exact .inr E
  exact(T b E).imp id (I b)) (H.S λb E=>Lh.2 (.inl E))) λb E=>Lh.2 (.inr E)⟩
theorem QoX {base:Nat}{v:O9}{l:List DV}(hR:JK base w v l){k:Nat}(hk:k<l.length)(hl:l.length<=1000):
  QZ sV 157 [v,sS (k:Int),sS ((k+1:Nat):Int)] w λr w'=>xj (ob v) w w'/\JK base w' r (l.take k++l.drop (k+1)):=by
 have h:=hR.own;have ha:=QdU hR;have O:∀(r:O9) (w':O8),xj (ob v) w w'/\ob r=ob v/\w'.ownsRow base 70 9 r (l.length - 1) ((l.take k++l.drop (k+1)).flatMap Qs)->xj (ob v) w w'/\JK base w' r (l.take k++l.drop (k+1)):=λr w' ⟨E,I,h3⟩ =>
  ⟨E,JK.turn hR E (λb hb=>I ▸ hb) (λq J=>(Lh.1 J).elim (λh=>L8 h) (λh=>Mf h)) (by
   have e:(l.take k++l.drop (k+1)).length=l.length - 1:=by rw[Ln,LB,L5];omega
   rw[e];exact h3)⟩
 refine QZ.S ?_ O;clear O hR;obtain⟨g,cap,rfl⟩:=X7 h oa;obtain⟨ht,cur,hB,he,hg⟩:=JC h;refine Zt func157 ?_;refine Qc<|Qb<|Qj<|Qa<|Qa<|Qa<|x (Un U)<|x (QhY (lo:=k) (hi:=k+1) (m:=l.length) U U U U oa oa oa)<|xe<|Qd<|Qj<|Qa<|x (QW U U)<|xe<|QY rfl (λS=>O3 (show(k:Int)=((k+1:Nat):Int) from S) oa) (λS=>?_);refine Qe<|Qj<|x (Un U)<|Qb ?_;have H:((l.drop (k+1)).flatMap Qs).length=(l.length - (k+1))*9:=by rw[xN ZZ,L5]
 have hh:At [] ↑w ⟨g,if cap=k+1 then 0 else(k+1)*9,none⟩ ((l.drop (k+1)).flatMap Qs):=by
  by_cases hc:cap=k+1
  .have:(l.drop (k+1)).flatMap Qs=[]:=LA (by rw[H];omega);rw[this];exact⟨λu hu=>(by cases hu),λu hu=>(by cases hu),λj u hu=>(by cases hu)⟩
  rw[O0 hc];have E:=Qhz (QC (L:=[]) h oa oe) rfl;refine⟨λu _=>oe,λu hu=>E.lt u (by rw[<-QgY Qs 9 ZZ]at hu;exact Mf hu),λj u hu=>?_⟩;rw[<-QgY Qs 9 ZZ,MF]at hu;have I:=E.cell _ u hu;have e:(⟨g,(k+1)*9,none⟩:Addr).add j=(⟨g,0,none⟩:Addr).add ((k+1)*9+j):=by rw[Addr.add_lit,Addr.add_lit,LS]
  rw[e];exact I
 have hj:∀u∈(l.drop (k+1)).flatMap Qs,u.oneCell'=true:=λu hu=>by
  obtain⟨q,J,hu⟩:=Mr.1 hu;exact ha q (Mf J) u hu
 refine Qd<|UF (λ_=>True) [oE 0,oE 1,oE 2,oE 3,oE 4,oE 5,oF 6,oE 7] mixed om od La ?_;have hd:sW w { w with drawn:=w.drawn+1 }:=xj.X _ _
 refine p QA<|p QA<|p (λ_=>JN (hi:=k) U U oa)<|p QA<|p QA<|p (λ_=>qH (lo:=k+1) U U oa) <|
  pk<|QqI (g:=g) (n:=k) (cap:=cap) (cur:=cur) (m:=l.length - (k+1)) (L:=[]) hB U he U H (hh.J hd) hj oa λw2 hm T=>⟨La,p ZL<|pe ?_⟩
 have hn:xj [g] w w2:=hd.any.V hm;have em:k+(l.length - (k+1))=l.length - 1:=oa
 have V:(cur.take (k*9)++(l.drop (k+1)).flatMap Qs).length=(l.length - 1)*9:=by
  rw[Ln,LB,H];omega
 have ho:(cur.take (k*9)++(l.drop (k+1)).flatMap Qs++cur.drop (k*9+((l.drop (k+1)).flatMap Qs).length)).length=cap*9:=by
  rw[Ln,V,L5,H];omega
 have Y:(cur.take (k*9)++(l.drop (k+1)).flatMap Qs++cur.drop (k*9+((l.drop (k+1)).flatMap Qs).length)).take ((l.length - 1)*9)=(l.take k++l.drop (k+1)).flatMap Qs:=by
  rw[List.take_left' V,LC,<-QaT Qs 9 ZZ l k,<-hg,Ni,Mu oa]
 refine Zd (cur.take (k*9)++(l.drop (k+1)).flatMap Qs++cur.drop (k*9+((l.drop (k+1)).flatMap Qs).length)) λhv hp=>?_;rw[hp]at T ho Y;refine Qj<|Qa<|x (Un U)<|Qa<|x (QhX (lo:=k+(l.length - (k+1))) (hi:=l.length) U U U oa oa oa) <|
  Qo<|Qgx (m:=l.length - (k+(l.length - (k+1)))) (o:=(k+(l.length - (k+1)))*9) (λu hu=>by simp[Value.cells]at hu;rcases hu with rfl|rfl|rfl|rfl|rfl|rfl|rfl|rfl|rfl <;> rfl) T ⟨_,rfl,λ_=>⟨U,oa⟩⟩ λw3 hw hr hs hy Z=>xe ?_
 refine Qj<|Qb<|Qi ⟨[sL g (k+(l.length - (k+1))) cap],Lb,hn.V hr,U,?_⟩;rw[em]at Z ⊢;exact VW h oa hs oa (Z.I Y) (by rw[xN ZZ,Ln,LB,L5];omega)
section
variable {pS:String}
theorem yd {e bys:Nat}[h:Sl P t e sz bys z]{x:xd}{o dLen dCap:Nat}{cur:LV}{a:Addr}{sLen sCap:Nat}(H:QP ↑w g T cur)(hx:ev f x=.slice (some ⟨g,o,none⟩) dLen dCap)(O:ev f y=.slice (some a) sLen sCap)
  (S:cs.length=Nat.min sLen dLen*sz)  (V:At L ↑w a cs) (Y:o+cs.length<=cur.length) (Z:∀u∈cs,u.oneCell'=true)
  (hK:∀w',xj [g] w w'->QP ↑w' g T (cur.take o++cs++cur.drop (o+cs.length))->K (QT f d (goInt (Nat.min sLen dLen))) w'):XO P ⟨d,.call ⟨.builtin .copy,#[x,y],#[t,E]⟩,ty,pS,af,gd⟩ f w K:=by
 obtain⟨i,hi,hz,ha,_⟩:=Sl.info h;have I:=run_storeCells_at P g o T cs 0 cur.toArray w H (oA Y) Z;have J:(Builtin.copy_ #[t,E] ty #[.slice (some ⟨g,o,none⟩) dLen dCap,.slice (some a) sLen sCap]).run P w=.ok (goInt (Nat.min sLen dLen)) (w.setRow g (cur.take o++cs++cur.drop (o+cs.length)).toArray):=by
  simp[Builtin.copy_,run_underlying h.u,Builtin.lenOf,Builtin.firstCells,sizeOf,typeInfo,hi,ha,<-S,(run_loadCells_list (P:=P) w a cs V.cells)]at I ⊢;simp[I]
 have hb:(execOp (ev f) ⟨d,.call ⟨.builtin .copy,#[x,y],#[t,E]⟩,ty,pS,af,gd⟩).run P w=.ok (.value (goInt (Nat.min sLen dLen))) (w.setRow g (cur.take o++cs++cur.drop (o+cs.length)).toArray):=by
  simp[execOp,resolve,invoke,builtin,hx,O]at J ⊢;simp[J]
 exact xv hb (hK _ (xj.setRow _ _ _) (X5 H))
end
section
variable {pS:String}
theorem QqG {ti e bys:Nat}[h:Sl P t e sz bys z](V:P.underlying ti=some (.int .i64)){s:xd}{E:Addr}{L0:LN}(Y:At L0 ↑w E cs)(Z:ev f s=.slice (some E) n cap)(H:cs.length=n*sz)
  {m:Nat} (hy:ev f y=sS m) (hm:0<m) (ha:cap<n+m) (hb:n+m<=1048576)
  (hK:∀b c' w' zs,sW w w'->↑w<=b->n+m<=c'->zs.length=m*sz->w'.ownsRow ↑w e sz (sL b (n+m) c') (n+m) (cs++zs)->K (QT f d (sL b (n+m) c')) w') (hc:bys<=131072:=by decide):
  XO P ⟨d,.call ⟨.builtin .append,#[s,y],#[t,ti]⟩,ty,pS,af,gd⟩ f w K:=by
 obtain⟨i,hi,hz,J,O⟩:=Sl.info h;have S:(n+m)*bys<=140737488355328:=LJ (Nat.mul_le_mul hb hc) oa;have he:n+m<=maxLen:=by simp only[maxLen];omega
 have hn:¬(n+m<=cap):=oa
 have hg:¬(9223372036854775807<((n:Int)+(m:Int))):=oa
 have ht:=growslice_fits (bytes:=i.bytes) ha (by rw[O];exact S);have hh:¬(281474976710656<Builtin.nextslicecap (n+m) cap*i.bytes):=oa
 have hj:IntKind.i64.wrap (m:Int)=(m:Int):=by rw[IntKind.wrap_i64];omega
 have hl:¬((m:Int)<0):=oa
 have hv:m*i.bytes<=140737488355328:=by rw[O];exact LJ (Ma _ (Nat.le_add_left m n)) S
 have ho:¬(281474976710656<(m:Int)*(i.bytes:Int)):=by
  have:((m*i.bytes:Nat):Int)<=140737488355328:=oa
  rw[Int.natCast_mul]at this;omega
 have hr:(Builtin.append_ #[t,ti] ty #[.slice (some E) n cap,sS m]).run P w=.ok (.slice (some ⟨↑w,0,none⟩) (n+m) (grownCap w (n+m) cap e)) (w.drew.alloc (Obj.cells (cs.toArray++(Builtin.zeroCells z.cells m).toList.toArray++Builtin.zeroCells z.cells (grownCap w (n+m) cap e - (n+m))) e)):=by
  simp[Builtin.append_,run_underlying h.u,run_underlying V,sizeOf,typeInfo,zeroValue,hi,hz,hn,hg,hh,Question.forced,(run_firstCells_some (P:=P) w.drew i.size n E n cap cs (by rw[J];exact H) (oA Y.cells)),newRow,grownCap,asInt,asIntOf,hj,hl,ho];intro h0;have h1:0<m*i.size:=Nat.mul_pos hm (by rw[J];exact h.pos);omega
 have hp:(execOp (ev f) ⟨d,.call ⟨.builtin .append,#[s,y],#[t,ti]⟩,ty,pS,af,gd⟩).run P w=.ok (.value (.slice (some ⟨↑w,0,none⟩) (n+m) (grownCap w (n+m) cap e))) (w.drew.alloc (Obj.cells (cs.toArray++(Builtin.zeroCells z.cells m).toList.toArray++Builtin.zeroCells z.cells (grownCap w (n+m) cap e - (n+m))) e)):=by
  simp[execOp,resolve,invoke,builtin,Z,hy,hr]
 have hge:=grownCap_ge w (n+m) cap e;have hq:grownCap w (n+m) cap e<=maxLen:=grownCap_le_maxLen w (n+m) cap e he;have I:(Builtin.zeroCells z.cells m).toList.length=m*sz:=by simp[Builtin.zeroCells,h.zs]
 have T:(cs++(Builtin.zeroCells z.cells m).toList).length=(n+m)*sz:=by rw[Ln,H,I,MB]
 refine xv hp (hK _ _ _ _ ⟨U,U,U,by rw[V8];exact NW _,λk hk _=>zi w.drew _ k hk⟩ (Lu _) hge I ⟨T,.inr ⟨↑w,_,_,U,Lu _,KI w.drew _,hge,hq,?_,?_⟩⟩)
 .simp only[Array.size_append,Oc,size_zeroCells,h.zs,H,I,<-Ot];congr 1;omega
 simp only[Array.toList_append,oY];rw[<-LD,<-T];exact List.take_left
theorem Qst {x:xd}{a:Option Addr}{c e:Nat}(hu:P.underlying t=some (.slice e))(hx:ev f x=.slice a n c):
  sR P f w d (.call ⟨.builtin .cap,#[x],#[t]⟩) ty pS af gd (sS c):=by
 simp[sR,execOp,resolve,invoke,builtin,Builtin.cap_,hx,run_underlying hu,goInt]
theorem Qss {x:xd}{tS tR e:Nat}{ts:Array Nat}(hf:P.funcs[g]?=some fn)(J:(fn.name == "runtime.NumGoroutine")=false) (O:fn.body.isNone=true) (S:Extern.findNext fn=none)
  (T:Extern.find fn=some (Extern.SlicesOverlaps.overlaps #[tS,tS] #[tR])) (V:P.underlying tS=some (.slice e)) {size:Nat} (Y:∀w,(sizeOf e).run P w=.ok size w) {a b:Addr} {la ca lb cb TA TB:Nat} {vs:LV} (hx:ev f x=.slice (some a) la ca) (H:ev f y=.slice (some b) lb cb)
  (hA:QP ↑w a.block TA us) (Z:QP ↑w b.block TB vs) (ha:a.block≠b.block) (hg:vs.length≠0) (hh:a=⟨a.block,0,none⟩):
  sR P f w d (.call ⟨.value (.func g),#[x,y],ts⟩) ty pS af gd (.bool false):=by
 unfold sR
 have hi:w.shape? a.block=some (TA,us.length):=by
  have E:w.heap[a.block]?=some (.cells us.toArray TA (0,0)):=hA;simp[World.shape?,E]
 have hj:w.shape? b.block=some (TB,vs.length):=by
  have E:w.heap[b.block]?=some (.cells vs.toArray TB (0,0)):=Z;simp[World.shape?,E]
 have hfr:∀o,w.frozen? { block:=a.block,off:=o }=false:=λo=>by
  have E:w.heap[a.block]?=some (.cells us.toArray TA (0,0)):=hA;simp[World.frozen?,E]
 have I:=run_callFunc_extern hf J O S T #[ev f x,ev f y] w;rw[hx,H,(Lib.run_overlaps_apart (P:=P) w tS tR e V size Y a b la ca lb cb ha TA TB us.length vs.length hi hj hg (by rw[hh];exact hfr 0) (hfr _))]at I;have h0:ev f (.func g)=.func (.func g) #[] #[]:=rfl;simp[execOp,resolve,h0,Deferred.ofValue,invoke,hx,H,I,Result.andThen]
end
theorem X6 {pS:String}{e bys:Nat}[Sl P t e sz bys z]{x E:xd}{k:IntKind}(hx:ev f x=sL b n cap)(H:ev f E=.int k lo)(I:lo<=n)(O:lo<cap):
  sR P f w d (.slice t x (some E) none none) ty pS af gd (.slice (some ⟨b,lo*sz,none⟩) (n - lo) (cap - lo)):=by
 unfold sR
 have J:=qH (P:=P) (w:=w) (d:=d) (ty:=ty) (pS:=pS) (af:=af) (gd:=gd) (t:=t) hx H I
 rwa [O0 oa]at J
theorem JK.turn2 {base:Nat}{v r:O9}{l l':List DV}(h:JK base w v l)(O:xj (ob v) w w')(S:∀b∈ob r,b∈ob v\/↑w<=b){q:DV}(T:∀L:LN,(∀b∈L,b<base\/b∈ob v)->Ji L ↑w q)(V:∀d∈l',d∈l\/d=q)
  (Y:w'.ownsRow base 70 9 r l'.length (l'.flatMap Qs)):JK base w' r l':=by
 refine⟨Y,λd hd L I=>?_⟩;have Z:∀L:LN,(∀b∈L,b<base\/b∈ob v)->Ji L ↑w d:=λL I=>(V d hd).elim (λH=>h.each d H L I) (λH=>H ▸ T L I);have H:Ji (ob v++L) ↑w d:=Mm.up (Z (ob v++L.filter λb=>decide (b<base)) λb E=>(Lh.1 E).elim .inr λE=>.inl (O5 (LY.1 E).2)) λb E=>by
  rcases Lh.1 E with E|E
  .exact .inl (Lh.2 (.inl E))
  rcases I b E with J|J
  .exact .inl (Lh.2 (.inr (LY.2 ⟨E,O4 J⟩)))
  exact(S b J).imp (λh3=>Lh.2 (.inl h3)) id
 exact Mm.S (Mm.st H (O.S λb E=>Lh.2 (.inl E))) λb E=>Lh.2 (.inr E)
theorem VY {qs:LV}{s:Nat}(E:cs.length=n*s)(H:qs.length=s)(hi:i<=n):(cs.take (i*s)++qs++cs.drop (i*s)).length=(n+1)*s:=by
 have I:i*s<=n*s:=Ma _ hi;simp only[oN,Ob,Oa,E,H,Ot];omega
theorem Qoq {base:Nat}{v:O9}{l:List DV}(hR:JK base w v l)(hs:base<=↑w)(hl:l.length<=1000)(hi:i<=l.length){q:DV}(hq:∀L:LN,(∀b∈L,b<base\/b∈ob v)->Ji L ↑w q){bq:Nat}(O:QP ↑w bq T (Qs q))(hK:bq∉ob v):
  QZ sV 160 [v,sS (i:Int),sL bq 1 1] w λr w'=>xj (ob v) w w'/\JK base w' r (l.take i++q::l.drop i)/\∀b∈ob r,b∈ob v\/↑w<=b:=by
 have h:=hR.own;have V:=(hq [] oe).ones.all;have ht:=QdU hR;have H:(l.flatMap Qs).length=l.length*9:=xN ZZ l;have hv:(l.take i++q::l.drop i).length=l.length+1:=by simp only[oN,Ob,oV,Oa];omega
 have hw:(l.take i++q::l.drop i).flatMap Qs=(l.flatMap Qs).take (i*9)++Qs q++(l.flatMap Qs).drop (i*9):=by
  rw[QaT Qs 9 ZZ,QgY Qs 9 ZZ,LC,LQ,LD]
 have hy:∀d∈l.take i++q::l.drop i,d∈l\/d=q:=λd hd=>by
  rcases Lh.1 hd with hd|hd
  .exact .inl (L8 hd)
  rcases Lk.1 hd with rfl|hd
  .exact .inr U
  exact .inl (Mf hd)
 have hz:∀(r:O9) (w':O8),xj (ob v) w w'/\(∀b∈ob r,b∈ob v\/↑w<=b)/\w'.ownsRow base 70 9 r (l.length+1) ((l.flatMap Qs).take (i*9)++Qs q++(l.flatMap Qs).drop (i*9))->xj (ob v) w w'/\JK base w' r (l.take i++q::l.drop i)/\∀b∈ob r,b∈ob v\/↑w<=b:=λr w' ⟨h1,h2,h3⟩ =>
  ⟨h1,hR.turn2 h1 h2 hq hy (by rw[hv,hw];exact h3),h2⟩
 refine QZ.S ?_ hz;have Y:∀u∈l.flatMap Qs,u.oneCell'=true:=λu hu=>by
  obtain⟨d,hd,hu⟩:=Mr.1 hu;exact ht d hd u hu
 clear hz hR hy hv hw ht;refine Zd (l.flatMap Qs) λcs Z=>?_;refine Zd l.length λn hn=>?_;rw[Z,hn]at h;rw[Z,hn]at H;rw[Z]at Y ⊢;rw[hn]at hl hi ⊢;have hA:=QC (L:=[]) h oa oe;refine Zt func160 ?_;refine Qc<|Qb<|Qj<|Qa<|QtD (lo:=i) hA U U hi λgk _=>xe ?_;refine Qj<|x (Un U)<|Qb<|Qd<|Qj<|x (QW U U)<|xe<|QY rfl (λhL=>O3 (show((1:Nat):Int)=0 from hL) oh) (λ_=>?_);refine Qe<|Qj<|QE hA U<|Qb<|Qd<|Qj<|Qa<|x (QW U U)<|xe<|QY rfl (λha=>?_) (λha=>?_)
 .have hM:i=n:=by have hN:(i:Int)=(n:Int):=ha;omega
  refine Qj<|Qa<|Qo<|JZ (m:=1) (news:=Qs q) h U U U (O.at (L:=[]) oe) V oa hs λv1 w1 hO hP hQ=>Qb<|Qi ⟨[v1],⟨rfl,La⟩,hP,hQ,?_⟩;rw[hM,<-H,Nd,List.drop_length,LT];exact hO
 have gl:i<n:=by have hN:¬(i:Int)=(n:Int):=ha;omega
 obtain⟨g,cap,ev⟩:=X7 h oa;have hc:ob v=[g]:=by rw[ev];rfl
 have he:=h;rw[ev]at he;obtain⟨gm,cur,J,hg,h0⟩:=JC he;have h4:bq≠g:=λe=>hK (by rw[hc,e];exact Lc.2 U);have h5:At [] ↑w ⟨g,0,none⟩ cs:=Qhz hA ev;have gn:i*9<=n*9:=Ma _ hi;have h6:∀w':O8,QP ↑w' g 70 cur->At [] ↑w' ⟨g,i*9,none⟩ (cs.drop (i*9)):=λw' h7=>by
  refine⟨λu _=>oe,λu _=>h7.lt,λj u hu=>?_⟩;rw[MF,<-h0,L3]at hu;split at hu
  .have e:(⟨g,i*9,none⟩:Addr).add j=⟨g,i*9+j,none⟩:=KP g (i*9) j;rw[e,h7.cell];exact hu
  cases hu
 refine Qe<|Qd<|Qj<|Qa<|QH U U<|Qa<|x (Qst underlying115 ev)<|x (ZX U U)<|xe<|QY rfl (λhh=>?_) (λhh=>?_)
 .have h8:cap<n+1:=by have hS:(cap:Int)<(n:Int)+((1:Nat):Int):=hh;omega
  have hT:At [] ↑w ⟨g,0,none⟩ (cs.take (i*9)):=⟨λu _=>oe,λu hu=>h5.lt u (List.mem_of_mem_take hu),λj u hu=>h5.cell j u (by rw[List.getElem?_take]at hu;split at hu;exact hu;cases hu)⟩;have hU:(cs.take (i*9)).length=i*9:=by rw[LB];omega
  refine Qj<|Qa<|x (JN (hi:=i) ev U oa)<|Qa<|Qa<|QH U U<|Qa<|x (X1 U U ⟨oa,oa⟩) <|
   Qo<|QqG (n:=i) (cap:=cap) (m:=n+1 - i) underlying3 hT U hU (show Go.Lg.ev _ _=_ from O2 sS oa) oa oa oa λb2 c2 w2 zs hj h9 go gp hm=>Qb ?_
  have en:i+(n+1 - i)=n+1:=oa
  obtain⟨_,E,hV,hW,hC⟩:=JC hm;rw[en]at hC;have gq:(n+1)*9<=E.length:=by rw[hW];exact Ma _ oa
  have n2g:g≠b2:=by have:=J.lt;omega
  have hX:(i+1)*9<=(n+1)*9:=Ma _ oa;refine Qj<|Qa<|x (X6 (lo:=i) U U oa oa)<|Qa<|Qo<|yd (cs:=Qs q) hV U U (by rw[show Nat.min 1 (i+(n+1 - i) - i)=1 from Mu oa];exact ZZ q) ((O.J hj).at (L:=[]) oe) (by rw[ZZ];omega) V λw3 hD hE=>xe ?_;have ho:(E.take (i*9)++Qs q++E.drop (i*9+(Qs q).length)).length=E.length:=by simp only[oN,Ob,Oa,ZZ];omega
  have hF:(E.take (i*9)++Qs q++E.drop (i*9+(Qs q).length)).take ((i+1)*9)=cs.take (i*9)++Qs q:=by
   have e1:(E.take (i*9)++Qs q).length=(i+1)*9:=by rw[Ln,LB,ZZ];omega
   rw[List.take_left' e1];congr 1;have:=O2 (List.take (i*9)) hC;rw[Ni,Mu oa,Nb oa,Ni,Nat.min_self]at this;exact this
  refine Zd (E.take (i*9)++Qs q++E.drop (i*9+(Qs q).length)) λgr hY=>?_;rw[hY]at hE ho hF;have I:(cs.drop (i*9)).length=(n - i)*9:=by rw[L5,H,Nat.sub_mul]
  refine Qd<|ZH [] (Xf 0 9 [8])<|p QA<|p QA<|p QA<|p (λ_=>X2 U U ⟨oa,oa⟩)<|p (λ_=>X6 (lo:=i+1) U U oa oa) <|
   p QA<|p QA<|p (λ_=>X6 (lo:=i) ev U oa oa)<|pkk<|yd (cs:=cs.drop (i*9)) (hE.J (xj.X _ _)) U U (by rw[I,show Nat.min (n - i) (i+(n+1 - i) - (i+1))=n - i from Mu oa]) (h6 _ (((J.J hj).O hD (oA n2g)).J (xj.X _ _))) (by rw[I,ho];omega) (λu hu=>Y u (Mf hu)) λw4 hp S=>pe ?_
  refine Qj<|Qb ?_;have hZ:xj [b2] w2 w4:=hD.V ((xj.X [] w3).any.V hp);refine Qi ⟨[sL b2 (i+(n+1 - i)) c2],Lb,(hj.Q hZ h9).any,λb hb=>?_,?_⟩
  .have ga:b∈[b2]:=hb;rw[Lc.1 ga];exact .inr h9
  rw[en]at hm ⊢;refine VW (Zv hm hs) (Lu _) S ?_ ?_ (VY H (ZZ q) hi)
  .simp only[oN,Ob,Oa,I,ho];omega
  rw[hF];exact List.take_left' (VY H (ZZ q) hi)
 have h8:n+1<=cap:=by have hS:¬(cap:Int)<(n:Int)+((1:Nat):Int):=hh;omega
 have hX:(i+1)*9<=(n+1)*9:=Ma _ oa;have I:(cs.drop (i*9)).length=(n - i)*9:=by rw[L5,H,Nat.sub_mul]
 refine Qe<|Qj<|Qa<|Qa<|QH U U<|x (JN (hi:=n+1) ev U oa)<|Qb<|Qd<|Qj<|Qa<|Qa<|Qa<|QH U U<|x (X6 (lo:=i+1) U U oa oa) <|
  x (Qss func238 od od od (tS:=115) (tR:=4) od underlying115 sizeOf70 (a:=⟨bq,0,none⟩) (b:=⟨g,(i+1)*9,none⟩) U U O J h4 (by rw[hg];omega) U)<|x (Zr U)<|xe ?_
 refine Q6 rfl (λ_=>?_) (λgb=>O3 gb oh);have en:n+1 - (i+1)=n - i:=oa
 refine Qd<|ZH [] (Xf 0 9 [8])<|p QA<|p QA<|p QA<|p (λ_=>X2 U U ⟨oa,oa⟩)<|p (λ_=>X6 (lo:=i+1) U U oa oa) <|
  p QA<|p QA<|p (λ_=>X6 (lo:=i) U U oa oa)<|pkk<|yd (cs:=cs.drop (i*9)) (J.J (xj.X _ _)) U U (by rw[I,show Nat.min (n+1 - i) (n+1 - (i+1))=n - i from(Nat.min_eq_right oa).I en]) (h6 _ (J.J (xj.X _ _))) (by rw[I,hg];omega) (λu hu=>Y u (Mf hu)) λw4 hp S=>pe ?_
 have hG:xj [g] w w4:=(xj.X [] w).any.V hp;have hH:(cur.take ((i+1)*9)++cs.drop (i*9)++cur.drop ((i+1)*9+(cs.drop (i*9)).length)).length=cap*9:=by simp only[oN,Ob,Oa,I,hg];omega
 have hI:(cur.take ((i+1)*9)++cs.drop (i*9)++cur.drop ((i+1)*9+(cs.drop (i*9)).length)).take (i*9)=cs.take (i*9):=by
  rw[LD,Nb (by rw[LB];omega),Ni,Mu oa,<-h0,Ni,Mu oa]
 have hJ:((cur.take ((i+1)*9)++cs.drop (i*9)++cur.drop ((i+1)*9+(cs.drop (i*9)).length)).drop (i*9+9)).take ((n - i)*9)=cs.drop (i*9):=by
  have e1:(cur.take ((i+1)*9)).length=i*9+9:=by rw[LB];omega
  rw[LD,List.drop_left' e1,List.take_left' I]
 refine Zd (cur.take ((i+1)*9)++cs.drop (i*9)++cur.drop ((i+1)*9+(cs.drop (i*9)).length)) λhr gc=>?_;rw[gc]at S hH hI hJ;refine Qj<|Qa<|x (X6 (lo:=i) U U oa oa)<|Qa<|Qo<|yd (cs:=Qs q) S U U (by rw[show Nat.min 1 (n+1 - i)=1 from Mu oa];exact ZZ q) ((O.O hG (oA h4)).at (L:=[]) oe) (by rw[ZZ];omega) V λw5 gg gh=>xe ?_;refine Qj<|Qb<|Qi ⟨[sL g (n+1) cap],Lb,by rw[hc];exact hG.V gg,λb hb=>.inl (by rw[hc];exact hb),?_⟩;rcases he.2 with⟨e1,_⟩|⟨g',cap',cur',e1,gi,gs,gt,gj,gu,gv⟩
 .cases e1
 cases e1
 refine⟨VY H (ZZ q) hi,.inr ⟨g,cap,_,U,gi,gh,h8,gj,?_,?_⟩⟩
 .simp only[Oc,oN,Ob,Oa,ZZ,hH];omega
 have hR:=VY H (ZZ q) hi;rw[ZZ,hI];have e3:hr.drop (i*9+9)=cs.drop (i*9)++(hr.drop (i*9+9)).drop ((n - i)*9):=by
  conv=>lhs;rw[<-MT ((n - i)*9) (hr.drop (i*9+9)),hJ]
 rw[e3,<-LD];exact List.take_left' hR
theorem Qrd {q:DV}{k:Int}(H:QP ↑w b T cs)(hk:cs[0]?=some (sS k)):
  QZ sV 159 [sT (Qs q),sP b] w λr w'=>r=.bool (decide (k<q.kd))/\sW w w':=by
 refine Zt func159 ?_;refine Qc<|Zg (Qs q) λb2 J E O I=>Qb<|Qc<|Qm U I U U<|Qm U (H.J E) U hk<|x (ZX U U)<|Qb<|Qi ⟨[_],Lb,U,E⟩
theorem VO {l:List Yd}(h:KE l=0):l.length<=76:=by
 unfold KE at h;split at h
 .cases h
 omega
theorem QpD {v:O9}{es:List DV}(H:K2 L ↑w v es)(k:Int)(n:ByteArray):
  QZ sV 93 [v,sS k,.string n] w λr w'=>sW w w'/\∃vo l,r=.tuple #[vo,sS (zR (es.map DV.it) k n).1]/\JK ↑w w' vo l/\((zR (es.map DV.it) k n).1=0->l.map DV.it=(zR (es.map DV.it) k n).2):=by
 have h:=H.up (L':=[]) oe;have E:zR (es.map DV.it) k n=if KE (es.map DV.it)≠0 then(KE (es.map DV.it),[])else if Ve (es.map DV.it) k n=false then(10,[])else(0,(es.map DV.it).take (YK (es.map DV.it) k n)++(es.map DV.it).drop (YK (es.map DV.it) k n+1)):=rfl
 refine Zd (zR (es.map DV.it) k n) λD hD=>?_;rw[hD]at E ⊢;refine Zt func93 ?_;refine Qc<|x Qh<|Qb<|Qd<|Qj<|Qx<|(JS h).S ?_;rintro r1 w1 ⟨rfl,S⟩;refine Qb<|Qj<|Zu U U<|xe<|QY rfl (λI=>?_) (λI=>?_)
 .rw[O1 I]at E;refine Qj<|x Qh<|Qb<|Qi ⟨[nS,sS (KE (es.map DV.it))],oB,S,nS,[],by rw[E];rfl,Yt.nil,λH=>O3 (by rw[E]at H;exact H) I⟩
 rw[O0 I]at E;have hr:es.length<=76:=by have:=VO (Lq.1 I);rwa [Lj]at this
 refine Qe<|Qj<|Qa<|Qa<|Qx<|(yq (h.arr.J S) k n).S ?_;rintro r2 w2 ⟨⟨i,rfl,hi⟩,ha⟩;have O:=S.I ha;refine Qa<|QS U U<|QS U U<|x Qh<|Qb<|Qd<|Qj<|x (Zr U)<|xe<|Q6 rfl (λT=>?_) (λT=>?_)
 .have J:Ve (es.map DV.it) k n=false:=by simpa using T
  rw[O1 J]at E;refine Qc<|x Qh<|Qb<|Qi ⟨[nS,sS 10],oB,O,nS,[],by rw[E];rfl,Yt.nil,λH=>O3 (by rw[E]at H;exact H) oh⟩
 have J:Ve (es.map DV.it) k n=true:=by simpa using T
 rw[O0 (by rw[J];decide)]at E;have hi:=hi J;have hc:YK (es.map DV.it) k n<es.length:=by have:=O5 J;rwa [Lj]at this
 refine Zd (YK (es.map DV.it) k n) λj hj=>?_;rw[hj]at hi hc E;refine Qe<|Qj<|Qx<|(Kt (h.J O) oa).S ?_;rintro r3 w3 ⟨he,l,V,Y⟩;have hs:l.length=es.length:=by have:=O2 oR Y;rwa [Lj,Lj]at this
 have hD3:=QoX V (k:=j) oa oa;have hg:(i:Int)+1=((j+1:Nat):Int):=oa
 rw[<-hg,<-hi]at hD3;refine Qa<|Qa<|QH U U<|Qx<|hD3.S ?_;rintro Z w4 ⟨hh,ho⟩;refine x Qh<|Qb ?_;have hp:=Qg V.own;have hq:=O.size;refine Qi ⟨[Z,sS 0],oB,(O.I he).G hh (λb hb=>.inr (ov (hp b hb).1)),Z,_,by rw[E];rfl,ho.base hq,λ_=>?_⟩;rw[E,Ls,NV,List.map_drop,Y]
theorem QrW {v:O9}{es:List DV}{q:DV}(H:K2 L ↑w v es)(hP:Ji L' ↑w q):
  QZ sV 94 [v,sT (Qs q)] w λr w'=>sW w w'/\∃vo l,r=.tuple #[vo,sS (zQ (es.map DV.it) q.it).1]/\JK ↑w w' vo l/\((zQ (es.map DV.it) q.it).1=0->l.map DV.it=(zQ (es.map DV.it) q.it).2):=by
 have h:=H.up (L':=[]) oe;have hq:=hP.up (L':=[]) oe;have E:zQ (es.map DV.it) q.it=if KE (es.map DV.it)≠0 then(KE (es.map DV.it),[])else if KE [q.it]≠0 then(KE [q.it],[])else if Ve (es.map DV.it) q.kd q.nm=true then(0,(es.map DV.it).set (YK (es.map DV.it) q.kd q.nm) q.it)else if(es.map DV.it).length=76 then(3,[])else
  (0,(es.map DV.it).take ((es.map DV.it).findIdx λy=>decide (q.kd<y.kd))++q.it::(es.map DV.it).drop ((es.map DV.it).findIdx λy=>decide (q.kd<y.kd))):=rfl
 refine Zd (zQ (es.map DV.it) q.it) λD hD=>?_;rw[hD]at E ⊢;refine Zt func94 ?_;refine Qc<|Zg (Qs q) λb3 w1 h7 gk hQ=>x Qh<|Qb<|Qd<|Qj<|Qx<|(JS (h.J h7)).S ?_;rintro r1 w2 ⟨rfl,h8⟩;have h9:=h7.I h8;refine Qb<|Qj<|Zu U U<|xe<|QY rfl (λV=>?_) (λV=>?_)
 .rw[O1 V]at E;refine Qj<|x Qh<|Qb<|Qi ⟨[nS,sS (KE (es.map DV.it))],oB,h9,nS,[],by rw[E];rfl,Yt.nil,λH=>O3 (by rw[E]at H;exact H) V⟩
 rw[O0 V]at E;have gl:es.length<=76:=by have:=VO (Lq.1 V);rwa [Lj]at this
 have hA:=hQ.J h8;refine Qe<|Qd<|Qc<|QV hA U U<|Qo<|Zb [Qs q] λhR w3 hB gm hS=>?_;have hC:=h9.I hB;have hT:K2 [] ↑w3 (sL hR 1 1) [q]:=⟨hS.arr (L:=[]) oe (n:=1) (cap:=1) (sz:=9) rfl oh (OX _),λd hd=>by rw[List.mem_singleton.1 hd];exact hq.J hC⟩;refine Qx<|(JS hT).S ?_;rintro r4 w4 ⟨rfl,hE⟩;have he:=hC.I hE;refine Qb<|Qj<|Zu U U<|xe<|QY rfl (λhh=>?_) (λhh=>?_)
 .rw[O1 (show KE [q.it]≠0 from hh)]at E;refine Qj<|x Qh<|Qb<|Qi ⟨[nS,sS (KE [q.it])],oB,he,nS,[],by rw[E];rfl,Yt.nil,λH=>O3 (by rw[E]at H;exact H) hh⟩
 rw[O0 (show ¬KE [q.it]≠0 from hh)]at E;refine Qe<|Qj<|Qx<|(Kt (h.J he) oa).S ?_;rintro J w5 ⟨ht,l,hl,O⟩;have gn:l.length=es.length:=by have:=O2 oR O;rwa [Lj,Lj]at this
 have hF:=he.I ht;have hG:=he.size;have go:=ht.size;have hv:=(hA.J (hB.I hE)).J ht;have Y:=Qg hl.own;refine Qb<|Qd<|Qj<|Qm U hv U U<|Qm U hv U U<|Qx<|(yq (h.arr.J hF) q.kd q.nm).S ?_;rintro r6 w6 ⟨⟨i,rfl,hi⟩,ho⟩;have Z:=hF.I ho;have hw:=hl.J ho;have hy:=hv.J ho;have gp:=ho.size;refine Qa<|QS U U<|QS U U<|x Qh<|Qb<|Qj<|xe<|Q6 rfl (λha=>?_) (λha=>?_)
 .rw[O1 ha]at E;have hi:=hi ha;have hz:YK (es.map DV.it) q.kd q.nm<l.length:=by have:=O5 ha;rw[Lj]at this;omega
  refine Zd (YK (es.map DV.it) q.kd q.nm) λj hj=>?_;rw[hj]at hi hz E;refine Qj<|Qa<|QV hy U U<|Qx<|(KS (hq.J Z)).S ?_;rintro r7 w7 ⟨hp,q',rfl,h1,hr⟩;have h2:=hw.J hp;refine Exists.elim (X7 h2.own oa) λg S=>Exists.elim S λcap S=>?_;have hU:ob J=[g]:=by rw[S];rfl
  have hH:=h2.own;rw[S]at hH;refine x (QO (i:=j) S (show Go.Lg.ev _ _=_ from O2 sS hi) hz)<|Qo<|QaC ZZ hH (show Go.Lg.ev _ _=_ from by show Value.pointer (some ⟨g,0+j*9,none⟩)=_;rw[LS]) rfl hz (hr [] oe).ones λw8 hV hI=>xe ?_;refine Qj<|x Qh<|Qb ?_;rw[<-S]at hI;have hJ:xj (ob J) w7 w8:=by rw[hU];exact hV
  have hW:JK ↑w4 w8 J (l.set j q'):=JK.turn2 h2 hJ (λb I=>.inl I) (λL hL=>hr L (λb I=>by
   rcases hL b I with h|h
   .omega
   have:=Y b h;omega)) (λd hd=>M1 hd) (by rw[L9];exact hI)
  refine Qi ⟨[J,sS 0],oB,(Z.I hp).G hJ (λb I=>.inr (ov (Y b I).1)),J,_,by rw[E];rfl,hW.base hG,λ_=>?_⟩;rw[E,NT,O,h1]
 rw[O0 (by rw[ha];decide)]at E;refine Qe<|Qd<|Qj<|QE (h.arr.J Z) U<|x (QW U U)<|xe<|QY rfl (λh3=>?_) (λh3=>?_)
 .have hn:es.length=76:=by have hX:(es.length:Int)=76:=h3;omega
  rw[O1 (by rw[Lj];exact hn)]at E;refine Qc<|x Qh<|Qb<|Qi ⟨[nS,sS 3],oB,Z,nS,[],by rw[E];rfl,Yt.nil,λH=>O3 (by rw[E]at H;exact H) oh⟩
 have hn:¬es.length=76:=by have hX:¬(es.length:Int)=76:=h3;omega
 rw[O0 (by rw[Lj];exact hn)]at E;have hY:(es.map DV.it).findIdx (λy=>decide (q.kd<y.kd))=l.findIdx λy=>decide (q.kd<y.kd):=by rw[<-O,List.findIdx_map];rfl
 rw[hY]at E;have hZ:l.findIdx (λy=>decide (q.kd<y.kd))<=l.length:=List.findIdx_le_length;have h4:ixD (λy:DV=>decide (q.kd<y.kd)) l=if l.findIdx (λy=>decide (q.kd<y.kd))<l.length then((l.findIdx λy=>decide (q.kd<y.kd):Nat):Int)else -1:=rfl
 refine Zd (l.findIdx λy=>decide (q.kd<y.kd)) λat_ ga=>?_;rw[ga]at E hZ h4;have hK:Zk [] ↑w6 J l.length 9 (l.flatMap Qs):=QC hw.own oa oe;refine Qe<|Qj<|x (ZC (l:=[]) (l':=[_]))<|Qx<|(QgP (q:=λy:DV=>decide (q.kd<y.kd)) (cap:=[sP b3]) hK (λe _ w7 hp=>Qrd (hy.J hp) U)).S ?_;rintro r9 w9 ⟨rfl,hc⟩;refine Qb<|QX (α:=Unit) [(11,11),(47,50)] (λ_=>[(11,sS (at_:Int))]) (λ_ w'=>w'=w9) om ?_ ?_
 .refine Qj<|Ye U U<|xe<|ZI U (λh5=>?_) (λh5=>?_)
  .refine Qe<|⟨(),⟨?_,La⟩,U⟩;have T:¬ixD (λy:DV=>decide (q.kd<y.kd)) l<0:=h5;have e:ixD (λy:DV=>decide (q.kd<y.kd)) l=(at_:Int):=by
    rw[h4]at T ⊢;split at T
    .rename_i gb;rw[O1 gb]
    exact O3 oh T
   exact O2 sS e
  refine Qq<|Qa<|QE (hK.J hc) U<|Qb<|⟨(),⟨?_,La⟩,U⟩;have T:ixD (λy:DV=>decide (q.kd<y.kd)) l<0:=h5;have e:(l.length:Int)=(at_:Int):=by
   rw[h4]at T;split at T
   .omega
   omega
  exact O2 sS e
 rintro⟨⟩ g gq rfl;have hM:=Z.I hc;have gr:=hc.size;refine Qj<|Qa<|QV (hy.J hc) U U<|Qx<|(KS (hq.J hM)).S ?_;rintro gs gt ⟨h6,q',rfl,h1,hr⟩;have gu:=h6.size;refine Qo<|Zb [Qs q'] λhN gc hs gv gg=>?_;have gw:=hs.size;have gh:QP ↑gc hN 70 (Qs q'):=by have:=gg;simpa using this
 refine Qx<|(Qoq (((hw.J hc).J h6).J hs) oa oa (i:=at_) oa (q:=q') (λL hL=>(hr L (λb I=>by
   rcases hL b I with h|h
   .omega
   have:=Y b h;omega)).J hs) gh (λO=>ov (Y hN O))).S ?_
 rintro hO gx ⟨gi,gj,gy⟩;refine x Qh<|Qb<|Qi ⟨[hO,sS 0],oB,((hM.I h6).I hs).G gi (λb I=>.inr (ov (Y b I).1)),hO,_,by rw[E];rfl,gj.base hG,λ_=>?_⟩;rw[E,Ls,LO,NV,List.map_drop,O,h1]
end Go.Lg
namespace Go.Proofs
open Go.Proofs.Tryz
open Go.Shelf
def Tryz.sortLo_ren:Go.Shelf.Ren:=⟨λ|6=>162|15=>123|14=>240|28=>208|29=>209|20=>275|21=>276|22=>277|23=>278|24=>279|25=>280|26=>281|27=>282|46=>320|47=>265|48=>266|49=>321|50=>322|57=>340|n=>n,λ|22=>103|24=>107|25=>313|3=>3|39=>269|0=>0|53=>362|55=>364|4=>4|46=>356|45=>355|50=>275|5=>5|9=>9|66=>418|70=>422|76=>449|77=>408|n=>n,λ|n=>n⟩
theorem Tryz.sortLo:Go.Proofs.SlLaysF0.n6 sV Tryz.sortLo_ren:=lyS
def Tryz.sortTe_ren:Go.Shelf.Ren:=⟨λ|6=>164|15=>123|14=>241|28=>208|29=>209|20=>283|21=>284|22=>285|23=>286|24=>287|25=>288|26=>289|27=>290|46=>323|47=>265|48=>266|49=>324|50=>325|57=>341|n=>n,λ|22=>108|24=>112|25=>315|3=>3|39=>269|0=>0|53=>362|55=>364|4=>4|46=>356|45=>355|50=>275|5=>5|9=>9|66=>418|70=>422|76=>449|77=>408|n=>n,λ|n=>n⟩
theorem Tryz.sortTe:Go.Proofs.SlLaysF0.n6 sV Tryz.sortTe_ren:=lyS
end Go.Proofs
namespace Go.Lg
open Go.Lg Go.Sort
abbrev Lz:={ x:Int×Int // 0<=x.1/\x.1<4096 }
instance:Inhabited Lz:=⟨⟨(0,0),oh⟩⟩
abbrev zr (x:Lz):LV:=[sS x.1.1,sS x.1.2]
theorem yi (x:Lz):(zr x).length=2:=rfl
theorem y0:∀l:List Lz,(l.flatMap zr).length=l.length*2
 | []=>rfl
 | x::l=>by rw[LQ,Ln,y0 l,yi,LX];omega
theorem yh {l:List Lz}(J:j<l.length*2):(l.flatMap zr)[j]?=some ((flatK zr 2 l.toArray)[j]!):=by
 have E:j / 2<l.length:=Nat.div_lt_of_lt_mul oa;have H:j % 2<2:=NF _ oh;rw[get_flatK _ _ _ _ (oA J)];have O:(l.flatMap zr)[j]?=(zr (l[j / 2]'E))[j % 2]?:=by
  rw[<-(Xo zr 2 yi l (j / 2) E),L3,O1 H,MF];congr 1;omega
 rw[O];have S:(l.toArray)[j / 2]! = l[j / 2]'E:=by simp[E]
 rw[S];have I:j % 2<(zr (l[j / 2]'E)).length:=H;exact(LE I).I (O2 some (getElem!_pos (zr (l[j / 2]'E)) (j % 2) I).symm)
theorem Qff:SWO (ltOf λx y:Lz=>x.1.1 - y.1.1) where
 irrefl x:=by unfold ltOf;simp
 trans x y z h1 h2:=by unfold ltOf at *;simp at *;omega
 ntrans x y z h1 h2:=by unfold ltOf at *;simp at *;omega
theorem Qkx:∀{l:xF},(∀x∈l,0<=x.1/\x.1<4096)->∃L:List Lz,L.map Subtype.val=l
 | [],_=>⟨[],U⟩
 | x::l,h=>by
  obtain⟨L,E⟩:=Qkx (l:=l) (λy H=>h y (Ll _ H));exact⟨⟨x,h x Lr⟩::L,by rw[LO,E]⟩
theorem QgI (L:List Lz):L.flatMap zr=(L.map Subtype.val).flatMap QD:=by rw[List.flatMap_map]
theorem Qkw {l:List Lz}{E:Array Lz}(h:pdq (ltOf λx y:Lz=>x.1.1 - y.1.1) l.toArray 0 l.length (Go.Lib.bitLen l.length) true true=E)(O:((l.map Subtype.val).map (·.1)).Nodup):E.size=l.length/\E.toList.map Subtype.val=isrt (·.1) (l.map Subtype.val):=by
 have H:=pdq_sorts (ltOf λx y:Lz=>x.1.1 - y.1.1) Qff l.toArray 0 l.toArray.size (Go.Lib.bitLen l.length) true true (Lp _) (Lu _) (Or.inl U);rw[LU,h]at H;obtain⟨I,S⟩:=Qgq (d:=l.toArray) (by rw[LU];exact H.1) (by rw[LU];exact H.2);refine⟨oA I.length_eq,Qop (λp:Int×Int=>p.1) (I.map _) ?_ O⟩;refine MC.2 (S.imp λ{x y} J=>?_);unfold ltOf at J;have T:¬(y.1.1 - x.1.1<0):=O7 J;show x.1.1<=y.1.1;omega
theorem Qs3 (x y:Lz)(W:O8):Calls sV 163 #[sT (zr x),sT (zr y)] W λe w'=>e=.returned (sS (x.1.1 - y.1.1))/\∃q os',w'=grow (W.drewN q) os':=by
 have E:IntKind.i64.wrap (x.1.1 - y.1.1)=x.1.1 - y.1.1:=YM ⟨oy x.2 y.2,oy x.2 y.2⟩
 go_enter func163,ntmps163
 go_wp2
 go_ret;exact⟨by rw[<-E];rfl,0,_,by rw[alloc_eq_grow,alloc_eq_grow,grow_grow];rfl⟩
theorem QhP {base:Nat}{v:O9}{H:xF}(h0:w.ownsRow base 107 2 v H.length (H.flatMap QD))(hb:∀x∈H,0<=x.1/\x.1<4096)(T:(H.map (·.1)).Nodup)(hm:H.length<=1099511627776):
  QZ sV 162 [v,.func (.func 163) #[] #[]] w λ_ w'=>xj (ob v) w w'/\w'.ownsRow base 107 2 v (isrt (·.1) H).length ((isrt (·.1) H).flatMap QD):=by
 obtain⟨l,hl⟩:=Qkx hb;subst hl;rw[<-QgI,Lj]at h0;rw[Lj]at hm;unfold QZ;rcases h0.2 with⟨rfl,O⟩|⟨g,cap,cur,rfl,ho,S,hp,hq,hr,hs⟩
 .have ht:l=[]:=LA O;subst ht;have I:=AnyF.slices_SortFunc_none Tryz.sortLo none 0 (.func (.func 163) #[] #[]) w;change Calls sV 162 _ _ _ at I;refine Calls.mono I λe w' V=>?_;obtain⟨rfl,rfl⟩:=V;exact⟨xj.Y _ _,QI _ _ _ _⟩
 have ha:g<w.heap.size:=(LP.1 S).1;have hH:HoldsK zr 2 w g 0 l.toArray:=by
  intro j E;rw[size_flatK,LU]at E;have O:=yh E;rw[<-hs,L3,O1 E]at O;constructor
  .show(match w.heap[g]? with|some (.cells c _ _)=>if(none:Option _).isSome then none else c[0+j]?|_=>none)=_
   rw[S];simp only[oZ,OI,OJ,if_false];rw[<-Mx,O];rfl
  show(match w.heap[g]? with|some (.cells _ _ (lo,hi))=>decide (lo<=0+j) && decide (0+j<hi)|_=>false)=false
  rw[S];simp
 have eg:∀args w,(callFunc 163 args).run sV w=.ok (.enter 163 args) w:=enters_of func163 od U;have I:=AnyQ.slices_SortFunc_eq Tryz.sortLo 2 isAgg107 sizeOf107 zr yi (λx v hv=>by simp at hv;rcases hv with rfl|rfl <;> rfl) (λx y=>x.1.1 - y.1.1) Qff 163 #[] g 0 cap l.toArray w eg (λm os dk _ x y=>Qs3 x y _) hH ha (by simp;omega)
 change Calls sV 162 _ _ _ at I;rw[LU]at I;refine Calls.mono I λe w' V=>?_;obtain⟨rfl,n,os,rfl⟩:=V;refine Zd (pdq (ltOf λx y:Lz=>x.1.1 - y.1.1) l.toArray 0 l.length (Go.Lib.bitLen l.length) true true) λJ hh=>?_;obtain⟨Y,hw⟩:=Qkw hh T;rw[hh,<-hw];have Z:(sortWorldK zr 2 w g 0 n J os).heap=w.heap.modify g (onCells (putCells id 0 (flatK zr 2 J)))++os:=rfl;refine⟨⟨rfl,U,U,?_,λk hk T=>?_⟩,?_⟩
 .rw[Z,M5,Mn];omega
 .rw[Z,Ms,Mn,O1 hk,MD,O0 (λe=>T (by simp[ob,e]))]
 rw[<-QgI,Lj];refine⟨y0 _,.inr ⟨g,cap,putCells id 0 (flatK zr 2 J) cur,by simp[Y],ho,?_,by simp[Y];exact hp,hq,by simp[putCells,hr],?_⟩⟩
 .rw[Z,Ms,Mn,O1 ha,MD,O1 rfl,S];rfl
 apply Nh;intro j;rw[L3];by_cases E:j<J.toList.length*2
 .rw[O1 E,yh E,Mx];have hy:j<cur.size:=by simp[Y]at E;omega
  have hz:j<(flatK zr 2 J).size:=by simpa using E
  simp only[putCells,Oy,Oj hy,Oz,OY,oZ,true_and,O1 hz,OP,id]
 rw[O0 E,MS];rw[y0];omega
theorem Qs1 (x y:Lz)(W:O8):Calls sV 165 #[sT (zr x),sT (zr y)] W λe w'=>e=.returned (sS (x.1.1 - y.1.1))/\∃q os',w'=grow (W.drewN q) os':=by
 have E:IntKind.i64.wrap (x.1.1 - y.1.1)=x.1.1 - y.1.1:=YM ⟨oy x.2 y.2,oy x.2 y.2⟩
 go_enter func165,ntmps165
 go_wp2
 go_ret;exact⟨by rw[<-E];rfl,0,_,by rw[alloc_eq_grow,alloc_eq_grow,grow_grow];rfl⟩
theorem QhN {base:Nat}{v:O9}{H:xF}(h0:w.ownsRow base 112 2 v H.length (H.flatMap QD))(hb:∀x∈H,0<=x.1/\x.1<4096)(T:(H.map (·.1)).Nodup)(hm:H.length<=1099511627776):
  QZ sV 164 [v,.func (.func 165) #[] #[]] w λ_ w'=>xj (ob v) w w'/\w'.ownsRow base 112 2 v (isrt (·.1) H).length ((isrt (·.1) H).flatMap QD):=by
 obtain⟨l,hl⟩:=Qkx hb;subst hl;rw[<-QgI,Lj]at h0;rw[Lj]at hm;unfold QZ;rcases h0.2 with⟨rfl,O⟩|⟨g,cap,cur,rfl,ho,S,hp,hq,hr,hs⟩
 .have ht:l=[]:=LA O;subst ht;have I:=AnyF.slices_SortFunc_none Tryz.sortTe none 0 (.func (.func 165) #[] #[]) w;change Calls sV 164 _ _ _ at I;refine Calls.mono I λe w' V=>?_;obtain⟨rfl,rfl⟩:=V;exact⟨xj.Y _ _,QI _ _ _ _⟩
 have ha:g<w.heap.size:=(LP.1 S).1;have hH:HoldsK zr 2 w g 0 l.toArray:=by
  intro j E;rw[size_flatK,LU]at E;have O:=yh E;rw[<-hs,L3,O1 E]at O;constructor
  .show(match w.heap[g]? with|some (.cells c _ _)=>if(none:Option _).isSome then none else c[0+j]?|_=>none)=_
   rw[S];simp only[oZ,OI,OJ,if_false];rw[<-Mx,O];rfl
  show(match w.heap[g]? with|some (.cells _ _ (lo,hi))=>decide (lo<=0+j) && decide (0+j<hi)|_=>false)=false
  rw[S];simp
 have eg:∀args w,(callFunc 165 args).run sV w=.ok (.enter 165 args) w:=enters_of func165 od U;have I:=AnyQ.slices_SortFunc_eq Tryz.sortTe 2 isAgg112 sizeOf112 zr yi (λx v hv=>by simp at hv;rcases hv with rfl|rfl <;> rfl) (λx y=>x.1.1 - y.1.1) Qff 165 #[] g 0 cap l.toArray w eg (λm os dk _ x y=>Qs1 x y _) hH ha (by simp;omega)
 change Calls sV 164 _ _ _ at I;rw[LU]at I;refine Calls.mono I λe w' V=>?_;obtain⟨rfl,n,os,rfl⟩:=V;refine Zd (pdq (ltOf λx y:Lz=>x.1.1 - y.1.1) l.toArray 0 l.length (Go.Lib.bitLen l.length) true true) λJ hh=>?_;obtain⟨Y,hw⟩:=Qkw hh T;rw[hh,<-hw];have Z:(sortWorldK zr 2 w g 0 n J os).heap=w.heap.modify g (onCells (putCells id 0 (flatK zr 2 J)))++os:=rfl;refine⟨⟨rfl,U,U,?_,λk hk T=>?_⟩,?_⟩
 .rw[Z,M5,Mn];omega
 .rw[Z,Ms,Mn,O1 hk,MD,O0 (λe=>T (by simp[ob,e]))]
 rw[<-QgI,Lj];refine⟨y0 _,.inr ⟨g,cap,putCells id 0 (flatK zr 2 J) cur,by simp[Y],ho,?_,by simp[Y];exact hp,hq,by simp[putCells,hr],?_⟩⟩
 .rw[Z,Ms,Mn,O1 ha,MD,O1 rfl,S];rfl
 apply Nh;intro j;rw[L3];by_cases E:j<J.toList.length*2
 .rw[O1 E,yh E,Mx];have hy:j<cur.size:=by simp[Y]at E;omega
  have hz:j<(flatK zr 2 J).size:=by simpa using E
  simp only[putCells,Oy,Oj hy,Oz,OY,oZ,true_and,O1 hz,OP,id]
 rw[O0 E,MS];rw[y0];omega
def jt (l:List Yd)(n:ByteArray)(tk:LI):Int:=if Ve l 1 n=false then 9 else if(YK l 1 n:Int)∈tk then 8 else 0
theorem Qhg {v:O9}{es:List DV}(h:Zk L ↑w v es.length 9 (es.flatMap Qs))(n:ByteArray){tk:LI}(T:QG L' ↑w vt tk):
  QZ sV 161 [v,.string n,vt] w λr w'=>(∃i:Int,r=.tuple #[sS i,sS (jt (es.map DV.it) n tk)]/\(jt (es.map DV.it) n tk=0->i=(YK (es.map DV.it) 1 n:Int)))/\sW w w':=by
 have H:jt (es.map DV.it) n tk=if Ve (es.map DV.it) 1 n=false then 9 else if(YK (es.map DV.it) 1 n:Int)∈tk then 8 else 0:=rfl
 refine Zd (jt (es.map DV.it) n tk) λE hE=>?_;rw[hE]at H ⊢;refine Zt func161 ?_;refine Qc<|x Qh<|Qb<|Qj<|Qa<|Qx<|(yq h 1 n).S ?_;rintro r1 V ⟨⟨i,rfl,hi⟩,I⟩;refine Qa<|QS U U<|QS U U<|x Qh<|Qb<|Qd<|Qn<|Qj<|x (Zr U)<|Qb<|Q6 U (λJ=>?_) (λJ=>?_)
 .rw[O1 (oA J)]at H;subst H;refine Qc<|x Qh<|Qb<|Qi ⟨[sS 0,sS 9],oB,⟨0,U,λe=>O3 e oh⟩,I⟩
 have S:Ve (es.map DV.it) 1 n=true:=by simpa using J
 have hi:=hi S;subst hi;rw[O0 (by rw[S];decide)]at H;refine Qj<|Qa<|Qx<|(Yn (T.J I) _).S ?_;rintro r2 Y ⟨rfl,rfl⟩;refine Qb<|QY U (λO=>?_) (λO=>?_)
 .rw[O1 O]at H;subst H;refine Qc<|x Qh<|Qb<|Qi ⟨[sS 0,sS 8],oB,⟨0,U,λe=>O3 e oh⟩,I⟩
 rw[O0 O]at H;subst H;refine Qe<|Qj<|x Qh<|Qb<|Qi ⟨[sS _,sS 0],oB,⟨_,U,λ_=>U⟩,I⟩
theorem Qa0 (l:List Yd)(y:ByteArray×Int)(r:List (ByteArray×Int))(tk:LI)(o:xF):YF l (y::r) tk o=if jt l y.1 tk≠0 then(jt l y.1 tk,[])else YF l r (tk++[(YK l 1 y.1:Int)]) (o++[((YK l 1 y.1:Int),y.2)]):=by
 rw[YF];unfold jt;split
 .rfl
 split
 .rfl
 rfl
theorem QlQ {l:List Yd}{n:ByteArray}{tk:LI}(h:jt l n tk=0):YK l 1 n<l.length/\(YK l 1 n:Int)∉tk:=by
 unfold jt at h;split at h
 .exact O3 h oh
 rename_i E;split at h
 .exact O3 h oh
 rename_i H;refine⟨?_,H⟩;have I:Ve l 1 n=true:=by simpa using E
 exact O5 I
theorem Qih {v:O9}{es:List DV}{q:DV}(h0:Zk L ↑w v es.length 9 (es.flatMap Qs))(gj:es.length<=4096)(hG:Ji L' ↑w q)(gk:q.ls.length<=100000):
  QZ sV 95 [v,sT (Qs q)] w λr w'=>sW w w'/\∃vo,r=.tuple #[vo,sS (YF (es.map DV.it) q.ls [] []).1]/\((YF (es.map DV.it) q.ls [] []).1≠0->vo=Zn) /\
   ((YF (es.map DV.it) q.ls [] []).1=0->w'.ownsRow ↑w 107 2 vo (YF (es.map DV.it) q.ls [] []).2.length ((YF (es.map DV.it) q.ls [] []).2.flatMap QD)):=by
 have h:=h0.up (L':=[]) oe;have hq:=hG.up (L':=[]) oe;refine Zd (YF (es.map DV.it) q.ls [] []) λR hR=>?_;rw[hR];refine Zt func95 ?_;refine Qc<|Zg (Qs q) λb3 H V gl hH=>x Qh<|Qb ?_;have gm:=V.size;have h1:=h.J V;have h4:=hq.J V;refine Qc<|Qb<|Qc<|Qb<|Qd<|Qc<|Qm U hH U U<|QE h4.ls.arr U<|Qa<|xe<|Q2 (α:=Nat×O9×O9×xF) [(4,7),(9,11),(15,41)] (λz=>[(6,z.2.1),(7,z.2.2.1),(15,sS z.1)]) (λz w'=>z.1<=q.ls.length/\sW H w'/\w'.ownsRow ↑H 107 2 z.2.1 z.2.2.2.length (z.2.2.2.flatMap QD)/\Qp 3 ↑H w' z.2.2.1 (z.2.2.2.map (·.1))/\(∀b∈ob z.2.1,b∉ob z.2.2.1)/\z.2.2.2.length=z.1/\(∀x∈z.2.2.2,0<=x.1/\x.1<4096)/\(z.2.2.2.map (·.1)).Nodup/\YF (es.map DV.it) (q.ls.drop z.1) (z.2.2.2.map (·.1)) z.2.2.2=R) (λz=>q.ls.length - z.1) (0,Zn,Zn,[]) oC
  ⟨Lp _,xj.Y _ _,QI _ _ _ _,QI _ _ _ _,by simp[ob],rfl,oe,MY,hR⟩ ?_
 rintro⟨k,vo,vt,l⟩ g w2 ⟨hk,J,O,hh,ho,hr,hs,ht,hE⟩;simp only[]at hk O hh ho hr hs ht hE;have gn:=J.size;have go:(l.map (·.1)).length=k:=by rw[Lj,hr]
 have h2:=h1.J J;have hI:=h4.J J;refine Zi rfl U (λhv=>?_) (λhv=>?_)
 .refine Qt ?_;have hJ:q.ls.length<=k:=by have hj:¬(k:Int)<(q.ls.length:Int):=hv;omega
  rw[Lx hJ]at hE;rw[YF]at hE;subst hE;refine Qj<|Qx<|(QhP O hs ht oa).S ?_;rintro r3 w3 ⟨hK,hL⟩;refine xe<|Qj<|x Qh<|Qb<|Qi ⟨[vo,sS 0],oB,V.I (J.G hK λb E=>.inr (Qg O b E).1),vo,U,λe=>O3 U e,λ_=>Zv hL oa⟩
 have Y:k<q.ls.length:=by have hj:(k:Int)<(q.ls.length:Int):=hv;omega
 have hM:q.ls.drop k=q.ls[k]'Y::q.ls.drop (k+1):=LH Y;rw[hM,Qa0]at hE;refine Qe<|Qd<|Qn<|Qc<|xp (g:=ZK) (i:=k) QeT hI.ls.arr U U Y λgp hj=>?_;refine Zd (q.ls[k]'Y) λy hy=>?_;rw[hy]at hj hE;refine x (Qu hj U U)<|QL [.string .empty,sS 0] λb9 w4 hN hO hP=>QJ (ZK y) hP oB λw5 hQ h5=>xe ?_;have hw:sW w2 w5:=hN.Q hQ hO;have hS:QG [] ↑w5 vt (l.map (·.1)):=(Qp.ints hh oa oe).J hw;refine Qj<|Qm U h5 U U<|Qa<|Qx<|(Qhg (h2.J hw) y.1 hS).S ?_;rintro r6 w6 ⟨⟨i,rfl,hi⟩,h6⟩;have Z:=hw.I h6;have gq:=Z.size;refine Qa<|QS U U<|QS U U<|x Qh<|Qb<|Qd<|Qj<|Zu U U<|xe<|QY rfl (λhe=>?_) (λhe=>?_)
 .rw[O1 he]at hE;subst hE;refine Qj<|x Qh<|Qb<|Qi ⟨[Zn,sS _],oB,V.I (J.I Z),Zn,U,λ_=>U,λe=>O3 e he⟩
 rw[O0 he]at hE;have h7:jt (es.map DV.it) y.1 (l.map (·.1))=0:=Lq.1 he;have hi:=hi h7;obtain⟨hF,h8⟩:=QlQ h7;rw[Lj]at hF;refine Zd (YK (es.map DV.it) 1 y.1) λF hT=>?_;rw[hT]at hi hF h8 hE;subst hi;refine Qe ?_;have hU:Qp 3 ↑H w6 vt (l.map (·.1)):=Ql hh Z;refine Qj<|Qa<|Qo<|Zb [[sS F]] λgr w7 hg gs hV=>?_;have h9:Qp 3 ↑H w7 vt (l.map (·.1)):=Ql hU hg;have gt:=hg.size;refine Qo<|Q9 (m:=1) (news:=[sS F]) h9 U U U (by have:=hV.at (L:=[]) oe;simpa using this) oq oa oa λhl w8 hW hm hX=>?_;refine Qb ?_;have gu:=hm.size;have hY:∀b∈ob vt,↑H<=b:=λb E=>(Qg h9 b E).1;have hZ:sW H w8:=((J.I Z).I hg).G hm λb E=>.inr (hY b E);have hA:∀b∈ob vo,b∉ob hl:=λb E S=>by
  rcases hX b S with I|I
  .exact ho b E I
  have:=(Qg O b E).2;omega
 refine Qq<|Qa<|Qa<|QN U<|x (Qk (((h5.J h6).J hg).O hm (λE=>ov (Qg hh b9 E).2)) U U)<|x (Qv ⟨U,U,La⟩)<|Qo<|Zb [QD ((F:Int),y.2)] λgv w9 hn gw ga=>?_;have gx:=hn.size;refine Qo<|Q9 (m:=1) (news:=QD ((F:Int),y.2)) (Ql (Qf (Ql (Ql O Z) hg) hm ho) hn) U U U (by have:=ga.at (L:=[]) oe;simpa using this) oq oa oa λhB hz gb hC gc=>?_;refine Qb ?_;have hD:=Ql hW hn;have gg:Qp 3 ↑H hz hl ((l++[((F:Int),y.2)]).map (·.1)):=by
  have I:=Qf hD hC (λb E S=>hA b S E);show hz.ownsRow _ _ 1 _ _ _;simp only[Oi,oN,o6]at I ⊢;simpa using I
 have gh:sW H hz:=(hZ.I hn).G hC λb E=>.inr (Qg O b E).1;have gi:∀b∈ob hB,b∉ob hl:=λb E S=>by
  rcases gc b E with I|I
  .exact hA b I S
  have:=(Qg hD b S).2;omega
 refine Qq<|QH U U<|Qa<|xe<|⟨(k+1,hB,hl,l++[((F:Int),y.2)]),by show q.ls.length - (k+1)<q.ls.length - k;omega,oC,Y,gh,by rw[Ln,LC];simpa using gb,gg,gi,by simp[hr],λp T=>?_,?_,?_⟩
 .rcases Lh.1 T with T|T
  .exact hs p T
  simp only[oJ]at T;subst T;exact⟨og,og⟩
 .rw[Ls,Mi];refine⟨ht,oe,λa ha b E e=>?_⟩;simp only[oX,OD,oJ]at E;subst E;subst e;exact h8 ha
 rw[Ls];exact hE
theorem Qjq {v:O9}{es:List DV}{q:DV}(h0:Zk L ↑w v es.length 9 (es.flatMap Qs))(gj:es.length<=4096)(hG:Ji L' ↑w q)(gk:q.ts.length<=100000):
  QZ sV 96 [v,sT (Qs q)] w λr w'=>sW w w'/\∃vo,r=.tuple #[vo,sS (YF (es.map DV.it) q.ts [] []).1]/\((YF (es.map DV.it) q.ts [] []).1≠0->vo=Zn) /\
   ((YF (es.map DV.it) q.ts [] []).1=0->w'.ownsRow ↑w 112 2 vo (YF (es.map DV.it) q.ts [] []).2.length ((YF (es.map DV.it) q.ts [] []).2.flatMap QD)):=by
 have h:=h0.up (L':=[]) oe;have hq:=hG.up (L':=[]) oe;refine Zd (YF (es.map DV.it) q.ts [] []) λR hR=>?_;rw[hR];refine Zt func96 ?_;refine Qc<|Zg (Qs q) λb3 H V gl hH=>x Qh<|Qb ?_;have gm:=V.size;have h1:=h.J V;have h4:=hq.J V;refine Qc<|Qb<|Qc<|Qb<|Qd<|Qc<|Qm U hH U U<|QE h4.ts.arr U<|Qa<|xe<|Q2 (α:=Nat×O9×O9×xF) [(4,7),(9,11),(15,41)] (λz=>[(6,z.2.1),(7,z.2.2.1),(15,sS z.1)]) (λz w'=>z.1<=q.ts.length/\sW H w'/\w'.ownsRow ↑H 112 2 z.2.1 z.2.2.2.length (z.2.2.2.flatMap QD)/\Qp 3 ↑H w' z.2.2.1 (z.2.2.2.map (·.1))/\(∀b∈ob z.2.1,b∉ob z.2.2.1)/\z.2.2.2.length=z.1/\(∀x∈z.2.2.2,0<=x.1/\x.1<4096)/\(z.2.2.2.map (·.1)).Nodup/\YF (es.map DV.it) (q.ts.drop z.1) (z.2.2.2.map (·.1)) z.2.2.2=R) (λz=>q.ts.length - z.1) (0,Zn,Zn,[]) oC
  ⟨Lp _,xj.Y _ _,QI _ _ _ _,QI _ _ _ _,by simp[ob],rfl,oe,MY,hR⟩ ?_
 rintro⟨k,vo,vt,l⟩ g w2 ⟨hk,J,O,hh,ho,hr,hs,ht,hE⟩;simp only[]at hk O hh ho hr hs ht hE;have gn:=J.size;have go:(l.map (·.1)).length=k:=by rw[Lj,hr]
 have h2:=h1.J J;have hI:=h4.J J;refine Zi rfl U (λhv=>?_) (λhv=>?_)
 .refine Qt ?_;have hJ:q.ts.length<=k:=by have hj:¬(k:Int)<(q.ts.length:Int):=hv;omega
  rw[Lx hJ]at hE;rw[YF]at hE;subst hE;refine Qj<|Qx<|(QhN O hs ht oa).S ?_;rintro r3 w3 ⟨hK,hL⟩;refine xe<|Qj<|x Qh<|Qb<|Qi ⟨[vo,sS 0],oB,V.I (J.G hK λb E=>.inr (Qg O b E).1),vo,U,λe=>O3 U e,λ_=>Zv hL oa⟩
 have Y:k<q.ts.length:=by have hj:(k:Int)<(q.ts.length:Int):=hv;omega
 have hM:q.ts.drop k=q.ts[k]'Y::q.ts.drop (k+1):=LH Y;rw[hM,Qa0]at hE;refine Qe<|Qd<|Qn<|Qc<|xp (g:=ZK) (i:=k) QeT hI.ts.arr U U Y λgp hj=>?_;refine Zd (q.ts[k]'Y) λy hy=>?_;rw[hy]at hj hE;refine x (Qu hj U U)<|QL [.string .empty,sS 0] λb9 w4 hN hO hP=>QJ (ZK y) hP oB λw5 hQ h5=>xe ?_;have hw:sW w2 w5:=hN.Q hQ hO;have hS:QG [] ↑w5 vt (l.map (·.1)):=(Qp.ints hh oa oe).J hw;refine Qj<|Qm U h5 U U<|Qa<|Qx<|(Qhg (h2.J hw) y.1 hS).S ?_;rintro r6 w6 ⟨⟨i,rfl,hi⟩,h6⟩;have Z:=hw.I h6;have gq:=Z.size;refine Qa<|QS U U<|QS U U<|x Qh<|Qb<|Qd<|Qj<|Zu U U<|xe<|QY rfl (λhe=>?_) (λhe=>?_)
 .rw[O1 he]at hE;subst hE;refine Qj<|x Qh<|Qb<|Qi ⟨[Zn,sS _],oB,V.I (J.I Z),Zn,U,λ_=>U,λe=>O3 e he⟩
 rw[O0 he]at hE;have h7:jt (es.map DV.it) y.1 (l.map (·.1))=0:=Lq.1 he;have hi:=hi h7;obtain⟨hF,h8⟩:=QlQ h7;rw[Lj]at hF;refine Zd (YK (es.map DV.it) 1 y.1) λF hT=>?_;rw[hT]at hi hF h8 hE;subst hi;refine Qe ?_;have hU:Qp 3 ↑H w6 vt (l.map (·.1)):=Ql hh Z;refine Qj<|Qa<|Qo<|Zb [[sS F]] λgr w7 hg gs hV=>?_;have h9:Qp 3 ↑H w7 vt (l.map (·.1)):=Ql hU hg;have gt:=hg.size;refine Qo<|Q9 (m:=1) (news:=[sS F]) h9 U U U (by have:=hV.at (L:=[]) oe;simpa using this) oq oa oa λhl w8 hW hm hX=>?_;refine Qb ?_;have gu:=hm.size;have hY:∀b∈ob vt,↑H<=b:=λb E=>(Qg h9 b E).1;have hZ:sW H w8:=((J.I Z).I hg).G hm λb E=>.inr (hY b E);have hA:∀b∈ob vo,b∉ob hl:=λb E S=>by
  rcases hX b S with I|I
  .exact ho b E I
  have:=(Qg O b E).2;omega
 refine Qq<|Qa<|Qa<|QN U<|x (Qk (((h5.J h6).J hg).O hm (λE=>ov (Qg hh b9 E).2)) U U)<|x (Qv ⟨U,U,La⟩)<|Qo<|Zb [QD ((F:Int),y.2)] λgv w9 hn gw ga=>?_;have gx:=hn.size;refine Qo<|Q9 (m:=1) (news:=QD ((F:Int),y.2)) (Ql (Qf (Ql (Ql O Z) hg) hm ho) hn) U U U (by have:=ga.at (L:=[]) oe;simpa using this) oq oa oa λhB hz gb hC gc=>?_;refine Qb ?_;have hD:=Ql hW hn;have gg:Qp 3 ↑H hz hl ((l++[((F:Int),y.2)]).map (·.1)):=by
  have I:=Qf hD hC (λb E S=>hA b S E);show hz.ownsRow _ _ 1 _ _ _;simp only[Oi,oN,o6]at I ⊢;simpa using I
 have gh:sW H hz:=(hZ.I hn).G hC λb E=>.inr (Qg O b E).1;have gi:∀b∈ob hB,b∉ob hl:=λb E S=>by
  rcases gc b E with I|I
  .exact hA b I S
  have:=(Qg hD b S).2;omega
 refine Qq<|QH U U<|Qa<|xe<|⟨(k+1,hB,hl,l++[((F:Int),y.2)]),by show q.ts.length - (k+1)<q.ts.length - k;omega,oC,Y,gh,by rw[Ln,LC];simpa using gb,gg,gi,by simp[hr],λp T=>?_,?_,?_⟩
 .rcases Lh.1 T with T|T
  .exact hs p T
  simp only[oJ]at T;subst T;exact⟨og,og⟩
 .rw[Ls,Mi];refine⟨ht,oe,λa ha b E e=>?_⟩;simp only[oX,OD,oJ]at E;subst E;subst e;exact h8 ha
 rw[Ls];exact hE
structure Y4 where
 dr:Bool
 q:DV
abbrev ZS (e:Y4):LV:=[.bool e.dr,sS e.q.kd,.string e.q.nm,e.q.p.va,sS e.q.p.a.st,e.q.p.vm,e.q.p.ve,e.q.vl,e.q.vt,sS e.q.bd]
theorem QoP (e:Y4):(ZS e).length=10:=rfl
def Y4.e (e:Y4):Bool×Yd:=(e.dr,e.q.it)
def QmH (L:LN)(H:xI)(e:Y4):Prop:=Ji L H e.q
instance:Mm QmH:=⟨λh E=>Ji.st h E,λh H=>Ji.up h H⟩
theorem QmH.ones {L:LN}{H:xI}{e:Y4}(h:QmH L H e):Zj (ZS e):=⟨U,Ji.ones h⟩
abbrev Qad (L:LN)(H:xI)(v:O9)(l:List Y4):Prop:=Go.Lg.K3 ZS 10 QmH L H v l
theorem QoZ {l:List Yd}{x:Yd}(h:(zQ l x).1=0):(zQ l x).2.length<=76:=by
 unfold zQ at *;split at h
 .rename_i E;exact O3 h E
 rename_i E;have J:=VO (Lq.1 E);rw[O0 E];split at h
 .rename_i H;exact O3 h H
 rename_i H;rw[O0 H];split at h
 .rename_i I;rw[O1 I,L9];exact J
 rename_i I;rw[O0 I];split at h
 .cases h
 rename_i O;rw[O0 O];simp only[oN,Ob,oV,Oa];omega
theorem Qo5 {l:List Yd}{k:Int}{n:ByteArray}(h:(zR l k n).1=0):(zR l k n).2.length<=76:=by
 unfold zR at *;split at h
 .rename_i E;exact O3 h E
 rename_i E;have I:=VO (Lq.1 E);rw[O0 E];split at h
 .cases h
 rename_i H;rw[O0 H];simp only[oN,Ob,Oa];omega
theorem QmM {v:O9}{es:List DV}{xs:List Y4}(E:K2 L ↑w v es)(hw:Qad L' ↑w vx xs):
  QZ sV 42 [v,vx] w λr w'=>sW w w'/\∃vo l,r=.tuple #[vo,sS (j4 (es.map DV.it) (xs.map Y4.e)).1]/\JK ↑w w' vo l/\((j4 (es.map DV.it) (xs.map Y4.e)).1=0->l.map DV.it=(j4 (es.map DV.it) (xs.map Y4.e)).2/\l.length<=76):=by
 have h:=E.up (L':=[]) oe;have hx:Qad [] ↑w vx xs:=hw.up oe;have hH:=hx.arr.le;have H:j4 (es.map DV.it) (xs.map Y4.e)=if KE (es.map DV.it)≠0 then(KE (es.map DV.it),[])else Qcr (xs.map Y4.e) (es.map DV.it):=rfl
 refine Zd (j4 (es.map DV.it) (xs.map Y4.e)) λD hD=>?_;rw[hD]at H ⊢;refine Zt func42 ?_;refine Qc<|x Qh<|Qb<|Qd<|Qj<|Qx<|(JS h).S ?_;rintro r1 w1 ⟨rfl,T⟩;refine Qb<|Qj<|Zu U U<|xe<|QY rfl (λI=>?_) (λI=>?_)
 .rw[O1 I]at H;refine Qj<|x Qh<|Qb<|Qi ⟨[nS,sS (KE (es.map DV.it))],oB,T,nS,[],by rw[H];rfl,Yt.nil,λE=>O3 (by rw[H]at E;exact E) I⟩
 rw[O0 I]at H;have hI:es.length<=76:=by have:=VO (Lq.1 I);rwa [Lj]at this
 refine Qe<|Qj<|Qx<|(Kt (h.J T) oa).S ?_;rintro r2 w2 ⟨hy,l2,hz,hi⟩;have hJ:l2.length=es.length:=by have:=O2 oR hi;rwa [Lj,Lj]at this
 refine Qb<|Qd<|Qj<|QE hx.arr U<|Qa<|xe<|Q2 (α:=Nat×O9×List DV) [(4,5),(7,7),(9,10),(20,47)] (λz=>[(7,z.2.1),(20,sS z.1)]) (λz w'=>z.1<=xs.length/\sW w w'/\JK ↑w w' z.2.1 z.2.2/\z.2.2.length<=76/\Qcr ((xs.map Y4.e).drop z.1) (z.2.2.map DV.it)=D) (λz=>xs.length - z.1) (0,r2,l2) oB
  ⟨Lp _,(T.I hy),hz.base T.size,(show l2.length<=76 by omega),by rw[List.drop_zero,hi];exact H.symm⟩ ?_
 rintro⟨k,vo,l⟩ g Y ⟨hk,Z,hl,hj,hR⟩;simp only[]at hk hl hj hR;refine Zi rfl U (λha=>?_) (λha=>?_)
 .refine Qt ?_;have h2:xs.length<=k:=by have h3:¬(k:Int)<(xs.length:Int):=ha;omega
  rw[Lx (by rw[Lj];exact h2),Qcr]at hR;refine Qj<|x Qh<|Qb<|Qi ⟨[vo,sS 0],oB,Z,vo,l,by rw[<-hR];rfl,hl,λ_=>⟨by rw[<-hR],hj⟩⟩
 have J:k<xs.length:=by have h3:(k:Int)<(xs.length:Int):=ha;omega
 have h4:k<(xs.map Y4.e).length:=by rw[Lj];exact J
 rw[LH h4,LW,Qcr]at hR;have hm:=Lm J;have hn:Qad [] ↑Y vx xs:=Go.Lg.K3.J hx Z;refine Qe<|Qd<|Qn<|Qc<|xp (g:=ZS) (i:=k) QoP hn.arr U U J λhK ho=>?_;refine Zd (xs[k]'J) λe he=>?_;rw[he]at ho hm hR;have hp:Ji [] ↑Y e.q:=hn.each e hm;refine x (Qu ho U U)<|QL [.bool false,sS 0,.string .empty,nS,sS 0,nS,nS,nS,nS,sS 0] λb9 w4 h5 h6 h7=>QJ (ZS e) h7 (QmH.ones hp) λw5 h8 V=>xe ?_;have hb:sW Y w5:=h5.Q h8 h6;have hc:=Z.I hb;have hq:=hc.size;have h9:=hl.J hb;have hr:K2 [] ↑w5 vo l:=JK.dits h9 oa oe;refine Qc<|Qb<|QX (α:=O9×List DV) [(7,7),(10,10),(24,43)] (λz=>[(7,z.1),(10,sS (j5 (l.map DV.it) e.e).1)]) (λz w'=>sW w w'/\JK ↑w w' z.1 z.2/\((j5 (l.map DV.it) e.e).1=0->z.2.map DV.it=(j5 (l.map DV.it) e.e).2/\z.2.length<=76)) om ?_ ?_
 .refine Qc<|Qm U V U U<|xe<|Q6 U (λhg=>?_) (λhg=>?_)
  .have e1:j5 (l.map DV.it) e.e=zR (l.map DV.it) e.q.kd e.q.nm:=O1 hg;rw[e1];refine Qq<|Qa<|QN U<|Qm U V U U<|QN U<|QN U<|x (Qk V U U) <|
    Qx<|(QpD hr e.q.kd e.q.nm).S ?_
   rintro r7 w7 ⟨hA,v7,l7,rfl,hB,hs⟩;refine Qa<|QS U U<|QS U U<|x Qh<|Qb<|⟨(v7,l7),oB,hc.I hA,hB.base hq,λE=>⟨hs E,?_⟩⟩;have O:=Qo5 E;rw[<-hs E,Lj]at O;exact O
  have e1:j5 (l.map DV.it) e.e=zQ (l.map DV.it) e.q.it:=O0 (by show ¬e.dr=true;rw[hg];decide);rw[e1];refine Qq<|Qa<|QN U<|x (Q7 (us:=Qs e.q) V U U U)<|Qx<|(QrW hr (hp.J hb)).S ?_;rintro r6 w6 ⟨hC,v6,l6,rfl,hE,ht⟩;refine Qa<|QS U U<|QS U U<|x Qh<|Qb<|⟨(v6,l6),oB,hc.I hC,hE.base hq,λE=>⟨ht E,?_⟩⟩;have O:=QoZ E;rw[<-ht E,Lj]at O;exact O
 rintro⟨v8,l8⟩ g w8 ⟨hv,hF,hh⟩;refine Qj<|Zu U U<|xe<|QY rfl (λS=>?_) (λS=>?_)
 .rw[O1 S]at hR;refine Qj<|x Qh<|Qb<|Qi ⟨[nS,sS (j5 (l.map DV.it) e.e).1],oB,hv,nS,[],by rw[<-hR];rfl,Yt.nil,λE=>O3 (by rw[<-hR]at E;exact E) S⟩
 rw[O0 S]at hR;obtain⟨hh,hG⟩:=hh (Lq.1 S);refine Qe<|Qq<|QH U U<|Qa<|xe ?_;exact⟨(k+1,v8,l8),og,oB,J,hv,hF,hG,by simp only[];rw[hh];exact hR⟩
structure yr where
 vc:O9
 lc:List IV
 vr:O9
 lr:List IV
 vx:O9
 lx:List XV
 vk:O9
 lk:List KV
def yr.bl (z:yr):LN:=ob z.vc++(ob z.vr++(ob z.vx++ob z.vk))
structure CeA (L:LN)(H:xI)(z:yr):Prop where
 c:∀q∈z.lc,IvA L H q
 r:∀q∈z.lr,IvA L H q
 x:∀q∈z.lx,XvA L H q
 k:∀q∈z.lk,KvA L H q
instance:Mm CeA:=⟨λh H=>⟨λq E=>(h.c q E).st H,λq E=>(h.r q E).st H,λq E=>(h.x q E).st H,λq E=>(h.k q E).st H⟩,λh I=>⟨λq E=>(h.c q E).up I,λq E=>(h.r q E).up I,λq E=>(h.x q E).up I,λq E=>(h.k q E).up I⟩⟩
theorem Mm.own {E:LN->Array Obj->α->Prop}[Mm E]{O O' LL X:LN}{q:α}(h:E (O++LL) ↑w q)(I:xj X w w')(J:∀b∈X,b∈O\/b∈LL)(S:∀b∈O',b∈O\/↑w<=b):E (O'++LL) ↑w' q:=by
 have T:E (O'++(O++LL)) ↑w q:=Mm.up h λb H=>(Lh.1 H).elim (λH=>(S b H).imp (λh=>Lh.2 (.inl h)) id) .inl;refine Mm.S (Mm.st T (I.S λb H=>Lh.2 (.inr (Lh.2 (J b H))))) λb H=>?_;exact(Lh.1 H).elim (λH=>Lh.2 (.inl H)) λH=>Lh.2 (.inr (Lh.2 (.inr H)))
structure CwI (LL:LN)(B:Nat)(w:O8)(b7:Nat)(ve:O9)(z:yr):Prop where
 b:∃T,QP ↑w b7 T [ve,z.vc,z.vr,z.vx,z.vk]
 oc:w.ownsRow B 98 5 z.vc z.lc.length (z.lc.flatMap QK)
 or:w.ownsRow B 98 5 z.vr z.lr.length (z.lr.flatMap QK)
 ox:w.ownsRow B 105 2 z.vx z.lx.length (z.lx.flatMap Q0)
 ok:w.ownsRow B 110 3 z.vk z.lk.length (z.lk.flatMap Q5)
 e:CeA (z.bl++LL) ↑w z
 dcr:∀b∈ob z.vc,b∉ob z.vr
 dcx:∀b∈ob z.vc,b∉ob z.vx
 dck:∀b∈ob z.vc,b∉ob z.vk
 drx:∀b∈ob z.vr,b∉ob z.vx
 drk:∀b∈ob z.vr,b∉ob z.vk
 dxk:∀b∈ob z.vx,b∉ob z.vk
section
variable {LL:LN}{w8 w9:O8}{b7:Nat}{z:yr}
theorem CwI.J (h:CwI LL B w b7 ve z)(E:sW w w8):CwI LL B w8 b7 ve z:=by
 obtain⟨T,H⟩:=h.b;exact⟨⟨T,H.J E⟩,Ql h.oc E,Ql h.or E,Ql h.ox E,Ql h.ok E,Mm.J h.e E,h.dcr,h.dcx,h.dck,h.drx,h.drk,h.dxk⟩
theorem CwI.ge (h:CwI LL B w b7 ve z):∀b∈z.bl,B<=b/\b<w.heap.size:=λb E=>by
 unfold yr.bl at E;rcases Lh.1 E with E|E
 .exact Qg h.oc b E
 rcases Lh.1 E with E|E
 .exact Qg h.or b E
 rcases Lh.1 E with E|E
 .exact Qg h.ox b E
 exact Qg h.ok b E
theorem CwI.ap_c (h:CwI LL B w b7 ve z){I:O9}{q:IV}(Z:IvA (z.bl++LL) ↑w q)(Y:w8.ownsRow B 98 5 I (z.lc.length+1) (z.lc.flatMap QK++QK q))(S:xj (ob z.vc) w w8)(V:∀b∈ob I,b∈ob z.vc\/↑w<=b)
  (O:xj [b7] w8 w9) (ha:∃T,QP ↑w9 b7 T [ve,I,z.vr,z.vx,z.vk]) (h7:b7<B) (hL:b7∈LL):CwI LL B w9 b7 ve { z with vc:=I,lc:=z.lc++[q] }:=by
 have gr:=Qg h.or;have gx:=Qg h.ox;have gk:=Qg h.ok;have hc:w8.ownsRow B 98 5 I (z.lc++[q]).length ((z.lc++[q]).flatMap QK):=by
  rw[Ln,LC];simpa using Y
 have he:∀b∈ob z.vc,b∈z.bl:=λb E=>by
  unfold yr.bl;simp only[oU];exact .inl E
 have hz:CeA (z.bl++LL) ↑w { z with vc:=I,lc:=z.lc++[q] }:=⟨λd hd=>(Lh.1 hd).elim (h.e.c d) λhd=>by rw[Lc.1 hd];exact Z,h.e.r,h.e.x,h.e.k⟩
 have hg:CeA ((yr.bl { z with vc:=I,lc:=z.lc++[q] })++LL) ↑w8 { z with vc:=I,lc:=z.lc++[q] }:=Mm.own hz S (λb E=>.inl (he b E)) λb E=>by
  unfold yr.bl at E ⊢;simp only[oU]at E ⊢;rcases E with E|E|E|E
  .exact(V b E).imp (λE=>.inl E) id
  .exact .inl (.inr (.inl E))
  .exact .inl (.inr (.inr (.inl E)))
  exact .inl (.inr (.inr (.inr E)))
 refine⟨ha,Qf hc O (λb E H=>by rw[Lc.1 H]at E;have:=(Qg Y) b7 E;omega),Qf (Qf h.or S (λb E H=>h.dcr b H E)) O (λb E H=>by rw[Lc.1 H]at E;have:=gr b7 E;omega),Qf (Qf h.ox S (λb E H=>h.dcx b H E)) O (λb E H=>by rw[Lc.1 H]at E;have:=gx b7 E;omega),Qf (Qf h.ok S (λb E H=>h.dck b H E)) O (λb E H=>by rw[Lc.1 H]at E;have:=gk b7 E;omega),Mm.own hg O (λb E=>.inr (by rw[Lc.1 E];exact hL)) (λb E=>.inl E),λb E H=>(V b E).elim (λJ=>h.dcr b J H) (λJ=>ov (gr b H)),λb E H=>(V b E).elim (λJ=>h.dcx b J H) (λJ=>ov (gx b H)),λb E H=>(V b E).elim (λJ=>h.dck b J H) (λJ=>ov (gk b H)),h.drx,h.drk,h.dxk⟩
theorem CwI.ap_r (h:CwI LL B w b7 ve z){I:O9}{q:IV}(Z:IvA (z.bl++LL) ↑w q)(Y:w8.ownsRow B 98 5 I (z.lr.length+1) (z.lr.flatMap QK++QK q))(S:xj (ob z.vr) w w8)(V:∀b∈ob I,b∈ob z.vr\/↑w<=b)
  (O:xj [b7] w8 w9) (ha:∃T,QP ↑w9 b7 T [ve,z.vc,I,z.vx,z.vk]) (h7:b7<B) (hL:b7∈LL):CwI LL B w9 b7 ve { z with vr:=I,lr:=z.lr++[q] }:=by
 have gc:=Qg h.oc;have gx:=Qg h.ox;have gk:=Qg h.ok;have hc:w8.ownsRow B 98 5 I (z.lr++[q]).length ((z.lr++[q]).flatMap QK):=by
  rw[Ln,LC];simpa using Y
 have he:∀b∈ob z.vr,b∈z.bl:=λb E=>by
  unfold yr.bl;simp only[oU];exact .inr (.inl E)
 have hz:CeA (z.bl++LL) ↑w { z with vr:=I,lr:=z.lr++[q] }:=⟨h.e.c,λd hd=>(Lh.1 hd).elim (h.e.r d) λhd=>by rw[Lc.1 hd];exact Z,h.e.x,h.e.k⟩
 have hg:CeA ((yr.bl { z with vr:=I,lr:=z.lr++[q] })++LL) ↑w8 { z with vr:=I,lr:=z.lr++[q] }:=Mm.own hz S (λb E=>.inl (he b E)) λb E=>by
  unfold yr.bl at E ⊢;simp only[oU]at E ⊢;rcases E with E|E|E|E
  .exact .inl (.inl E)
  .exact(V b E).imp (λE=>.inr (.inl E)) id
  .exact .inl (.inr (.inr (.inl E)))
  exact .inl (.inr (.inr (.inr E)))
 refine⟨ha,Qf (Qf h.oc S (λb E H=>h.dcr b E H)) O (λb E H=>by rw[Lc.1 H]at E;have:=gc b7 E;omega),Qf hc O (λb E H=>by rw[Lc.1 H]at E;have:=(Qg Y) b7 E;omega),Qf (Qf h.ox S (λb E H=>h.drx b H E)) O (λb E H=>by rw[Lc.1 H]at E;have:=gx b7 E;omega),Qf (Qf h.ok S (λb E H=>h.drk b H E)) O (λb E H=>by rw[Lc.1 H]at E;have:=gk b7 E;omega),Mm.own hg O (λb E=>.inr (by rw[Lc.1 E];exact hL)) (λb E=>.inl E),λb E H=>(V b H).elim (λJ=>h.dcr b E J) (λJ=>ov (gc b E)),h.dcx,h.dck,λb E H=>(V b E).elim (λJ=>h.drx b J H) (λJ=>ov (gx b H)),λb E H=>(V b E).elim (λJ=>h.drk b J H) (λJ=>ov (gk b H)),h.dxk⟩
theorem CwI.ap_x (h:CwI LL B w b7 ve z){I:O9}{q:XV}(Z:XvA (z.bl++LL) ↑w q)(Y:w8.ownsRow B 105 2 I (z.lx.length+1) (z.lx.flatMap Q0++Q0 q))(S:xj (ob z.vx) w w8)(V:∀b∈ob I,b∈ob z.vx\/↑w<=b)
  (O:xj [b7] w8 w9) (ha:∃T,QP ↑w9 b7 T [ve,z.vc,z.vr,I,z.vk]) (h7:b7<B) (hL:b7∈LL):CwI LL B w9 b7 ve { z with vx:=I,lx:=z.lx++[q] }:=by
 have gc:=Qg h.oc;have gr:=Qg h.or;have gk:=Qg h.ok;have hc:w8.ownsRow B 105 2 I (z.lx++[q]).length ((z.lx++[q]).flatMap Q0):=by
  rw[Ln,LC];simpa using Y
 have he:∀b∈ob z.vx,b∈z.bl:=λb E=>by
  unfold yr.bl;simp only[oU];exact .inr (.inr (.inl E))
 have hz:CeA (z.bl++LL) ↑w { z with vx:=I,lx:=z.lx++[q] }:=⟨h.e.c,h.e.r,λd hd=>(Lh.1 hd).elim (h.e.x d) λhd=>by rw[Lc.1 hd];exact Z,h.e.k⟩
 have hg:CeA ((yr.bl { z with vx:=I,lx:=z.lx++[q] })++LL) ↑w8 { z with vx:=I,lx:=z.lx++[q] }:=Mm.own hz S (λb E=>.inl (he b E)) λb E=>by
  unfold yr.bl at E ⊢;simp only[oU]at E ⊢;rcases E with E|E|E|E
  .exact .inl (.inl E)
  .exact .inl (.inr (.inl E))
  .exact(V b E).imp (λE=>.inr (.inr (.inl E))) id
  exact .inl (.inr (.inr (.inr E)))
 refine⟨ha,Qf (Qf h.oc S (λb E H=>h.dcx b E H)) O (λb E H=>by rw[Lc.1 H]at E;have:=gc b7 E;omega),Qf (Qf h.or S (λb E H=>h.drx b E H)) O (λb E H=>by rw[Lc.1 H]at E;have:=gr b7 E;omega),Qf hc O (λb E H=>by rw[Lc.1 H]at E;have:=(Qg Y) b7 E;omega),Qf (Qf h.ok S (λb E H=>h.dxk b H E)) O (λb E H=>by rw[Lc.1 H]at E;have:=gk b7 E;omega),Mm.own hg O (λb E=>.inr (by rw[Lc.1 E];exact hL)) (λb E=>.inl E),h.dcr,λb E H=>(V b H).elim (λJ=>h.dcx b E J) (λJ=>ov (gc b E)),h.dck,λb E H=>(V b H).elim (λJ=>h.drx b E J) (λJ=>ov (gr b E)),h.drk,λb E H=>(V b E).elim (λJ=>h.dxk b J H) (λJ=>ov (gk b H))⟩
theorem CwI.ap_k (h:CwI LL B w b7 ve z){I:O9}{q:KV}(Z:KvA (z.bl++LL) ↑w q)(Y:w8.ownsRow B 110 3 I (z.lk.length+1) (z.lk.flatMap Q5++Q5 q))(S:xj (ob z.vk) w w8)(V:∀b∈ob I,b∈ob z.vk\/↑w<=b)
  (O:xj [b7] w8 w9) (ha:∃T,QP ↑w9 b7 T [ve,z.vc,z.vr,z.vx,I]) (h7:b7<B) (hL:b7∈LL):CwI LL B w9 b7 ve { z with vk:=I,lk:=z.lk++[q] }:=by
 have gc:=Qg h.oc;have gr:=Qg h.or;have gx:=Qg h.ox;have hc:w8.ownsRow B 110 3 I (z.lk++[q]).length ((z.lk++[q]).flatMap Q5):=by
  rw[Ln,LC];simpa using Y
 have he:∀b∈ob z.vk,b∈z.bl:=λb E=>by
  unfold yr.bl;simp only[oU];exact .inr (.inr (.inr E))
 have hz:CeA (z.bl++LL) ↑w { z with vk:=I,lk:=z.lk++[q] }:=⟨h.e.c,h.e.r,h.e.x,λd hd=>(Lh.1 hd).elim (h.e.k d) λhd=>by rw[Lc.1 hd];exact Z⟩
 have hg:CeA ((yr.bl { z with vk:=I,lk:=z.lk++[q] })++LL) ↑w8 { z with vk:=I,lk:=z.lk++[q] }:=Mm.own hz S (λb E=>.inl (he b E)) λb E=>by
  unfold yr.bl at E ⊢;simp only[oU]at E ⊢;rcases E with E|E|E|E
  .exact .inl (.inl E)
  .exact .inl (.inr (.inl E))
  .exact .inl (.inr (.inr (.inl E)))
  exact(V b E).imp (λE=>.inr (.inr (.inr E))) id
 refine⟨ha,Qf (Qf h.oc S (λb E H=>h.dck b E H)) O (λb E H=>by rw[Lc.1 H]at E;have:=gc b7 E;omega),Qf (Qf h.or S (λb E H=>h.drk b E H)) O (λb E H=>by rw[Lc.1 H]at E;have:=gr b7 E;omega),Qf (Qf h.ox S (λb E H=>h.dxk b E H)) O (λb E H=>by rw[Lc.1 H]at E;have:=gx b7 E;omega),Qf hc O (λb E H=>by rw[Lc.1 H]at E;have:=(Qg Y) b7 E;omega),Mm.own hg O (λb E=>.inr (by rw[Lc.1 E];exact hL)) (λb E=>.inl E),h.dcr,h.dcx,λb E H=>(V b H).elim (λJ=>h.dck b E J) (λJ=>ov (gc b E)),h.drx,λb E H=>(V b H).elim (λJ=>h.drk b E J) (λJ=>ov (gr b E)),λb E H=>(V b H).elim (λJ=>h.dxk b E J) (λJ=>ov (gx b E))⟩
end
def jS (ev:List Kf)(z:yr):Zy:=⟨ev,z.lc.map IV.it,z.lr.map IV.it,z.lx.map XV.x,z.lk.map KV.k⟩
theorem QiH (all:List Yd)(x:Yd)(l:List Yd)(c:Zy):QiI all (x::l) c=if(KT all x c).1≠0 then((KT all x c).1,qk)else QiI all l (KT all x c).2:=rfl
theorem Qt7 {all:List Yd}{ev:List Kf}{z:yr}{q:DV}(h:q.kd=1)(v:O9):KT all q.it (jS ev z)=(0,jS ev { z with vc:=v,lc:=z.lc++[⟨q.nm,q.p⟩] }):=by
 unfold KT;rw[O1 (show q.it.kd=1 from h)];unfold jS;simp only[Oi];rfl
theorem Qt6 {all:List Yd}{ev:List Kf}{z:yr}{q:DV}(h:q.kd=2)(v:O9):KT all q.it (jS ev z)=(0,jS ev { z with vr:=v,lr:=z.lr++[⟨q.nm,q.p⟩] }):=by
 unfold KT;rw[O0 (show ¬q.it.kd=1 from λe=>by rw[show q.it.kd=q.kd from rfl,h]at e;cases e),O1 (show q.it.kd=2 from h)];unfold jS;simp only[Oi];rfl
theorem Qt5 {all:List Yd}{ev:List Kf}{z:yr}{q:DV}(h:q.kd=3):(KT all q.it (jS ev z)).1=(YF all q.ls [] []).1/\((YF all q.ls [] []).1=0->∀v u,KT all q.it (jS ev z)=(0,jS ev { z with vx:=v,lx:=z.lx++[⟨q.nm,u,(YF all q.ls [] []).2⟩] })):=by
 have e:KT all q.it (jS ev z)=if(YF all q.ls [] []).1≠0 then((YF all q.ls [] []).1,qk)else(0,{ jS ev z with ex:=(jS ev z).ex++[⟨q.nm,(YF all q.ls [] []).2⟩] }):=by
  unfold KT;rw[O0 (show ¬q.it.kd=1 from λe=>by rw[show q.it.kd=q.kd from rfl,h]at e;cases e),O0 (show ¬q.it.kd=2 from λe=>by rw[show q.it.kd=q.kd from rfl,h]at e;cases e),O1 (show q.it.kd=3 from h)];rfl
 rw[e];refine⟨?_,λE v u=>?_⟩
 .split
  .rfl
  rename_i H;exact(Lq.1 H).symm
 rw[O0 (not_not_intro E)];unfold jS;simp only[Oi];rfl
theorem Qt4 {all:List Yd}{ev:List Kf}{z:yr}{q:DV}(h:q.kd=4):(KT all q.it (jS ev z)).1=(YF all q.ts [] []).1/\((YF all q.ts [] []).1=0->∀v u,KT all q.it (jS ev z)=(0,jS ev { z with vk:=v,lk:=z.lk++[⟨q.nm,u,(YF all q.ts [] []).2,q.bd⟩] })):=by
 have e:KT all q.it (jS ev z)=if(YF all q.ts [] []).1≠0 then((YF all q.ts [] []).1,qk)else(0,{ jS ev z with cs:=(jS ev z).cs++[⟨q.nm,(YF all q.ts [] []).2,q.bd⟩] }):=by
  unfold KT;rw[O0 (show ¬q.it.kd=1 from λe=>by rw[show q.it.kd=q.kd from rfl,h]at e;cases e),O0 (show ¬q.it.kd=2 from λe=>by rw[show q.it.kd=q.kd from rfl,h]at e;cases e),O0 (show ¬q.it.kd=3 from λe=>by rw[show q.it.kd=q.kd from rfl,h]at e;cases e),O1 (show q.it.kd=4 from h)];rfl
 rw[e];refine⟨?_,λE v u=>?_⟩
 .split
  .rfl
  rename_i H;exact(Lq.1 H).symm
 rw[O0 (not_not_intro E)];unfold jS;simp only[Oi];rfl
theorem Qt8 {all:List Yd}{q:DV}(E:¬q.kd=1)(H:¬q.kd=2)(I:¬q.kd=3)(J:¬q.kd=4):KT all q.it c=(0,c):=by
 unfold KT;rw[O0 (show ¬q.it.kd=1 from E),O0 (show ¬q.it.kd=2 from H),O0 (show ¬q.it.kd=3 from I),O0 (show ¬q.it.kd=4 from J)]
theorem jr (all:List Yd):∀(r:List (ByteArray×Int)) (tk:LI) (o:xF),(YF all r tk o).2.length<=o.length+r.length
 | [],tk,o=>by rw[YF];exact Nat.le_of_eq ((qT (λp:Int×Int=>p.1) o).length_eq)
 | y::r,tk,o=>by
  rw[YF];split
  .simp
  split
  .simp
  refine LJ (jr all r _ _) ?_;simp only[oN,oV,OM];omega
theorem QlL {v:O9}{ev:List Kf}{es:List DV}(kc:Uk L ↑w ve ev)(h0:K2 L' ↑w v es)(E:∀q∈es.map DV.it,q.ls.length<=100000/\q.ts.length<=100000):
  QZ sV 43 [ve,v] w λr w'=>sW w w'/\∃cm:CL,r=.tuple #[sT cm.cells,sS (Uj ev (es.map DV.it)).1]/\Zj cm.cells/\((Uj ev (es.map DV.it)).1=0->cm.Z=(Uj ev (es.map DV.it)).2/\∀L:LN,(∀b∈L,b<↑w)->ZG L ↑w' cm):=by
 have h:=h0.up (L':=[]) oe;have hE:=kc.up (L':=[]) oe;have ke:=hE.arr.le;have ho:Uj ev (es.map DV.it)=if KE (es.map DV.it)≠0 then(KE (es.map DV.it),qk)else QiI (es.map DV.it) (es.map DV.it) ⟨ev,[],[],[],[]⟩:=rfl
 have hQ:Zj (CL.mk Zn Zn Zn Zn Zn [] [] [] [] []).cells:=⟨U,U,U,U,U,La⟩;refine Zd (Uj ev (es.map DV.it)) λD hD=>?_;rw[hD]at ho ⊢;refine Zt func43 ?_;refine Qc<|QL Z3 λb4 w1 g3 mw hS=>Qb<|Qd<|Qj<|Qx<|(JS (h.J g3)).S ?_;rintro r2 w2 ⟨rfl,hF⟩;have hT:=g3.I hF;have my:=hF.size;have mz:=hS.lt;refine Qb<|Qj<|Zu U U<|xe<|QY rfl (λhw=>?_) (λhw=>?_)
 .rw[O1 hw]at ho;refine Qc<|x (Qv La)<|Qa<|QJ Z3 (hS.J hF) ⟨U,U,U,U,U,La⟩ λw3 kf kg=>Qb<|Qi ⟨[sT Z3,sS (KE (es.map DV.it))],⟨YO kg,U,La⟩,hT.Q kf oa,CL.mk Zn Zn Zn Zn Zn [] [] [] [] [],by rw[ho];rfl,hQ,λh0=>O3 (by rw[ho]at h0;exact h0) hw⟩
 rw[O0 hw]at ho;have m2:es.length<=76:=by have:=VO (Lq.1 hw);rwa [Lj]at this
 refine Qe<|Qj<|Qx<|(UC (hE.J hT).arr).S ?_;rintro re w4 ⟨hU,hy⟩;have m3:=hU.size;refine x (Qv ⟨xS hy,La⟩)<|QL Z3 λJ w5 kh ki kj=>QJ [re,Zn,Zn,Zn,Zn] kj ⟨Qr hy,U,U,U,U,La⟩ λw6 kk g4=>xe ?_;have hV:sW w4 w6:=kh.Q kk ki;have g5:=(hT.I hU).I hV;have kn:=g4.lt;have hge:=Qg hy;refine Qd<|Qj<|Qx<|(Kt (h.J g5) oa).S ?_;rintro r7 w8 ⟨hz,l,hl,V⟩;have m4:l.length=es.length:=by have:=O2 oR V;rwa [Lj,Lj]at this
 have ko:=g5.I hz;have m5:=hz.size;have kq:Zk [] ↑w8 r7 l.length 9 (l.flatMap Qs):=QC hl.own oa oe;have kr:=g4.J hz;have hW:=((hS.J hF).J hU).J (hV.I hz);have kt:=Ql (Ql hy hV) hz;rw[<-V]at ho E;refine QE kq U<|Qa<|xe<|Q2 (α:=Nat×yr) [(5,5),(9,13),(26,100)] (λz=>[(26,sS z.1)]) (λz w'=>z.1<=l.length/\xj [J] w8 w'/\(∀L:LN,(∀b∈L,b<↑w)->CwI (b4::J::L) ↑w8 w' J re z.2)/\QiI (l.map DV.it) ((l.drop z.1).map DV.it) (jS ev z.2)=D/\(z.2.lc.length<=z.1/\z.2.lr.length<=z.1/\z.2.lx.length<=z.1/\z.2.lk.length<=z.1))
  (λz=>l.length - z.1) (0,⟨Zn,[],Zn,[],Zn,[],Zn,[]⟩) Lb ⟨Lp _,xj.Y _ _,λL _=>⟨⟨_,kr⟩,QI _ _ _ _,QI _ _ _ _,QI _ _ _ _,QI _ _ _ _,⟨oe,oe,oe,oe⟩,by simp[ob],by simp[ob],by simp[ob],by simp[ob],by simp[ob],by simp[ob]⟩,by rw[List.drop_zero];exact ho.symm,Lu _,Lu _,Lu _,Lu _⟩ ?_
 rintro⟨k,z⟩ g w9 ⟨hk,hg,hI,hR,ku,kv,kw,kx⟩;simp only[]at hk hI hR ku kv kw kx;have g6:sW w w9:=ko.Q hg oa;have m6:=hg.size;have hh:=hI [] oe;refine Zi rfl U (λhX=>?_) (λhX=>?_)
 .refine Qt ?_;have kz:l.length<=k:=by have k0:¬(k:Int)<(l.length:Int):=hX;omega
  rw[Lx kz]at hR;have g7:D=(0,jS ev z):=hR.symm;refine Exists.elim hh.b λT7 k4=>?_;have k5:=hW.O hg ol;have g8:Zj [re,z.vc,z.vr,z.vx,z.vk]:=⟨Qr hy,Qr hh.oc,Qr hh.or,Qr hh.ox,Qr hh.ok,La⟩;refine Qc<|QV k4 U U<|QJ [re,z.vc,z.vr,z.vx,z.vk] k5 g8 λk6 hG k7=>Qb<|Qi ⟨[.agg #[re,z.vc,z.vr,z.vx,z.vk],sS 0],⟨YO k7,U,La⟩,g6.Q hG oa,CL.mk re z.vc z.vr z.vx z.vk ev z.lc z.lr z.lx z.lk,by rw[g7];rfl,g8,λ_=>⟨by rw[g7];rfl,λN hN=>?_⟩⟩;have Y:=hI N hN;have hH:∀b∈b4::N,b<w8.heap.size:=λb E=>by
   rcases Lk.1 E with rfl|E
   .omega
   have:=hN b E;omega
  have hJ:∀b∈b4::N,b∈z.bl++(b4::J::N):=λb E=>Lh.2 (.inr (by
   rcases Lk.1 E with rfl|E
   .exact Lr
   exact Ll _ (Ll _ E)))
  have k8:=Qf kt hg (λb E V=>by rw[Lc.1 V]at E;have:=(hge J E).2;omega);have hC:ZG (b4::N) ↑w9 (CL.mk re z.vc z.vr z.vx z.vk ev z.lc z.lr z.lx z.lk):=
   ⟨⟨QC k8 ke (λb E hbL=>by
     have h1:=hge b E;rcases Lk.1 hbL with rfl|hbL
     .omega
     have:=hN b hbL;omega),hE.nm⟩,
    ⟨QC Y.oc (show z.lc.length<=1099511627776 by omega) (λb E hbL=>by have h1:=(Qg Y.oc b E).1;have:=hH b hbL;omega),λq S=>((Y.e.c q S).a.up λb E=>.inl (hJ b E)),λq S=>(Y.e.c q S).nm⟩,
    ⟨QC Y.or (show z.lr.length<=1099511627776 by omega) (λb E hbL=>by have h1:=(Qg Y.or b E).1;have:=hH b hbL;omega),λq S=>((Y.e.r q S).a.up λb E=>.inl (hJ b E)),λq S=>(Y.e.r q S).nm⟩,
    ⟨QC Y.ox (show z.lx.length<=1099511627776 by omega) (λb E hbL=>by have h1:=(Qg Y.ox b E).1;have:=hH b hbL;omega),λq S=>((Y.e.x q S).l.up λb E=>.inl (hJ b E)),λq S=>(Y.e.x q S).nm⟩,
    ⟨QC Y.ok (show z.lk.length<=1099511627776 by omega) (λb E hbL=>by have h1:=(Qg Y.ok b E).1;have:=hH b hbL;omega),λq S=>((Y.e.k q S).l.up λb E=>.inl (hJ b E)),λq S=>(Y.e.k q S).nm⟩⟩
  exact(hC.st (hG.S oe)).up λb E=>.inl (Ll _ E)
 have hi:k<l.length:=by have k0:(k:Int)<(l.length:Int):=hX;omega
 rw[LH hi,LO,QiH]at hR;have hY:=Lm hi;have k9:Zk [] ↑w9 r7 l.length 9 (l.flatMap Qs):=((QC hl.own oa (λb E V=>by rw[Lc.1 V]at E;have:=(Qg hl.own J E).1;omega):Zk [J] ↑w8 r7 l.length 9 (l.flatMap Qs)).st hg).up oe;refine Qe<|Qd<|Qn<|Qc<|xp (g:=Qs) (i:=k) ZZ k9 U U hi λm7 g9=>?_;refine Zd (l[k]'hi) λq S=>?_;rw[S]at g9 hY hR;have hK:=E q.it (LK hY);have ka:∀L:LN,(∀b∈L,b<↑w)->Ji (z.bl++(b4::J::L)) ↑w9 q:=λL O=>by
  have h1:Ji (b4::J::L) ↑w8 q:=hl.each q hY _ λb E=>.inl (by
   simp only[oM]at E;rcases E with rfl|rfl|E
   .omega
   .exact kn
   have:=O b E;omega)
  have T:Ji (z.bl++(b4::J::L)) ↑w8 q:=h1.up λb E=>by
   rcases Lh.1 E with E|E
   .exact .inr ((hI L O).ge b E).1
   exact .inl E
  exact T.st (hg.S oe)
 have ha:Ji [] ↑w9 q:=(ka [] oe).up oe;refine x (Qu g9 U U)<|QL z9 λb9 k6 hG ma mf=>QJ (Qs q) mf ha.ones λht mg he=>xe ?_;have hj:sW w9 ht:=hG.Q mg ma;have hM:=g6.I hj;have m8:=hj.size;have hn:∀L:LN,(∀b∈L,b<↑w)->CwI (b4::J::L) ↑w8 ht J re z:=λL O=>(hI L O).J hj;have h3:=hn [] oe;refine Exists.elim h3.b λT7 hv=>?_;have gc:=Qg hh.oc;have gr:=Qg hh.or;have gx:=Qg hh.ox;have gk:=Qg hh.ok;have n7c:J∉ob z.vc:=λV=>ov (gc J V).1
 have n7r:J∉ob z.vr:=λV=>ov (gr J V).1
 have n7x:J∉ob z.vx:=λV=>ov (gx J V).1
 have n7k:J∉ob z.vk:=λV=>ov (gk J V).1
 have kb:∀L:LN,(∀b∈L,b<↑w)->Ji (z.bl++(b4::J::L)) ↑ht q:=λL O=>(ka L O).J hj;have h4:xj [J] w8 ht:=hg.I hj;refine Qc<|Qm U he U U<|xe<|Qn<|Qc<|x (QW U U)<|Qb<|QY U (λhZ=>?_) (λhZ=>?_)
 .have hk1:q.kd=1:=hZ;refine Qq<|Qm U hv U U<|Qm U he U U<|QN U<|x (Q7 (us:=[q.p.va,sS q.p.a.st,q.p.vm,q.p.ve]) he U U U)<|x (Q8 [(0,[.string q.nm]),(1,[q.p.va,sS q.p.a.st,q.p.vm,q.p.ve])] ⟨U,U,U,U,La⟩) <|
   Qo<|Zb [QK ⟨q.nm,q.p⟩] λmh ga H mj gb=>Qo<|Q9 (m:=1) (news:=QK ⟨q.nm,q.p⟩) (L:=[]) (h3.J H).oc U U U (gb.at oe) (Zj.all (IvA.ones ⟨ha.a,ha.nm⟩)) (show z.lc.length+1<=1099511627776 by omega) (ov H.size) λhp h5 h6 I gg =>
   QN rfl<|Qo<|Qw (j:=1) (u:=hp) ((hv.J H).O I n7c) U U oe (Qr h6) λgh Z gi=>xe ?_
  have e:=Qt7 (all:=l.map DV.it) (ev:=ev) (z:=z) hk1 hp;rw[e,O0 oe]at hR;refine Qq<|QH U U<|Qa<|xe<|⟨(k+1,{ z with vc:=hp,lc:=z.lc++[⟨q.nm,q.p⟩] }),og,Lb,hi,((h4.I H).G I (λb E=>.inr (gc b E).1)).V Z,λL O=>((hn L O).J H).ap_c ⟨((kb L O).J H).a,ha.nm⟩ h6 I gg Z ⟨T7,gi⟩ oa oe,hR,?_⟩
  simp only[oN,oP];omega
 have hk1:¬q.kd=1:=hZ;refine Qc<|x (QW U U)<|Qb<|QY U (λgj=>?_) (λgj=>?_)
 .have gl:q.kd=2:=gj;refine Qq<|Qm U hv U U<|Qm U he U U<|QN U<|x (Q7 (us:=[q.p.va,sS q.p.a.st,q.p.vm,q.p.ve]) he U U U)<|x (Q8 [(0,[.string q.nm]),(1,[q.p.va,sS q.p.a.st,q.p.vm,q.p.ve])] ⟨U,U,U,U,La⟩) <|
   Qo<|Zb [QK ⟨q.nm,q.p⟩] λmh ga H mj gb=>Qo<|Q9 (m:=1) (news:=QK ⟨q.nm,q.p⟩) (L:=[]) (h3.J H).or U U U (gb.at oe) (Zj.all (IvA.ones ⟨ha.a,ha.nm⟩)) (show z.lr.length+1<=1099511627776 by omega) (ov H.size) λhp h5 h6 I gg =>
   QN rfl<|Qo<|Qw (j:=2) (u:=hp) ((hv.J H).O I n7r) U U oe (Qr h6) λgh Z gi=>xe ?_
  have e:=Qt6 (all:=l.map DV.it) (ev:=ev) (z:=z) gl hp;rw[e,O0 oe]at hR;refine Qq<|QH U U<|Qa<|xe<|⟨(k+1,{ z with vr:=hp,lr:=z.lr++[⟨q.nm,q.p⟩] }),og,Lb,hi,((h4.I H).G I (λb E=>.inr (gr b E).1)).V Z,λL O=>((hn L O).J H).ap_r ⟨((kb L O).J H).a,ha.nm⟩ h6 I gg Z ⟨T7,gi⟩ oa oe,hR,?_⟩
  simp only[oN,oP];omega
 have gl:¬q.kd=2:=gj;refine Qc<|x (QW U U)<|Qb<|QY U (λgm=>?_) (λgm=>?_)
 .have gn:q.kd=3:=gm;have h7:=jr (l.map DV.it) q.ls [] [];have hLk:=Qih (w:=ht) (v:=v) (es:=es) (q:=q) (h.arr.J hM) oa (ha.J hj) hK.1;rw[<-V]at hLk;have hr:=Qt5 (all:=l.map DV.it) (ev:=ev) (z:=z) gn;refine Zd (YF (l.map DV.it) q.ls [] []) λR go=>?_;rw[go]at hLk hr h7;refine Qj<|QV he U U<|Qx<|hLk.S ?_;rintro mo ga ⟨H,vo,rfl,mq,gp⟩;refine Qa<|QS U U<|QS U U<|x Qh<|Qb<|Qd<|Qj<|Zu U U<|xe<|QY U (λhO=>?_) (λhO=>?_)
  .rw[hr.1,O1 hO]at hR;have gq:=((hW.O hg ol).J hj).J H;refine Qc<|x (Qv La)<|Qa<|QJ Z3 gq ⟨U,U,U,U,U,La⟩ λh5 I gs=>Qb<|Qi ⟨[sT Z3,sS R.1],⟨YO gs,U,La⟩,(hM.I H).Q I oa,CL.mk Zn Zn Zn Zn Zn [] [] [] [] [],by rw[<-hR];rfl,hQ,λh0=>O3 (by rw[<-hR]at h0;exact h0) hO⟩
  have h8:=Lq.1 hO;have hc:=gp h8;have gt:=Qg hc;have ms:=H.size;have h9:=hv.J H;refine Qe<|Qq<|Qm U h9 U U<|Qm U (he.J H) U U<|Qa<|x (Qv ⟨U,xS hc,La⟩)<|Qo<|Zb [[.string q.nm,vo]] λmt h5 I mu gu=>?_;have gv:=(h3.J H).J I;refine Qo<|Q9 (m:=1) (news:=[.string q.nm,vo]) (L:=[]) gv.ox U U U (gu.at oe) (Zj.all (us:=[.string q.nm,vo]) ⟨rfl,Qr hc,La⟩) (show z.lx.length+1<=1099511627776 by omega) (ov I.size) λhs gh hA Z gw =>
   QN rfl<|Qo<|Qw (j:=3) (u:=hs) ((h9.J I).O Z n7x) U U oe (Qr hA) λmv hB gy=>xe ?_
  have e:=hr.2 h8 hs vo;rw[e,O0 oe]at hR;refine Qq<|QH U U<|Qa<|xe ?_;have gz:R.2.length<=1099511627776:=by
   have h1:=hc.1;exact LJ h7 (by have T:q.ls.length<=100000:=hK.1;simp only[OM];omega)
  refine⟨(k+1,{ z with vx:=hs,lx:=z.lx++[⟨q.nm,vo,R.2⟩] }),og,Lb,hi,(((h4.I H).I I).G Z (λb E=>.inr (gx b E).1)).V hB,λL O=>(((hn L O).J H).J I).ap_x ⟨(QC hc gz (λb E hbL=>?_)).J I,ha.nm⟩ hA Z gw hB ⟨T7,gy⟩ oa oe,hR,?_⟩
  .have h1:=(gt b E).1;rcases Lh.1 hbL with T|T
   .have:=((hn L O).ge b T).2;omega
   simp only[oM]at T;rcases T with rfl|rfl|T
   .omega
   .omega
   have:=O b T;omega
  simp only[oN,oP];omega
 have gn:¬q.kd=3:=gm;refine Qc<|x (QW U U)<|Qb<|ZI U (λg0=>?_) (λg0=>?_)
 .have g2:¬q.kd=4:=g0;rw[Qt8 hk1 gl gn g2,O0 oe]at hR;refine Qe<|Qq<|QH U U<|Qa<|xe ?_;exact⟨(k+1,z),og,Lb,hi,h4,hn,hR,og⟩
 have g2:q.kd=4:=g0;have h7:=jr (l.map DV.it) q.ts [] [];have hLk:=Qjq (w:=ht) (v:=v) (es:=es) (q:=q) (h.arr.J hM) oa (ha.J hj) hK.2;rw[<-V]at hLk;have hr:=Qt4 (all:=l.map DV.it) (ev:=ev) (z:=z) g2;refine Zd (YF (l.map DV.it) q.ts [] []) λR go=>?_;rw[go]at hLk hr h7;refine Qj<|QV he U U<|Qx<|hLk.S ?_;rintro mo ga ⟨H,vo,rfl,mq,gp⟩;refine Qa<|QS U U<|QS U U<|x Qh<|Qb<|Qd<|Qj<|Zu U U<|xe<|QY rfl (λhP=>?_) (λhP=>?_)
 .rw[hr.1,O1 hP]at hR;have gq:=((hW.O hg ol).J hj).J H;refine Qc<|x (Qv La)<|Qa<|QJ Z3 gq ⟨U,U,U,U,U,La⟩ λh5 I gs=>Qb<|Qi ⟨[sT Z3,sS R.1],⟨YO gs,U,La⟩,(hM.I H).Q I oa,CL.mk Zn Zn Zn Zn Zn [] [] [] [] [],by rw[<-hR];rfl,hQ,λh0=>O3 (by rw[<-hR]at h0;exact h0) hP⟩
 have h8:=Lq.1 hP;have hc:=gp h8;have gt:=Qg hc;have ms:=H.size;have h9:=hv.J H;refine Qe<|Qq<|Qm U h9 U U<|Qm U (he.J H) U U<|Qa<|Qm U (he.J H) U U<|x (Qv ⟨U,xS hc,U,La⟩)<|Qo<|Zb [[.string q.nm,vo,sS q.bd]] λmt h5 I mu gu=>?_;have gv:=(h3.J H).J I;refine Qo<|Q9 (m:=1) (news:=[.string q.nm,vo,sS q.bd]) (L:=[]) gv.ok U U U (gu.at oe) (Zj.all (us:=[.string q.nm,vo,sS q.bd]) ⟨rfl,Qr hc,rfl,La⟩) (show z.lk.length+1<=1099511627776 by omega) (ov I.size) λhs gh hA Z gw =>
  QN rfl<|Qo<|Qw (j:=4) (u:=hs) ((h9.J I).O Z n7k) U U oe (Qr hA) λmv hB gy=>xe ?_
 have e:=hr.2 h8 hs vo;rw[e,O0 oe]at hR;refine Qq<|QH U U<|Qa<|xe ?_;have gz:R.2.length<=1099511627776:=by
  have h1:=hc.1;exact LJ h7 (by have T:q.ts.length<=100000:=hK.2;simp only[OM];omega)
 refine⟨(k+1,{ z with vk:=hs,lk:=z.lk++[⟨q.nm,vo,R.2,q.bd⟩] }),og,Lb,hi,(((h4.I H).I I).G Z (λb E=>.inr (gk b E).1)).V hB,λL O=>(((hn L O).J H).J I).ap_k ⟨(QC hc gz (λb E hbL=>?_)).J I,ha.nm⟩ hA Z gw hB ⟨T7,gy⟩ oa oe,hR,?_⟩
 .have h1:=(gt b E).1;rcases Lh.1 hbL with T|T
  .have:=((hn L O).ge b T).2;omega
  simp only[oM]at T;rcases T with rfl|rfl|T
  .omega
  .omega
  have:=O b T;omega
 simp only[oN,oP];omega
abbrev edV (s:Ke)(cm:CL)(vp:O9)(qs:List zS)(made:Int)(v24:O9)(q:RpV)(v16:O9)(b12 b13:Nat):Ke:=⟨s.b,⟨cm,vp,qs⟩,made,v24,s.rs++[q],v16,s.us++[⟨b12,b13,s.s⟩]⟩
theorem Qlx {wA wC wD wE wF wI wJ wK wN wP wM:O8}{s:Ke}{cm:CL}{vp:O9}{qs:List zS}{q:RpV}{made:Int}{v16 v24:O9}{H b12 b13 T12 T13 TS:Nat}
  (h:Vq L w s) (hL:∀b∈L,b<↑w) (hc:sW w wA) (hr:↑w<=H/\H<↑wA) (hp:Pts (H::L) ↑wA vp qs) (hq:Ub (H::L) ↑wA q)
  (h4:sW wA wC) (hs:↑wA<=b12) (ht:↑wA<=b13) (hv:QP ↑wC b12 T12 s.s.c.cells) (hw:QP ↑wC b13 T13 [s.s.vp])
  (hl:xj (ob s.vu) wC wD) (hy:wD.ownsRow 0 140 1 v16 (s.us.length+1) (s.us.map Vz++[Vz ⟨b12,b13,s.s⟩])) (T:∀b∈ob v16,b∈ob s.vu\/↑wC<=b)
  (he:xj [s.b] wD wE) (hg:sW wE wF) (h5:∀N:LN,(∀b∈N,b<↑wE)->ZG N ↑wF cm) (hh:xj [s.b] wF wI) (hi:sW wI wJ) (hn:xj (ob s.vr) wJ wK)
  (h6:wK.ownsRow 0 60 3 v24 (s.rs.length+1) (s.rs.flatMap ZP++ZP q)) (V:∀b∈ob v24,b∈ob s.vr\/↑wJ<=b)
  (hj:xj [s.b] wK wN) (h7:QP ↑wN s.b TS (Qbs (edV s cm vp qs made v24 q v16 b12 b13))) (Y:sW wN wP) (Z:xj [H] wP wM):
  xj s.own w wM/\Vq ((edV s cm vp qs made v24 q v16 b12 b13).own++L) wM (edV s cm vp qs made v24 q v16 b12 b13)/\∀b∈(edV s cm vp qs made v24 q v16 b12 b13).own,b∈s.own\/↑w<=b:=by
 have ha:=h.lt;have z2:=hl.size;have z3:=he.size;have z4:=hg.size;have z5:=hh.size;have z6:=hi.size;have msb:s.b∈s.own:=Lr;have mvr:∀b∈ob s.vr,b∈s.own:=λb E=>Ll _ (Lh.2 (.inl E));have mvu:∀b∈ob s.vu,b∈s.own:=λb E=>Ll _ (Lh.2 (.inr E));have lsb:=ha _ msb;have lvr:=λb E=>ha b (mvr b E);have lvu:=λb E=>ha b (mvu b E);have h8:=hv.lt;have h9:=hw.lt;have hz:=Qg hy;have sC:xj (s.own++[H]) wA wC:=h4.any;have s5:xj (s.own++[H]) wF wI:=hh.S λb E=>by rw[Lc.1 E];exact Lh.2 (.inl msb)
 have s7:xj (s.own++[H]) wJ wK:=hn.S λb E=>Lh.2 (.inl (mvr b E));have s8:xj (s.own++[H]) wK wN:=hj.S λb E=>by rw[Lc.1 E];exact Lh.2 (.inl msb)
 have hA:xj (s.own++[H]) wP wM:=Z.S λb E=>Lh.2 (.inr E);have sKM:xj (s.own++[H]) wK wM:=(s8.I Y).V hA;have sFM:xj (s.own++[H]) wF wM:=((s5.I hi).V s7).V sKM;have sAM:xj (s.own++[H]) wA wM:=(((sC.V (hl.S λb E=>Lh.2 (.inl (mvu b E)))).V (he.S λb E=>by rw[Lc.1 E];exact Lh.2 (.inl msb))).I hg).V sFM;have sDM:xj (s.own++[H]) wD wM:=((he.S λb E=>by rw[Lc.1 E];exact Lh.2 (.inl msb):xj (s.own++[H]) wD wE).I hg).V sFM;have sCM:xj (s.own++[H]) wC wM:=(hl.S λb E=>Lh.2 (.inl (mvu b E)):xj (s.own++[H]) wC wD).V sDM;have hB:∀b∈s.own++[H],b∈H::L:=λb E=>by
  rcases Lh.1 E with E|E
  .exact Ll _ (h.sub b E)
  rw[Lc.1 E];exact Lr
 have own':∀b∈(edV s cm vp qs made v24 q v16 b12 b13).own,b∈s.own\/↑wC<=b:=λb E=>by
  rcases Lk.1 E with rfl|E
  .exact .inl msb
  rcases Lh.1 E with E|E
  .rcases V b E with J|J
   .exact .inl (mvr b J)
   exact .inr oa
  rcases T b E with J|J
  .exact .inl (mvu b J)
  exact .inr J
 have upL:∀b∈((edV s cm vp qs made v24 q v16 b12 b13).own++(H::L)),b∈H::L\/↑wA<=b:=λb E=>by
  rcases Lh.1 E with E|E
  .rcases own' b E with J|J
   .exact .inl (Ll _ (h.sub b J))
   exact .inr oa
  exact .inl E
 have dn:∀b∈(edV s cm vp qs made v24 q v16 b12 b13).own++L,b∈(edV s cm vp qs made v24 q v16 b12 b13).own++(H::L):=λb E=>by
  rcases Lh.1 E with E|E
  .exact Lh.2 (.inl E)
  exact Lh.2 (.inr (Ll _ E))
 have sAM':xj ((edV s cm vp qs made v24 q v16 b12 b13).own++(H::L)) wA wM:=sAM.S λb E=>Lh.2 (.inr (hB b E));have ho:∀b∈H::L,b∈L\/↑w<=b:=λb E=>by
  rcases Lk.1 E with rfl|E
  .exact .inr hr.1
  exact .inl E
 have mS:StA ((edV s cm vp qs made v24 q v16 b12 b13).own++L) ↑wM s.s:=Mm.S (Mm.st (Mm.up (Mm.J (Mm.up h.st ho) hc) upL) sAM') dn;have nown:∀b,↑wA<=b->b<↑wC->b∉(edV s cm vp qs made v24 q v16 b12 b13).own++L:=λb J I E=>by
  rcases Lh.1 E with E|E
  .rcases own' b E with S|S
   .have:=ha b S;omega
   omega
  have:=hL b E;omega
 have nst:∀b,↑wA<=b->b∉s.own++[H]:=λb J E=>by
  rcases Lh.1 E with E|E
  .have:=ha b E;omega
  rw[Lc.1 E]at J;omega
 refine⟨?_,⟨⟨TS,?_⟩,?_,?_,?_,?_,?_,λb E=>Lh.2 (.inl E),⟨?_,?_⟩,λd hd=>?_,λu hu=>?_⟩,λb E=>(own' b E).imp id λJ=>oa⟩
 .exact hc.any.G sAM λb E=>by
   rcases Lh.1 E with E|E
   .exact .inl E
   rw[Lc.1 E];exact .inr hr.1
 .exact(h7.J Y).O Z (by simp only[oJ];show s.b≠H;omega)
 .have J:wK.ownsRow 0 60 3 v24 (s.rs++[q]).length ((s.rs++[q]).flatMap ZP):=by
   rw[Ln,LC];simpa using h6
  refine Qf (Ql (Qf J hj λb E O=>?_) Y) Z λb E O=>?_
  .rcases V b E with I|I
   .exact h.d1 (Lc.1 O ▸ I)
   rw[Lc.1 O]at I;omega
  rw[Lc.1 O]at E;rcases V H E with I|I
  .have:=lvr H I;omega
  omega
 .have J:wD.ownsRow 0 140 1 v16 (s.us++[(⟨b12,b13,s.s⟩:UnV)]).length ((s.us++[(⟨b12,b13,s.s⟩:UnV)]).map Vz):=by
   rw[Ln,Ls];simpa using hy
  have nsb:∀b∈ob v16,b∉[s.b]:=λb E O=>by
   rw[Lc.1 O]at E;rcases T s.b E with I|I
   .exact h.d2 I
   omega
  have nvr:∀b∈ob v16,b∉ob s.vr:=λb E O=>by
   rcases T b E with I|I
   .exact h.d3 b O I
   have:=lvr b O;omega
  have n4:∀b∈ob v16,b∉[H]:=λb E O=>by
   rw[Lc.1 O]at E;rcases T H E with I|I
   .have:=lvu H I;omega
   omega
  exact Qf (Ql (Qf (Qf (Ql (Qf (Ql (Qf J he nsb) hg) hh nsb) hi) hn nvr) hj nsb) Y) Z n4
 .intro E;rcases V s.b E with I|I
  .exact h.d1 I
  omega
 .intro E;rcases T s.b E with I|I
  .exact h.d2 I
  omega
 .intro b E O;rcases V b E with I|I
  .rcases T b O with S|S
   .exact h.d3 b I S
   have:=lvr b I;omega
  have:=(hz b O).2;omega
 .have J:ZG (s.b::(ob v16++(ob s.vr++(H::L)))) ↑wF cm:=h5 _ λb E=>by
   rcases Lk.1 E with rfl|E
   .omega
   rcases Lh.1 E with E|E
   .have:=(hz b E).2;omega
   rcases Lh.1 E with E|E
   .have:=lvr b E;omega
   rcases Lk.1 E with rfl|E
   .omega
   have:=hL b E;omega
  have I:ZG (ob v24++(s.b::(ob v16++(ob s.vr++(H::L))))) ↑wF cm:=J.up λb E=>by
   rcases Lh.1 E with E|E
   .rcases V b E with S|S
    .exact .inl (Ll _ (Lh.2 (.inr (Lh.2 (.inl S)))))
    exact .inr oa
   exact .inl E
  have h0:∀b∈[s.b],b∈ob v24++(s.b::(ob v16++(ob s.vr++(H::L)))):=λb E=>by rw[Lc.1 E];exact Lh.2 (.inr Lr)
  have S:=((((((I.st (hh.S h0)).J hi).st (hn.S λb E=>Lh.2 (.inr (Ll _ (Lh.2 (.inr (Lh.2 (.inl E)))))))).st (hj.S h0)).J Y).st (Z.S λb E=>by
   rw[Lc.1 E];exact Lh.2 (.inr (Ll _ (Lh.2 (.inr (Lh.2 (.inr Lr))))))))
  refine S.up λb E=>.inl ?_;rcases Lh.1 E with E|E
  .rcases Lk.1 E with rfl|E
   .exact Lh.2 (.inr Lr)
   rcases Lh.1 E with E|E
   .exact Lh.2 (.inl E)
   exact Lh.2 (.inr (Ll _ (Lh.2 (.inl E))))
  exact Lh.2 (.inr (Ll _ (Lh.2 (.inr (Lh.2 (.inr (Ll _ E)))))))
 .have J:Pts ((edV s cm vp qs made v24 q v16 b12 b13).own++(H::L)) ↑wM vp qs:=Go.Lg.K3.st (Go.Lg.K3.up hp upL) sAM';exact Go.Lg.K3.up J λb E=>.inl (dn b E)
 .rcases Lh.1 hd with hd|hd
  .exact Mm.S (Mm.st (Mm.up (Mm.J (Mm.up (h.rA d hd) ho) hc) upL) sAM') dn
  rw[Lc.1 hd];exact Mm.S (Mm.st (Mm.up hq upL) sAM') dn
 rcases Lh.1 hu with hu|hu
 .exact Mm.S (Mm.st (Mm.up (Mm.J (Mm.up (h.uA u hu) ho) hc) upL) sAM') dn
 rw[Lc.1 hu];exact⟨(hv.O sCM (nst b12 hs)).at (nown b12 hs h8),(hw.O sCM (nst b13 ht)).at (nown b13 ht h9),mS⟩
def jH (x:Yd):Prop:=x.ls.length<=100000/\x.ts.length<=100000
theorem yp {co:List Y0}:∀{l:xF}{r:List (ByteArray×Int)},V6 co l=some r->r.length=l.length
 | [],r,h=>by
  rw[V6]at h;cases h;rfl
 | y::l,r,h=>by
  rw[V6]at h;cases E:zO co y.1 with
  | none=>rw[E]at h;cases h
  | some n =>
   rw[E]at h;obtain⟨I,H,rfl⟩:=MH.1 h;rw[LX,LX,yp H]
theorem Qhb {co:List Y0}:∀{l:List Uf}{a:List Yd},JI co l=some a->(∀q∈l,q.ls.length<=100000)->∀x∈a,jH x
 | [],a,h,_=>by
  rw[JI]at h;cases h
  exact λx hx=>by cases hx
 | x::l,a,h,H=>by
  rw[JI]at h;cases hx:V6 co x.ls with
  | none=>rw[hx]at h;cases h
  | some n =>
   rw[hx]at h;obtain⟨J,I,rfl⟩:=MH.1 h;intro y E;rcases Lk.1 E with rfl|E
   .exact⟨by show n.length<=_;rw[yp hx];exact H x Lr,oe⟩
   exact Qhb I (λq h=>H q (Ll _ h)) y E
theorem Qhd {co:List Y0}:∀{l:List xT}{a:List Yd},J8 co l=some a->(∀q∈l,q.ts.length<=100000)->∀x∈a,jH x
 | [],a,h,_=>by
  rw[J8]at h;cases h
  exact λx hx=>by cases hx
 | x::l,a,h,H=>by
  rw[J8]at h;cases hx:V6 co x.ts with
  | none=>rw[hx]at h;cases h
  | some n =>
   rw[hx]at h;obtain⟨J,I,rfl⟩:=MH.1 h;intro y E;rcases Lk.1 E with rfl|E
   .exact⟨oe,by show n.length<=_;rw[yp hx];exact H x Lr⟩
   exact Qhd I (λq h=>H q (Ll _ h)) y E
theorem Qcq (E:CSz c)(h:(ZT c).1=0):∀x∈(ZT c).2,jH x:=by
 obtain⟨a,b,H,I,e,_⟩:=Qcp h;intro x hx;rw[e]at hx;rcases Lh.1 hx with hx|hx
 .obtain⟨y,_,rfl⟩:=Ly.1 hx;exact⟨by simp[J7],by simp[J7]⟩
 rcases Lh.1 hx with hx|hx
 .obtain⟨y,_,rfl⟩:=Ly.1 hx;exact⟨by simp[J7],by simp[J7]⟩
 rcases Lh.1 hx with hx|hx
 .exact Qhb H E.x x hx
 exact Qhd I E.k x hx
theorem QoY {l:List Yd}{x:Yd}(H:∀y∈l,jH y)(hx:jH x):∀y∈(zQ l x).2,jH y:=by
 unfold zQ;split
 .exact λy E=>by cases E
 split
 .exact λy E=>by cases E
 split
 .intro y E;rcases M1 E with E|rfl
  .exact H y E
  exact hx
 split
 .exact λy E=>by cases E
 intro y E;rcases Lh.1 E with E|E
 .exact H y (L8 E)
 rcases Lk.1 E with rfl|E
 .exact hx
 exact H y (Mf E)
theorem Qo4 {l:List Yd}{k:Int}{n:ByteArray}(H:∀y∈l,jH y):∀y∈(zR l k n).2,jH y:=by
 unfold zR;split
 .exact λy E=>by cases E
 split
 .exact λy E=>by cases E
 intro y E;rcases Lh.1 E with E|E
 .exact H y (L8 E)
 exact H y (Mf E)
theorem Qhe:∀{es:List (Bool×Yd)}{l:List Yd},(∀y∈l,jH y)->(∀e∈es,jH e.2)->∀y∈(Qcr es l).2,jH y
 | [],l,E,_=>by rw[Qcr];exact E
 | e::es,l,E,H=>by
  rw[Qcr];split
  .exact λy I=>by cases I
  refine Qhe ?_ λe h=>H e (Ll _ h);unfold j5;split
  .exact Qo4 E
  exact QoY E (H e Lr)
theorem Qo6 {es:List (Bool×Yd)}{l:List Yd}(E:∀y∈l,jH y)(H:∀e∈es,jH e.2):∀y∈(j4 l es).2,jH y:=by
 unfold j4;split
 .exact λy I=>by cases I
 exact Qhe E H
structure UnZ where
 b12:Nat
 b13:Nat
def unP (N:Nat)(i:Nat)(v:O9)(w':O8):Prop:=∃b T,v=pS b/\N<=b/\QP ↑w' b T (if i=8 then Z3 else[Zn])
theorem Qnd (N:Nat):∀i v (w w':O8),unP N i v w->sW w w'->unP N i v w':=λ_ _ _ _ ⟨b,T,E,H,I⟩ J=>⟨b,T,E,H,I.J J⟩
theorem QpB {L2:LN}{s:Ke}{xs:List Y4}(h:Vq L w s)(hL:∀b∈L,b<↑w)(hx:Qad L2 ↑w vl xs)(kz:∀e∈xs.map Y4.e,jH e.2)(g0:QcA s.s.c.Z (s.s.ps.map (·.pt)))(k0:s.s.ps.length<=1000)
  (hm:0<=s.made/\s.made<=1099511627776) (z3:s.rs.length<=64) (z5:s.us.length<=64) (k4:Kb w 4096):
  QZ sV 12 [pS s.b,vl] w λr w'=>∃qr:RpV,r=.tuple #[sT (ZP qr),sS (edE s.sys (xs.map Y4.e))]/\(∀N:LN,(∀b∈N,b<↑w)->Ub N ↑w' qr)/\(edE s.sys (xs.map Y4.e)≠0->sW w w'/\qr.rp=⟨[],[],[]⟩) /\
   (edE s.sys (xs.map Y4.e)=0->qr.rp=X0 (q6 s.s.c.Z (xs.map Y4.e)).2 (s.s.ps.map (·.pt)) ((s.us.length:Int)+1)/\∃s':Ke,s'.b=s.b/\s'.sys=edS s.sys (xs.map Y4.e)/\xj s.own w w'/\Vq (s'.own++L) w' s'/\(∀b∈s'.own,b∈s.own\/↑w<=b)/\Ub s'.own ↑w' qr):=by
 obtain⟨TS,Z⟩:=h.blk;have g2:=g0.ck;have g3:=Vj g2;have g4:Zk [] ↑w s.vu s.us.length 1 (s.us.map Vz):=QC h.ru oa oe;have g5:s.sys.un.length=s.us.length:=Lj _;have k5:(s.s.ps.map (·.e.ky)).Nodup:=by
  have:=g0.ky;rw[L4]at this;have e:s.s.ps.map (·.e.ky)=(xq s.s.c.Z).map (Ya s.s.c.Z):=this;rw[e];exact QdB g2
 have k6:(xs.map Y4.e).length=xs.length:=Lj _;have k7:∀(w':O8) (N:LN),Ub N ↑w' ⟨Zn,[],Zn,[],Zn,[]⟩:=λw' N=>⟨Zk.nil _ _ _,Zk.nil _ _ _,Zk.nil _ _ _⟩;have J:edE s.sys (xs.map Y4.e)=if xs.length=0 then 12 else if s.us.length=64 then 3 else if(q6 s.s.c.Z (xs.map Y4.e)).1≠0 then(q6 s.s.c.Z (xs.map Y4.e)).1 else KX (q6 s.s.c.Z (xs.map Y4.e)).2 (s.s.ps.map (·.pt)) ((s.us.length:Int)+1):=by
  unfold edE;rw[k6,g5];rfl
 have V:q6 s.s.c.Z (xs.map Y4.e)=if(edI s.s.c.Z (xs.map Y4.e)).1≠0 then((edI s.s.c.Z (xs.map Y4.e)).1,qk)else if(Uj s.s.c.Z.ev (edI s.s.c.Z (xs.map Y4.e)).2).1≠0 then((Uj s.s.c.Z.ev (edI s.s.c.Z (xs.map Y4.e)).2).1,qk)else if Zf (Uj s.s.c.Z.ev (edI s.s.c.Z (xs.map Y4.e)).2).2≠0 then(Zf (Uj s.s.c.Z.ev (edI s.s.c.Z (xs.map Y4.e)).2).2,qk)else(0,(Uj s.s.c.Z.ev (edI s.s.c.Z (xs.map Y4.e)).2).2):=rfl
 have hz:edI s.s.c.Z (xs.map Y4.e)=if(ZT s.s.c.Z).1≠0 then((ZT s.s.c.Z).1,[])else j4 (ZT s.s.c.Z).2 (xs.map Y4.e):=rfl
 have hU:(ZT s.s.c.Z).1=0->∀y∈(j4 (ZT s.s.c.Z).2 (xs.map Y4.e)).2,jH y:=λh0=>Qo6 (Qcq g3 h0) kz;have hG:edS s.sys (xs.map Y4.e)=⟨(q6 s.s.c.Z (xs.map Y4.e)).2,jC (q6 s.s.c.Z (xs.map Y4.e)).2 (s.s.ps.map (·.pt)) ((s.us.length:Int)+1),s.made+((X0 (q6 s.s.c.Z (xs.map Y4.e)).2 (s.s.ps.map (·.pt)) ((s.us.length:Int)+1)).made.length:Int),s.rs.map RpV.rp++[X0 (q6 s.s.c.Z (xs.map Y4.e)).2 (s.s.ps.map (·.pt)) ((s.us.length:Int)+1)],(s.us.map λu=>u.s.st)++[(s.s.c.Z,s.s.ps.map (·.pt))]⟩:=by
  unfold edS;rw[g5];rfl
 refine Zd (edE s.sys (xs.map Y4.e)) λE hE=>?_;refine Zd (edS s.sys (xs.map Y4.e)) λES g6=>?_;refine Zd (q6 s.s.c.Z (xs.map Y4.e)) λEC g7=>?_;refine Zd (edI s.s.c.Z (xs.map Y4.e)) λEI k8=>?_;rw[hE]at J;rw[g6]at hG;rw[g7]at J V hG;rw[k8]at V hz;rw[hE,g6,g7];refine Zt func12 ?_;refine Qc<|QL Xb λI w1 hl gb h5=>Qb ?_;have hl4:=h5.lt;have bad:∀(e:Int) (w2 S:O8),E=e->e≠0->sW w w2->xj [I] w2 S->(∃qr:RpV,tup [sT Xb,sS e]=.tuple #[sT (ZP qr),sS E]/\(∀N:LN,(∀b∈N,b<↑w)->Ub N ↑S qr)/\(E≠0->sW w S/\qr.rp=⟨[],[],[]⟩) /\
   (E=0->qr.rp=X0 EC.2 (s.s.ps.map (·.pt)) ((s.us.length:Int)+1)/\∃s':Ke,s'.b=s.b/\s'.sys=ES/\xj s.own w S/\Vq (s'.own++L) S s'/\(∀b∈s'.own,b∈s.own\/↑w<=b)/\Ub s'.own ↑S qr)):=λe w2 S T h2 h3 h4 =>
  ⟨⟨Zn,[],Zn,[],Zn,[]⟩,by rw[T];rfl,λN _=>k7 S N,λ_=>⟨h3.Q h4 oa,U⟩,λh0=>O3 (T.symm.I h0) h2⟩
 refine Qd<|Qn<|Qj<|x (Y8 underlying47 U U)<|Qb<|Zl U<|Qj<|QE hx.arr U<|x (QW U U)<|Qb<|QY U (λgc=>?_) (λgc=>?_)
 .rw[O1 (by have k9:(xs.length:Int)=0:=gc;omega)]at J;refine Qc<|x (Qv La)<|QJ Xb h5 oC λS ha hH=>Qb<|Qi ⟨[sT Xb,sS 12],⟨YO hH,U,La⟩,bad 12 w1 S J oh hl ha⟩
 rw[O0 (by have k9:¬(xs.length:Int)=0:=gc;omega)]at J;refine Qj<|Z7 U<|Qm U (Z.J hl) U U<|QE (g4.J hl) U<|x (QW U U)<|Qb<|QY U (λgg=>?_) (λgg=>?_)
 .rw[O1 (by have ma:(s.us.length:Int)=64:=gg;omega)]at J;refine Qc<|x (Qv La)<|QJ Xb h5 oC λS ha hH=>Qb<|Qi ⟨[sT Xb,sS 3],⟨YO hH,U,La⟩,bad 3 w1 S J oh hl ha⟩
 have mf:¬s.us.length=64:=by have ma:¬(s.us.length:Int)=64:=gg;omega
 rw[O0 mf]at J;refine Qe<|Qj<|Z7 U<|QN U<|x (Q7 (us:=s.s.c.cells) (Z.J hl) U U U)<|Qx<|(Qfl (h.st.c.J hl) g3).S ?_;rintro r5 w2 ⟨ho,v5,rfl,_,mg⟩;have gh:=hl.I ho;refine Qa<|QS U U<|QS U U<|x Qh<|Qb<|Qd<|Qj<|Zu U U<|xe<|QY rfl (λhp=>?_) (λhp=>?_)
 .rw[O1 hp]at hz;rw[hz,O1 hp]at V;rw[V,O1 hp]at J;refine Qc<|x (Qv La)<|Qa<|QJ Xb (h5.J ho) oC λS ha hH=>Qb<|Qi ⟨[sT Xb,sS (ZT s.s.c.Z).1],⟨YO hH,U,La⟩,bad _ w2 S J hp gh ha⟩
 rw[O0 hp]at hz;have gi:=Lq.1 hp;have hU:=hU gi;refine Exists.elim (mg gi) λl5 gj=>?_;have mh:K2 [] ↑w2 v5 l5:=by
  refine JK.dits gj.1 ?_ oe;have T:=O2 oR gj.2;rw[Lj]at T;obtain⟨_,_,_,_,_,hk⟩:=Qcp gi;have:=VO hk;omega
 have hAp:=QmM mh (Go.Lg.K3.J hx gh);rw[gj.2,<-hz]at hAp;rw[<-hz]at hU;refine Qe<|Qd<|Qj<|Qa<|Qx<|hAp.S ?_;rintro r7 S ⟨ha,v7,l7,rfl,mj,hV⟩;have hI:=gh.I ha;refine Qa<|QS U U<|QS U U<|x Qh<|Qb<|Qj<|Zu U U<|xe<|QY rfl (λh6=>?_) (λh6=>?_)
 .rw[O1 h6]at V;rw[V,O1 h6]at J;refine Qc<|x (Qv La)<|Qa<|QJ Xb ((h5.J ho).J ha) oC λw4 hJ mo=>Qb<|Qi ⟨[sT Xb,sS EI.1],⟨YO mo,U,La⟩,bad _ S w4 J h6 hI hJ⟩
 rw[O0 h6]at V;obtain⟨hV,hln7⟩:=hV (Lq.1 h6);have hD3:K2 [] ↑S v7 l7:=JK.dits mj oa oe;have hCe:=QlL (h.st.c.J hI).ev hD3 (λq hq=>hU q (by rw[<-hV];exact hq));rw[hV]at hCe;have mq:s.s.c.Z.ev=s.s.c.ev:=rfl;rw[mq]at V;refine Zd (Uj s.s.c.ev EI.2) λDC ms=>?_;rw[ms]at V hCe;refine Qe<|Qj<|Z7 U<|QN U<|Qm U (Z.J hI) U U<|Qa<|Qx<|hCe.S ?_;rintro r9 w4 ⟨hJ,c9,rfl,mt,hW⟩;refine Qa<|QS U U<|QS U U<|QL Z3 λb8 w5 hK mu mv=>QJ c9.cells mv mt λw6 mw g8 =>
  Qb ?_
 have hX:sW w4 w6:=hK.Q mw mu;have gk:=(hI.I hJ).I hX;have hz4:=hJ.size;have hz46:=hX.size;have gl:=(((h5.J ho).J ha).J hJ).J hX;refine Qd<|Qj<|Zu U U<|xe<|QY rfl (λh7=>?_) (λh7=>?_)
 .rw[O1 h7]at V;rw[V,O1 h7]at J;refine Qc<|x (Qv La)<|Qa<|QJ Xb gl oC λY hh my=>Qb<|Qi ⟨[sT Xb,sS DC.1],⟨YO my,U,La⟩,bad _ w6 Y J h7 gk hh⟩
 rw[O0 h7]at V;have hW:=hW (Lq.1 h7);have hY:=hW.1;have gm:∀N:LN,(∀b∈N,b<↑S\/↑w4<=b)->ZG N ↑w6 c9:=λN hN=>by
  have T:=hW.2 (N.filter λb=>decide (b<↑S)) (λb H=>O5 (LY.1 H).2);exact(T.up (L':=N) λb H=>(hN b H).imp (λh=>LY.2 ⟨H,O4 h⟩) id).J hX
 have hCk:=Xz (gm [] oe);rw[hY]at hCk;refine Qe<|Qd<|Qc<|QV g8 U U<|Qx<|hCk.S ?_;rintro r13 Y ⟨rfl,hh⟩;have hr:=gk.I hh;have hz7:=hh.size;refine Qb<|Qj<|Zu U U<|xe<|QY rfl (λh8=>?_) (λh8=>?_)
 .rw[O1 h8]at V;rw[V,O1 h8]at J;refine Qc<|x (Qv La)<|Qa<|QJ Xb (gl.J hh) oC λw8 he gn=>Qb<|Qi ⟨[sT Xb,sS (Zf DC.2)],⟨YO gn,U,La⟩,bad _ Y w8 J h8 hr he⟩
 rw[O0 h8]at V;have mz:=Lq.1 h8;rw[V,O0 oe]at J;rw[V]at hG;simp only[]at J hG;refine Qe ?_;have g9:=Z.J hr;have m2:=g4.J hr;have ka:=g8.J hh;have hz06:=gk.size;have hz03:=hI.size;have kb:∀b∈I::L,b<Y.heap.size:=λb H=>by
  rcases Lk.1 H with rfl|H
  .have:=ho.size;have:=ha.size;omega
  have:=hL b H;omega
 have m3:Pts (I::L) ↑Y s.s.vp s.s.ps:=Go.Lg.K3.J (Go.Lg.K3.up h.st.p λb H=>by
  rcases Lk.1 H with rfl|H
  .exact .inr gb
  exact .inl H) hr
 have m4:sW Y { Y with drawn:=Y.drawn+1 }:=xj.X _ _
 refine Zd (KX DC.2 (s.s.ps.map (·.pt)) ((s.us.length:Int)+1)) λE2 kc=>?_;rw[kc]at J;refine QX (α:=O9×LV×Nat) [(73,88),(7,7),(10,11)] (λz=>[(10,z.1),(11,pS z.2.2),(7,sS E2)]) (λz w'=>sW Y w'/\↑Y<=z.2.2/\QP ↑w' z.2.2 60 z.2.1/\(z.2.1.length=3/\Zj z.2.1)/\(E2=0->∃qs q,z.2.1=ZP q/\qs.map (·.pt)=jC DC.2 (s.s.ps.map (·.pt)) ((s.us.length:Int)+1)/\q.rp=X0 DC.2 (s.s.ps.map (·.pt)) ((s.us.length:Int)+1)/\Pts (I::L) ↑w' z.1 qs/\Ub (z.2.2::I::L) ↑w' q)) om ?_ ?_
 .refine Xv _ mixed om (Kd (α:=O9×LV) (sW Y) [oE 0,oE 1,oE 2,oE 3,oE 4,oE 5,oE 6,oE 7,oE 8,oE 9,oE 10] [oF 11,oE 12,oE 13,oE 14,oE 15] 16 11 [oE 17,oF 18,oE 19] []
   [(73,88)] [(73,73),(85,88)] (λz=>[(86,z.1),(87,sT z.2),(88,sS E2)])
   (λz own w'=>(∀b∈own,↑Y<=b)/\(z.2.length=3/\Zj z.2)/\(E2=0->∃qs q,z.2=ZP q/\qs.map (·.pt)=jC DC.2 (s.s.ps.map (·.pt)) ((s.us.length:Int)+1)/\q.rp=X0 DC.2 (s.s.ps.map (·.pt)) ((s.us.length:Int)+1)/\∀b',↑Y<=b'->b'∉own->Pts (b'::I::L) ↑w' z.1 qs/\Ub (b'::I::L) ↑w' q))
   (λv w'=>∃b,v=pS b/\↑Y<=b/\QP ↑w' b 60 Xb) od om U m4 oe ?_ ?_ ?_ ?_)
  .rintro v own wa wb ⟨b,rfl,H,Z⟩ hs hn;exact⟨b,U,H,Z.O hs (hn b ou)⟩
  .rintro z own wa wb ⟨T,h2,h3⟩ hs;refine⟨T,h2,λh0=>?_⟩;obtain⟨qs,q,e1,e2,e3,e4⟩:=h3 h0;exact⟨qs,q,e1,e2,e3,λb' hZ hn=>⟨Go.Lg.K3.J (e4 b' hZ hn).1 hs,(e4 b' hZ hn).2.J hs⟩⟩
  .rintro⟨vp,us⟩ g own wz v ⟨i1,i2,i3⟩ ke ⟨h9,rfl,hi,hj⟩ m5;simp only[]at i2 i3;have m6:=(m5 h9 ou).1;refine p ZL<|pk<|ZA (us:=us) hj U U i2.1 U i2.2 λw8 he m7=>⟨ke.Q he hi,?_⟩;refine p ZL<|pe ?_;refine⟨(vp,us,h9),oC,ke.Q he hi,hi,m7,i2,λh0=>?_⟩;obtain⟨qs,q,e1,e2,e3,e4⟩:=i3 h0;have e5:=e4 h9 hi m6;exact⟨qs,q,e1,e2,e3,Go.Lg.K3.up (Go.Lg.K3.st e5.1 (he.S oe)) (λb H=>.inl (Ll _ H)),e5.2.st (he.S oe)⟩
  refine pq (λ_ O=>ZN (ka.J O) U U)<|p QA<|p (Xj U)<|p (QF U)<|pq (λ_ O=>Qk (g9.J O) U U) <|
   p QA<|p (Xj U)<|p (QF U)<|pq (λ_ O=>Qk (g9.J O) U U)<|p (λ_=>Xr m2 U) <|
   p (λ_=>X2 U U ⟨oa,oa⟩)<|pe ⟨λg wf m8=>flA Xb m8,?_⟩
  refine f2k λx1 p1 c1=>?_;have m9:=(gm (I::L) (λb H=>by
   rcases Lk.1 H with rfl|H
   .exact .inl (oy ho.size ha.size)
   exact .inl (ov (hL b H)))).J (hh.I c1)
  have pa:Pts (qE ↑Y ↑x1++(I::L)) ↑x1 s.s.vp s.s.ps:=Go.Lg.K3.J (Go.Lg.K3.up m3 λb H=>by
   rcases Lh.1 H with H|H
   .exact .inr (ZF.1 H).1
   exact .inl H) c1
  have hbl:=Qen (v:=(s.us.length:Int)+1) m9 pa (λb H=>by
   have:=c1.size;rcases Lh.1 H with H|H
   .exact(ZF.1 H).2
   have:=kb b H;omega) k5 k0 (k4.J (hr.I c1))
  rw[hY,kc]at hbl;refine xg<|hbl.S ?_;rintro _ y1 ⟨kf,vp,us,rfl,pc,pd,_,pf⟩;have z1:=c1.size;refine⟨c1.I kf,qE ↑x1 ↑y1,kf.any,λb H=>.inr (ZF.1 H),?_⟩;refine j3 QA<|j3 (λ_=>Zw U U)<|j3 (λ_=>Zw U U)<|j3 (λ_=>Zw U U)<|f2e ?_;refine⟨(vp,us),oC,λb H=>ov (ZF.1 H),⟨pc,pd⟩,λh0=>?_⟩;obtain⟨qs,q,e1,e2,e3,_,e5,e6⟩:=pf h0;refine⟨qs,q,e1,e2,e3,λb' hZ hn=>?_⟩;have pg:b'<↑x1\/↑y1<=b':=by
   rcases OO b' ↑x1 with T|T
   .exact .inl T
   rcases OO b' ↑y1 with h2|h2
   .exact O3 (ZF.2 ⟨T,h2⟩) hn
   exact .inr h2
  have kg:∀b∈b'::I::L,b∈qE ↑Y ↑x1++(I::L)\/↑y1<=b:=λb H=>by
   rcases Lk.1 H with rfl|H
   .exact pg.imp (λT=>Lh.2 (.inl (ZF.2 ⟨hZ,T⟩))) id
   exact .inl (Lh.2 (.inr H))
  exact⟨Go.Lg.K3.up e5 kg,(e6 (qE ↑Y ↑x1++(I::L)) (λb H=>by
   rcases Lh.1 H with H|H
   .exact(ZF.1 H).2
   have:=kb b H;omega)).up kg⟩
 rintro⟨vp,us,h9⟩ g wA ⟨hM,hi,hj,ph,hg⟩;simp only[]at hi hj ph hg;have hA:=(gl.J hh).J hM;refine Qd<|Qj<|Zu U U<|xe<|QY rfl (λgo=>?_) (λgo=>?_)
 .refine Qc<|x (Qv La)<|Qa<|QJ Xb hA oC λw8 he gn=>Qb<|Qi ⟨[sT Xb,sS E2],⟨YO gn,U,La⟩,bad _ wA w8 J go (hr.I hM) he⟩
 have kh:=Lq.1 go;refine Exists.elim (hg kh) λqs pj=>Exists.elim pj λq hO=>?_;have eu:=hO.1;have eqs:=hO.2.1;have eq:=hO.2.2.1;have ki:=hO.2.2.2.1;have hP:=hO.2.2.2.2;rw[eu]at hj;refine Qe ?_;have gp:=hr.I hM;have gq:=Z.J gp;have hl11:=hj.lt;have hlsb:=Z.lt;have pm:sW wA { wA with drawn:=wA.drawn+1 }:=xj.X _ _
 refine QX (α:=UnZ) [(93,100),(12,13)] (λz=>[(12,pS z.b12),(13,pS z.b13)]) (λz w'=>sW wA w'/\↑wA<=z.b12/\↑wA<=z.b13/\∃T1 T2,QP ↑w' z.b12 T1 s.s.c.cells/\QP ↑w' z.b13 T2 [s.s.vp]) om ?_ ?_
 .refine qq (α:=UnZ) (sW wA) [oE 0,oE 1,oE 2,oE 3,oE 4,oE 5,oE 6,oE 7] (λ_=>[]) [8,9] [oF 10,oF 11] [(12,13)] (unP ↑wA) (λz=>[(12,pS z.b12),(13,pS z.b13)])
   (λz w'=>z.b12≠z.b13/\↑wA<=z.b12/\↑wA<=z.b13/\∃T1 T2,QP ↑w' z.b12 T1 Z3/\QP ↑w' z.b13 T2 [Zn]) mixed om od pm (λ_ _ T h2=>T.I h2) (Qnd _) ?_ ?_
  .rintro g w' ⟨⟨b12,T1,e3,pn,po⟩,⟨b13,T2,e4,pp,hi⟩,_⟩ pu;refine⟨⟨b12,b13⟩,⟨e3,e4,La⟩,?_,pn,pp,T1,T2,po,hi⟩;have d1:=pu 8 oe 9 oe oh;rw[e3,e4]at d1;simp only[ow,oJ,forall_eq]at d1;exact d1
  refine p QA<|p (Xj U)<|p (QF U)<|pq (λ_ O=>Q7 (us:=s.s.c.cells) (gq.J O) U U U)<|p QA<|p (Xj U)<|p (QF U) <|
   pq (λ_ O=>Qk (gq.J O) U U)<|pe ⟨⟨?_,?_,La⟩,?_⟩
  .intro g w' O _;exact Jh (us:=Z3) U λb w5 hK H Z=>⟨hK,⟨b,_,U,LJ O.size H,Z⟩,λc gr=>by rw[Lc.1 (show c∈[b] from gr)];exact⟨H,Z.lt⟩⟩
  .intro g w' O _;exact Jh (us:=[Zn]) U λb w5 hK H Z=>⟨hK,⟨b,_,U,LJ O.size H,Z⟩,λc gr=>by rw[Lc.1 (show c∈[b] from gr)];exact⟨H,Z.lt⟩⟩
  rintro⟨b12,b13⟩ g wz kj ⟨gs,ht,hC,T1,T2,hQ,hR⟩;simp only[]at gs ht hC hQ hR;refine pk<|Ux s.s.c.cells hQ h.st.c.ones λw8 he pw=>⟨kj.Q he ht,?_⟩;refine pkk<|Qw (u:=s.s.vp) (hR.O he (by simp only[oJ];exact λe=>gs e.symm)) U U oe h.st.p.arr.one λw9 kk pz=>pe ?_;exact⟨⟨b12,b13⟩,oB,(kj.Q he ht).Q kk hC,ht,hC,T1,T2,pw.O kk (by simp only[oJ];exact gs),pz⟩
 rintro⟨b12,b13⟩ gC wC ⟨hD,ht,hC,T12,T13,hQ,hR⟩;simp only[]at ht hC hQ hR;have kn:=gq.J hD;refine Qj<|Qa<|Z7 U<|Qm U kn U U<|x (ZC (l:=[]) (l':=[_,_]))<|Qo<|Zb [[Vz ⟨b12,b13,s.s⟩]] λb107 wC1 hv hb107 p0=>?_;have ko:=(gp.I hD).I hv;have zC1:=hv.size;refine Qo<|Q9 (news:=[Vz ⟨b12,b13,s.s⟩]) (L:=[]) (Ql h.ru ko) U U U (p0.at oe) oq oa oa λv16 wD gt hF p2=>?_;have d2:s.b∉ob s.vu:=h.d2;have p3:=(kn.J hv).O hF d2;refine Z7 rfl<|QN U<|Qo<|Qw (u:=v16) p3 U U (Mb U) (Qr gt) λwE hw p4=>xe ?_;have zE:=hw.size;have p5:QP ↑wE s.b TS [s.s.c.ve,s.s.c.vc,s.s.c.vr,s.s.c.vx,s.s.c.vk,s.s.vp,sS s.made,s.vr,v16]:=p4;have p6:=((gm (I::L) (λb H=>by
   rcases Lk.1 H with rfl|H
   .exact .inl (oy ho.size ha.size)
   exact .inl (ov (hL b H)))).J (hh.I hM)).J (hD.I hv)
 have subL:∀b∈s.own,b∈I::L:=λb H=>Ll _ (h.sub b H);have msb:s.b∈s.own:=Lr;have mvr:∀b∈ob s.vr,b∈s.own:=λb H=>Ll _ (Lh.2 (.inl H));have mvu:∀b∈ob s.vu,b∈s.own:=λb H=>Ll _ (Lh.2 (.inr H));have sDL:=hF.S (L':=I::L) λb H=>subL b (mvu b H);have sEL:=hw.S (L':=I::L) λb H=>by rw[Lc.1 H];exact subL _ msb
 have p7:=(p6.st sDL).st sEL;have p8:CSz c9.Z:=Vj (by rw[hY];exact mz);refine Qc ?_;have p9:QP ↑wE b8 _ c9.cells:=((((ka.J hM).J hD).J hv).O hF (λhm=>ov (h.lt _ (mvu _ hm)))).O hw ol;refine Qa<|Qa<|QV p9 U U<|Qx<|(QfD p7 p8).S ?_;rintro r19 wF ⟨hS,cm,rfl,ecm,kq⟩;have zF:=hS.size;have d1:s.b∉ob s.vr:=h.d1;have nown:∀b,↑w<=b->b∉s.own:=λb T H=>ov (h.lt b H)
 have n4:=nown I gb;have ga:=nown h9 oa;have sE:xj s.own wA wE:=((hD.I hv).any.V (hF.S mvu)).V (hw.S λb H=>by rw[Lc.1 H];exact msb);have sF:=sE.I hS;refine Qa<|Z7 U<|QN U<|Qo<|Yy (us:=cm.cells) (cs':=[cm.ve,cm.vc,cm.vr,cm.vx,cm.vk,s.s.vp,sS s.made,s.vr,v16]) (p5.J hS) U U U (Mb U) (kq [] oe).ones rfl λwG qc qf=>?_;refine Z7 rfl<|QN U<|Qo<|Qw (u:=vp) qf U U (Mb U) ki.arr.one λwH ql qo=>xe ?_;have kr:QP ↑wH s.b TS [cm.ve,cm.vc,cm.vr,cm.vx,cm.vk,vp,sS s.made,s.vr,v16]:=qo;have gu:∀b∈[s.b],b∈s.own:=λb H=>by rw[Lc.1 H];exact msb
 have sFH:xj [s.b] wF wH:=qc.V ql;have sH:xj s.own wA wH:=sF.V (sFH.S gu);have hk2:(X0 DC.2 (s.s.ps.map (·.pt)) ((s.us.length:Int)+1)).made.length=q.k2.length:=by rw[<-eq];rfl
 have hrl2:=hP.a2.le;refine Qd<|ZH [] (Xf 0 11 [10])<|p QA<|p (Xj U)<|p (QF U)<|pq (λ_ O=>Qk (kr.J O) U U)<|p (QF U)<|pq (λ_ O=>Qk ((hj.O sH ga).J O) U U) <|
  p (λ_=>Xr hP.a2 U)<|p (λ_=>X2 U U ⟨oa,oa⟩)<|p (Xj U)<|p (QF U) <|
  pkk<|Qw (u:=sS (s.made+(q.k2.length:Int))) (kr.J (xj.X _ _)) U U (Mb U) U λwI q0 q1=>pe ?_
 have kt:QP ↑wI s.b TS [cm.ve,cm.vc,cm.vr,cm.vx,cm.vk,vp,sS (s.made+(q.k2.length:Int)),s.vr,v16]:=q1;have sHI:xj [s.b] wH wI:=(xj.X [] wH).any.V q0;have sFI:=sFH.V sHI;have sI:xj s.own wA wI:=sF.V (sFI.S gu);have zI:=sI.size;have ku:∀b∈ob s.vr,b≠s.b:=λb H e=>d1 (e ▸ H);have q2:wI.ownsRow 0 60 3 s.vr s.rs.length (s.rs.flatMap ZP):=by
  refine Qf (Ql (Qf (Qf (Ql h.rr ko) hF λb H hm=>h.d3 b H hm) hw λb H hm=>ku b H (Lc.1 hm)) hS) sFI λb H hm=>ku b H (Lc.1 hm)
 have drI:sW wI { wI with drawn:=wI.drawn+1 }:=xj.X _ _
 have n11r:h9∉ob s.vr:=λhm=>ga (mvr _ hm);refine Qd<|ZH (ob s.vr) (Xf 0 11 [6,7,10])<|p QA<|p QA<|p (Xj U)<|p (QF U)<|pq (λ_ O=>Qk (kt.O O d1) U U)<|pq (λ_ O=>ZN ((hj.O sI ga).O O n11r) U U) <|
  pk<|Zb [ZP q] λb136 wJ hy hb136 q3=>⟨(drI.I hy).any,?_⟩
 refine pk<|Q9 (m:=1) (news:=ZP q) (L:=[]) (Ql q2 (drI.I hy)) U U U (q3.at oe) (Zj.all hP.ones) oa (Lp _) λv24 wK gv hT q4=>⟨(drI.I hy).any.V hT,?_⟩;have q5:QP ↑wK s.b TS _:=(kt.J (drI.I hy)).O hT d1;refine p (Xj U)<|p (QF U)<|pkk<|Qw (u:=v24) q5 U U (Mb U) (Qr gv) λwN gw kv=>pe ?_;have sK:xj s.own wA wK:=sI.V ((drI.I hy).any.V (hT.S mvr));have sN:xj s.own wA wN:=sK.V (gw.S gu);have zN:=sN.size;refine Qc<|QV (hj.O sN ga) U U<|Qx<|(QrB ((hP.up (L':=I::L) λb H=>.inl (Ll _ H)).st (sN.S subL))).S ?_;rintro r26 wP ⟨kw,q',rfl,za,gx⟩;refine QJ (ZP q') ((hA.O sN n4).J kw) (gx [I] (λb H=>by rw[Lc.1 H];have:=hA.lt;omega)).ones λwM gy zb=>Qb<|Qi ⟨[sT (ZP q'),sS 0],⟨YO zb,U,La⟩,?_⟩;have kx:E=0:=J.I kh;have gz:=Qlx (cm:=cm) (vp:=vp) (qs:=qs) (q:=q) (made:=s.made+(q.k2.length:Int)) (v16:=v16) (v24:=v24) h hL gp ⟨gb,by have:=hA.lt;exact this⟩ (Go.Lg.K3.up ki λb H=>.inl H) (hP.up (L':=I::L) λb H=>.inl (Ll _ H))
  hD ht hC hQ hR (hv.any.V hF) gt (λb H=>(p2 b H).imp id λT=>LJ zC1 T) hw hS kq sFI (drI.I hy) hT gv q4 gw kv kw gy
 have zv:∀N:LN,(∀b∈N,b<↑w)->Ub N ↑wM q':=λN hN=>((gx (I::N) (λb H=>by
  rcases Lk.1 H with rfl|H
  .have:=hA.lt;omega
  have:=hN b H;omega)).st (gy.S oe)).up λb H=>.inl (Ll _ H)
 have z2:Ub (s.b::(ob v24++ob v16)) ↑wM q':=by
  have y1:=hw.size;have y3:=sFI.size;have y4:=(drI.I hy).size;have y5:=hT.size;have y6:=gw.size;refine((gx (I::(s.b::(ob v24++ob v16))) (λb H=>?_)).st (gy.S oe)).up λb H=>.inl (Ll _ H);rcases Lk.1 H with rfl|H
  .have:=hA.lt;omega
  rcases Lk.1 H with rfl|H
  .exact kv.lt
  rcases Lh.1 H with H|H
  .have:=(Qg gv b H).2;omega
  have:=(Qg gt b H).2;omega
 refine⟨q',by rw[kx];rfl,zv,λh0=>O3 kx h0,λ_=>⟨?_,_,?_,?_,gz.1,gz.2.1,gz.2.2,z2⟩⟩
 .rw[za,eq,V]
 .rfl
 rw[hG,<-eqs,<-eq,<-hY,<-ecm];unfold Ke.sys;simp only[Oi,oX,OD];rfl
theorem Qly {TS:Nat}{u:UnV}{v1 v2 v3 J O H m vr:O9}(S:QP ↑w b TS [v1,v2,v3,J,O,H,m,vr,vu])(hu:UnA L ↑w u)(T:b∈L):
  QZ sV 44 [pS b,pS u.b1,pS u.b2] w λ_ w'=>xj [b] w w'/\QP ↑w' b TS [u.s.c.ve,u.s.c.vc,u.s.c.vr,u.s.c.vx,u.s.c.vk,u.s.vp,m,vr,vu]:=by
 refine Zt func44 ?_;have hbL:∀x∈[b],x∈L:=λx hx=>by rw[Lc.1 hx];exact T
 have hd:sW w { w with drawn:=w.drawn+1 }:=xj.X _ _
 refine ZH [b] (Xf 0 10 [6,9])<|p QA<|p QA<|pq (λ_ E=>Qu (us:=u.s.c.cells) (hu.a1.st (E.S hbL)) U U)<|pq (λ_ E=>Qy (u:=u.s.vp) (hu.a2.st (E.S hbL)) U)<|p (Xj U)<|p (QF U) <|
  pk<|Yy (us:=u.s.c.cells) (cs':=[u.s.c.ve,u.s.c.vc,u.s.c.vr,u.s.c.vx,u.s.c.vk,H,m,vr,vu]) (S.J hd) U U U (Mb U) hu.s.c.ones U λw1 I V=>⟨hd.any.V I,?_⟩
 refine p (Xj U)<|p (QF U)<|pkk<|Qw (u:=u.s.vp) V U U (Mb U) hu.s.p.arr.one λw2 Y Z =>
  pe ?_
 exact⟨[],La,(hd.any.V I).V Y,Z⟩
theorem Qdl {e:Nat}{v:O9}{g:α->LV}(E:∀x,(g x).length=sz){l:List α}{y:α}(h:w.ownsRow 0 e sz v (l++[y]).length ((l++[y]).flatMap g)):
  ∃b cap,v=sL b (l.length+1) cap/\l.length+1<=cap/\b<↑w/\∀(X:LN) (w':O8),xj X w w'->b∉X->w'.ownsRow 0 e sz (sL b l.length cap) l.length (l.flatMap g):=by
 have H:(l++[y]).length=l.length+1:=oe
 rw[H]at h;rcases h.2 with⟨e1,e2⟩|⟨b,cap,cur,e1,Y,I,Z,h4⟩
 .omega
 subst e1;obtain⟨J,cur,I,O,S⟩:=JC h;refine⟨b,cap,U,J,I.lt,λX w' T H=>VW h (NW _) (I.O T H) O ?_ (xN E l)⟩;have V:(cur.take ((l.length+1)*sz)).take (l.length*sz)=cur.take (l.length*sz):=by rw[Ni,Mu (Ma _ (NW _))]
 rw[<-V,S,LC,Nb (by rw[xN E l];exact Lu _),Lt (by rw[xN E l];exact Lu _)]
theorem Qpw {s:Ke}(h:Vq L w s)(hq:s.rs.length=s.us.length)(h5:s.us.length<=64):
  QZ sV 36 [pS s.b] w λr w'=>(s.us=[]->r=sS 12/\sW w w') /\
   (s.us≠[]->r=sS 0/\∃s':Ke,s'.b=s.b/\s'.sys=unS s.sys/\xj s.own w w'/\Vq L w' s'/\∀b∈s'.own,b∈s.own):=by
 obtain⟨TS,hB⟩:=h.blk;have hj:Zk [] ↑w s.vu s.us.length 1 (s.us.map Vz):=QC h.ru oa oe;refine Zt func36 ?_;refine Qc<|Qb<|Qd<|Qj<|x (Y8 underlying47 U U)<|xe<|Zl rfl<|Qe<|Qj<|Z7 U<|Qm U hB U U<|QE hj U<|Qb<|Qd<|Qj<|x (QW U U)<|xe<|QY rfl (λha=>?_) (λha=>?_)
 .have hz:s.us=[]:=List.length_eq_zero_iff.1 (by have h6:(s.us.length:Int)=0:=ha;omega);refine Qc<|Qb<|Qi ⟨[sS 12],Lb,λ_=>⟨U,xj.Y _ _⟩,λhn=>O3 hz hn⟩
 have Y:s.us≠[]:=λe=>ha (by rw[e];rfl);refine Qe ?_;have he:s.rs≠[]:=λe=>Y (List.length_eq_zero_iff.1 (by rw[<-hq,e];rfl));have O:s.us=s.us.dropLast++[s.us.getLast Y]:=(Nu Y).symm;have Z:s.rs=s.rs.dropLast++[s.rs.getLast he]:=(Nu he).symm;refine Zd s.us.dropLast λH hr=>Zd (s.us.getLast Y) λu hs=>Zd s.rs.dropLast λI ht=>Zd (s.rs.getLast he) λq hv=>?_;rw[hr,hs]at O;rw[ht,hv]at Z;have h7:s.us.length=H.length+1:=by rw[O];simp
 have h8:s.rs.length=I.length+1:=by rw[Z];simp
 have S:=Qdl (g:=λu=>[Vz u]) (λ_=>U) (l:=H) (y:=u) (by rw[<-List.map_eq_flatMap,<-O];exact h.ru);have T:=Qdl Qqq (l:=I) (y:=q) (by rw[<-Z];exact h.rr);refine Exists.elim S λgu S=>Exists.elim S λcu S=>Exists.elim T λgr T=>Exists.elim T λcr T=>?_;have evu:=S.1;have evr:=T.1;have hi:(s.us.length:Int) - 1=((H.length:Nat):Int):=oa
 have hw:(s.us.length:Int) - 1=((I.length:Nat):Int):=oa
 have eu:((s.us.map Vz).drop (H.length*1)).take 1=[Vz u]:=by rw[O];simp
 have mu:u∈s.us:=by rw[O];simp
 have msb:s.b∈s.own:=Lr;have mgu:gu∈ob s.vu:=by rw[evu];simp[ob]
 have mgr:gr∈ob s.vr:=by rw[evr];simp[ob]
 refine Qj<|Z7 U<|Qm U hB U U<|Qa<|x (X1 U U ⟨oa,oa⟩)<|xi (i:=H.length) hj U (show Go.Lg.ev _ _=_ from O2 sS hi) oa λh9 hl=>?_;rw[eu]at hl;refine x (Qy hl U)<|Qa<|Qo<|xc (first:=[]) (capt:=[pS u.b1,pS u.b2]) U<|(Qly hB (h.uA u mu) (h.sub _ msb)).S ?_;rintro r1 w1 ⟨hy,hg⟩;refine xe<|Qd<|ZH [] (Xf 0 22 [18,21]) ?_;have hd:sW w1 { w1 with drawn:=w1.drawn+1 }:=xj.X _ _
 refine p QA<|p QA<|p QA<|p (Xj U)<|p (QF U)<|pq (λ_ hc=>Qk (hg.J hc) U U) <|
  p QA<|p (λ_=>X1 U U ⟨oa,oa⟩)<|p (λ_=>JN (n:=H.length+1) (b:=gu) (cap:=cu) (hi:=H.length) evu (show Go.Lg.ev _ _=_ from O2 sS hi) (ov S.2.1))<|p QA<|p (Xj U) <|
  p (QF rfl)<|pq (λ_ hc=>Qk (hg.J hc) U U)<|p QA<|p (λ_=>X1 U U ⟨oa,oa⟩)<|p (λ_=>JN (n:=I.length+1) (b:=gr) (cap:=cr) (hi:=I.length) evr (show Go.Lg.ev _ _=_ from O2 sS hw) (ov T.2.1)) <|
  p (Xj rfl)<|p (QF U)<|pkk<|Qw (u:=sL gu H.length cu) (hg.J hd) U U (Mb U) U λw2 h0 h1=>p (Xj U) <|
  p (QF rfl)<|pkk<|Qw (u:=sL gr I.length cr) h1 U U (Mb U) U λw3 h2 h3=>pe ?_
 refine Qc<|Qb ?_;have V:xj [s.b] w w3:=((hy.I hd).V h0).V h2;have ho:gu∉[s.b]:=λJ=>h.d2 (Lc.1 J ▸ mgu);have hp:gr∉[s.b]:=λJ=>h.d1 (Lc.1 J ▸ mgr);have hh:∀b∈[s.b],b∈L:=λb E=>by rw[Lc.1 E];exact h.sub _ msb
 have h4:∀b∈[s.b],b∈s.own:=λb E=>by rw[Lc.1 E];exact msb
 have own':∀b∈(⟨s.b,u.s,s.made,sL gr I.length cr,I,sL gu H.length cu,H⟩:Ke).own,b∈s.own:=λb E=>by
  rcases Lk.1 E with rfl|E
  .exact msb
  rcases Lh.1 E with E|E
  .rw[Lc.1 (show b∈[gr] from E)];exact Ll _ (Lh.2 (.inl mgr))
  rw[Lc.1 (show b∈[gu] from E)];exact Ll _ (Lh.2 (.inr mgu))
 refine Qi ⟨[sS 0],Lb,λe=>O3 e Y,λ_=>⟨U,⟨s.b,u.s,s.made,sL gr I.length cr,I,sL gu H.length cu,H⟩,U,?_,V.S h4,⟨⟨TS,h3⟩,T.2.2.2 _ _ V hp,?_,λJ=>hp (Lc.2 (Lc.1 (show s.b∈[gr] from J)).symm),λJ=>ho (Lc.2 (Lc.1 (show s.b∈[gu] from J)).symm),λb E J=>?_,λb E=>h.sub b (own' b E),Mm.st (h.uA u mu).s (V.S hh),λd hd=>Mm.st (h.rA d (by rw[Z];exact Lh.2 (.inl hd))) (V.S hh),λd hd=>Mm.st (h.uA d (by rw[O];exact Lh.2 (.inl hd))) (V.S hh)⟩,own'⟩⟩
 .show Ke.sys _=_;unfold Ke.sys unS;rw[O,Z];simp only[Oi,oX,OD,List.dropLast_concat,List.getLastD_concat];rfl
 .have:=S.2.2.2 _ _ V ho;rw[<-List.map_eq_flatMap]at this;exact this
 rw[Lc.1 (show b∈[gr] from E)]at J;exact h.d3 gr mgr (by rw[Lc.1 (show gr∈[gu] from J)];exact mgu)
end Go.Lg
